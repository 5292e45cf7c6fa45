/- concordanceref07.Join's contract: the same bytes as record.Join's. Conditions: the list is read at the slice that is handed in. -/
import Derived.Test.YteehchhmonlkkaaHJoin
import Derived.Test.YteehchhmonlkkaaHRefPut
namespace Go.Proofs.Yteehchhmonlkkaa.GP
open Go.RowKit Go.Sort Go.Proofs.Yteehchhmonlkkaa.Tail Go.Proofs.YteehchhmonlkkaaW.PrintWords Go.Proofs.YteehchhmonlkkaaW.PrintLast Go.Proofs.YteehchhmonlkkaaW.PrintMore Go.Proofs.Yteehchhmonlkkaa.Copy Go.Proofs.Yteehchhmonlkkaa.Bld
attribute [local go_sem] max2_int min2_int max_two min_two max_three min_three max_four min_four
set_option linter.unusedVariables false
set_option linter.unusedSimpArgs false

def concordanceref07_Join.f (l : List ByteArray) : Option ByteArray := record_Join.f l

set_option maxHeartbeats 400000 in
set_option maxRecDepth 100000 in
theorem rjoin_many (A1 : Option Addr) (c1 : Nat) (l1 : List ByteArray) (w : World) (hl : ¬ l1.length ≤ 65535) :
    Calls Try.prog 16 #[.slice A1 l1.length c1] w fun e w' => e = .returned (.string ⟨#[]⟩) ∧ Below w.heap.size w w' := by
  have h1 : decide (65535 < (l1.length : Int)) = true := decide_eq_true (by omega)
  have h2 : decide (65535 < l1.length) = true := decide_eq_true (by omega)
  clear hl
  go_enter Try.func16, Try.ntmps16
  go_wp2
  go_ret
  exact ⟨rfl, Below.refl _ _⟩

def RJoinInv (w : World) (l1 : List ByteArray) (k : Nat) (s : ByteArray) (wr : World) : Prop :=
  s.data.toList = be2 (l1.length : Int) ++ (l1.take k).flatMap joinB ∧ Below w.heap.size w wr ∧ (∀ i (h : i < l1.length), i < k → l1[i].size ≤ 65535)

set_option maxHeartbeats 800000 in
set_option maxRecDepth 100000 in
theorem rjoin_does (A1 : Option Addr) (c1 : Nat) (l1 : List ByteArray) (w : World) (hr1 : Kd.C Kd.string w A1 l1.length l1) (hl : l1.length ≤ 65535) (r : ByteArray) (hres : (if shortAll l1 = true then (⟨(joinL l1).toArray⟩ : ByteArray) else ⟨#[]⟩) = r) :
    Calls Try.prog 16 #[.slice A1 l1.length c1] w fun e w' => e = .returned (.string r) ∧ Below w.heap.size w w' := by
  have HR := Aside0.mk hr1
  have HRES := Aside0.mk hres
  have HN := Aside0.mk (ref02_two (l1.length : Int) (by omega) (by omega) 8 (by omega))
  clear hr1 hres
  have d0 : decide (65535 < (l1.length : Int)) = false := decide_eq_false (by omega)
  go_enter Try.func16, Try.ntmps16
  go_wp2_with (first | (go_at_call 24; refine (concordanceref02_Put.calls 8 (l1.length : Int) 2 _ _ HN.out).mono ?_; rintro e w2 ⟨rfl, hb2⟩))
  obtain ⟨s0, hs0⟩ : ∃ s0, strOfNums [(l1.length : Int) / 256, (l1.length : Int) % 256] = s0 := ⟨_, rfl⟩
  rw [hs0]
  have HD : Hid (RJoinInv w l1 0 s0 w2) := ⟨by rw [← hs0, be2_str]; simp, hb2, fun i _ h => absurd h (by omega)⟩
  clear hs0 hb2 d0
  go_loopw [3, 4] (fun x i wr => ∃ (k : Nat) (s : ByteArray), k ≤ l1.length ∧ x = .string s ∧ i = .int .i64 k ∧ Hid (RJoinInv w l1 k s wr)) (fun _ i _ => l1.length - (intOf i).toNat)
  case atStart => exact ⟨0, s0, Nat.zero_le _, rfl, rfl, HD⟩
  case round =>
    obtain ⟨k, s, hk, rfl, rfl, HD⟩ := hrel
    have hfl := join_take_length l1 k hk HD.out.2.2
    have hss : s.size ≤ 5000000000 := by
      have h := congrArg List.length HD.out.1
      rw [List.length_append] at h
      simp only [be2, List.length_cons, List.length_nil, Array.length_toList] at h
      have h2 : s.data.size = s.size := rfl
      have : k * 65537 ≤ 65535 * 65537 := Nat.mul_le_mul_right _ (by omega)
      omega
    clear hfl
    by_cases hlt : k < l1.length
    · obtain ⟨ad', e, hy0⟩ := Kd.at_string HR.out (k : Int) (by omega) (by omega)
      cases e
      obtain ⟨p, hp⟩ : ∃ p, rdOf ByteArray.empty l1 (k : Int) = p := ⟨_, rfl⟩
      rw [hp] at hy0
      have hz0 := (HD.out.2.1.cell (World.block_lt_of_cell? w _ hy0)).trans hy0
      simp only [Int.toNat_natCast] at hz0
      have hpk : l1[k] = p := by rw [← rdOf_at l1 k hlt, hp]
      clear hy0 hp
      have hi0 : (k : Int) < (l1.length : Int) := by omega
      by_cases hsz : p.size ≤ 65535
      · have d1 : decide (65535 < (p.size : Int)) = false := decide_eq_false (by omega)
        have d2 : decide (65535 < p.size) = false := decide_eq_false (by omega)
        have hn2 := ref02_two (p.size : Int) (by omega) (by omega) 8 (by omega)
        obtain ⟨t0, ht0⟩ : ∃ t0, strOfNums [(p.size : Int) / 256, (p.size : Int) % 256] = t0 := ⟨_, rfl⟩
        have hts : t0.size = 2 := by rw [← ht0]; exact strOfNums_size _
        rw [ht0] at hn2
        have HN2 := Aside0.mk hn2
        have HT0 := Aside0.mk ht0
        clear hn2 ht0
        have hA4 : ¬ 9223372036854775807 < t0.size + p.size := by omega
        have hA5 : ¬ 9223372036854775807 < s.size + (t0.size + p.size) := by omega
        have HTS := Aside0.mk hts
        clear hts
        have k0 := cell_regrown hz0
        have C1 := fun d os => Calls.regrown_of (w := wr) (d := d) (os := os) (concordanceref02_Put.calls 8 (p.size : Int) 2 _ _ HN2.out)
        go_wp2_with fail
        refine wp_region_quiet_below (by kernel_rfl) (by kernel_rfl) ?_
        repeat (quiet_step (first | with_reducible exact C1 _ _))
        refine wpQuiet_nil ?_
        intro w4 hw4
        have hb4 : Hid (Below w.heap.size w w4) := by
          obtain ⟨p4, rfl⟩ := hw4
          exact below_step HD.out.2.1 (below_regrown wr p4.d p4.os)
        clear hw4 k0 C1
        go_wp2_with fail
        go_roundw
        case rel =>
          refine ⟨k + 1, _, by omega, rfl, by go_num, ⟨?_, hb4.out, ?_⟩⟩
          · have h5 := HD.out.1
            rw [ByteArray.data_append, ByteArray.data_append, Array.toList_append, Array.toList_append, ← HT0.out, be2_str, h5,
              List.take_succ_eq_append_getElem hlt, List.flatMap_append, hpk, List.flatMap_cons, List.flatMap_nil, List.append_nil]
            simp only [joinB, List.append_assoc]
          · intro i hi hik
            by_cases he : i = k
            · subst he; rw [hpk]; exact hsz
            · exact HD.out.2.2 i hi (by omega)
        case measure => simp [intOf]; omega
      · have d1 : decide (65535 < (p.size : Int)) = true := decide_eq_true (by omega)
        have d2 : decide (65535 < p.size) = true := decide_eq_true (by omega)
        go_wp2_with fail
        go_ret
        exact ⟨by rw [← HRES.out, shortAll_no l1 k hlt (by rw [hpk]; exact hsz)]; rfl, HD.out.2.1⟩
    · have hke : k = l1.length := by omega
      subst hke
      have hall := shortAll_yes l1 (fun i h => HD.out.2.2 i h h)
      have HIN : Hid (s = r ∧ Below w.heap.size w wr) := by
        refine ⟨?_, HD.out.2.1⟩
        have h := HD.out.1
        rw [List.take_length] at h
        have : s = ⟨s.data.toList.toArray⟩ := by cases s; simp
        rw [this, h, ← HRES.out, if_pos hall]
        rfl
      go_wp2_with fail
      go_ret
      exact ⟨congrArg (fun x => Ending.returned (Value.string x)) HIN.out.1, HIN.out.2⟩

/-- THE CONTRACT. -/
theorem concordanceref07_Join.calls (A0 : Option Addr) (c0 : Nat) (l0 : List ByteArray) (r : ByteArray) (w : World) (hr0 : Kd.C Kd.string w A0 l0.length l0) (hc0 : l0.length ≤ c0) (h : concordanceref07_Join.f l0 = some r) :
    Calls Try.prog 16 #[.slice A0 l0.length c0] w fun e w' => e = .returned (.string r) ∧ Below w.heap.size w w' := by
  unfold concordanceref07_Join.f record_Join.f at h
  by_cases hs : l0.length ≤ 65535
  · rw [if_pos hs] at h
    obtain rfl := Option.some.inj h
    exact rjoin_does A0 c0 l0 w hr0 hs _ rfl
  · rw [if_neg hs] at h
    obtain rfl := Option.some.inj h
    exact rjoin_many A0 c0 l0 w hs
end Go.Proofs.Yteehchhmonlkkaa.GP
