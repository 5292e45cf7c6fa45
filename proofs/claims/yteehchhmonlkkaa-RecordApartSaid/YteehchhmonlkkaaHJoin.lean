/- record.Join's contract: the texts' bytes, each behind its length, or nothing where one is too long or they are too many. Conditions: the list is read at the slice that is handed in. -/
import Derived.Test.YteehchhmonlkkaaHPut
namespace Go.Proofs.Yteehchhmonlkkaa.GP
open Go.RowKit Go.Sort Go.Proofs.Yteehchhmonlkkaa.Tail Go.Proofs.YteehchhmonlkkaaW.PrintWords Go.Proofs.YteehchhmonlkkaaW.PrintLast Go.Proofs.YteehchhmonlkkaaW.PrintMore Go.Proofs.Yteehchhmonlkkaa.Copy Go.Proofs.Yteehchhmonlkkaa.Bld
attribute [local go_sem] max2_int min2_int max_two min_two max_three min_three max_four min_four
set_option linter.unusedVariables false
set_option linter.unusedSimpArgs false

def joinB (s : ByteArray) : List UInt8 := be2 (s.size : Int) ++ s.data.toList
def joinL (l : List ByteArray) : List UInt8 := be2 (l.length : Int) ++ l.flatMap joinB
def shortAll (l : List ByteArray) : Bool := l.all fun s => decide (s.size ≤ 65535)
def record_Join.f (l : List ByteArray) : Option ByteArray :=
  if l.length ≤ 65535 then some (if shortAll l = true then ⟨(joinL l).toArray⟩ else ⟨#[]⟩) else some ⟨#[]⟩
theorem rdOf_at (l : List ByteArray) (i : Nat) (h : i < l.length) : rdOf ByteArray.empty l (i : Int) = l[i] := by simp [rdOf, List.getD_eq_getElem?_getD, List.getElem?_eq_getElem h]
theorem joinB_length (s : ByteArray) : (joinB s).length = 2 + s.size := by simp [joinB, be2]; omega
theorem join_take_length (l : List ByteArray) : ∀ k, k ≤ l.length → (∀ i (h : i < l.length), i < k → l[i].size ≤ 65535) → ((l.take k).flatMap joinB).length ≤ k * 65537
  | 0, _, _ => by simp
  | k + 1, hk, h => by
    have ih := join_take_length l k (by omega) (fun i hi hik => h i hi (by omega))
    have hs := h k (by omega) (by omega)
    rw [List.take_succ_eq_append_getElem (by omega), List.flatMap_append, List.length_append, List.flatMap_cons, List.flatMap_nil, List.append_nil, joinB_length]
    omega
theorem shortAll_no (l : List ByteArray) (k : Nat) (hk : k < l.length) (h : ¬ l[k].size ≤ 65535) : shortAll l = false := by
  unfold shortAll
  rw [List.all_eq_false]
  exact ⟨l[k], List.getElem_mem hk, by simpa using h⟩
theorem shortAll_yes (l : List ByteArray) (h : ∀ i (h : i < l.length), l[i].size ≤ 65535) : shortAll l = true := by
  unfold shortAll
  rw [List.all_eq_true]
  intro s hs
  obtain ⟨i, hi, rfl⟩ := List.getElem_of_mem hs
  exact decide_eq_true (h i hi)

def JoinInv (w1 : World) (l1 : List ByteArray) (k : Nat) (wr : World) : Prop :=
  Lib.IsBuilder 71 5 w1.heap.size w1.heap.size (Lib.byteCells (be2 (l1.length : Int) ++ (l1.take k).flatMap joinB)) wr ∧ Below w1.heap.size w1 wr ∧ w1.heap.size ≤ wr.heap.size ∧ (∀ i (h : i < l1.length), i < k → l1[i].size ≤ 65535)

set_option maxHeartbeats 400000 in
set_option maxRecDepth 100000 in
theorem join_many (A1 : Option Addr) (c1 : Nat) (l1 : List ByteArray) (w : World) (hl : ¬ l1.length ≤ 65535) :
    Calls Try.prog 14 #[.slice A1 l1.length c1] w fun e w' => e = .returned (.string ⟨#[]⟩) ∧ Below w.heap.size w w' := by
  have h1 : decide (65535 < (l1.length : Int)) = true := decide_eq_true (by omega)
  have h2 : decide (65535 < l1.length) = true := decide_eq_true (by omega)
  clear hl
  go_enter Try.func14, Try.ntmps14
  go_wp2
  go_ret
  exact ⟨rfl, by repeat (first | exact Below.refl _ _ | apply below_drew | apply below_alloc)⟩

set_option maxHeartbeats 800000 in
set_option maxRecDepth 100000 in
theorem join_does (A1 : Option Addr) (c1 : Nat) (l1 : List ByteArray) (w : World) (hr1 : Kd.C Kd.string w A1 l1.length l1) (hl : l1.length ≤ 65535) (r : ByteArray) (hres : (if shortAll l1 = true then (⟨(joinL l1).toArray⟩ : ByteArray) else ⟨#[]⟩) = r) :
    Calls Try.prog 14 #[.slice A1 l1.length c1] w fun e w' => e = .returned (.string r) ∧ Below w.heap.size w w' := by
  have HR := Aside0.mk hr1
  have HRES := Aside0.mk hres
  clear hres
  have HN := Aside0.mk (sput_two (l1.length : Int) (by omega) (by omega))
  clear hr1
  go_enter Try.func14, Try.ntmps14
  go_wp2_with (first | (go_at_call 20; refine (sum_Put.calls (l1.length : Int) 2 _ _ HN.out).mono ?_; rintro e w2 ⟨rfl, hb2⟩) | fail)
  have hs2 : w.heap.size + 1 ≤ w2.heap.size := by have := hb2.size; simpa using this
  refine (wstr_calls w.heap.size w.heap.size [] (strOfNums [(l1.length : Int) / 256, (l1.length : Int) % 256]) w2 (isBuilder_below (Lib.fresh_isBuilder 71 5 w) hb2) (by rw [strOfNums_size]; simp) (by omega)).mono ?_
  rintro e w3 ⟨rfl, hB3, hb3⟩
  have HD : Hid (JoinInv w l1 0 w3) := ⟨by simpa [str_bytes, be2_str] using hB3, (((Below.refl w.heap.size w).alloc (Nat.le_refl _) _).trans (hb2.mono (by simp))).trans hb3, by have := hb3.size; omega, fun i _ h => absurd h (by omega)⟩
  clear hB3 hb3 hb2 hs2
  go_wp2_with fail
  go_loopw [15] (fun i wr => ∃ k : Nat, k ≤ l1.length ∧ i = .int .i64 k ∧ Hid (JoinInv w l1 k wr)) (fun i _ => l1.length - (intOf i).toNat)
  case atStart => exact ⟨0, Nat.zero_le _, rfl, HD⟩
  case round =>
    obtain ⟨k, hk, rfl, HD⟩ := hrel
    by_cases hlt : k < l1.length
    · obtain ⟨ad', e, hy0⟩ := Kd.at_string HR.out (k : Int) (by omega) (by omega)
      cases e
      obtain ⟨p, hp⟩ : ∃ p, rdOf ByteArray.empty l1 (k : Int) = p := ⟨_, rfl⟩
      rw [hp] at hy0
      have hz0 := (HD.out.2.1.cell (World.block_lt_of_cell? w _ hy0)).trans hy0
      simp only [Int.toNat_natCast] at hz0
      have hpk : l1[k] = p := by rw [← rdOf_at l1 k hlt, hp]
      clear hy0 hp
      by_cases hsz : p.size ≤ 65535
      · have d1 : decide (65535 < (p.size : Int)) = false := decide_eq_false (by omega)
        have d2 : decide (65535 < p.size) = false := decide_eq_false (by omega)
        have HN2 := Aside0.mk (sput_two (p.size : Int) (by omega) (by omega))
        have hA1 : (strOfNums [(p.size : Int) / 256, (p.size : Int) % 256]).size + p.size ≤ 9223372036854775807 := by rw [strOfNums_size]; simp; omega
        have hA2 : ¬ 9223372036854775807 < (strOfNums [(p.size : Int) / 256, (p.size : Int) % 256]).size + p.size := by omega
        have hfl := join_take_length l1 k hk HD.out.2.2.2
        have hL : (Lib.byteCells (be2 (l1.length : Int) ++ (l1.take k).flatMap joinB)).length + (strOfNums [(p.size : Int) / 256, (p.size : Int) % 256] ++ p).size ≤ 140737488355328 := by
          rw [Lib.byteCells_length, ByteArray.size_append, strOfNums_size, List.length_append]
          simp only [List.length_cons, List.length_nil, be2]
          have : k * 65537 ≤ 65535 * 65537 := Nat.mul_le_mul_right _ (by omega)
          omega
        clear hfl
        go_wp2_with (first | (go_at_call 20; refine (sum_Put.calls (p.size : Int) 2 _ _ HN2.out).mono ?_; rintro e w4 ⟨rfl, hb4⟩) | fail)
        have hgs : w.heap.size ≤ wr.heap.size := HD.out.2.2.1
        refine (wstr_calls w.heap.size w.heap.size (Lib.byteCells (be2 (l1.length : Int) ++ (l1.take k).flatMap joinB)) _ w4 (isBuilder_below HD.out.1 hb4) hL (Nat.le_trans hgs hb4.size)).mono ?_
        rintro e w6 ⟨rfl, h6, hb6⟩
        have HI : Hid (JoinInv w l1 (k + 1) w6) := by
          refine ⟨?_, ((below_step HD.out.2.1 hb4).trans hb6), by have := hb4.size; have := hb6.size; omega, ?_⟩
          · have h5 := h6
            rw [str_bytes, bytes_app, ByteArray.data_append, Array.toList_append, be2_str] at h5
            rw [List.take_succ_eq_append_getElem hlt, List.flatMap_append, hpk, List.flatMap_cons, List.flatMap_nil, List.append_nil, ← List.append_assoc]
            exact h5
          · intro i hi hik
            by_cases he : i = k
            · subst he; rw [hpk]; exact hsz
            · exact HD.out.2.2.2 i hi (by omega)
        clear h6 hb6 hb4
        go_wp2_with fail
        go_roundw
        case rel => exact ⟨k + 1, by omega, by go_num, HI⟩
        case measure => simp [intOf]; omega
      · have d1 : decide (65535 < (p.size : Int)) = true := decide_eq_true (by omega)
        have d2 : decide (65535 < p.size) = true := decide_eq_true (by omega)
        go_wp2_with fail
        go_ret
        exact ⟨by rw [← HRES.out, shortAll_no l1 k hlt (by rw [hpk]; exact hsz)]; rfl, HD.out.2.1⟩
    · have hke : k = l1.length := by omega
      subst hke
      have hin := HD.out.1
      rw [List.take_length] at hin
      have HIN : Aside0 (Lib.IsBuilder 71 5 w.heap.size w.heap.size (Lib.byteCells (joinL l1)) wr) := ⟨hin⟩
      have hall := shortAll_yes l1 (fun i h => HD.out.2.2.2 i h h)
      clear hin
      go_wp2_with (first | (go_at_call 23; refine (string_calls w.heap.size w.heap.size (joinL l1) _ HIN.out HD.out.2.2.1).mono ?_; rintro e w7 ⟨rfl, hb7⟩))
      go_ret
      exact ⟨by rw [← HRES.out, hall]; rfl, HD.out.2.1.trans hb7⟩

/-- THE CONTRACT. -/
theorem record_Join.calls (A0 : Option Addr) (c0 : Nat) (l0 : List ByteArray) (r : ByteArray) (w : World) (hr0 : Kd.C Kd.string w A0 l0.length l0) (hc0 : l0.length ≤ c0) (h : record_Join.f l0 = some r) :
    Calls Try.prog 14 #[.slice A0 l0.length c0] w fun e w' => e = .returned (.string r) ∧ Below w.heap.size w w' := by
  unfold record_Join.f at h
  by_cases hs : l0.length ≤ 65535
  · rw [if_pos hs] at h
    obtain rfl := Option.some.inj h
    exact join_does A0 c0 l0 w hr0 hs _ rfl
  · rw [if_neg hs] at h
    obtain rfl := Option.some.inj h
    exact join_many A0 c0 l0 w hs
end Go.Proofs.Yteehchhmonlkkaa.GP
