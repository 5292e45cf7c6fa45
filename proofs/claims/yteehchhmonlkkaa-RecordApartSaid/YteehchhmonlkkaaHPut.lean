/- patch.Put's contract: the pieces' bytes, or nothing where they are not right. Conditions: the list is read at the slice that is handed in. -/
import Derived.Test.YteehchhmonlkkaaHApply
import Derived.Test.YteehchhmonlkkaaHBytes
namespace Go.Proofs.Yteehchhmonlkkaa.GP
open Go.RowKit Go.Sort Go.Proofs.Yteehchhmonlkkaa.Tail Go.Proofs.YteehchhmonlkkaaW.PrintWords Go.Proofs.YteehchhmonlkkaaW.PrintLast Go.Proofs.YteehchhmonlkkaaW.PrintMore Go.Proofs.Yteehchhmonlkkaa.Copy Go.Proofs.Yteehchhmonlkkaa.Bld
attribute [local go_sem] max2_int min2_int max_two min_two max_three min_three max_four min_four
set_option linter.unusedVariables false
set_option linter.unusedSimpArgs false

/-- A number's two bytes. -/
def be2 (n : Int) : List UInt8 := [UInt8.ofNat (n / 256).toNat, UInt8.ofNat (n % 256).toNat]
/-- A piece's bytes. -/
def pieceB (p : S66) : List UInt8 := be2 p.f0 ++ be2 (p.f1.size : Int) ++ p.f1.data.toList
def putL (l : List S66) : List UInt8 := be2 (l.length : Int) ++ l.flatMap pieceB
def patch_Put.f (l : List S66) : Option ByteArray :=
  if l.length ≤ 140737488351232 then (if rightB 0 l = true ∧ l.length ≤ 65535 then some ⟨(putL l).toArray⟩ else some ⟨#[]⟩) else none

theorem be2_str (n : Int) : (strOfNums [n / 256, n % 256]).data.toList = be2 n := rfl
theorem sput_two (n : Int) (h0 : 0 ≤ n) (h1 : n < 65536) : sum_Put.f n 2 = some (strOfNums [n / 256, n % 256]) := by
  unfold sum_Put.f
  rw [if_pos h0, if_neg (by omega), if_pos ⟨rfl, h1⟩]
theorem flat_length : ∀ (l : List S66) (e : Int), 0 ≤ e → rightB e l = true → (l.flatMap pieceB).length ≤ l.length * 65539
  | [], _, _, _ => by simp
  | p :: l, e, he, h => by
    have ha := rightB_at (p :: l) e he h 0 (by simp)
    simp only [List.getElem_cons_zero] at ha
    simp only [rightB, Bool.and_eq_true, decide_eq_true_eq] at h
    have ih := flat_length l _ (by omega) h.2
    simp only [List.flatMap_cons, List.length_append, List.length_cons]
    have : (pieceB p).length = 4 + p.f1.size := by simp [pieceB, be2]; omega
    omega
theorem flat_take_length (l : List S66) (h : rightB 0 l = true) (k : Nat) : ((l.take k).flatMap pieceB).length ≤ l.length * 65539 := by
  have h1 := flat_length l 0 (by omega) h
  have h2 : l.flatMap pieceB = (l.take k).flatMap pieceB ++ (l.drop k).flatMap pieceB := by rw [← List.flatMap_append, List.take_append_drop]
  rw [h2, List.length_append] at h1
  omega
theorem isBuilder_below {T e : TypeId} {B b : Nat} {bs : List Value} {w w1 : World} (h : Lib.IsBuilder T e B b bs w) (hb : Below w.heap.size w w1) : Lib.IsBuilder T e B b bs w1 := by
  have key : ∀ p, Lib.BuilderAt T e B b p bs w → Lib.BuilderAt T e B b p bs w1 := by
    rintro p ⟨h1, v, h2, h3, h4⟩
    exact ⟨h1, v, (hb.block b (blk_lt h2)).trans h2, pw_own_below h3 hb, h4⟩
  exact h.imp (key _) (key _)
theorem isBuilder_alloc {T e : TypeId} {B b : Nat} {bs : List Value} {w : World} (h : Lib.IsBuilder T e B b bs w) (o : Obj) : Lib.IsBuilder T e B b bs (w.alloc o) := isBuilder_below h (below_alloc (Below.refl _ _) o)
theorem isBuilder_drew {T e : TypeId} {B b : Nat} {bs : List Value} {w : World} (h : Lib.IsBuilder T e B b bs w) : Lib.IsBuilder T e B b bs w.drew := isBuilder_below h (below_drew (Below.refl _ _))

set_option maxHeartbeats 400000 in
set_option maxRecDepth 100000 in
theorem put_wrong (A1 : Option Addr) (c1 : Nat) (l1 : List S66) (w : World) (hr1 : Kd.C k66 w A1 l1.length l1) (hc1 : l1.length ≤ c1) (hk : patch_right.f (l1.length + 1) l1 = some false) :
    Calls Try.prog 21 #[.slice A1 l1.length c1] w fun e w' => e = .returned (.string ⟨#[]⟩) ∧ Below w.heap.size w w' := by
  have HK := Aside0.mk hk
  have HR := Aside0.mk hr1
  have HC := Aside0.mk hc1
  clear hk hr1 hc1
  go_enter Try.func21, Try.ntmps21
  go_wp2_with (first | (go_at_call 37; refine (patch_right.calls (l1.length + 1) A1 c1 l1 false _ HR.out HC.out HK.out).mono ?_; rintro e w' ⟨rfl, hb⟩))
  go_ret
  exact ⟨rfl, hb⟩

def PutInv (w1 : World) (l1 : List S66) (k : Nat) (wr : World) : Prop :=
  Lib.IsBuilder 71 5 w1.heap.size w1.heap.size (Lib.byteCells (be2 (l1.length : Int) ++ (l1.take k).flatMap pieceB)) wr ∧ Below w1.heap.size w1 wr ∧ w1.heap.size ≤ wr.heap.size

set_option maxHeartbeats 800000 in
set_option maxRecDepth 100000 in
theorem put_does (A1 : Option Addr) (c1 : Nat) (l1 : List S66) (w : World) (hr1 : Kd.C k66 w A1 l1.length l1) (hc1 : l1.length ≤ c1) (hk : patch_right.f (l1.length + 1) l1 = some true) (hrb : rightB 0 l1 = true) (hl : l1.length ≤ 65535) :
    Calls Try.prog 21 #[.slice A1 l1.length c1] w fun e w' => e = .returned (.string ⟨(putL l1).toArray⟩) ∧ Below w.heap.size w w' := by
  have HK := Aside0.mk hk
  have HR := Aside0.mk hr1
  have HC := Aside0.mk hc1
  have HRB := Aside0.mk hrb
  have HN := Aside0.mk (sput_two (l1.length : Int) (by omega) (by omega))
  clear hk hr1 hc1 hrb
  go_enter Try.func21, Try.ntmps21
  go_wp2_with (first | (go_at_call 37; refine (patch_right.calls (l1.length + 1) A1 c1 l1 true _ HR.out HC.out HK.out).mono ?_; rintro e w1 ⟨rfl, hb1⟩) | (go_at_call 20; refine (sum_Put.calls (l1.length : Int) 2 _ _ HN.out).mono ?_; rintro e w2 ⟨rfl, hb2⟩) | fail)
  have hs2 : w1.heap.size + 1 ≤ w2.heap.size := by have := hb2.size; simpa using this
  refine (wstr_calls w1.heap.size w1.heap.size [] (strOfNums [(l1.length : Int) / 256, (l1.length : Int) % 256]) w2 (isBuilder_below (Lib.fresh_isBuilder 71 5 w1) hb2) (by rw [strOfNums_size]; simp) (by omega)).mono ?_
  rintro e w3 ⟨rfl, hB3, hb3⟩
  have HD : Hid (PutInv w1 l1 0 w3) := ⟨by simpa [str_bytes, be2_str] using hB3, (((Below.refl w1.heap.size w1).alloc (Nat.le_refl _) _).trans (hb2.mono (by simp))).trans hb3, by have := hb3.size; omega⟩
  clear hB3 hb3 hb2 hs2
  go_wp2_with fail
  go_loopw [15] (fun i wr => ∃ k : Nat, k ≤ l1.length ∧ i = .int .i64 k ∧ Hid (PutInv w1 l1 k wr)) (fun i _ => l1.length - (intOf i).toNat)
  case atStart => exact ⟨0, Nat.zero_le _, rfl, HD⟩
  case round =>
    obtain ⟨k, hk, rfl, HD⟩ := hrel
    by_cases hlt : k < l1.length
    · obtain ⟨ad', e, hy0, hy1⟩ := at_T66 HR.out (k : Int) (by omega) (by omega)
      cases e
      obtain ⟨p, hp⟩ : ∃ p, rd_T66 l1 (k : Int) = p := ⟨_, rfl⟩
      have hat := rightB_at l1 0 (by omega) HRB.out k hlt
      rw [← getD_at l1 k hlt, hp] at hat
      obtain ⟨hp0, hp3, hp2, hp1', hp4⟩ := hat
      rw [hp] at hy0 hy1
      have hbl : Below w.heap.size w wr := below_step hb1 HD.out.2.1
      have hz0 := (hbl.cell (World.block_lt_of_cell? w _ hy0)).trans hy0
      have hz1 := (hbl.cell (World.block_lt_of_cell? w _ hy1)).trans hy1
      simp only [Int.toNat_natCast] at hz0 hz1
      have HP := Aside0.mk hp
      have hA : (strOfNums [p.f0 / 256, p.f0 % 256]).size + (strOfNums [(p.f1.size : Int) / 256, (p.f1.size : Int) % 256]).size ≤ 9223372036854775807 := by rw [strOfNums_size, strOfNums_size]; simp
      have hA1 : (strOfNums [p.f0 / 256, p.f0 % 256]).size + (strOfNums [(p.f1.size : Int) / 256, (p.f1.size : Int) % 256]).size + p.f1.size ≤ 9223372036854775807 := by rw [strOfNums_size, strOfNums_size]; simp; omega
      have hA2 : (strOfNums [p.f0 / 256, p.f0 % 256] ++ strOfNums [(p.f1.size : Int) / 256, (p.f1.size : Int) % 256]).size + p.f1.size ≤ 9223372036854775807 := by rw [ByteArray.size_append]; exact hA1
      have HW : Aside0 (∀ o, Lib.IsBuilder 71 5 w1.heap.size w1.heap.size (Lib.byteCells (be2 (l1.length : Int) ++ (l1.take k).flatMap pieceB)) ((wr.alloc o).drew)) := ⟨fun o => isBuilder_drew (isBuilder_alloc HD.out.1 o)⟩
      have hfl := flat_take_length l1 HRB.out k
      have hgs : w1.heap.size ≤ wr.heap.size := HD.out.2.2
      clear hy0 hy1 hp4 hp hbl
      go_wp2_with fail
      have hA3 : ¬ 9223372036854775807 < (strOfNums [p.f0 / 256, p.f0 % 256]).size + (strOfNums [(p.f1.size : Int) / 256, (p.f1.size : Int) % 256]).size := by omega
      have hA4 : ¬ 9223372036854775807 < (strOfNums [p.f0 / 256, p.f0 % 256]).size + (strOfNums [(p.f1.size : Int) / 256, (p.f1.size : Int) % 256]).size + p.f1.size := by omega
      have hL : (Lib.byteCells (be2 (l1.length : Int) ++ (l1.take k).flatMap pieceB)).length + (strOfNums [p.f0 / 256, p.f0 % 256] ++ strOfNums [(p.f1.size : Int) / 256, (p.f1.size : Int) % 256] ++ p.f1).size ≤ 140737488355328 := by
        rw [Lib.byteCells_length, ByteArray.size_append, ByteArray.size_append, strOfNums_size, strOfNums_size, List.length_append]
        simp only [List.length_cons, List.length_nil, be2]
        omega
      have HW4 : Aside0 (Lib.IsBuilder 71 5 w1.heap.size w1.heap.size (Lib.byteCells (be2 (l1.length : Int) ++ (l1.take k).flatMap pieceB)) (wr.alloc (.cells #[.int .i64 p.f0, .string p.f1] 66))) := ⟨isBuilder_alloc HD.out.1 _⟩
      have HB4 : Aside0 (Below w1.heap.size w1 (wr.alloc (.cells #[.int .i64 p.f0, .string p.f1] 66))) := ⟨HD.out.2.1.alloc hgs _⟩
      clear HW
      have k0 := cell_regrown (w := wr.alloc (.cells #[.int .i64 p.f0, .string p.f1] 66)) (a := ⟨wr.heap.size, 0, none⟩) (v := .int .i64 p.f0) (by simp)
      have k1 := cell_regrown (w := wr.alloc (.cells #[.int .i64 p.f0, .string p.f1] 66)) (a := ⟨wr.heap.size, 1, none⟩) (v := .string p.f1) (by simp)
      have C1 := fun d os => Calls.regrown_of (w := wr.alloc (.cells #[.int .i64 p.f0, .string p.f1] 66)) (d := d) (os := os) (put_two p.f0 (by omega) (by omega) _)
      have C2 := fun d os => Calls.regrown_of (w := wr.alloc (.cells #[.int .i64 p.f0, .string p.f1] 66)) (d := d) (os := os) (put_two (p.f1.size : Int) (by omega) (by omega) _)
      refine wp_region_below_tail 11 (by kernel_rfl) (by kernel_rfl) ?_
      simp only [List.take_succ_cons, List.take_zero, List.drop_succ_cons, List.drop_zero]
      quiet_step (fail)
      quiet_step (fail)
      quiet_step (with_reducible exact C1 _ _)
      quiet_step (fail)
      quiet_step (fail)
      quiet_step (fail)
      quiet_step (with_reducible exact C2 _ _)
      quiet_step (fail)
      quiet_step (fail)
      quiet_step (fail)
      quiet_step (fail)
      refine wpQuiet_nil ?_
      intro w4 hb4
      have n1 := isBuilder_below HW4.out hb4.out
      have n2 := Below.trans HB4.out (Below.mono hb4.out HB4.out.size)
      clear HW4 HB4 k0 k1 C1 C2 hb4
      have HW4 := Aside0.mk n1
      have HB4 := Aside0.mk n2
      clear n1 n2
      go_wp2_with (first | (go_at_call 19; refine (wstr_calls w1.heap.size w1.heap.size (Lib.byteCells (be2 (l1.length : Int) ++ (l1.take k).flatMap pieceB)) _ _ HW4.out hL HB4.out.size).mono ?_; rintro e w6 ⟨rfl, h6, hb6⟩; have n3 := Aside0.mk h6; have n4 := Aside0.mk (HB4.out.trans hb6); clear HW4 HB4 h6 hb6; have HW6 := n3; have HB6 := n4; clear n3 n4))
      all_goals
        go_roundw
        case rel =>
          refine ⟨k + 1, by omega, by go_num, ⟨?_, HB6.out, ?_⟩⟩
          · have h5 := HW6.out
            rw [str_bytes, bytes_app, ByteArray.data_append, ByteArray.data_append, Array.toList_append, Array.toList_append, be2_str, be2_str, ← HP.out] at h5
            rw [List.take_succ_eq_append_getElem hlt, List.flatMap_append, ← getD_at l1 k hlt, List.flatMap_cons, List.flatMap_nil, List.append_nil, ← List.append_assoc]
            exact h5
          · exact HB6.out.size
        case measure => simp [intOf]; omega
    · have hke : k = l1.length := by omega
      subst hke
      have hin := HD.out.1
      rw [List.take_length] at hin
      have HIN : Aside0 (Lib.IsBuilder 71 5 w1.heap.size w1.heap.size (Lib.byteCells (putL l1)) wr) := ⟨hin⟩
      clear hin
      go_wp2_with (first | (go_at_call 23; refine (string_calls w1.heap.size w1.heap.size (putL l1) _ HIN.out HD.out.2.2).mono ?_; rintro e w7 ⟨rfl, hb7⟩))
      go_ret
      exact ⟨rfl, below_step hb1 (HD.out.2.1.trans hb7)⟩

/-- THE CONTRACT. -/
theorem patch_Put.calls (A0 : Option Addr) (c0 : Nat) (l0 : List S66) (r : ByteArray) (w : World) (hr0 : Kd.C k66 w A0 l0.length l0) (hc0 : l0.length ≤ c0) (h : patch_Put.f l0 = some r) :
    Calls Try.prog 21 #[.slice A0 l0.length c0] w fun e w' => e = .returned (.string r) ∧ Below w.heap.size w w' := by
  unfold patch_Put.f at h
  by_cases hs : l0.length ≤ 140737488351232
  · rw [if_pos hs] at h
    have hrt := right_tells l0 hs
    by_cases hr : rightB 0 l0 = true ∧ l0.length ≤ 65535
    · rw [if_pos hr] at h
      obtain rfl := Option.some.inj h
      rw [hr.1, decide_eq_true hr.2] at hrt
      exact put_does A0 c0 l0 w hr0 hc0 hrt hr.1 hr.2
    · rw [if_neg hr] at h
      obtain rfl := Option.some.inj h
      have : (rightB 0 l0 && decide (l0.length ≤ 65535)) = false := by
        cases h1 : rightB 0 l0 with
        | false => rfl
        | true => simp only [Bool.true_and, decide_eq_false_iff_not]; exact fun h2 => hr ⟨h1, h2⟩
      rw [this] at hrt
      exact put_wrong A0 c0 l0 w hr0 hc0 hrt
  · rw [if_neg hs] at h
    cases h
end Go.Proofs.Yteehchhmonlkkaa.GP
