/- strings.Repeat of a zero byte, up to 256 times: so many zero bytes. Condition: at most 256. -/
import Derived.Test.YtegeaemkkbenfaaDoorDLays
import Derived.Deep.LoopGhost
import Derived.Deep.DeepCutAuto
import Derived.Deep.DeepFit
import Derived.Deep.CutBlock
namespace Go.Proofs.YtegeaemkkbenfaaDoor.Bld
open Go.Shelf Go.RowKit
set_option linter.unusedVariables false
set_option linter.unusedSimpArgs false
def z1 : ByteArray := ⟨#[0]⟩
/-- So many zero bytes. -/
def zs (c : Nat) : ByteArray := ⟨(List.replicate c 0).toArray⟩
theorem zs_size (c : Nat) : (zs c).size = c := by simp [zs, ByteArray.size]
theorem zs_data (c : Nat) : (zs c).data.toList = List.replicate c 0 := rfl
theorem min3 {n q : Nat} (hq : q < n) (ts : Array TypeId) (t : TypeId) (W : World) : (Builtin.min_ ts t #[.int .i64 ((n : Int) - (q : Int)), .int .i64 (q : Int), .int .i64 (n : Int)]).run Tryd.prog W = .ok (.int .i64 ((min (n - q) q : Nat) : Int)) W := by
  have : (if (n : Int) < (if (q : Int) < (n : Int) - (q : Int) then (q : Int) else (n : Int) - (q : Int)) then (n : Int) else (if (q : Int) < (n : Int) - (q : Int) then (q : Int) else (n : Int) - (q : Int))) = ((min (n - q) q : Nat) : Int) := by
    split <;> split <;> omega
  simp [Builtin.min_, Builtin.min2, this]
theorem cells1 : Lib.strCells z1 = Lib.byteCells (List.replicate 1 0) := rfl
set_option maxHeartbeats 4000000 in
set_option maxRecDepth 1000000 in
theorem rep_main (c : Nat) (hc2 : 2 ≤ c) (hc : c ≤ 256) (w : World) :
    Calls Tryd.prog 46 #[.string ⟨#[0]⟩, .int .i64 c] w fun e w' => e = .returned (.string (zs c)) ∧ Below w.heap.size w w' := by
  have hMul := Any.bits_Mul laysMul 1 c (by decide) (by omega) w
  rw [Nat.one_mul, Nat.div_eq_of_lt (by omega : c < 18446744073709551616), Nat.mod_eq_of_lt (by omega : c < 18446744073709551616)] at hMul
  have h0 : ¬ ((c : Int) = 0) := by omega
  have h1 : ¬ ((c : Int) = 1) := by omega
  have h2 : ¬ ((c : Int) < 0) := by omega
  go_enter Tryd.func46, Tryd.ntmps46
  go_upto_block 1 with (go_at_call 55; refine hMul.mono ?_; rintro e w' ⟨rfl, hw⟩; rw [hw])
  clear hMul
  have hn8 : ¬ ((8192 : Int) < (c : Int)) := by omega
  go_upto_region 35 with fail
  have b0 : Below w.heap.size w (w.alloc (.cells #[.pointer none, .slice none 0 0] 70)) := (Below.refl _ w).alloc (Nat.le_refl _) _
  have cG := bGrow_calls w.heap.size w.heap.size c (w.alloc (.cells #[.pointer none, .slice none 0 0] 70)) (Nat.le_refl _) (heap_alloc_new w _) b0.size (by omega) (by omega)
  go_wp2_with (go_at_call 56; refine cG.mono ?_; rintro e W1 ⟨rfl, h1, b1⟩)
  clear cG
  have cW := wstr_calls w.heap.size w.heap.size [] z1 W1 (Or.inr h1) (by decide) (Nat.le_trans b0.size b1.size)
  go_wp2_with (go_at_call 31; refine cW.mono ?_; rintro e W2 ⟨rfl, h2, b2⟩)
  clear cW h1
  have h2' : Lib.BuilderAtF 70 5 w.heap.size w.heap.size (.pointer (some ⟨w.heap.size, 0, none⟩)) (Lib.byteCells (List.replicate 1 0)) W2 := by
    rw [List.nil_append, cells1] at h2
    exact h2
  have b02 : Below w.heap.size w W2 := b0.trans (b1.trans b2)
  clear h2 b0 b1 b2
  go_loopg [] (c - 1) (fun g wx => ∃ q : Nat, 1 ≤ q ∧ c - q ≤ g ∧ q ≤ c ∧ Lib.BuilderAtF 70 5 w.heap.size w.heap.size (.pointer (some ⟨w.heap.size, 0, none⟩)) (Lib.byteCells (List.replicate q 0)) wx ∧ Below w.heap.size w wx)
  case atStart => exact ⟨1, Nat.le_refl _, Nat.le_refl _, by omega, h2', b02⟩
  case round =>
    obtain ⟨q, hq1, hqg, hqc, hB, hbx⟩ := hrel
    have cLen := Any.Builder_Len_f laysLen w.heap.size w.heap.size _ wr (Or.inr hB)
    rw [Lib.byteCells_length, List.length_replicate] at cLen
    have cStr := Any.Builder_String_any_f laysStr extra w.heap.size w.heap.size (List.replicate q 0) wr (Or.inr hB) hbx.size
    by_cases hlt : q < c
    · have hlt' : (q : Int) < (c : Int) := by omega
      have hq8 : q ≤ 256 := by omega
      have hm3 := fun ts t W => min3 hlt ts t W
      obtain ⟨S, hS⟩ : ∃ S : ByteArray, (⟨(List.replicate q 0).toArray⟩ : ByteArray) = S := ⟨_, rfl⟩
      have hSz : S.size = q := by rw [← hS]; exact zs_size q
      have hSd : S.data.toList = List.replicate q 0 := by rw [← hS]
      rw [hS] at cStr
      have hk1 : min (c - q) q ≤ q := Nat.min_le_right _ _
      have hk2 : q + min (c - q) q ≤ c := by omega
      have hk3 : 1 ≤ min (c - q) q := by omega
      generalize min (c - q) q = k at hm3 hk1 hk2 hk3
      go_wp2_with (first
        | (go_at_call 57; refine cLen.mono ?_; rintro e w' ⟨rfl, hw⟩; rw [hw])
        | (go_at_call 33; refine cStr.mono ?_; rintro e W3 ⟨rfl, h3, b3⟩))
      have cWr := wstr_calls w.heap.size w.heap.size _ (S.extract 0 k) W3 h3 (by
        rw [Lib.byteCells_length, List.length_replicate, Lib.size_eq, Lib.extract_data, hSd]
        simp only [List.drop_zero, Nat.sub_zero, List.length_take, List.length_replicate]
        omega) (Nat.le_trans hbx.size b3.size)
      go_wp2_with (go_at_call 31; refine cWr.mono ?_; rintro e W4 ⟨rfl, h4, b4⟩)
      go_roundg (c - (q + k))
      case measure => omega
      case rel =>
        refine ⟨q + k, by omega, Nat.le_refl _, hk2, ?_, hbx.trans (b3.trans b4)⟩
        rw [Lib.strCells_eq, ← Lib.byteCells_append, Lib.extract_data, hSd] at h4
        simp only [List.drop_zero, Nat.sub_zero] at h4
        rw [List.take_replicate, Nat.min_eq_left hk1, List.replicate_append_replicate] at h4
        exact h4
    · obtain rfl : q = c := by omega
      go_wp2_with (first
        | (go_at_call 57; refine cLen.mono ?_; rintro e w' ⟨rfl, hw⟩; rw [hw])
        | (go_at_call 33; refine cStr.mono ?_; rintro e W3 ⟨rfl, h3, b3⟩))
      go_ret
      exact ⟨rfl, hbx.trans b3⟩
set_option maxHeartbeats 4000000 in
set_option maxRecDepth 1000000 in
theorem rep_zero (w : World) :
    Calls Tryd.prog 46 #[.string ⟨#[0]⟩, .int .i64 0] w fun e w' => e = .returned (.string (zs 0)) ∧ Below w.heap.size w w' := by
  go_enter Tryd.func46, Tryd.ntmps46
  go_wp2
  go_ret
  exact ⟨rfl, Below.refl _ _⟩
set_option maxHeartbeats 4000000 in
set_option maxRecDepth 1000000 in
theorem rep_one (w : World) :
    Calls Tryd.prog 46 #[.string ⟨#[0]⟩, .int .i64 1] w fun e w' => e = .returned (.string (zs 1)) ∧ Below w.heap.size w w' := by
  go_enter Tryd.func46, Tryd.ntmps46
  go_wp2
  go_ret
  exact ⟨rfl, Below.refl _ _⟩
/-- Repeat of one zero byte. -/
theorem rep_calls (c : Nat) (hc : c ≤ 256) (w : World) :
    Calls Tryd.prog 46 #[.string ⟨#[0]⟩, .int .i64 c] w fun e w' => e = .returned (.string (zs c)) ∧ Below w.heap.size w w' := by
  match c, hc with
  | 0, _ => exact rep_zero w
  | 1, _ => exact rep_one w
  | c + 2, hc => exact rep_main (c + 2) (by omega) hc w
end Go.Proofs.YtegeaemkkbenfaaDoor.Bld
