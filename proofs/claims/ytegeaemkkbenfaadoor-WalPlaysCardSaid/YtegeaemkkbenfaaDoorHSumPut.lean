/- sum.Put's contract at the sizes that the program asks for (1, 2 and 6 bytes): the number's bytes, the highest first; nothing where it does not fit. -/
import Derived.Test.YtegeaemkkbenfaaDoorWMore
import Derived.Test.YtegeaemkkbenfaaDoorWLast
import Derived.Test.YtegeaemkkbenfaaDoorProg
import Derived.Handy
import Derived.KernelRfl
namespace Go.Proofs.YtegeaemkkbenfaaDoor.GW
open Go.RowKit Go.Proofs.YtegeaemkkbenfaaDoorW.PrintWords Go.Proofs.YtegeaemkkbenfaaDoorW.PrintLast Go.Proofs.YtegeaemkkbenfaaDoorW.PrintMore
attribute [local go_sem] max2_int min2_int max_two min_two max_three min_three max_four min_four
set_option linter.unusedVariables false
set_option linter.unusedSimpArgs false

theorem infoU8 : (Tryd.prog.info? 5).map (fun i => (i.zero, i.size, i.bytes)) = some (some (.int .u8 0), 1, 1) := by kernel_rfl

theorem make1 : ∀ W : World, (Instr.makeSlice 32 (.int .i64 1) (.int .i64 1)).run Tryd.prog W = .ok (.slice (some ⟨W.heap.size, 0, none⟩) 1 1) (W.alloc (.cells #[.int .u8 0] 5)) :=
  fun W => by
    have h := print_make (P := Tryd.prog) 32 5 .u8 1 Tryd.underlying32 infoU8 (by omega) 1 (by omega) W
    rw [show madeCells #[Value.int .u8 0] 1 = #[.int .u8 0] by kernel_rfl] at h
    exact h
theorem text1 (x0 : Int) (W : World) : (convert 32 9 (.slice (some ⟨W.heap.size, 0, none⟩) 1 1)).run Tryd.prog (W.alloc (.cells #[.int .u8 x0] 5)) = .ok (.string (strOfNums [x0])) (W.alloc (.cells #[.int .u8 x0] 5)) :=
  run_convert_bytes_arg (P := Tryd.prog) _ 32 5 Tryd.underlying32 Tryd.underlying5 W.heap.size 0 1 1 [x0] rfl (fun i hi => by
    have hb := blk_cell (blk_new W (.cells #[.int .u8 x0] 5)) (0 + i)
    rw [hb]
    match i, hi with
    | 0, _ => rfl) 9 Tryd.underlying9

theorem make2 : ∀ W : World, (Instr.makeSlice 32 (.int .i64 2) (.int .i64 2)).run Tryd.prog W = .ok (.slice (some ⟨W.heap.size, 0, none⟩) 2 2) (W.alloc (.cells #[.int .u8 0, .int .u8 0] 5)) :=
  fun W => by
    have h := print_make (P := Tryd.prog) 32 5 .u8 1 Tryd.underlying32 infoU8 (by omega) 2 (by omega) W
    rw [show madeCells #[Value.int .u8 0] 2 = #[.int .u8 0, .int .u8 0] by kernel_rfl] at h
    exact h
theorem text2 (x0 x1 : Int) (W : World) : (convert 32 9 (.slice (some ⟨W.heap.size, 0, none⟩) 2 2)).run Tryd.prog (W.alloc (.cells #[.int .u8 x0, .int .u8 x1] 5)) = .ok (.string (strOfNums [x0, x1])) (W.alloc (.cells #[.int .u8 x0, .int .u8 x1] 5)) :=
  run_convert_bytes_arg (P := Tryd.prog) _ 32 5 Tryd.underlying32 Tryd.underlying5 W.heap.size 0 2 2 [x0, x1] rfl (fun i hi => by
    have hb := blk_cell (blk_new W (.cells #[.int .u8 x0, .int .u8 x1] 5)) (0 + i)
    rw [hb]
    match i, hi with
    | 0, _ => rfl
    | 1, _ => rfl) 9 Tryd.underlying9

theorem make6 : ∀ W : World, (Instr.makeSlice 32 (.int .i64 6) (.int .i64 6)).run Tryd.prog W = .ok (.slice (some ⟨W.heap.size, 0, none⟩) 6 6) (W.alloc (.cells #[.int .u8 0, .int .u8 0, .int .u8 0, .int .u8 0, .int .u8 0, .int .u8 0] 5)) :=
  fun W => by
    have h := print_make (P := Tryd.prog) 32 5 .u8 1 Tryd.underlying32 infoU8 (by omega) 6 (by omega) W
    rw [show madeCells #[Value.int .u8 0] 6 = #[.int .u8 0, .int .u8 0, .int .u8 0, .int .u8 0, .int .u8 0, .int .u8 0] by kernel_rfl] at h
    exact h
theorem text6 (x0 x1 x2 x3 x4 x5 : Int) (W : World) : (convert 32 9 (.slice (some ⟨W.heap.size, 0, none⟩) 6 6)).run Tryd.prog (W.alloc (.cells #[.int .u8 x0, .int .u8 x1, .int .u8 x2, .int .u8 x3, .int .u8 x4, .int .u8 x5] 5)) = .ok (.string (strOfNums [x0, x1, x2, x3, x4, x5])) (W.alloc (.cells #[.int .u8 x0, .int .u8 x1, .int .u8 x2, .int .u8 x3, .int .u8 x4, .int .u8 x5] 5)) :=
  run_convert_bytes_arg (P := Tryd.prog) _ 32 5 Tryd.underlying32 Tryd.underlying5 W.heap.size 0 6 6 [x0, x1, x2, x3, x4, x5] rfl (fun i hi => by
    have hb := blk_cell (blk_new W (.cells #[.int .u8 x0, .int .u8 x1, .int .u8 x2, .int .u8 x3, .int .u8 x4, .int .u8 x5] 5)) (0 + i)
    rw [hb]
    match i, hi with
    | 0, _ => rfl
    | 1, _ => rfl
    | 2, _ => rfl
    | 3, _ => rfl
    | 4, _ => rfl
    | 5, _ => rfl) 9 Tryd.underlying9

set_option maxHeartbeats 800000 in
set_option maxRecDepth 100000 in
theorem put_one (n : Int) (h0 : 0 ≤ n) (h1 : n < 256) (w : World) :
    Calls Tryd.prog 35 #[.int .i64 n, .int .i64 1] w fun e w' => e = .returned (.string (strOfNums [n])) ∧ Below w.heap.size w w' := by
  have hmk := make1
  have hcv := text1
  have hz : decide (n < 0) = false := decide_eq_false (by omega)
  have hq : (n / 256 != 0) = false := by rw [bne_eq_false_iff_eq]; omega
  go_enter Tryd.func35, Tryd.ntmps35
  go_wp2_with fail
  go_rounds 2
  go_ret
  exact ⟨rfl, (Below.refl _ _).alloc (Nat.le_refl _) _⟩

set_option maxHeartbeats 800000 in
set_option maxRecDepth 100000 in
theorem put_two (n : Int) (h0 : 0 ≤ n) (h1 : n < 65536) (w : World) :
    Calls Tryd.prog 35 #[.int .i64 n, .int .i64 2] w fun e w' => e = .returned (.string (strOfNums [n / 256, n % 256])) ∧ Below w.heap.size w w' := by
  have hmk := make2
  have hcv := text2
  have hz : decide (n < 0) = false := decide_eq_false (by omega)
  have hq : (n / 65536 != 0) = false := by rw [bne_eq_false_iff_eq]; omega
  go_enter Tryd.func35, Tryd.ntmps35
  go_wp2_with fail
  go_rounds 3
  go_ret
  exact ⟨rfl, (Below.refl _ _).alloc (Nat.le_refl _) _⟩

set_option maxHeartbeats 800000 in
set_option maxRecDepth 100000 in
theorem put_six (n : Int) (h0 : 0 ≤ n) (h1 : n < 281474976710656) (w : World) :
    Calls Tryd.prog 35 #[.int .i64 n, .int .i64 6] w fun e w' => e = .returned (.string (strOfNums [n / 1099511627776, n / 4294967296 % 256, n / 16777216 % 256, n / 65536 % 256, n / 256 % 256, n % 256])) ∧ Below w.heap.size w w' := by
  have hmk := make6
  have hcv := text6
  have hz : decide (n < 0) = false := decide_eq_false (by omega)
  have hq : (n / 281474976710656 != 0) = false := by rw [bne_eq_false_iff_eq]; omega
  go_enter Tryd.func35, Tryd.ntmps35
  go_wp2_with fail
  go_rounds 7
  go_ret
  exact ⟨rfl, (Below.refl _ _).alloc (Nat.le_refl _) _⟩

/-- A number's bytes, the highest first, at the sizes that are asked for. -/
def sum_Put.f (n size : Int) : Option ByteArray :=
  if 0 ≤ n then (if size = 1 ∧ n < 256 then some (strOfNums [n]) else if size = 2 ∧ n < 65536 then some (strOfNums [n / 256, n % 256])
    else if size = 6 ∧ n < 281474976710656 then some (strOfNums [n / 1099511627776, n / 4294967296 % 256, n / 16777216 % 256, n / 65536 % 256, n / 256 % 256, n % 256]) else none) else none

theorem sum_Put.calls (a0 a1 : Int) (r : ByteArray) (w : World) (h : sum_Put.f a0 a1 = some r) :
    Calls Tryd.prog 35 #[.int .i64 a0, .int .i64 a1] w fun e w' => e = .returned (.string r) ∧ Below w.heap.size w w' := by
  unfold sum_Put.f at h
  by_cases h0 : 0 ≤ a0
  · rw [if_pos h0] at h
    by_cases h1 : a1 = 1 ∧ a0 < 256
    · rw [if_pos h1] at h
      obtain ⟨rfl, h1⟩ := h1
      obtain rfl := Option.some.inj h
      exact put_one a0 h0 h1 w
    rw [if_neg h1] at h
    by_cases h2 : a1 = 2 ∧ a0 < 65536
    · rw [if_pos h2] at h
      obtain ⟨rfl, h2⟩ := h2
      obtain rfl := Option.some.inj h
      exact put_two a0 h0 h2 w
    rw [if_neg h2] at h
    by_cases h3 : a1 = 6 ∧ a0 < 281474976710656
    · rw [if_pos h3] at h
      obtain ⟨rfl, h3⟩ := h3
      obtain rfl := Option.some.inj h
      exact put_six a0 h0 h3 w
    rw [if_neg h3] at h
    cases h
  · rw [if_neg h0] at h
    cases h
end Go.Proofs.YtegeaemkkbenfaaDoor.GW
