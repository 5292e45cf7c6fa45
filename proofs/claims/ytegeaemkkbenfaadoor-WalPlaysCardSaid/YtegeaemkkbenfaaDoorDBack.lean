/- slices.Backward over a row of writes: its closure hands them over from the last one on, for every body that keeps what lay ahead. Condition: at most 1000000 writes. -/
import Derived.RangeFuncNested
import Derived.RangeFuncBound
import Derived.RangeFuncCalls
import Derived.RangeFuncLeaves
import Derived.Shelf.Abstract
import Derived.Shelf.RegionOpen
import Derived.WalkKit
import Derived.OwnWalkIn
import Derived.TacticsInMore
import Derived.LoopNIn
import Derived.LoopIn
import Derived.Test.YtegeaemkkbenfaaDoorProg
namespace Go.Proofs.YtegeaemkkbenfaaDoor.Back
open Go.RowKit Go.Shelf
set_option linter.unusedVariables false
set_option linter.unusedSimpArgs false
attribute [local go_sem] Oper.semAt_some
def upto (n k : Nat) : List Nat := (List.range k).map (fun t => n - 1 - t)
theorem upto_succ (n k : Nat) : upto n (k + 1) = upto n k ++ [n - 1 - k] := by simp [upto, List.range_succ]
theorem upto_length (n k : Nat) : (upto n k).length = k := by simp [upto]
def at_ (ws : List (Int × ByteArray)) (j : Nat) : Int × ByteArray := ws.getD j (0, ⟨#[]⟩)
def encs (ws : List (Int × ByteArray)) (j : Nat) : Array Value := #[.int .i64 (j : Int), .agg #[.int .i64 (at_ ws j).1, .string (at_ ws j).2]]
theorem wr0 {n : Nat} (h : n ≤ 1000000) : wrap64 ((n : Int) - 1) = (n : Int) - 1 := by unfold wrap64; omega
theorem wr0' {n : Nat} (h : n ≤ 1000000) : IntKind.i64.wrap ((n : Int) - 1) = (n : Int) - 1 := by rw [IntKind.wrap_i64]; omega
theorem neg1 : ((0 : Nat) : Int) - 1 = -1 := rfl
theorem succ1 (j : Nat) : ((j + 1 : Nat) : Int) - 1 = (j : Int) := by omega
set_option maxRecDepth 100000 in
set_option maxHeartbeats 4000000 in
theorem back1_in (F : Fence) (n : Nat) (h8 : F.fn 54) (hro : F.round = none) (hn : 1 ≤ n) (l Bs n₀ b len cap : Nat) (ws : List (Int × ByteArray)) (hreach : len ≤ 1000000) (hb : b < n₀) (J Jx : List Nat → World → Prop)
    (hY : ∀ pre x W, J pre W → pre.length < len → YieldAt F (n - 1) Tryd.prog l (encs ws x) W fun e W' =>
      (e = .returned (.bool true) ∧ J (pre ++ [x]) W' ∧ Below n₀ W W') ∨ (e = .returned (.bool false) ∧ Jx (pre ++ [x]) W'))
    (W : World) (hBn : Bs < n₀) (hBs : W.cell? ⟨Bs, 0, none⟩ = some (.slice (some ⟨b, 0, none⟩) len cap)) (hc : ∀ j, j < len → W.cell? ⟨b, j * 2, none⟩ = some (.int .i64 (at_ ws j).1) ∧ W.cell? ⟨b, j * 2 + 1, none⟩ = some (.string (at_ ws j).2)) (h0 : J [] W) :
    CallsIn F n Tryd.prog 54 #[.func (.yield l) #[] #[], .pointer (some ⟨Bs, 0, none⟩)] W fun e W' => (∃ v, e = .returned v) ∧
      ((∃ ys, ys = upto len len ∧ J ys W') ∨ (∃ pre, (∃ k, k ≤ len ∧ pre = upto len k) ∧ Jx pre W')) := by
  have hw0 := wr0 hreach
  refine callsIn_of_wp Tryd.func54 rfl h8 ?_ hro
  simp only [Tryd.ntmps54, List.size_toArray, List.length_cons, List.length_nil, Nat.reduceAdd, Nat.reduceSub, Array.replicate_succ, Array.replicate_zero, List.push_toArray, List.append_toArray, List.nil_append, List.cons_append]
  gi_wp2
  gi_loopw [3] (fun i wr => ∃ m : Nat, m ≤ len ∧ i = .int .i64 ((m : Int) - 1) ∧ J (upto len (len - m)) wr ∧ Below n₀ W wr)
    (fun i _ => (intOf i + 1).toNat)
  case atStart => exact ⟨len, Nat.le_refl _, by first | rfl | rw [hw0], by rw [Nat.sub_self]; exact h0, Below.refl _ _⟩
  case round =>
    obtain ⟨m, hm, rfl, hJs, hnx⟩ := hrel
    have hBx := (hnx.cell (p := ⟨Bs, 0, none⟩) hBn).trans hBs
    cases m with
    | zero =>
      rw [neg1]
      gi_wp2
      go_end0
      exact ⟨⟨_, rfl⟩, .inl ⟨_, rfl, by simpa using hJs⟩⟩
    | succ j =>
      rw [succ1]
      have hjl : j < len := hm
      obtain ⟨hc1, hc2⟩ := hc j hjl
      have hx1 := (hnx.cell (p := ⟨b, j * 2, none⟩) hb).trans hc1
      have hx2 := (hnx.cell (p := ⟨b, j * 2 + 1, none⟩) hb).trans hc2
      have hwj : wrap64 ((j : Int) - 1) = (j : Int) - 1 := wr0 (by omega)
      have hi0 : (0 : Int) ≤ (j : Int) := by omega
      have hi1 : (j : Int) < (len : Int) := by omega
      obtain ⟨fn, tmps, assign, body, hy, hR⟩ := hY _ j wr hJs (by rw [upto_length]; omega)
      unfold encs at hy
      have hnext : upto len (len - j) = upto len (len - (j + 1)) ++ [j] := by
        have := upto_succ len (len - (j + 1))
        rw [show len - (j + 1) + 1 = len - j by omega, show len - 1 - (len - (j + 1)) = j by omega] at this
        exact this
      gi_wp2
      refine hR.mono ?_
      rintro e W3 (⟨rfl, hJ3, hk3⟩ | ⟨rfl, hJx3⟩)
      · gi_wp2
        go_roundw
        case rel => exact ⟨j, by omega, by first | rfl | rw [hwj], by rw [hnext]; exact hJ3, hnx.trans hk3⟩
        case measure => first | (simp [intOf]; done) | (simp [intOf]; omega)
      · gi_wp2
        refine bodyPost_ret (results_none rfl _ _ _) rfl ?_
        exact ⟨⟨_, rfl⟩, .inr ⟨_, ⟨len - j, by omega, hnext.symm⟩, hJx3⟩⟩
/-- In the row v the writes ws are read, in a block below n₀; or there are none. -/
def Ws (n₀ : Nat) (W : World) (sv : Value) (ws : List (Int × ByteArray)) : Prop :=
  (∃ c, sv = .slice none 0 c ∧ ws = []) ∨ ∃ b cap, sv = .slice (some ⟨b, 0, none⟩) ws.length cap ∧ b < n₀ ∧ ∀ j, j < ws.length → W.cell? ⟨b, j * 2, none⟩ = some (.int .i64 (at_ ws j).1) ∧ W.cell? ⟨b, j * 2 + 1, none⟩ = some (.string (at_ ws j).2)
theorem Ws.below {n₀ : Nat} {A B : World} (h : Below n₀ A B) {sv : Value} {ws : List (Int × ByteArray)} : Ws n₀ A sv ws → Ws n₀ B sv ws
  | .inl e => .inl e
  | .inr ⟨b, cap, e, hb, hc⟩ => .inr ⟨b, cap, e, hb, fun j hj => ⟨(h.cell (p := ⟨b, j * 2, none⟩) hb).trans (hc j hj).1, (h.cell (p := ⟨b, j * 2 + 1, none⟩) hb).trans (hc j hj).2⟩⟩
set_option maxRecDepth 100000 in
set_option maxHeartbeats 1000000 in
theorem back1_nil_in (F : Fence) (n : Nat) (h8 : F.fn 54) (hro : F.round = none) (l Bs c : Nat) (J : List Nat → World → Prop) (W : World) (hBs : W.cell? ⟨Bs, 0, none⟩ = some (.slice none 0 c)) (h0 : J [] W) :
    CallsIn F n Tryd.prog 54 #[.func (.yield l) #[] #[], .pointer (some ⟨Bs, 0, none⟩)] W fun e W' => (∃ v, e = .returned v) ∧ J [] W' := by
  refine callsIn_of_wp Tryd.func54 rfl h8 ?_ hro
  simp only [Tryd.ntmps54, List.size_toArray, List.length_cons, List.length_nil, Nat.reduceAdd, Nat.reduceSub, Array.replicate_succ, Array.replicate_zero, List.push_toArray, List.append_toArray, List.nil_append, List.cons_append]
  gi_wp2
  gi_loopw [3] (fun i wr => i = .int .i64 (-1) ∧ J [] wr) (fun _ _ => 0)
  case atStart => exact ⟨by first | rfl | simp, h0⟩
  case round =>
    obtain ⟨rfl, hJs⟩ := hrel
    gi_wp2
    go_end0
    exact ⟨⟨_, rfl⟩, hJs⟩
set_option maxRecDepth 100000 in
set_option maxHeartbeats 1000000 in
/-- slices.Backward(s): the slice value is boxed; the function value captures the box. -/
theorem back_calls (a : Option Addr) (len cap : Nat) (w : World) :
    Calls Tryd.prog 45 #[.slice a len cap] w fun e w' => e = .returned (.func (.func 54) #[] #[.pointer (some ⟨w.heap.size, 0, none⟩)]) ∧ w' = w.alloc (.cells #[.slice a len cap] 57) := by
  go_enter Tryd.func45, Tryd.ntmps45
  go_wp2
  go_ret
  exact ⟨rfl, rfl⟩
theorem back_stops (F : Fence) (n : Nat) (h8 : F.fn 54) (hro : F.round = none) (hn : 1 ≤ n) (Bs n₀ : Nat) (sv : Value) (ws : List (Int × ByteArray)) (hreach : ws.length ≤ 1000000) (w : World) (hBs : Bs < n₀) (hn₀ : n₀ ≤ w.heap.size)
    (hc : w.cell? ⟨Bs, 0, none⟩ = some sv) (hI : Ws n₀ w sv ws) :
    SeqStopsK F n Tryd.prog 54 #[.pointer (some ⟨Bs, 0, none⟩)] (encs ws) (Below n₀) (fun ys => ys = upto ws.length ws.length)
      (fun pre => ∃ k, k ≤ ws.length ∧ pre = upto ws.length k) ws.length w := fun l J Jx W hW _ _ hY h0 => by
  have hc' := ((hW.mono hn₀).cell (p := ⟨Bs, 0, none⟩) hBs).trans hc
  rcases hI.below (hW.mono hn₀) with ⟨c, rfl, rfl⟩ | ⟨b, cap, rfl, hb, hcs⟩
  · exact (back1_nil_in F n h8 hro l Bs c J W hc' h0).mono fun e W' ⟨he, hj⟩ => ⟨he, .inl ⟨_, rfl, hj⟩⟩
  · exact back1_in F n h8 hro hn l Bs n₀ b ws.length cap ws hreach hb J Jx hY W hBs hc' hcs h0
end Go.Proofs.YtegeaemkkbenfaaDoor.Back
