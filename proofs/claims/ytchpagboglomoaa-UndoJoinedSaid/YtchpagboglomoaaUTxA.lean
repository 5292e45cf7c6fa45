/- order.Map's ranges (int keys, slices as values) as a range over a function takes them: all pairs, in order, for every body that keeps their row. Condition: at most 100000 pairs. -/
import Derived.RangeFuncBox
import Derived.RangeFuncNested
import Derived.RangeFuncBound
import Derived.RangeFuncCalls
import Derived.RangeFuncLeaves
import Derived.Shelf.Abstract
import Derived.Shelf.RegionOpen
import Derived.WalkKit
import Derived.OwnWalkIn
import Derived.TacticsInMore
import Derived.LoopNIn
import Derived.LoopIn
import Derived.Maps.AppendAt
import Derived.Test.YtchpagboglomoaaUMA
namespace Go.Proofs.Ytchpagboglomoaa.GP.MU
open Go.RowKit Go.Shelf
set_option linter.unusedVariables false
set_option linter.unusedSimpArgs false
attribute [local go_sem] Oper.semAt_some
def encP (x : P2) : Array Value := #[.int .i64 x.1, .slice x.2.1 x.2.2.1 x.2.2.2]
theorem cell_heap {A B : World} {a : Addr} {v : Value} (h : B.heap[a.block]? = A.heap[a.block]?) (hc : A.cell? a = some v) : B.cell? a = some v := by
  have e : B.cell? a = A.cell? a := by simp only [World.cell?, h]
  rw [e]; exact hc
theorem wrE (n : Int) (h0 : 0 ≤ n) (h1 : n < 9223372036854775807) : wrap64 (n + 1) = n + 1 := by unfold wrap64; omega
theorem take_snoc {α : Type} (xs : List α) (m : Nat) (h : m < xs.length) : xs.take (m + 1) = xs.take m ++ [xs[m]] := by rw [List.take_succ_eq_append_getElem h]
set_option maxRecDepth 100000 in
set_option maxHeartbeats 4000000 in
theorem each1_in (F : Fence) (n : Nat) (h8 : F.fn 61) (hro : F.round = none) (hn : 1 ≤ n) (l Bs b cap : Nat) (A : Option Addr) (xs : List P2) (hreach : xs.length ≤ 1000000) (hA : 0 < xs.length → A = some ⟨b, 0, none⟩) (J Jx : List P2 → World → Prop) (hJa : ∀ s W o, J s W → J s (W.alloc o))
    (W : World) (hb : b < W.heap.size)
    (hY : ∀ pre x W1, J pre W1 → pre.length < xs.length → YieldAt F (n - 1) Try.prog l (encP x) W1 fun e W' =>
      (e = .returned (.bool true) ∧ J (pre ++ [x]) W' ∧ W'.heap[b]? = W1.heap[b]?) ∨ (e = .returned (.bool false) ∧ Jx (pre ++ [x]) W'))
    (hBs : W.cell? ⟨Bs, 0, none⟩ = some (.slice A xs.length cap)) (hc : ∀ j (hj : j < xs.length), W.cell? ⟨b, j * 2, none⟩ = some (.int .i64 xs[j].1) ∧ W.cell? ⟨b, j * 2 + 1, none⟩ = some (.slice xs[j].2.1 xs[j].2.2.1 xs[j].2.2.2)) (h0 : J [] W) :
    CallsIn F n Try.prog 61 #[.func (.yield l) #[] #[], .pointer (some ⟨Bs, 0, none⟩)] W fun e W' => (∃ v, e = .returned v) ∧
      ((∃ ys, ys = xs ∧ J ys W') ∨ (∃ pre, True ∧ Jx pre W')) := by
  have hup := Try.underlying102
  refine callsIn_of_wp Try.func61 rfl h8 ?_ hro
  simp only [Try.ntmps61, List.size_toArray, List.length_cons, List.length_nil, Nat.reduceAdd, Nat.reduceSub, Array.replicate_succ, Array.replicate_zero, List.push_toArray, List.append_toArray, List.nil_append, List.cons_append]
  gi_wp2
  gi_loopw [7] (fun i wr => ∃ m : Nat, m ≤ xs.length ∧ i = .int .i64 (m : Int) ∧ J (xs.take m) wr ∧ wr.heap[b]? = W.heap[b]?)
    (fun i _ => xs.length - (intOf i).toNat)
  case atStart => exact ⟨0, Nat.zero_le _, rfl, h0, rfl⟩
  case round =>
    obtain ⟨m, hm, rfl, hJs, hnx⟩ := hrel
    by_cases hlt : m < xs.length
    · obtain rfl := hA (by omega)
      obtain ⟨hc1, hc2⟩ := hc m hlt
      have hx1 : wr.cell? ⟨b, m * 2, none⟩ = some (.int .i64 xs[m].1) := cell_heap hnx hc1
      have hx2 : wr.cell? ⟨b, m * 2 + 1, none⟩ = some (.slice xs[m].2.1 xs[m].2.2.1 xs[m].2.2.2) := cell_heap hnx hc2
      have hwj : wrap64 ((m : Int) + 1) = (m : Int) + 1 := wrE _ (by omega) (by omega)
      have hi0 : (0 : Int) ≤ (m : Int) := by omega
      have hi1 : (m : Int) < (xs.length : Int) := by omega
      have hbw : b < wr.heap.size := World.block_lt_of_cell? wr _ hx1
      have hnext := take_snoc xs m hlt
      obtain ⟨fn, tmps, assign, body, hy, hR⟩ := hY _ xs[m] (wr.alloc (.cells #[.int .i64 xs[m].1, .slice xs[m].2.1 xs[m].2.2.1 xs[m].2.2.2] 102)) (hJa _ _ _ hJs) (by rw [List.length_take]; omega)
      have hal : (wr.alloc (.cells #[.int .i64 xs[m].1, .slice xs[m].2.1 xs[m].2.2.1 xs[m].2.2.2] 102)).heap[b]? = wr.heap[b]? := Below.heap_alloc _ _ _ hbw
      unfold encP at hy
      rw [← hnext] at hR
      clear hc hnext hc1 hc2
      generalize xs[m] = q at *
      gi_wp2
      refine hR.mono ?_
      rintro e W3 (⟨rfl, hJ3, hk3⟩ | ⟨rfl, hJx3⟩)
      · gi_wp2
        go_roundw
        case rel => exact ⟨m + 1, by omega, by first | rfl | rw [hwj]; rfl, hJ3, hk3.trans (hal.trans hnx)⟩
        case measure => first | (simp [intOf]; done) | (simp [intOf]; omega)
      · gi_wp2
        refine bodyPost_ret (results_none rfl _ _ _) rfl ?_
        exact ⟨⟨_, rfl⟩, .inr ⟨_, trivial, hJx3⟩⟩
    · obtain rfl : m = xs.length := by omega
      have hd : decide ((xs.length : Int) < (xs.length : Int)) = false := decide_eq_false (by omega)
      rw [List.take_length] at hJs
      gi_wp2
      go_end0
      exact ⟨⟨_, rfl⟩, .inl ⟨_, rfl, hJs⟩⟩
/-- What the body keeps: the pairs' row. -/
def KeepB (b : Nat) (A B : World) : Prop := B.heap[b]? = A.heap[b]?
theorem keepB_t {b : Nat} {A B C : World} (h : KeepB b A B) (k : KeepB b B C) : KeepB b A C := k.trans h
theorem keepB_b {b : Nat} {w : World} (hb : b < w.heap.size) (W : World) (l : Nat) (o o' : Obj) (hl : w.heap.size ≤ l) (h : W.heap[l]? = some o) (_ : o.isCells = false) (_ : o.isWalk = false) : KeepB b W (W.putObj l o') := by
  have h1 := (grownBy_putObj' W l o').block b (by have := (Array.getElem?_eq_some_iff.1 h).1; omega) (by intro e; cases e; omega)
  exact h1
theorem each1_stops (F : Fence) (n : Nat) (h8 : F.fn 61) (hro : F.round = none) (hn : 1 ≤ n) (Bs b cap : Nat) (A : Option Addr) (xs : List P2) (hreach : xs.length ≤ 1000000) (hA : 0 < xs.length → A = some ⟨b, 0, none⟩) (w : World) (hb : b < w.heap.size) (hBs : w.cell? ⟨Bs, 0, none⟩ = some (.slice A xs.length cap))
    (hc : ∀ j (hj : j < xs.length), w.cell? ⟨b, j * 2, none⟩ = some (.int .i64 xs[j].1) ∧ w.cell? ⟨b, j * 2 + 1, none⟩ = some (.slice xs[j].2.1 xs[j].2.2.1 xs[j].2.2.2)) :
    SeqStopsK F n Try.prog 61 #[.pointer (some ⟨Bs, 0, none⟩)] encP (KeepB b) (fun ys => ys = xs) (fun _ => True) xs.length w := fun l J Jx W hW hJ _ hY h0 => by
  have hBl : Bs < w.heap.size := World.block_lt_of_cell? w ⟨Bs, 0, none⟩ hBs
  exact each1_in F n h8 hro hn l Bs b cap A xs hreach hA J Jx (fun s W1 o h => hJ s W1 _ none h (World.grownBy_alloc W1 o none) (fun r e => by cases e)) W (Nat.lt_of_lt_of_le hb hW.size) hY ((hW.cell (p := ⟨Bs, 0, none⟩) hBl).trans hBs)
    (fun j hj => ⟨(hW.cell (p := ⟨b, j * 2, none⟩) hb).trans (hc j hj).1, (hW.cell (p := ⟨b, j * 2 + 1, none⟩) hb).trans (hc j hj).2⟩) h0
end Go.Proofs.Ytchpagboglomoaa.GP.MU
