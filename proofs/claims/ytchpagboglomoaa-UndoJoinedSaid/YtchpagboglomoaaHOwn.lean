/- Memory that a call owns, told as a list of things: variables and rows of its own, each with a number; no block belongs to two. One lemma a step carries all of them. Conditions: none. -/
import Derived.Test.YtchpagboglomoaaWNEv
import Derived.Test.YtchpagboglomoaaWMore
namespace Go.Proofs.Ytchpagboglomoaa.Ownd
open Go.RowKit Go.Proofs.YtchpagboglomoaaW.PrintWords Go.Proofs.YtchpagboglomoaaW.PrintLast Go.Proofs.YtchpagboglomoaaW.PrintMore
set_option linter.unusedVariables false
set_option linter.unusedSimpArgs false

inductive Thing : Type 1
  | box (g : Nat) (o : Obj)
  | row {α : Type} (d : Kd α) (e : Nat) (v : Value) (xs : List α)
  | fact (F : World → Prop)
  | gone
def okc (n0 : Nat) (W : World) (col : Nat → Nat) (i : Nat) (k : Nat) : Prop := n0 ≤ k ∧ (k < W.heap.size → col k = i)
def Thing.Holds (n0 : Nat) (W : World) (col : Nat → Nat) (i : Nat) : Thing → Prop
  | .box g o => W.heap[g]? = some o ∧ col g = i ∧ n0 ≤ g
  | .row d e v xs => Kd.N d e W n0 (okc n0 W col i) v xs
  | .fact F => ∀ W' : World, (∀ k, okc n0 W col i k → k < W.heap.size → W'.heap[k]? = W.heap[k]?) → F W'
  | .gone => True
def Own (w W : World) (l : List Thing) : Prop :=
  Below w.heap.size w W ∧ ∃ col : Nat → Nat, ∀ (i : Nat) (it : Thing), l[i]? = some it → it.Holds w.heap.size W col i

theorem Thing.Holds.keep {n0 : Nat} {W w1 : World} {col col' : Nat → Nat} {i i' : Nat} {it : Thing} (h : it.Holds n0 W col i)
    (hb : ∀ k, n0 ≤ k → k < W.heap.size → col k = i → w1.heap[k]? = W.heap[k]? ∧ col' k = i') : it.Holds n0 w1 col' i' := by
  cases it with
  | box g o =>
    obtain ⟨h1, h2, h3⟩ := h
    have := hb g h3 (blk_lt h1) h2
    exact ⟨this.1.trans h1, this.2, h3⟩
  | row d e v xs =>
    exact Kd.N_mono (Kd.N_step (Kd.N_bound h) (fun k hk hlt => (hb k hk.1.1 hlt (hk.1.2 hlt)).1)) (fun k hk => ⟨hk.1.1, fun _ => (hb k hk.1.1 hk.2 (hk.1.2 hk.2)).2⟩)
  | fact F =>
    intro W' hW
    refine h W' (fun k hk hlt => ?_)
    have h1 := hb k hk.1 hlt (hk.2 hlt)
    have hlt1 : k < w1.heap.size := by
      rcases Nat.lt_or_ge k w1.heap.size with h2 | h2
      · exact h2
      · rw [Array.getElem?_eq_none h2, Array.getElem?_eq_getElem hlt] at h1; cases h1.1
    exact (hW k ⟨hk.1, fun _ => h1.2⟩ hlt1).trans h1.1
  | gone => trivial

theorem Own.below {w W w1 : World} {l : List Thing} (h : Own w W l) (hb : Below W.heap.size W w1) : Own w w1 l := by
  obtain ⟨hB, col, hc⟩ := h
  exact ⟨below_step hB hb, col, fun i it hi => (hc i it hi).keep (fun k _ hk he => ⟨hb.block k hk, he⟩)⟩
theorem Own.start (w : World) (n : Nat) : Own w w (List.replicate n .gone) := ⟨Below.refl _ _, fun _ => 0, fun i it h => by
  rw [List.getElem?_replicate] at h
  split at h
  · obtain rfl := Option.some.inj h; trivial
  · cases h⟩
theorem Own.ge {w W : World} {l : List Thing} (h : Own w W l) : w.heap.size ≤ W.heap.size := h.1.size
theorem set_get {l : List Thing} {j i : Nat} {x it : Thing} (hj : j < l.length) (h : (l.set j x)[i]? = some it) : (i = j ∧ it = x) ∨ (i ≠ j ∧ l[i]? = some it) := by
  by_cases he : i = j
  · subst he
    rw [List.getElem?_set_self hj] at h
    exact .inl ⟨rfl, (Option.some.inj h).symm⟩
  · rw [List.getElem?_set_ne (Ne.symm he)] at h
    exact .inr ⟨he, h⟩
theorem lt_of_get {l : List Thing} {j : Nat} {x : Thing} (h : l[j]? = some x) : j < l.length := (List.getElem?_eq_some_iff.1 h).1
/-- A new variable, in the free place s. -/
theorem Own.new {w W w1 : World} {l : List Thing} {g : Nat} {o : Obj} (h : Own w W l) (s : Nat) (hs : l[s]? = some .gone) (hb : Below W.heap.size W w1) (hg : w1.heap[g]? = some o) (hge : W.heap.size ≤ g) : Own w w1 (l.set s (.box g o)) := by
  have hle := h.ge
  obtain ⟨hB, col, hc⟩ := h
  refine ⟨below_step hB hb, fun k => if k < W.heap.size then col k else s, fun i it hi => ?_⟩
  rcases set_get (lt_of_get hs) hi with ⟨rfl, rfl⟩ | ⟨hne, hi⟩
  · exact ⟨hg, by simp only [if_neg (Nat.not_lt.mpr hge)], Nat.le_trans hle hge⟩
  · exact (hc i it hi).keep (fun k _ hk he => ⟨hb.block k hk, by simp only [if_pos hk, he]⟩)
theorem Own.alloc {w W : World} {l : List Thing} (h : Own w W l) (s : Nat) (hs : l[s]? = some .gone) (o : Obj) : Own w (W.alloc o) (l.set s (.box W.heap.size o)) :=
  h.new s hs (below_alloc (Below.refl _ _) _) (blk_new W o) (Nat.le_refl _)
theorem Own.store {w W : World} {l : List Thing} {g : Nat} {t : TypeId} {cs cs' : Array Value} (h : Own w W l) (j : Nat) (hj : l[j]? = some (.box g (.cells cs t (0, 0)))) (i : Nat) (u : Value) (e : cs.setIfInBounds i u = cs') :
    Own w (W.setCell ⟨g, i, none⟩ u) (l.set j (.box g (.cells cs' t (0, 0)))) := by
  obtain ⟨hB, col, hc⟩ := h
  obtain ⟨h1, h2, h3⟩ := hc j _ hj
  refine ⟨below_set hB h3, col, fun x it hx => ?_⟩
  rcases set_get (lt_of_get hj) hx with ⟨rfl, rfl⟩ | ⟨hne, hx⟩
  · exact ⟨blk_put h1 i u e, h2, h3⟩
  · refine (hc x it hx).keep (fun k _ hk he => ⟨Below.heap_setCell W _ u k ?_, he⟩)
    rintro rfl
    exact hne (he.symm.trans h2)
theorem Own.drop {w W : World} {l : List Thing} (h : Own w W l) (j : Nat) : Own w W (l.set j .gone) := by
  obtain ⟨hB, col, hc⟩ := h
  refine ⟨hB, col, fun x it hx => ?_⟩
  by_cases hj : j < l.length
  · rcases set_get hj hx with ⟨rfl, rfl⟩ | ⟨hne, hx⟩
    · trivial
    · exact hc x it hx
  · rw [List.set_eq_of_length_le (by omega)] at hx
    exact hc x it hx
theorem Own.nil {α : Type} {w W : World} {l : List Thing} (h : Own w W l) (s : Nat) (d : Kd α) (e : Nat) : Own w W (l.set s (.row d e (.slice none 0 0) [])) := by
  obtain ⟨hB, col, hc⟩ := h
  refine ⟨hB, col, fun i it hi => ?_⟩
  by_cases hj : s < l.length
  · rcases set_get hj hi with ⟨rfl, rfl⟩ | ⟨hne, hi⟩
    · exact Kd.N_nil _ _ _ _ _
    · exact hc i it hi
  · rw [List.set_eq_of_length_le (by omega)] at hi
    exact hc i it hi
theorem Own.cell {w W : World} {l : List Thing} {g : Nat} {t : TypeId} {cs : Array Value} (h : Own w W l) (j : Nat) (hj : l[j]? = some (.box g (.cells cs t (0, 0)))) (i : Nat) : W.cell? ⟨g, i, none⟩ = cs[i]? := by
  obtain ⟨_, col, hc⟩ := h
  exact blk_cell (hc j _ hj).1 i
theorem Own.frozen {w W : World} {l : List Thing} {g : Nat} {t : TypeId} {cs : Array Value} (h : Own w W l) (j : Nat) (hj : l[j]? = some (.box g (.cells cs t (0, 0)))) (i : Nat) : W.frozen? ⟨g, i, none⟩ = false := by
  obtain ⟨_, col, hc⟩ := h
  exact blk_frozen (hc j _ hj).1 i
theorem Own.box {w W : World} {l : List Thing} {g : Nat} {o : Obj} (h : Own w W l) (j : Nat) (hj : l[j]? = some (.box g o)) : W.heap[g]? = some o := by
  obtain ⟨_, col, hc⟩ := h
  exact (hc j _ hj).1
theorem Own.old {w W : World} {l : List Thing} {g : Nat} {o : Obj} (h : Own w W l) (j : Nat) (hj : l[j]? = some (.box g o)) : w.heap.size ≤ g := by
  obtain ⟨_, col, hc⟩ := h
  exact (hc j _ hj).2.2
theorem Own.ne {w W : World} {l : List Thing} {g g' : Nat} {o o' : Obj} (h : Own w W l) (j j' : Nat) (hj : l[j]? = some (.box g o)) (hj' : l[j']? = some (.box g' o')) (hne : j ≠ j') : g ≠ g' := by
  obtain ⟨_, col, hc⟩ := h
  rintro rfl
  exact hne ((hc j _ hj).2.1.symm.trans (hc j' _ hj').2.1)
theorem Own.row {α : Type} {w W : World} {l : List Thing} {d : Kd α} {e : Nat} {v : Value} {xs : List α} (h : Own w W l) (j : Nat) (hj : l[j]? = some (.row d e v xs)) : ∃ A c, v = .slice A xs.length c := by
  obtain ⟨_, col, hc⟩ := h
  exact Kd.N_slice (hc j _ hj)
/-- Two rows, as a caller is told of them. -/
theorem Own.rows {α β : Type} {w W : World} {l : List Thing} {d : Kd α} {d' : Kd β} {e e' : Nat} {v v' : Value} {xs : List α} {ys : List β} (h : Own w W l) (j j' : Nat) (hj : l[j]? = some (.row d e v xs)) (hj' : l[j']? = some (.row d' e' v' ys)) (hne : j ≠ j') :
    Kd.N d e W w.heap.size (fun k_ => (w.heap.size ≤ k_) ∧ some k_ ≠ (v' : Value).ownBlock) v xs := by
  obtain ⟨_, col, hc⟩ := h
  have h1 : Kd.N d e W w.heap.size (okc w.heap.size W col j) v xs := hc j _ hj
  have h2 : Kd.N d' e' W w.heap.size (okc w.heap.size W col j') v' ys := hc j' _ hj'
  refine Kd.N_mono (Kd.N_bound h1) (fun k hk => ⟨hk.1.1, fun he => ?_⟩)
  exact hne ((hk.1.2 hk.2).symm.trans ((h2.1 k he.symm).2 (Kd.N_lt h2 k he.symm)))

theorem Own.now {w W : World} {l : List Thing} {F : World → Prop} (h : Own w W l) (j : Nat) (hj : l[j]? = some (.fact F)) : F W := by
  obtain ⟨hB, col, hc⟩ := h
  exact (hc j _ hj : ∀ W' : World, _ → F W') W (fun _ _ _ => rfl)
theorem Own.imp {w W : World} {l : List Thing} {F F' : World → Prop} (h : Own w W l) (j : Nat) (hj : l[j]? = some (.fact F)) (hF : ∀ W', F W' → F' W') : Own w W (l.set j (.fact F')) := by
  obtain ⟨hB, col, hc⟩ := h
  refine ⟨hB, col, fun i it hi => ?_⟩
  rcases set_get (lt_of_get hj) hi with ⟨rfl, rfl⟩ | ⟨hne, hi⟩
  · exact fun W' hW => hF W' ((hc i _ hj : ∀ W' : World, _ → F W') W' hW)
  · exact hc i it hi
theorem Own.fact_new {w W : World} {l : List Thing} (h : Own w W l) (s : Nat) (hs : l[s]? = some .gone) : Own w W (l.set s (.fact fun _ => True)) := by
  obtain ⟨hB, col, hc⟩ := h
  refine ⟨hB, col, fun i it hi => ?_⟩
  rcases set_get (lt_of_get hs) hi with ⟨rfl, rfl⟩ | ⟨hne, hi⟩
  · exact fun _ _ => trivial
  · exact hc i it hi
/-- A row is kept for good among the facts. -/
theorem Own.merge {α : Type} {w W : World} {l : List Thing} {F : World → Prop} {d : Kd α} {e : Nat} {A : Option Addr} {n c : Nat} {xs : List α} (h : Own w W l) (f s : Nat) (hne : f ≠ s) (hf : l[f]? = some (.fact F)) (hs : l[s]? = some (.row d e (.slice A n c) xs)) :
    Own w W ((l.set s .gone).set f (.fact fun W' => F W' ∧ n = xs.length ∧ n ≤ c ∧ d.C W' A xs.length xs)) := by
  obtain ⟨hB, col, hc⟩ := h
  refine ⟨hB, fun k => if col k = s then f else col k, fun i it hi => ?_⟩
  rcases set_get (by rw [List.length_set]; exact lt_of_get hf) hi with ⟨rfl, rfl⟩ | ⟨hif, hi⟩
  · intro W' hW
    refine ⟨(hc i _ hf : ∀ W' : World, _ → F W') W' (fun k hk hlt => hW k ⟨hk.1, fun _ => ?_⟩ hlt), ?_⟩
    · show (if col k = s then i else col k) = i
      rw [hk.2 hlt]; exact ite_self _
    · have hS : Kd.N d e W w.heap.size (okc w.heap.size W col s) (.slice A n c) xs := hc s _ hs
      refine Kd.N_reads' (Kd.N_step hS (fun k hk hlt => hW k ⟨hk.1, fun _ => ?_⟩ hlt))
      show (if col k = s then i else col k) = i
      rw [if_pos (hk.2 hlt)]
  rcases set_get (lt_of_get hs) hi with ⟨rfl, rfl⟩ | ⟨his, hi⟩
  · trivial
  · exact (hc i it hi).keep (fun k _ hk he => ⟨rfl, by show (if col k = s then f else col k) = i; rw [he, if_neg his]⟩)
/-- Some of the things, in another order. -/
theorem Own.pick {w W : World} {l : List Thing} (h : Own w W l) (p : List Nat) (hp : p.Nodup) : Own w W (p.map fun s => l.getD s .gone) := by
  obtain ⟨hB, col, hc⟩ := h
  refine ⟨hB, fun k => p.idxOf (col k), fun i it hi => ?_⟩
  rw [List.getElem?_map] at hi
  obtain ⟨s, hs, rfl⟩ := Option.map_eq_some_iff.1 hi
  obtain ⟨hil, rfl⟩ := List.getElem?_eq_some_iff.1 hs
  rw [List.getD_eq_getElem?_getD]
  cases hq : l[p[i]]? with
  | none => trivial
  | some it => exact (hc _ it hq).keep (fun k _ hk he => ⟨rfl, by show p.idxOf (col k) = i; rw [he]; exact hp.idxOf_getElem i hil⟩)
/-- .. and free places as wanted. -/
theorem Own.room {w W : World} {l : List Thing} (h : Own w W l) : Own w W (.gone :: l) := by
  obtain ⟨hB, col, hc⟩ := h
  refine ⟨hB, fun k => col k + 1, fun i it hi => ?_⟩
  cases i with
  | zero => cases hi; trivial
  | succ i => exact (hc i it hi).keep (fun k _ hk he => ⟨rfl, by show col k + 1 = i + 1; rw [he]⟩)
theorem Own.tail {w W : World} {l : List Thing} {t : Thing} (h : Own w W (t :: l)) : Own w W l := by
  obtain ⟨hB, col, hc⟩ := h
  refine ⟨hB, fun k => if col k = 0 then l.length else col k - 1, fun i it hi => ?_⟩
  exact (hc (i + 1) it hi).keep (fun k _ hk he => ⟨rfl, by show (if col k = 0 then l.length else col k - 1) = i; rw [he, if_neg (Nat.succ_ne_zero i)]; rfl⟩)
section
variable {P : Program} {ops : Array Oper} {o : Oper} {a : Act} {Q : Exit → Act → World → Prop} {Kc : Act → World → Prop} {α β : Type}
/-- A literal of plain elements. -/
theorem Own.lit_step (d : Kd α) {w W : World} {l : List Thing} (hO : Own w W l) (s : Nat) (hs : l[s]? = some .gone) (e : Nat) (hw : Region.wanted o (yielded ops a.tmps) = true) {N : Tmp} (hd : o.dst = some N) {xs : List α} {inner : List Value}
    (hrun : (execOp a.eval o).run P W = .ok (.value (.slice (some ⟨W.heap.size, 0, none⟩) xs.length xs.length)) (W.alloc (.cells inner.toArray e)))
    (hrep : Reps (Kd.FK d W (fun _ => False)) d.sz xs inner) (hm : xs.length ≤ 9223372036854775807)
    (h : ∀ v1 w1, Own w w1 (l.set s (.row d e v1 xs)) → Kc (a.put o.dst v1) w1) : if Region.wanted o (yielded ops a.tmps) = true then Oper.wp P o a W Kc Q else Kc (a.put o.dst undef) W := by
  have hle := hO.ge
  obtain ⟨hB, col, hc⟩ := hO
  refine Kd.N_lit_step d w.heap.size e hw hd (ok := fun k => W.heap.size ≤ k) (okp := fun _ => False) hrun hrep (fun _ hk => hk.elim) (Nat.le_refl _) hB hle hm ?_
  intro v1 w1 hr hb hg _
  refine h v1 w1 ⟨hb, fun k => if k < W.heap.size then col k else s, fun i it hi => ?_⟩
  rcases set_get (lt_of_get hs) hi with ⟨rfl, rfl⟩ | ⟨hne, hi⟩
  · exact Kd.N_mono hr (fun k hk => ⟨Nat.le_trans hle hk, fun _ => by simp only [if_neg (Nat.not_lt.mpr hk)]⟩)
  · exact (hc i it hi).keep (fun k _ hk he => ⟨hg.block k hk (by simp), by simp only [if_pos hk, he]⟩)
/-- A literal whose elements lead to the row with number s: that one is part of the new row from now on. -/
theorem Own.lit_of_step (d : Kd α) (d' : Kd β) {w W : World} {l : List Thing} (hO : Own w W l) (n s : Nat) (hns : n ≠ s) {e' : Nat} {v' : Value} {ys : List β} (hn : l[n]? = some .gone) (hs : l[s]? = some (.row d' e' v' ys)) (e : Nat) (hw : Region.wanted o (yielded ops a.tmps) = true) {N : Tmp} (hd : o.dst = some N) {xs : List α} {inner : List Value}
    (hrun : (execOp a.eval o).run P W = .ok (.value (.slice (some ⟨W.heap.size, 0, none⟩) xs.length xs.length)) (W.alloc (.cells inner.toArray e)))
    (hrep : ∀ ok, Kd.N d' e' W w.heap.size ok v' ys → Reps (Kd.FK d W ok) d.sz xs inner) (hm : xs.length ≤ 9223372036854775807)
    (h : ∀ v1 w1, Own w w1 ((l.set s .gone).set n (.row d e v1 xs)) → Kc (a.put o.dst v1) w1) : if Region.wanted o (yielded ops a.tmps) = true then Oper.wp P o a W Kc Q else Kc (a.put o.dst undef) W := by
  have hle := hO.ge
  obtain ⟨hB, col, hc⟩ := hO
  have hsl := lt_of_get hs
  have hS : Kd.N d' e' W w.heap.size (okc w.heap.size W col s) v' ys := hc s _ hs
  refine Kd.N_lit_step d w.heap.size e hw hd (ok := fun k => w.heap.size ≤ k ∧ (k < W.heap.size → col k = s)) (okp := fun k => okc w.heap.size W col s k ∧ k < W.heap.size) hrun (hrep _ (Kd.N_bound hS)) (fun k hk => hk.1) ⟨hle, fun h => absurd h (Nat.lt_irrefl _)⟩ hB hle hm ?_
  intro v1 w1 hr hb hg _
  refine h v1 w1 ⟨hb, fun k => if k < W.heap.size then (if col k = s then n else col k) else n, fun i it hi => ?_⟩
  rcases set_get (by rw [List.length_set]; exact lt_of_get hn) hi with ⟨rfl, rfl⟩ | ⟨hin, hi⟩
  · refine Kd.N_mono hr (fun k hk => ⟨hk.1, fun _ => ?_⟩)
    by_cases hk2 : k < W.heap.size
    · simp only [if_pos hk2, if_pos (hk.2 hk2)]
    · simp only [if_neg hk2]
  rcases set_get hsl hi with ⟨rfl, rfl⟩ | ⟨hne, hi⟩
  · trivial
  · exact (hc i it hi).keep (fun k _ hk he => ⟨hg.block k hk (by simp), by simp only [if_pos hk, he, if_neg hne]⟩)
/-- append(v, ys...): row i goes into row j. -/
theorem Own.append_step (d : Kd α) {w W : World} {l : List Thing} (hO : Own w W l) (j i : Nat) (hne : i ≠ j) {v : Value} {A : Option Addr} {m c : Nat} {xs ys : List α} (e : TypeId) (hj : l[j]? = some (.row d e v xs)) (hi : l[i]? = some (.row d e (.slice A m c) ys))
    (hw : Region.wanted o (yielded ops a.tmps) = true) (s x : Operand) (t : TypeId) (z : Value) (bytes : Nat)
    (ho : o.op = .call { callee := .builtin .append, args := #[s, x], argTypes := #[t, t] })
    (ht : P.underlying t = some (.slice e)) (hinfo : (P.info? e).map (fun i => (i.zero, i.size, i.bytes)) = some (some z, d.sz, bytes)) (hz : z.cells.size = d.sz) (hs0 : 0 < d.sz) (hb0 : 0 < bytes)
    (hs : a.eval s = v) (hx : a.eval x = .slice A m c) (hl : (xs.length + m) * bytes ≤ 140737488355328)
    (h : ∀ v1 w1, Own w w1 ((l.set j (.row d e v1 (xs ++ ys))).set i .gone) → Kc (a.put o.dst v1) w1) : if Region.wanted o (yielded ops a.tmps) = true then Oper.wp P o a W Kc Q else Kc (a.put o.dst undef) W := by
  have hle := hO.ge
  obtain ⟨hB, col, hc⟩ := hO
  have hjl := lt_of_get hj
  have hil := lt_of_get hi
  have hJ : Kd.N d e W w.heap.size (okc w.heap.size W col j) v xs := hc j _ hj
  have hI : Kd.N d e W w.heap.size (okc w.heap.size W col i) (.slice A m c) ys := hc i _ hi
  have hown : ∀ k, v.ownBlock = some k → k < W.heap.size ∧ col k = j := fun k hk => ⟨Kd.N_lt hJ k hk, (hJ.1 k hk).2 (Kd.N_lt hJ k hk)⟩
  refine Kd.N_append_rows_step d w.heap.size hw s x t e z bytes ho ht hinfo hz hs0 hb0 v xs ys A m c (fun k => w.heap.size ≤ k ∧ (k < W.heap.size → col k = j ∨ col k = i)) (fun k => okc w.heap.size W col i k ∧ k < W.heap.size) hs hx
    (Kd.N_mono hJ (fun k hk => ⟨hk.1, fun hlt => .inl (hk.2 hlt)⟩)) (Kd.N_F (Kd.N_bound hI)) (fun k hk => ⟨⟨hk.1.1, fun hlt => .inr (hk.1.2 hlt)⟩, fun he => hne ((hk.1.2 hk.2).symm.trans (hown k he.symm).2)⟩) (fun k hk => ⟨Nat.le_trans hle hk, fun hlt => absurd hlt (Nat.not_lt.mpr hk)⟩) hB hle hl ?_
  intro v1 w1 hr hb hg _
  refine h v1 w1 ⟨hb, fun k => if k < W.heap.size then (if col k = i then j else col k) else j, fun q it hq => ?_⟩
  rcases set_get (by rw [List.length_set]; exact hil) hq with ⟨rfl, rfl⟩ | ⟨hqi, hq⟩
  · trivial
  rcases set_get hjl hq with ⟨rfl, rfl⟩ | ⟨hqj, hq⟩
  · refine Kd.N_mono hr (fun k hk => ⟨hk.1, fun _ => ?_⟩)
    by_cases hk2 : k < W.heap.size
    · simp only [if_pos hk2]
      rcases hk.2 hk2 with h1 | h1
      · rw [h1]; split <;> rfl
      · rw [if_pos h1]
    · simp only [if_neg hk2]
  · refine (hc q it hq).keep (fun k _ hk he => ⟨hg.block k hk (fun hh => hqj (he.symm.trans (hown k hh.symm).2)), ?_⟩)
    simp only [if_pos hk, he, if_neg hqi]
end
end Go.Proofs.Ytchpagboglomoaa.Ownd
