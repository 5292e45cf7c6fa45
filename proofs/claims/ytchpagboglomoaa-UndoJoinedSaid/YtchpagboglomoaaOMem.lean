/- Memory that a call owns (HOwn), more steps: a row that a callee has changed or made, elements that are read, an element appended, cells behind a row's end written. Conditions: none. -/
import Derived.Test.YtchpagboglomoaaHOwn
namespace Go.Proofs.Ytchpagboglomoaa.Ownd
open Go.RowKit Go.Proofs.YtchpagboglomoaaW.PrintWords Go.Proofs.YtchpagboglomoaaW.PrintLast Go.Proofs.YtchpagboglomoaaW.PrintMore
set_option linter.unusedVariables false
set_option linter.unusedSimpArgs false
section
variable {α β : Type} {w W w1 : World} {l : List Thing} {d : Kd α} {d' : Kd β} {e e' : Nat} {v v1 : Value} {xs : List α} {ys : List β}
/-- Row j was changed by something that wrote to its block alone. -/
theorem own_row {col : Nat → Nat} (hB : Below w.heap.size w W) (hc : ∀ (i : Nat) (it : Thing), l[i]? = some it → it.Holds w.heap.size W col i) (j : Nat) (hj : l[j]? = some (.row d e v xs)) (hg : W.grownBy w1 v.ownBlock)
    (hN : Kd.N d' e' w1 w.heap.size (okc w.heap.size W col j) v1 ys) : Own w w1 (l.set j (.row d' e' v1 ys)) := by
  have hle : w.heap.size ≤ W.heap.size := hB.size
  have hJ : Kd.N d e W w.heap.size (okc w.heap.size W col j) v xs := hc j _ hj
  refine ⟨hB.grown hg hle (fun k hk => (hJ.1 k hk).1), fun k => if k < W.heap.size then col k else j, fun i it hi => ?_⟩
  rcases set_get (lt_of_get hj) hi with ⟨rfl, rfl⟩ | ⟨hne, hi⟩
  · refine Kd.N_mono hN (fun k hk => ⟨hk.1, fun _ => ?_⟩)
    by_cases hk2 : k < W.heap.size
    · simp only [if_pos hk2]; exact hk.2 hk2
    · simp only [if_neg hk2]
  · refine (hc i it hi).keep (fun k _ hk he => ⟨hg.block k hk (fun hh => hne (he.symm.trans ((hJ.1 k hh.symm).2 hk))), by simp only [if_pos hk, he]⟩)
/-- A callee that changes row j, told for whatever blocks its elements lead to. -/
theorem Own.row_call {P : Program} {f : FuncId} {args : Array Value} {R : Ending → Value → Prop} {zs : List β} (h : Own w W l) (j : Nat) (hj : l[j]? = some (.row d e v xs))
    (hcall : ∀ ok : Nat → Prop, (∀ k, W.heap.size ≤ k → ok k) → Kd.N d e W w.heap.size ok v xs → Calls P f args W fun ex W' => ∃ v', R ex v' ∧ Kd.N d' e' W' w.heap.size ok v' zs ∧ W.grownBy W' v.ownBlock) :
    Calls P f args W fun ex W' => ∃ v', R ex v' ∧ Own w W' (l.set j (.row d' e' v' zs)) := by
  obtain ⟨hB, col, hc⟩ := h
  have hle : w.heap.size ≤ W.heap.size := hB.size
  refine (hcall (okc w.heap.size W col j) (fun k hk => ⟨Nat.le_trans hle hk, fun hlt => absurd hlt (Nat.not_lt.mpr hk)⟩) (hc j _ hj)).mono fun ex W' ⟨v', h1, h2, h3⟩ => ⟨v', h1, own_row hB hc j hj h3 h2⟩
/-- A row that was made just now, in the free place s. -/
theorem Own.row_new (h : Own w W l) (s : Nat) (hs : l[s]? = some .gone) (hb : Below W.heap.size W w1) {ok : Nat → Prop} (hN : Kd.N d e w1 W.heap.size (fun k => ok k) v xs) (hnew : ∀ k, ok k → W.heap.size ≤ k) : Own w w1 (l.set s (.row d e v xs)) := by
  have hle := h.ge
  obtain ⟨hB, col, hc⟩ := h
  refine ⟨below_step hB hb, fun k => if k < W.heap.size then col k else s, fun i it hi => ?_⟩
  rcases set_get (lt_of_get hs) hi with ⟨rfl, rfl⟩ | ⟨hne, hi⟩
  · exact Kd.N_mono (Kd.N_lower hN hle) (fun k hk => ⟨Nat.le_trans hle (hnew k hk), fun _ => by simp only [if_neg (Nat.not_lt.mpr (hnew k hk))]⟩)
  · exact (hc i it hi).keep (fun k _ hk he => ⟨hb.block k hk, by simp only [if_pos hk, he]⟩)
theorem Own.N (h : Own w W l) (j : Nat) (hj : l[j]? = some (.row d e v xs)) : ∃ ok : Nat → Prop, Kd.N d e W w.heap.size ok v xs := by
  obtain ⟨_, col, hc⟩ := h
  exact ⟨_, hc j _ hj⟩
/-- What is read of a row. -/
theorem Own.reads (h : Own w W l) (j : Nat) (hj : l[j]? = some (.row d e v xs)) : ∃ A c, v = .slice A xs.length c ∧ xs.length ≤ c ∧ d.C W A xs.length xs := by
  obtain ⟨ok, hN⟩ := h.N j hj
  exact Kd.N_reads hN
theorem Own.isSlice (h : Own w W l) (j : Nat) (hj : l[j]? = some (.row d e v xs)) : ∃ A n c, v = .slice A n c := by
  obtain ⟨A, c, h1, _⟩ := h.reads j hj
  exact ⟨A, _, c, h1⟩
theorem Own.len (h : Own w W l) (j : Nat) (hj : l[j]? = some (.row d e v xs)) : xs.length ≤ 9223372036854775807 := by
  obtain ⟨A, c, _, _, hC⟩ := h.reads j hj
  exact hC.2.1
/-- An element's cells. -/
theorem Own.elem (h : Own w W l) (j : Nat) (hj : l[j]? = some (.row d e v xs)) (i : Nat) (hi : i < xs.length) : ∃ g c cs, v = .slice (some ⟨g, 0, none⟩) xs.length c ∧ xs.length ≤ c ∧ cs.length = d.sz ∧ d.K W xs[i] cs ∧ (∀ t u, cs[t]? = some u → W.cell? ⟨g, i * d.sz + t, none⟩ = some u) ∧ ∀ t, W.frozen? ⟨g, i * d.sz + t, none⟩ = false := by
  obtain ⟨ok, hN⟩ := h.N j hj
  obtain ⟨g, c, rfl, _, _, _⟩ := Kd.N_form hN (by omega)
  have hr := Kd.N_reads' hN
  obtain ⟨cs, h1, h2, h3, h4⟩ := Kd.N_elem hN xs[i] (i : Int) (by omega) (by omega)
  rw [Int.toNat_natCast] at h2 h3 h4
  refine ⟨g, c, cs, rfl, hr.2.1, h1, ?_, h3, h4⟩
  have h5 := Kd.FK_now h2
  rwa [List.getD_eq_getElem?_getD, List.getElem?_eq_getElem hi, Option.getD_some] at h5
theorem Own.int_at {zs : List Int} (h : Own w W l) (j : Nat) (hj : l[j]? = some (.row (Kd.int .i64) e v zs)) (i : Nat) (hi : i < zs.length) : ∃ g c, v = .slice (some ⟨g, 0, none⟩) zs.length c ∧ zs.length ≤ c ∧ W.cell? ⟨g, i, none⟩ = some (.int .i64 zs[i]) := by
  obtain ⟨g, c, cs, h1, h2, _, hK, hcell, _⟩ := h.elem j hj i hi
  have hK' : cs = [.int .i64 zs[i]] := hK
  refine ⟨g, c, h1, h2, ?_⟩
  have := hcell 0 (.int .i64 zs[i]) (by rw [hK']; rfl)
  rwa [show i * (Kd.int .i64).sz + 0 = i from Nat.mul_one i] at this
end
section
variable {P : Program} {ops : Array Oper} {rest : List Oper} {o : Oper} {a : Act} {Q : Exit → Act → World → Prop} {α : Type}
/-- append(v, x), behind 'at_builtin'. -/
theorem Own.append (d : Kd α) {w W : World} {l : List Thing} (hO : Own w W l) (j : Nat) {v : Value} {xs : List α} {e : TypeId} (hj : l[j]? = some (.row d e v xs)) (hgd : o.guard = none) (s x : Operand) (t : TypeId) (z : Value) (bytes : Nat)
    (ho : o.op = .call { callee := .builtin .append, args := #[s, x], argTypes := #[t, t] })
    (ht : P.underlying t = some (.slice e)) (hinfo : (P.info? e).map (fun i => (i.zero, i.size, i.bytes)) = some (some z, d.sz, bytes)) (hz : z.cells.size = d.sz) (hs0 : 0 < d.sz) (hb0 : 0 < bytes)
    (p : α) (cs : List Value) (hs : a.eval s = v) (hx : a.eval x = .slice (some ⟨W.heap.size, 0, none⟩) 1 1) (hp : Kd.FK d W (fun _ => False) p cs) (hl : (xs.length + 1) * bytes ≤ 140737488355328)
    (h : ∀ v1 w1, Own w w1 (l.set j (.row d e v1 (xs ++ [p]))) → wpList P ops Q rest (a.put o.dst v1) w1) :
    wpList P ops Q (o :: rest) a (W.alloc (.cells cs.toArray e)) := by
  have hle := hO.ge
  obtain ⟨hB, col, hc⟩ := hO
  refine Kd.N_append d w.heap.size hgd s x t e z bytes ho ht hinfo hz hs0 hb0 v xs p cs (okc w.heap.size W col j) (fun _ => False) hs hx hp (fun _ hk => hk.elim) (fun k hk => ⟨Nat.le_trans hle hk, fun hlt => absurd hlt (Nat.not_lt.mpr hk)⟩) (hc j _ hj) hB hle hl ?_
  intro v1 w1 hr hb hg hat
  exact h v1 w1 (own_row hB hc j hj hg hr)
end
theorem set_same {α : Type 1} {l : List α} {i : Nat} {x : α} (h : l[i]? = some x) : l.set i x = l := by
  apply List.ext_getElem?
  intro k
  rw [List.getElem?_set]
  split
  · rename_i hk
    subst hk
    rw [if_pos (List.getElem?_eq_some_iff.1 h).1, h]
  · rfl
theorem upd_upd {α : Type 1} (l : List α) {i j : Nat} (h : i ≠ j) (a b c d : α) : (((l.set j a).set i b).set j c).set i d = (l.set j c).set i d := by
  rw [List.set_comm b c h, List.set_set, List.set_set]
theorem Own.row_ne {α : Type} {w W : World} {l : List Thing} {d : Kd α} {e g k : Nat} {o : Obj} {v : Value} {xs : List α} (h : Own w W l) (i j : Nat) (hi : l[i]? = some (.box g o)) (hj : l[j]? = some (.row d e v xs)) (hne : i ≠ j) (hk : v.ownBlock = some k) : k ≠ g := by
  obtain ⟨_, col, hc⟩ := h
  have hN : Kd.N d e W w.heap.size (okc w.heap.size W col j) v xs := hc j _ hj
  rintro rfl
  exact hne ((hc i _ hi).2.1.symm.trans ((hN.1 k hk).2 (Kd.N_lt hN k hk)))
/-! Cells behind a row's end. -/
theorem ownsRow_spare {w : World} {base n size g cap n' : Nat} {e : TypeId} {xs : List Value} : ∀ (vs : List Value) (o : Nat) {w : World}, n * size ≤ o → w.ownsRow base e size (.slice (some ⟨g, 0, none⟩) n cap) n xs → (w.setCells g o vs).ownsRow base e size (.slice (some ⟨g, 0, none⟩) n cap) n xs
  | [], _, _, _, h => h
  | u :: r, o, w, ho, h => by
    refine ownsRow_spare (w := w) (n' := n') r (o + 1) (by omega) ?_
    have h2 := (h.stored o u).1
    have h3 : xs.set o u = xs := List.set_eq_of_length_le (by rw [h.1]; omega)
    rwa [h3] at h2
theorem setCells_grown (g : Nat) : ∀ (vs : List Value) (o : Nat) (w : World), w.grownBy (w.setCells g o vs) (some g)
  | [], _, w => ⟨rfl, rfl, rfl, Nat.le_refl _, fun _ _ _ => rfl⟩
  | u :: r, o, w => by
    have h := setCells_grown g r (o + 1) (w.setCell ⟨g, o, none⟩ u)
    have h0 : (w.setCell ⟨g, o, none⟩ u).heap.size = w.heap.size := by simp
    refine ⟨h.os, h.tape, h.output, by have := h.size; rw [h0] at this; exact this, fun k hk hne => ?_⟩
    refine (h.block k (by rw [h0]; exact hk) hne).trans ?_
    exact Below.heap_setCell w ⟨g, o, none⟩ u k (fun e => hne (by rw [e]))
theorem N_spare {α : Type} {d : Kd α} {e base g n cap : Nat} {ok : Nat → Prop} {w : World} {xs : List α} (h : Kd.N d e w base ok (.slice (some ⟨g, 0, none⟩) n cap) xs) (vs : List Value) (o : Nat) (ho : n * d.sz ≤ o) :
    Kd.N d e (w.setCells g o vs) base ok (.slice (some ⟨g, 0, none⟩) n cap) xs ∧ w.grownBy (w.setCells g o vs) (some g) := by
  have hn := (Kd.N_reads' h).1
  have hg := setCells_grown g vs o w
  obtain ⟨h0, rows, hl, ⟨hk0, inner, hown, hreps⟩, hf⟩ := h
  refine ⟨⟨h0, rows, hl, ⟨hk0, inner, ?_, hreps⟩, fun j x c hx hc => ?_⟩, hg⟩
  · have hr : rows.length = n := by rw [hl, hn]
    rw [hr] at hown ⊢
    exact ownsRow_spare (w := w) (n' := 0) vs o ho hown
  · exact Kd.FK_step (hf j x c hx hc) (fun k hk hlt => hg.block k hlt (by simpa [Value.ownBlock] using hk.2))
/-- A cell of a row's block, up to its capacity. -/
theorem N_room {α : Type} {d : Kd α} {e base g n cap : Nat} {ok : Nat → Prop} {w : World} {xs : List α} (h : Kd.N d e w base ok (.slice (some ⟨g, 0, none⟩) n cap) xs) (j : Nat) (hj : j < cap * d.sz) :
    (w.cell? ⟨g, j, none⟩).isSome = true ∧ w.frozen? ⟨g, j, none⟩ = false := by
  obtain ⟨h0, rows, hl, ⟨hk0, inner, hown, hreps⟩, hf⟩ := h
  rcases hown.2 with ⟨h', _⟩ | ⟨g', cap', cur, h', _, hg, _, _, hs, _⟩
  · simp at h'
  · simp only [Value.slice.injEq, Option.some.injEq, Addr.mk.injEq, and_true, true_and] at h'
    obtain ⟨rfl, _, rfl⟩ := h'
    refine ⟨?_, ?_⟩
    · rw [blk_cell hg j]
      have hs' : cur.size = cap * d.sz := hs
      rw [Array.getElem?_eq_getElem (by omega)]
      rfl
    · exact blk_frozen hg j
theorem zeroCells_one (z : Array Value) (hz : 0 < z.size) : (Builtin.zeroCells z 1).toList = z.toList := by
  apply List.ext_getElem
  · simp [Builtin.zeroCells]
  · intro i h1 h2
    have hi : i < z.size := by simpa using h2
    simp [Builtin.zeroCells, Nat.mod_eq_of_lt hi, getElem!_pos z i hi]
/-- clear of one element. -/
theorem run_clear_one {P : Program} (w : World) (t e ty : TypeId) (z : Value) (ht : P.underlying t = some (.slice e)) (hv : ∀ w, (zeroValue e).run P w = .ok z w) (hz : 0 < z.cells.size) (h1 : ∀ u ∈ z.cells.toList, u.oneCell' = true) (b o c : Nat)
    (hc : ∀ j, j < z.cells.size → (w.cell? ⟨b, o + j, none⟩).isSome = true ∧ w.frozen? ⟨b, o + j, none⟩ = false) :
    (Builtin.clear_ #[t] ty #[.slice (some ⟨b, o, none⟩) 1 c]).run P w = .ok (.tuple #[]) (w.setCells b o z.cells.toList) := by
  have hzc := zeroCells_one z.cells hz
  have hst := run_storeCells_cells (P := P) b o z.cells.toList 0 w (fun j hj => by simpa using (hc j (by simpa using hj)).1) (fun j hj => by simpa using (hc j (by simpa using hj)).2) h1
  simp only [Nat.add_zero] at hst
  simp [Builtin.clear_, run_underlying ht, hv, hzc, hst]
/-- Elements that lead nowhere. -/
theorem N_flat {α : Type} {d : Kd α} {e base : Nat} {ok ok' : Nat → Prop} {w : World} {v : Value} {xs : List α} (hd : ∀ (W W' : World) (x : α) (c : List Value), d.K W x c → d.K W' x c) (h : Kd.N d e w base ok v xs) (hk : ∀ k, v.ownBlock = some k → ok' k) : Kd.N d e w base ok' v xs := by
  obtain ⟨h0, rows, hl, hR, hf⟩ := h
  exact ⟨hk, rows, hl, hR, fun j x c hx hc => fun W' _ => hd _ _ _ _ (Kd.FK_now (hf j x c hx hc))⟩
theorem N_empty {α : Type} (d : Kd α) (e : Nat) (W : World) (ok : Nat → Prop) (hok : ok W.heap.size) : Kd.N d e (W.alloc (.cells #[] e)) W.heap.size ok (.slice (some ⟨W.heap.size, 0, none⟩) 0 0) [] := by
  have h := World.ownsRow_made (base := W.heap.size) (size := d.sz) (e := e) W #[] 0 (Nat.le_refl _) (Nat.zero_le _) (by simp)
  refine ⟨fun k hk => ?_, [], rfl, ⟨fun k hk => hk.symm, [], h, Reps.none _ _⟩, fun j x c hx => by simp at hx⟩
  have : W.heap.size = k := by simpa [Value.ownBlock] using hk
  rw [← this]; exact hok
theorem flat_int (W W' : World) (x : Int) (c : List Value) (h : (Kd.int .i64).K W x c) : (Kd.int .i64).K W' x c := h
theorem N_nonnil {α : Type} {d : Kd α} {e base : Nat} {ok : Nat → Prop} {w : World} {v : Value} {xs : List α} (h : Kd.N d e w base ok v xs) : v = .slice none 0 0 ∧ xs = [] ∨ ∃ g c, v = .slice (some ⟨g, 0, none⟩) xs.length c ∧ xs.length ≤ c ∧ c ≤ maxLen := by
  obtain ⟨h0, rows, hl, ⟨hk0, inner, hown, hreps⟩, hf⟩ := h
  rcases hown.2 with ⟨h', h2⟩ | ⟨g', cap', cur, h', _, hg, hn, hm, hs, _⟩
  · exact .inl ⟨h', List.eq_nil_of_length_eq_zero (by omega)⟩
  · exact .inr ⟨g', cap', by rw [h', hl], by omega, hm⟩
end Go.Proofs.Ytchpagboglomoaa.Ownd
