/- Rows as cells: a row's cells written in a run; the builtin copy between rows at elements of any size; a row told by its cells. No program in sight. -/
import Derived.Test.YtchpagboglomoaaOMem
import Derived.Laws.IdiomCopy
import Derived.Deep.RegionLaw
namespace Go.Proofs.Ytchpagboglomoaa.Ownd
open Go.RowKit Go.Proofs.YtchpagboglomoaaW.PrintWords Go.Proofs.YtchpagboglomoaaW.PrintLast Go.Proofs.YtchpagboglomoaaW.PrintMore
set_option linter.unusedVariables false
set_option linter.unusedSimpArgs false
/-- A run of stores, cell by cell. -/
theorem setCells_block (g : Nat) (e : TypeId) : ∀ (vs : List Value) (o : Nat) (w : World) (cur : Array Value), w.heap[g]? = some (.cells cur e (0, 0)) →
    ∃ cur' : Array Value, (w.setCells g o vs).heap[g]? = some (.cells cur' e (0, 0)) ∧ cur'.size = cur.size ∧ ∀ k, cur'[k]? = if o ≤ k ∧ k < o + vs.length ∧ k < cur.size then vs[k - o]? else cur[k]?
  | [], o, w, cur, h => ⟨cur, h, rfl, fun k => by rw [if_neg (by simp only [List.length_nil]; omega)]⟩
  | u :: r, o, w, cur, h => by
    have h1 : (w.setCell ⟨g, o, none⟩ u).heap[g]? = some (.cells (cur.setIfInBounds o u) e (0, 0)) := heap_setCell_same w g o cur e u h
    obtain ⟨cur', h2, h3, h4⟩ := setCells_block g e r (o + 1) _ _ h1
    refine ⟨cur', h2, by rw [h3, Array.size_setIfInBounds], fun k => ?_⟩
    rw [h4 k, Array.size_setIfInBounds, List.length_cons]
    by_cases hk : o + 1 ≤ k ∧ k < o + 1 + r.length ∧ k < cur.size
    · rw [if_pos hk, if_pos (by omega)]
      obtain ⟨j, hj⟩ : ∃ j, k - o = j + 1 := ⟨k - o - 1, by omega⟩
      rw [hj, List.getElem?_cons_succ, show k - (o + 1) = j by omega]
    · rw [if_neg hk]
      by_cases he : k = o
      · subst he
        by_cases hs : k < cur.size
        · rw [if_pos (by omega), Nat.sub_self, List.getElem?_cons_zero, Array.getElem?_setIfInBounds_self_of_lt hs]
        · rw [if_neg (by omega), Array.getElem?_eq_none (by rw [Array.size_setIfInBounds]; omega), Array.getElem?_eq_none (by omega)]
      · rw [if_neg (by omega), Array.getElem?_setIfInBounds_ne (Ne.symm he)]
theorem setCells_drew (g : Nat) : ∀ (vs : List Value) (o : Nat) (w : World), (w.setCells g o vs).drew = w.drew.setCells g o vs
  | [], _, _ => rfl
  | u :: r, o, w => (setCells_drew g r (o + 1) (w.setCell ⟨g, o, none⟩ u)).trans rfl
/-- copy between rows, elements of any size. -/
theorem run_copy_sz {P : Program} (w : World) (dT sT ty elem : TypeId) (size g o dLen dCap : Nat) (ad : Addr) (sLen sCap m : Nat) (cs : List Value) (hu : P.underlying dT = some (.slice elem)) (hs : (P.info? elem).map (·.size) = some size) (hm : Nat.min sLen dLen = m)
    (hn : cs.length = m * size) (hsrc : ∀ j u, cs[j]? = some u → w.cell? (ad.add j) = some u) (hd : ∀ j, j < cs.length → (w.cell? ⟨g, o + j, none⟩).isSome = true ∧ w.frozen? ⟨g, o + j, none⟩ = false) (h1 : ∀ u ∈ cs, u.oneCell' = true) :
    (Builtin.copy_ #[dT, sT] ty #[.slice (some ⟨g, o, none⟩) dLen dCap, .slice (some ad) sLen sCap]).run P w = .ok (goInt m) (w.setCells g o cs) := by
  have hst := run_storeCells_cells (P := P) g o cs 0 w (fun j hj => by simpa using (hd j hj).1) (fun j hj => by simpa using (hd j hj).2) h1
  simp only [Nat.add_zero] at hst
  have hf := run_firstCells_some (P := P) w size m ad sLen sCap cs hn hsrc
  cases hq : P.info? elem with
  | none => simp [hq] at hs
  | some i =>
    have hi : i.size = size := by simpa [hq] using hs
    simp [Builtin.copy_, run_underlying hu, Builtin.lenOf, sizeOf, typeInfo, hq, hi, hm, hf, hst]
section
variable {P : Program} {ops : Array Oper} {rest : List Oper} {o : Oper} {a : Act} {w : World} {K : Act → World → Prop} {Q : Exit → Act → World → Prop} {E : Prop}
theorem wpList_copy_eq (hgd : o.guard = none) (d s : Operand) (t t' : TypeId) (ho : o.op = .call { callee := .builtin .copy, args := #[d, s], argTypes := #[t, t'] }) (v u : Value) (hd : a.eval d = v) (hs : a.eval s = u) {v' : Value} {w' : World}
    (hr : (Builtin.copy_ #[t, t'] o.type #[v, u]).run P w = .ok v' w') (h : wpList P ops Q rest (a.put o.dst v') w') : wpList P ops Q (o :: rest) a w :=
  wpList_plain hgd fun _ hK => by
    unfold Oper.wp execOp
    simp only [ho, resolve, invoke, builtin, Sem.run_bind, Sem.run_pure, Result.andThen_ok, List.map_toArray, List.map_cons, List.map_nil, hd, hs, hr]
    exact hK _ _ h
theorem step_copy_eq (hgd : o.guard = none) (d s : Operand) (t t' : TypeId) (ho : o.op = .call { callee := .builtin .copy, args := #[d, s], argTypes := #[t, t'] }) (v u : Value) (hd : a.eval d = v) (hs : a.eval s = u) {v' : Value} {w' : World}
    (hr : (Builtin.copy_ #[t, t'] o.type #[v, u]).run P w = .ok v' w') (h : K (a.put o.dst v') w') : if Region.wanted o (yielded ops a.tmps) = true then Oper.wp P o a w K Q else E := by
  rw [if_pos (by simp [Region.wanted, hgd])]
  unfold Oper.wp
  simp [execOp, ho, resolve, invoke, builtin, hd, hs, hr, Result.andThen]
  exact h
end
section
variable {α : Type} {d : Kd α} {e base n : Nat} {ok : Nat → Prop} {w : World} {v : Value} {xs : List α}
/-- A row's cells. -/
theorem N_own (h : Kd.N d e w base ok v xs) : ∃ inner, w.ownsRow base e d.sz v xs.length inner ∧ Reps (fun x c => d.K w x c) d.sz xs inner := by
  obtain ⟨h0, rows, hl, ⟨hk0, inner, hown, hreps⟩, hf⟩ := h
  rw [hl] at hown
  refine ⟨inner, hown, by rw [← hl]; exact hreps.1, fun j x hx => ?_⟩
  have hj : j < rows.length := by have := (List.getElem?_eq_some_iff.1 hx).1; omega
  have h1 := hreps.2 j _ (List.getElem?_eq_getElem hj)
  have h2 := Kd.FK_now (hf j x _ hx (List.getElem?_eq_getElem hj))
  rw [show (inner.drop (j * d.sz)).take d.sz = rows[j] from h1.1]
  exact h2
theorem own_block {g cap size : Nat} {inner : List Value} (h : w.ownsRow base e size (.slice (some ⟨g, 0, none⟩) n cap) n inner) : ∃ cur, w.heap[g]? = some (.cells cur e (0, 0)) ∧ cur.size = cap * size := by
  rcases h.2 with ⟨h', _⟩ | ⟨g', cap', cur, h', _, hg, _, _, hs, _⟩
  · simp at h'
  · simp only [Value.slice.injEq, Option.some.injEq, Addr.mk.injEq, and_true, true_and] at h'
    obtain ⟨rfl, rfl⟩ := h'
    exact ⟨cur, hg, hs⟩
/-- .. and back, for elements that lead nowhere. -/
theorem own_N {inner : List Value} (hd : ∀ (W W' : World) (x : α) (c : List Value), d.K W x c → d.K W' x c) (ho : w.ownsRow base e d.sz v n inner) (hn : n = xs.length) (hr : Reps (fun x c => d.K w x c) d.sz xs inner) (hk : ∀ k, v.ownBlock = some k → ok k) : Kd.N d e w base ok v xs := by
  subst hn
  refine ⟨hk, Kd.chunks d.sz xs.length inner, Kd.chunks_length _ _ _, ⟨fun k hk => hk.symm, inner, by rw [Kd.chunks_length]; exact ho, Kd.reps_raw hr (fun x c hp => ⟨d.K_len hp, d.K_one hp⟩)⟩, fun j x c hx hc => ?_⟩
  rw [Kd.chunks_get hc]
  exact fun W' _ => hd _ _ _ _ (hr.2 j x hx)
end
theorem insert_cell (inner pc : List Value) (i k : Nat) (hp : pc.length = 2) (hi : i * 2 ≤ inner.length) : (inner.take (i * 2) ++ (pc ++ inner.drop (i * 2)))[k]? = if k < i * 2 then inner[k]? else if k < (i + 1) * 2 then pc[k - i * 2]? else inner[k - 2]? := by
  have hl : (inner.take (i * 2)).length = i * 2 := by rw [List.length_take]; omega
  rw [List.getElem?_append, hl]
  by_cases h1 : k < i * 2
  · rw [if_pos h1, if_pos h1, List.getElem?_take, if_pos h1]
  · rw [if_neg h1, if_neg h1, List.getElem?_append, hp]
    by_cases h2 : k < (i + 1) * 2
    · rw [if_pos (by omega), if_pos h2]
    · rw [if_neg (by omega), if_neg h2, List.getElem?_drop, show i * 2 + (k - i * 2 - 2) = k - 2 by omega]
/-- Two cells put in at i, what stood there moved on. -/
theorem own_insert {w : World} {base g n c i : Nat} {e : TypeId} {inner pc : List Value} (h : w.ownsRow base e 2 (.slice (some ⟨g, 0, none⟩) n c) n inner) (hi : i ≤ n) (hc : n + 1 ≤ c) (hp : pc.length = 2) :
    ((w.setCells g ((i + 1) * 2) (inner.drop (i * 2))).setCells g (i * 2) pc).ownsRow base e 2 (.slice (some ⟨g, 0, none⟩) (n + 1) c) (n + 1) (inner.take (i * 2) ++ (pc ++ inner.drop (i * 2))) := by
  have hl := h.1
  rcases h.2 with ⟨h', _⟩ | ⟨g', cap', cur, h', hb, hg, _, hm, hs, ht⟩
  · simp at h'
  · simp only [Value.slice.injEq, Option.some.injEq, Addr.mk.injEq, and_true, true_and] at h'
    obtain ⟨rfl, rfl⟩ := h'
    obtain ⟨cur1, g1, s1, c1⟩ := setCells_block g e (inner.drop (i * 2)) ((i + 1) * 2) w cur hg
    obtain ⟨cur2, g2, s2, c2⟩ := setCells_block g e pc (i * 2) _ cur1 g1
    have hdl : (inner.drop (i * 2)).length = n * 2 - i * 2 := by rw [List.length_drop, hl]
    refine ⟨by simp only [List.length_append, List.length_take, List.length_drop, hp, hl]; omega, .inr ⟨g, c, cur2, rfl, hb, g2, hc, hm, by omega, ?_⟩⟩
    apply List.ext_getElem?
    intro k
    rw [List.getElem?_take, insert_cell inner pc i k hp (by omega)]
    by_cases hk : k < (n + 1) * 2
    · rw [if_pos hk, Array.getElem?_toList, c2 k, hp, s1]
      by_cases k1 : k < i * 2
      · rw [if_neg (by omega), c1 k, if_neg (by omega), if_pos k1, ← ht, List.getElem?_take, if_pos (by omega), Array.getElem?_toList]
      · rw [if_neg k1]
        by_cases k2 : k < (i + 1) * 2
        · rw [if_pos (by omega), if_pos k2]
        · rw [if_neg (by omega), if_neg k2, c1 k, hdl, if_pos (by omega), List.getElem?_drop, show i * 2 + (k - (i + 1) * 2) = k - 2 by omega]
    · rw [if_neg hk, if_neg (by omega), if_neg (by omega), List.getElem?_eq_none (by omega)]
/-- A run of stores into a row's block, at any place up to its capacity: the row, n' long, by its cells. -/
theorem ownsRow_set {w : World} {base g n n' cap size : Nat} {e : TypeId} {xs ys : List Value} (h : w.ownsRow base e size (.slice (some ⟨g, 0, none⟩) n cap) n xs) (o : Nat) (vs : List Value) (hn : n ≤ n') (hc : n' ≤ cap) (hfit : o + vs.length ≤ n' * size)
    (hy : ys.length = n' * size) (hcell : ∀ k, k < n' * size → (o ≤ k ∧ k < o + vs.length → ys[k]? = vs[k - o]?) ∧ (¬ (o ≤ k ∧ k < o + vs.length) → w.cell? ⟨g, k, none⟩ = ys[k]?)) :
    (w.setCells g o vs).ownsRow base e size (.slice (some ⟨g, 0, none⟩) n' cap) n' ys := by
  rcases h.2 with ⟨h', _⟩ | ⟨g', cap', cur, h', hb, hg, _, hm, hs, _⟩
  · simp at h'
  · simp only [Value.slice.injEq, Option.some.injEq, Addr.mk.injEq, and_true, true_and] at h'
    obtain ⟨rfl, rfl⟩ := h'
    obtain ⟨cur', h2, h3, h4⟩ := setCells_block g e vs o w cur hg
    refine ⟨hy, .inr ⟨g, cap, cur', rfl, hb, h2, hc, hm, by rw [h3, hs], ?_⟩⟩
    have hle : n' * size ≤ cap * size := Nat.mul_le_mul_right _ hc
    apply List.ext_getElem?
    intro k
    rw [List.getElem?_take]
    by_cases hk : k < n' * size
    · rw [if_pos hk, Array.getElem?_toList, h4 k]
      by_cases hin : o ≤ k ∧ k < o + vs.length
      · rw [if_pos ⟨hin.1, hin.2, by omega⟩]
        exact ((hcell k hk).1 hin).symm
      · rw [if_neg (fun hh => hin ⟨hh.1, hh.2.1⟩), ← (hcell k hk).2 hin, blk_cell hg k]
    · rw [if_neg hk, List.getElem?_eq_none (by omega)]
end Go.Proofs.Ytchpagboglomoaa.Ownd
