/- (*Device).Read. Condition: at most 1000000 writes wait. -/
import Derived.Test.YtegeaemkkbenfaaDoorDBack
import Derived.Test.YtegeaemkkbenfaaDoorDCopy
import Derived.Deep.QuietTactic
import Derived.BigQuiet
namespace Go.Proofs.YtegeaemkkbenfaaDoor.Ownd
open Go.RowKit Go.Proofs.YtegeaemkkbenfaaDoorW.PrintWords Go.Proofs.YtegeaemkkbenfaaDoorW.PrintLast Go.Proofs.YtegeaemkkbenfaaDoorW.PrintMore
set_option linter.unusedVariables false
set_option linter.unusedSimpArgs false
attribute [local go_sem] Oper.semAt_some
variable {w W : World} {post : List Thing} {d : Nat} {D : Dev}
/-- What was written last to sector i, of the writes l. -/
def lastW (l : List PW) (i : Int) : Option ByteArray := (l.reverse.find? (fun p => decide (p.1 = i))).map (·.2)
def Dev.get (D : Dev) (i : Int) : ByteArray := match lastW D.wait i with | some s => s | none => (D.last i).getD (Bld.zs 256)
def Dev.read (D : Dev) (i : Int) : ByteArray × Int :=
  if D.off = true then (⟨#[]⟩, 7) else if i < 0 ∨ (D.size : Int) ≤ i then (⟨#[]⟩, 1) else (D.get i, 0)
--CELLA
theorem cellA {W : World} {a : Addr} {v : Value} (o : Obj) (h : W.cell? a = some v) : (W.alloc o).cell? a = some v := cell_kept h (World.grownBy_alloc W o none) (fun r e => by cases e)
theorem frozenA {W : World} {a : Addr} {v : Value} (o : Obj) (h : W.cell? a = some v) (hf : W.frozen? a = false) : (W.alloc o).frozen? a = false := (frozen_kept h (World.grownBy_alloc W o none) (fun r e => by cases e)).trans hf
theorem cell_set_ne {W : World} {a b k : Nat} (h : a ≠ b) (v : Value) : (W.setCell ⟨a, k, none⟩ v).cell? ⟨b, 0, none⟩ = W.cell? ⟨b, 0, none⟩ := World.cell?_of_block (Below.heap_setCell W ⟨a, k, none⟩ v b (Ne.symm h))
theorem rev_upto (l : List PW) : l.reverse = (Back.upto l.length l.length).map (Back.at_ l) := by
  apply List.ext_getElem
  · simp [Back.upto]
  · intro k h1 h2
    have hk : k < l.length := by simpa using h1
    simp only [Back.upto, List.getElem_map, List.getElem_range, List.getElem_reverse, Back.at_]
    rw [List.getD_eq_getElem?_getD, List.getElem?_eq_getElem (by omega), Option.getD_some]
theorem lastW_none {l : List PW} {i : Int} (h : ∀ j ∈ Back.upto l.length l.length, (Back.at_ l j).1 ≠ i) : lastW l i = none := by
  unfold lastW
  rw [rev_upto, List.find?_eq_none.mpr]
  · rfl
  · intro x hx
    obtain ⟨j, hj, rfl⟩ := List.mem_map.mp hx
    simpa using h j hj
theorem lastW_some {l : List PW} {i : Int} {k : Nat} (hk : k ≤ l.length) {ini : List Nat} {last : Nat} (e : Back.upto l.length k = ini ++ [last]) (h : ∀ j ∈ ini, (Back.at_ l j).1 ≠ i) (hl : (Back.at_ l last).1 = i) : lastW l i = some (Back.at_ l last).2 := by
  unfold lastW
  have hsplit : Back.upto l.length l.length = Back.upto l.length k ++ ((List.range l.length).drop k).map (fun t => l.length - 1 - t) := by
    unfold Back.upto
    rw [← List.map_append]
    congr 1
    rw [show List.range k = (List.range l.length).take k by rw [List.take_range, Nat.min_eq_left hk], List.take_append_drop]
  rw [rev_upto, hsplit, e, List.map_append, List.map_append, List.find?_append, List.find?_append, List.find?_eq_none.mpr]
  · simp [hl]
  · intro x hx
    obtain ⟨j, hj, rfl⟩ := List.mem_map.mp hx
    simpa using h j hj
theorem ws_of {l : List Thing} {v : Value} {xs : List PW} (h : Own w W l) (j : Nat) (hj : l[j]? = some (.row kW 94 v xs)) : Back.Ws W.heap.size W v xs := by
  by_cases h0 : xs.length = 0
  · have hx := List.eq_nil_of_length_eq_zero h0
    obtain ⟨ok, hN⟩ := h.N j hj
    rcases N_nonnil hN with ⟨h1, _⟩ | ⟨g, c', h', _⟩
    · exact .inl ⟨0, h1, hx⟩
    · exact .inr ⟨g, c', h', Kd.N_lt hN g (by rw [h']; rfl), fun k hk => absurd hk (by omega)⟩
  · obtain ⟨g, c, e, _, _⟩ := write_at h j hj 0 (by omega)
    have hlt : g < W.heap.size := World.block_lt_of_cell? W ⟨g, 0 * 2, none⟩ (by assumption)
    refine .inr ⟨g, c, e, hlt, fun k hk => ?_⟩
    obtain ⟨g', c', e', x1, x2⟩ := write_at h j hj k hk
    rw [e] at e'
    simp only [Value.slice.injEq, Option.some.injEq, Addr.mk.injEq, and_true, true_and] at e'
    obtain ⟨rfl, -⟩ := e'
    have ha : Back.at_ xs k = xs[k] := by simp [Back.at_, List.getD_eq_getElem?_getD, List.getElem?_eq_getElem hk]
    rw [ha]
    exact ⟨x1, x2⟩
set_option maxHeartbeats 8000000 in
set_option maxRecDepth 100000 in
theorem read_in (h : HasD w W post d D) (hl : D.wait.length ≤ 1000000) (i : Int) (hoff : D.off = false) (h0 : 0 ≤ i) (h1 : i < (D.size : Int)) :
    Calls Tryd.prog 28 #[.pointer (some ⟨d, 0, none⟩), .int .i64 i] W fun ex W' => ex = .returned (.tuple #[.string (D.get i), .int .i64 0]) ∧ Below W.heap.size W W' := by
  obtain ⟨r, vw, vk, es, clk, hm, hO⟩ := h
  obtain ⟨Aw, cw, rfl, -, -⟩ := hO.reads 2 rfl
  have c0 : W.cell? ⟨d, 0, none⟩ = some (.int .i64 D.size) := hO.cell 0 rfl 0
  have c1 : W.cell? ⟨d, 1, none⟩ = some (.map (some r)) := hO.cell 0 rfl 1
  have c2 : W.cell? ⟨d, 2, none⟩ = some (.slice Aw D.wait.length cw) := hO.cell 0 rfl 2
  have c3 : W.cell? ⟨d, 3, none⟩ = some (.bool D.off) := hO.cell 0 rfl 3
  rw [hoff] at c3
  refine (callsIn_wide (n := 3)).1 ?_
  refine callsIn_of_wp_marks Tryd.func28 rfl trivial ?_ rfl
  simp only [Tryd.ntmps28, List.size_toArray, List.length_cons, List.length_nil, Nat.reduceAdd, Nat.reduceSub, Array.replicate_succ, Array.replicate_zero, List.push_toArray, List.append_toArray, List.nil_append, List.cons_append]
  refine wpIn_wide.2 ?_
  go_upto_block 0 with fail
  have hO3 := ((hO.room.alloc 4 rfl (.cells #[.int .i64 i] 3)).below (below_alloc (Below.refl _ _) (.cells #[.string ⟨#[]⟩] 9))).below (below_alloc (Below.refl _ _) (.cells #[.int .i64 0] 24))
  have hB3 : Below W.heap.size W (((W.alloc (.cells #[.int .i64 i] 3)).alloc (.cells #[.string ⟨#[]⟩] 9)).alloc (.cells #[.int .i64 0] 24)) := (((Below.refl _ W).alloc (Nat.le_refl _) _).alloc (by simp) _).alloc (by simp; omega) _
  have s1 : (((W.alloc (.cells #[.int .i64 i] 3)).alloc (.cells #[.string ⟨#[]⟩] 9)).alloc (.cells #[.int .i64 0] 24)).cell? ⟨W.heap.size, 0, none⟩ = some (.int .i64 i) := hO3.cell 4 rfl 0
  have b2 := (Boxed.new (W.alloc (.cells #[.int .i64 i] 3)) 9 (.string ⟨#[]⟩)).alloc (.cells #[.int .i64 0] 24)
  have b3 := Boxed.new ((W.alloc (.cells #[.int .i64 i] 3)).alloc (.cells #[.string ⟨#[]⟩] 9)) 24 (.int .i64 0)
  have e1 : (W.alloc (.cells #[.int .i64 i] 3)).heap.size = W.heap.size + 1 := by simp
  have e2 : ((W.alloc (.cells #[.int .i64 i] 3)).alloc (.cells #[.string ⟨#[]⟩] 9)).heap.size = W.heap.size + 1 + 1 := by simp
  rw [e1] at b2
  rw [e2] at b3
  have s2 := b2.cell
  have f2 := b2.frozen
  have s3 := b3.cell
  have f3 := b3.frozen
  have hbs : W.heap.size ≤ W.heap.size + 1 := by omega
  have hbe : W.heap.size ≤ W.heap.size + 1 + 1 := by omega
  have hse : W.heap.size + 1 ≠ W.heap.size + 1 + 1 := by omega
  have HO := Aside0.mk hO3
  have HB3 := Aside0.mk hB3
  have HM := Aside0.mk hm
  clear c0 c1 c2 c3 hO hO3 hB3 hm b2 b3 e1 e2
  generalize ((W.alloc (.cells #[.int .i64 i] 3)).alloc (.cells #[.string ⟨#[]⟩] 9)).alloc (.cells #[.int .i64 0] 24) = W3 at HO HB3 s1 s2 f2 s3 f3 ⊢
  generalize W.heap.size + 1 + 1 = be at hbe hse s3 f3 ⊢
  generalize W.heap.size + 1 = bs at hbs hse s2 f2 ⊢
  obtain ⟨bi, hbi⟩ : ∃ bi, W.heap.size = bi := ⟨_, rfl⟩
  rw [hbi] at s1 HO
  simp only [hbi]
  have c0 : W3.cell? ⟨d, 0, none⟩ = some (.int .i64 D.size) := HO.out.cell 0 rfl 0
  have c1 : W3.cell? ⟨d, 1, none⟩ = some (.map (some r)) := HO.out.cell 0 rfl 1
  have c2 : W3.cell? ⟨d, 2, none⟩ = some (.slice Aw D.wait.length cw) := HO.out.cell 0 rfl 2
  have c3 : W3.cell? ⟨d, 3, none⟩ = some (.bool D.off) := HO.out.cell 0 rfl 3
  rw [hoff] at c3
  have d1 : decide (i < 0) = false := decide_eq_false (by omega)
  have d2 : decide ((D.size : Int) ≤ i) = false := decide_eq_false (by omega)
  go_upto_region 5 with fail
  go_quiet (fail)
  have HO4 := Aside0.mk (HO.out.below (pw_below_drewN (Below.refl _ _) nq))
  have HB4 := Aside0.mk (HB3.out.trans (pw_below_drewN (Below.refl W.heap.size W3) nq))
  have c2' : (W3.drewN nq).cell? ⟨d, 2, none⟩ = some (.slice Aw D.wait.length cw) := c2
  have s1' : (W3.drewN nq).cell? ⟨bi, 0, none⟩ = some (.int .i64 i) := s1
  have s2' : (W3.drewN nq).cell? ⟨bs, 0, none⟩ = some (.string ⟨#[]⟩) := s2
  have s3' : (W3.drewN nq).cell? ⟨be, 0, none⟩ = some (.int .i64 0) := s3
  have f2' : (W3.drewN nq).frozen? ⟨bs, 0, none⟩ = false := f2
  have f3' : (W3.drewN nq).frozen? ⟨be, 0, none⟩ = false := f3
  clear HO HB3 c0 c1 c2 c3 s1 s2 s3 f2 f3 d1 d2
  generalize W3.drewN nq = W4 at HO4 HB4 c2' s1' s2' s3' f2' f3' ⊢
  go_wp2_with (go_at_call 45; refine (Back.back_calls _ _ _ W4).mono ?_; rintro e W5 ⟨rfl, hW5⟩; rw [hW5]; clear hW5)
  have HO5 := Aside0.mk (HO4.out.below (below_alloc (Below.refl _ _) (.cells #[.slice Aw D.wait.length cw] 57)))
  have hB5 : Below bi W (W4.alloc (.cells #[.slice Aw D.wait.length cw] 57)) := by rw [← hbi]; exact HB4.out.alloc HB4.out.size _
  have cB : (W4.alloc (.cells #[.slice Aw D.wait.length cw] 57)).cell? ⟨W4.heap.size, 0, none⟩ = some (.slice Aw D.wait.length cw) := (blk_cell (blk_new W4 _) 0).trans rfl
  have t1 := cellA (.cells #[.slice Aw D.wait.length cw] 57) s1'
  have t2 := cellA (.cells #[.slice Aw D.wait.length cw] 57) s2'
  have t3 := cellA (.cells #[.slice Aw D.wait.length cw] 57) s3'
  have u2 := frozenA (.cells #[.slice Aw D.wait.length cw] 57) s2' f2'
  have u3 := frozenA (.cells #[.slice Aw D.wait.length cw] 57) s3' f3'
  have hsz : (W4.alloc (.cells #[.slice Aw D.wait.length cw] 57)).heap.size = W4.heap.size + 1 := by simp
  have hBs : W4.heap.size < W4.heap.size + 1 := Nat.lt_succ_self _
  have hlow : bi ≤ W4.heap.size + 1 := by rw [← hbi]; exact Nat.le_succ_of_le HB4.out.size
  clear HO4 HB4 c2' s1' s2' s3' f2' f3'
  generalize W4.alloc (.cells #[.slice Aw D.wait.length cw] 57) = W5 at HO5 hB5 cB t1 t2 t3 u2 u3 hsz ⊢
  generalize hn0 : W4.heap.size + 1 = n0 at hsz hBs hlow
  clear hn0
  generalize W4.heap.size = Bs at cB hBs ⊢
  have hWs : Back.Ws n0 W5 (.slice Aw D.wait.length cw) D.wait := hsz ▸ ws_of HO5.out 2 rfl
  have hle : n0 ≤ W5.heap.size := Nat.le_of_eq hsz.symm
  have hbi2 : bi ≤ W.heap.size := Nat.le_of_eq hbi.symm
  have hbi3 : bi ≤ W5.heap.size := Nat.le_trans hlow hle
  refine (wpIn_wide (n := 3)).1 ?_
  refine wpIn_rangeFunc_ownH (α := Nat) (F := Fence.wide) (n := 3) rfl (by decide) (gf := 54) (lb := #[.pointer (some ⟨Bs, 0, none⟩)]) rfl trivial (Go.Proofs.enters_of Tryd.func54 (by kernel_rfl) rfl)
    (Back.back_stops Fence.wide 2 trivial rfl (by decide) Bs n0 _ D.wait hl W5 hBs hle cB hWs) belowK_t (belowK_b hle) (Below.refl _ _) (fun _ => rfl)
    (fun pre W' => ((∀ j ∈ pre, (Back.at_ D.wait j).1 ≠ i) ∧ W'.cell? ⟨bi, 0, none⟩ = some (.int .i64 i) ∧ W'.cell? ⟨bs, 0, none⟩ = some (.string ⟨#[]⟩) ∧ W'.frozen? ⟨bs, 0, none⟩ = false ∧ W'.cell? ⟨be, 0, none⟩ = some (.int .i64 0) ∧ W'.frozen? ⟨be, 0, none⟩ = false) ∧ (Below bi W W' ∧ Below n0 W5 W'))
    (fun c pre W' => (c = .ret ∧ ∃ ini last, pre = ini ++ [last] ∧ (∀ j ∈ ini, (Back.at_ D.wait j).1 ≠ i) ∧ (Back.at_ D.wait last).1 = i ∧ W'.cell? ⟨bs, 0, none⟩ = some (.string (Back.at_ D.wait last).2) ∧ W'.cell? ⟨be, 0, none⟩ = some (.int .i64 0)) ∧ Below bi W W')
    (OwnFrom.and (Own.from (fun s A B row hs hg hr => ⟨hs.1, cell_kept hs.2.1 hg hr, cell_kept hs.2.2.1 hg hr, (frozen_kept hs.2.2.1 hg hr).trans hs.2.2.2.1, cell_kept hs.2.2.2.2.1 hg hr, (frozen_kept hs.2.2.2.2.1 hg hr).trans hs.2.2.2.2.2⟩) _) (OwnFrom.and (ownFrom_below hbi2 hbi3) (ownFrom_below hle hle)))
    (fun c => OwnFrom.and (Own.from (fun s A B row hs hg hr => by obtain ⟨hc, ini, last, e1, e2, e3, e4, e5⟩ := hs; exact ⟨hc, ini, last, e1, e2, e3, cell_kept e4 hg hr, cell_kept e5 hg hr⟩) _) (ownFrom_below hbi2 hbi3))
    ⟨⟨by simp, t1, t2, u2, t3, u3⟩, hB5, Below.refl _ _⟩
    (fun x a' W' => ∃ Bx : Nat, a' = { tmps := #[.pointer (some ⟨d, 0, none⟩), .int .i64 i, undef, .pointer (some ⟨bi, 0, none⟩), .pointer (some ⟨bs, 0, none⟩), .pointer (some ⟨be, 0, none⟩), undef, .pointer (some ⟨Bx, 0, none⟩), undef, undef, .bool false, .pointer (some ⟨d, 0, none⟩), .bool false, .bool false,
      .pointer (some ⟨d, 0, none⟩), .pointer (some ⟨d, 0, none⟩), .pointer (some ⟨d, 3, none⟩), .bool false, .bool false, .int .i64 i, .bool false, .bool false, .int .i64 i, .pointer (some ⟨d, 0, none⟩), .pointer (some ⟨d, 0, none⟩), .pointer (some ⟨d, 0, none⟩), .int .i64 D.size, .bool false, .bool false,
      .pointer (some ⟨d, 0, none⟩), .pointer (some ⟨d, 0, none⟩), .pointer (some ⟨d, 2, none⟩), .slice Aw D.wait.length cw, .func (.func 54) #[] #[.pointer (some ⟨Bs, 0, none⟩)], .int .i64 (x : Int), .agg #[.int .i64 (Back.at_ D.wait x).1, .string (Back.at_ D.wait x).2], undef, undef, undef, undef, undef, undef, undef, undef, undef, undef, undef, undef, undef, undef, undef, undef, undef, undef], defers := [] } ∧
      W'.cell? ⟨Bx, 0, none⟩ = some (.int .i64 (Back.at_ D.wait x).1) ∧ W'.cell? ⟨Bx, 1, none⟩ = some (.string (Back.at_ D.wait x).2))
    (fun x a' => Own.from (fun s A B row hs hg hr => by obtain ⟨Bx, e, e1, e2⟩ := hs; exact ⟨Bx, e, cell_kept e1 hg hr, cell_kept e2 hg hr⟩) _)
    ?assign ?body ?done ?stop
  case assign =>
    rintro l pre x W' K ⟨⟨hp, g1, g2, v2, g3, v3⟩, hb1, hb2⟩ hK
    unfold Back.encs
    generalize Back.at_ D.wait x = q at hK ⊢
    gi_wp2
    exact hK _ _ ((KeepsOthers.alloc _ _).from _) ((Below.refl _ W').alloc (Nat.le_trans hle hb2.size) _) ⟨⟨hp, cellA _ g1, cellA _ g2, frozenA _ g2 v2, cellA _ g3, frozenA _ g3 v3⟩, hb1.alloc (Nat.le_trans hbi2 hb1.size) _, hb2.alloc (Nat.le_trans hle hb2.size) _⟩ ⟨W'.heap.size, rfl, (blk_cell (blk_new W' _) 0).trans rfl, (blk_cell (blk_new W' _) 1).trans rfl⟩
  case body =>
    rintro l pre x a' W' hl1 hr ⟨⟨hp, g1, g2, v2, g3, v3⟩, hb1, hb2⟩ ⟨Bx, rfl, x1, x2⟩ hlt
    by_cases hx : (Back.at_ D.wait x).1 = i
    · have hxx : Back.at_ D.wait x = (i, (Back.at_ D.wait x).2) := Prod.ext hx rfl
      have HX := Aside0.mk hxx
      have HP := Aside0.mk hp
      rw [hx] at x1
      clear hx hxx hp hr hlt
      generalize hdt : (Back.at_ D.wait x).2 = dt at x2 HX
      have hdt' := Aside0.mk hdt
      clear hdt
      gi_wp2
      have hs1 : (W'.setCell ⟨bs, 0, none⟩ (.string dt)).cell? ⟨bs, 0, none⟩ = some (.string dt) := World.cell?_setCell_same' _ _ _ (by rw [g2]; rfl)
      have hs2 : (W'.setCell ⟨bs, 0, none⟩ (.string dt)).cell? ⟨be, 0, none⟩ = some (.int .i64 0) := (cell_set_ne hse _).trans g3
      have hs3 := World.cell?_setCell_same' (W'.setCell ⟨bs, 0, none⟩ (.string dt)) ⟨be, 0, none⟩ (.int .i64 0) (by rw [hs2]; rfl)
      have hs4 : ((W'.setCell ⟨bs, 0, none⟩ (.string dt)).setCell ⟨be, 0, none⟩ (.int .i64 0)).cell? ⟨bs, 0, none⟩ = some (.string dt) := (cell_set_ne hse.symm _).trans hs1
      exact ⟨((KeepsOthers.setCell _ _ _).trans (KeepsOthers.setCell _ _ _)).from _, ⟨rfl, pre, x, rfl, HP.out, by rw [HX.out], by rw [hdt'.out]; exact hs4, hs3⟩, (hb1.setCell (p := ⟨bs, 0, none⟩) (hbi ▸ hbs) _).setCell (p := ⟨be, 0, none⟩) (hbi ▸ hbe) _⟩
    · have HX := Aside0.mk hx
      have HP := Aside0.mk hp
      have hne : ((Back.at_ D.wait x).1 == i) = false := by simp [hx]
      clear hp hr hlt
      generalize (Back.at_ D.wait x).1 = sc at x1 hx hne
      gi_wp2
      exact ⟨KeepsFrom.refl _ _, Below.refl _ _, ⟨fun j hj => (List.mem_append.mp hj).elim (HP.out j) (fun e => by rw [List.mem_singleton.mp e]; exact HX.out), g1, g2, v2, g3, v3⟩, hb1, hb2⟩
  case done =>
    rintro E ys W' hE rfl ⟨⟨hp, g1, g2, v2, g3, v3⟩, hb1, hb2⟩ hK
    have HN := Aside0.mk (lastW_none hp)
    have HO := Aside0.mk (HO5.out.below (hsz ▸ hb2))
    clear HO5 hp t1 t2 t3 u2 u3 cB hWs hB5
    have c1 : W'.cell? ⟨d, 1, none⟩ = some (.map (some r)) := HO.out.cell 0 rfl 1
    have hlk : ∀ q, (Instr.lookup 56 (.map (some r)) (.int .i64 i) true).run Tryd.prog (W'.drewN q) = .ok (.tuple #[.string ((D.last i).getD ⟨#[]⟩), .bool (D.last i).isSome]) (W'.drewN q) := fun q => HM.out.look Tryd.underlying56 Tryd.underlying3 (Tryd.zeroValue9 _) ((HO.out.below (pw_below_drewN (Below.refl _ _) q)).box 1 rfl) i
    go_wp2_with fail
    go_quiet (fail)
    have hK6 : (W'.drewN nq).heap[E]? = some (.deferred (some [])) := hK
    have g2' : (W'.drewN nq).cell? ⟨bs, 0, none⟩ = some (.string ⟨#[]⟩) := g2
    have g3' : (W'.drewN nq).cell? ⟨be, 0, none⟩ = some (.int .i64 0) := g3
    have v2' : (W'.drewN nq).frozen? ⟨bs, 0, none⟩ = false := v2
    have v3' : (W'.drewN nq).frozen? ⟨be, 0, none⟩ = false := v3
    have hb6 : Below bi W (W'.drewN nq) := hb1.trans (pw_below_drewN (Below.refl bi W') nq)
    clear hK g1 g2 g3 v2 v3 hb1 hb2 c1 hlk HO
    generalize W'.drewN nq = W6 at hK6 g2' g3' v2' v3' hb6 ⊢
    cases hlast : D.last i with
    | some s =>
      have HG : Aside0 (D.get i = s) := ⟨by unfold Dev.get; rw [HN.out, hlast]; rfl⟩
      simp only [Option.getD_some, Option.isSome_some]
      go_wp2
      have hs1 : (W6.setCell ⟨bs, 0, none⟩ (.string s)).cell? ⟨bs, 0, none⟩ = some (.string s) := World.cell?_setCell_same' _ _ _ (by rw [g2']; rfl)
      have hs2 : (W6.setCell ⟨bs, 0, none⟩ (.string s)).cell? ⟨be, 0, none⟩ = some (.int .i64 0) := (cell_set_ne hse _).trans g3'
      have hs3 := World.cell?_setCell_same' (W6.setCell ⟨bs, 0, none⟩ (.string s)) ⟨be, 0, none⟩ (.int .i64 0) (by rw [hs2]; rfl)
      have hs4 : ((W6.setCell ⟨bs, 0, none⟩ (.string s)).setCell ⟨be, 0, none⟩ (.int .i64 0)).cell? ⟨bs, 0, none⟩ = some (.string s) := (cell_set_ne hse.symm _).trans hs1
      have hK2 := (KeepsOthers.setCell (W6.setCell ⟨bs, 0, none⟩ (.string s)) ⟨be, 0, none⟩ (.int .i64 0)).same E _ ((KeepsOthers.setCell W6 ⟨bs, 0, none⟩ (.string s)).same E _ hK6 rfl) rfl
      have hBf := ((hb6.setCell (p := ⟨bs, 0, none⟩) (hbi ▸ hbs) (.string s)).setCell (p := ⟨be, 0, none⟩) (hbi ▸ hbe) (.int .i64 0))
      generalize (W6.setCell ⟨bs, 0, none⟩ (.string s)).setCell ⟨be, 0, none⟩ (.int .i64 0) = Wf at hs3 hs4 hK2 hBf ⊢
      have hc4 := cell_kept hs4 (grownBy_putObj' Wf E (.deferred none)) (fun r e => by cases e; exact ⟨_, hK2, rfl⟩)
      have hc5 := cell_kept hs3 (grownBy_putObj' Wf E (.deferred none)) (fun r e => by cases e; exact ⟨_, hK2, rfl⟩)
      refine ⟨by simp, .inl ⟨_, _, rfl, run_takeDeferred hK2, ?_⟩⟩
      refine ⟨.tuple #[.string s, .int .i64 0], ?_, by rw [HG.out], hbi.symm ▸ hBf.trans (belowK_b (w := W5) hbi3 Wf E _ _ hE hK2 rfl rfl)⟩
      simp [results, Tryd.f28, go_sem, hc4, hc5]
    | none =>
      have HG : Aside0 (D.get i = Bld.zs 256) := ⟨by unfold Dev.get; rw [HN.out, hlast]; rfl⟩
      simp only [Option.getD_none, Option.isSome_none]
      go_wp2_with (go_at_call 46; refine (Bld.rep_calls 256 (by decide) W6).mono ?_; rintro e W7 ⟨rfl, hb7⟩; have g2'' : W7.cell? ⟨bs, 0, none⟩ = some (.string ⟨#[]⟩) := (hb7.cell (World.block_lt_of_cell? W6 ⟨bs, 0, none⟩ g2')).trans g2'; have v2'' : W7.frozen? ⟨bs, 0, none⟩ = false := (hb7.frozen (World.block_lt_of_cell? W6 ⟨bs, 0, none⟩ g2')).trans v2'; have g3'' : W7.cell? ⟨be, 0, none⟩ = some (.int .i64 0) := (hb7.cell (World.block_lt_of_cell? W6 ⟨be, 0, none⟩ g3')).trans g3'; have v3'' : W7.frozen? ⟨be, 0, none⟩ = false := (hb7.frozen (World.block_lt_of_cell? W6 ⟨be, 0, none⟩ g3')).trans v3')
      have hK8 : W7.heap[E]? = some (.deferred (some [])) := (hb7.block E (Array.getElem?_eq_some_iff.1 hK6).1).trans hK6
      have hb8 : Below bi W W7 := hb6.trans (hb7.mono (hbi ▸ hb6.size))
      have hs1 : (W7.setCell ⟨bs, 0, none⟩ (.string (Bld.zs 256))).cell? ⟨bs, 0, none⟩ = some (.string (Bld.zs 256)) := World.cell?_setCell_same' _ _ _ (by rw [g2'']; rfl)
      have hs2 : (W7.setCell ⟨bs, 0, none⟩ (.string (Bld.zs 256))).cell? ⟨be, 0, none⟩ = some (.int .i64 0) := (cell_set_ne hse _).trans g3''
      have hs3 := World.cell?_setCell_same' (W7.setCell ⟨bs, 0, none⟩ (.string (Bld.zs 256))) ⟨be, 0, none⟩ (.int .i64 0) (by rw [hs2]; rfl)
      have hs4 : ((W7.setCell ⟨bs, 0, none⟩ (.string (Bld.zs 256))).setCell ⟨be, 0, none⟩ (.int .i64 0)).cell? ⟨bs, 0, none⟩ = some (.string (Bld.zs 256)) := (cell_set_ne hse.symm _).trans hs1
      have hK2 := (KeepsOthers.setCell (W7.setCell ⟨bs, 0, none⟩ (.string (Bld.zs 256))) ⟨be, 0, none⟩ (.int .i64 0)).same E _ ((KeepsOthers.setCell W7 ⟨bs, 0, none⟩ (.string (Bld.zs 256))).same E _ hK8 rfl) rfl
      have hBf := ((hb8.setCell (p := ⟨bs, 0, none⟩) (hbi ▸ hbs) (.string (Bld.zs 256))).setCell (p := ⟨be, 0, none⟩) (hbi ▸ hbe) (.int .i64 0))
      generalize (W7.setCell ⟨bs, 0, none⟩ (.string (Bld.zs 256))).setCell ⟨be, 0, none⟩ (.int .i64 0) = Wf at hs3 hs4 hK2 hBf ⊢
      have hc4 := cell_kept hs4 (grownBy_putObj' Wf E (.deferred none)) (fun r e => by cases e; exact ⟨_, hK2, rfl⟩)
      have hc5 := cell_kept hs3 (grownBy_putObj' Wf E (.deferred none)) (fun r e => by cases e; exact ⟨_, hK2, rfl⟩)
      refine ⟨by simp, .inl ⟨_, _, rfl, run_takeDeferred hK2, ?_⟩⟩
      refine ⟨.tuple #[.string (Bld.zs 256), .int .i64 0], ?_, by rw [HG.out], hbi.symm ▸ hBf.trans (belowK_b (w := W5) hbi3 Wf E _ _ hE hK2 rfl rfl)⟩
      simp [results, Tryd.f28, go_sem, hc4, hc5]
  case stop =>
    rintro E c pre W' hE ⟨k, hk, rfl⟩ ⟨⟨rfl, ini, last, e1, e2, e3, g2, g3⟩, hb1⟩ hK
    have HG : Aside0 (D.get i = (Back.at_ D.wait last).2) := ⟨by unfold Dev.get; rw [lastW_some hk e1 e2 e3]⟩
    clear e1 e2 e3
    generalize (Back.at_ D.wait last).2 = s at HG g2
    refine wpIn_wide.2 ?_
    go_wp2_with fail
    have hc4 := cell_kept g2 (grownBy_putObj' W' E (.deferred none)) (fun r e => by cases e; exact ⟨_, hK, rfl⟩)
    have hc5 := cell_kept g3 (grownBy_putObj' W' E (.deferred none)) (fun r e => by cases e; exact ⟨_, hK, rfl⟩)
    refine ⟨by simp, .inl ⟨_, _, rfl, run_takeDeferred hK, ?_⟩⟩
    refine ⟨.tuple #[.string s, .int .i64 0], ?_, by rw [HG.out], hbi.symm ▸ hb1.trans (belowK_b (w := W5) hbi3 W' E _ _ hE hK rfl rfl)⟩
    simp [results, Tryd.f28, go_sem, hc4, hc5]
theorem three (W : World) (i e : Int) : (((W.alloc (.cells #[.int .i64 i] 3)).alloc (.cells #[.string ⟨#[]⟩] 9)).alloc (.cells #[.int .i64 e] 24)).cell? ⟨W.heap.size + 1, 0, none⟩ = some (.string ⟨#[]⟩) ∧ (((W.alloc (.cells #[.int .i64 i] 3)).alloc (.cells #[.string ⟨#[]⟩] 9)).alloc (.cells #[.int .i64 e] 24)).cell? ⟨W.heap.size + 1 + 1, 0, none⟩ = some (.int .i64 e) ∧
    Below W.heap.size W (((W.alloc (.cells #[.int .i64 i] 3)).alloc (.cells #[.string ⟨#[]⟩] 9)).alloc (.cells #[.int .i64 e] 24)) := by
  have e1 : (W.alloc (.cells #[.int .i64 i] 3)).heap.size = W.heap.size + 1 := by simp
  have e2 : ((W.alloc (.cells #[.int .i64 i] 3)).alloc (.cells #[.string ⟨#[]⟩] 9)).heap.size = W.heap.size + 1 + 1 := by simp
  have b2 := (Boxed.new (W.alloc (.cells #[.int .i64 i] 3)) 9 (.string ⟨#[]⟩)).alloc (.cells #[.int .i64 e] 24)
  have b3 := Boxed.new ((W.alloc (.cells #[.int .i64 i] 3)).alloc (.cells #[.string ⟨#[]⟩] 9)) 24 (.int .i64 e)
  rw [e1] at b2
  rw [e2] at b3
  exact ⟨b2.cell, b3.cell, (((Below.refl _ W).alloc (Nat.le_refl _) _).alloc (by simp) _).alloc (by simp; omega) _⟩
set_option maxHeartbeats 4000000 in
set_option maxRecDepth 100000 in
theorem read_nil (i : Int) : Calls Tryd.prog 28 #[.pointer none, .int .i64 i] W fun ex W' => ex = .returned (.tuple #[.string ⟨#[]⟩, .int .i64 1]) ∧ Below W.heap.size W W' := by
  go_enter Tryd.func28, Tryd.ntmps28
  go_wp2
  obtain ⟨q1, q2, q3⟩ := three W i 1
  refine bodyPost_ret (v := .tuple #[.string ⟨#[]⟩, .int .i64 1]) (by simp [results, Tryd.f28, go_sem, q1, q2]) rfl ⟨rfl, q3⟩
set_option maxHeartbeats 4000000 in
set_option maxRecDepth 100000 in
theorem read_off (h : HasD w W post d D) (i : Int) (hoff : D.off = true) : Calls Tryd.prog 28 #[.pointer (some ⟨d, 0, none⟩), .int .i64 i] W fun ex W' => ex = .returned (.tuple #[.string ⟨#[]⟩, .int .i64 7]) ∧ Below W.heap.size W W' := by
  obtain ⟨r, vw, vk, es, clk, hm, hO⟩ := h
  have c3 : W.cell? ⟨d, 3, none⟩ = some (.bool D.off) := hO.cell 0 rfl 3
  rw [hoff] at c3
  have c3' := cellA (.cells #[.int .i64 0] 24) (cellA (.cells #[.string ⟨#[]⟩] 9) (cellA (.cells #[.int .i64 i] 3) c3))
  clear hO hm c3
  go_enter Tryd.func28, Tryd.ntmps28
  go_wp2
  obtain ⟨q1, q2, q3⟩ := three W i 7
  refine bodyPost_ret (v := .tuple #[.string ⟨#[]⟩, .int .i64 7]) (by simp [results, Tryd.f28, go_sem, q1, q2]) rfl ⟨rfl, q3⟩
set_option maxHeartbeats 4000000 in
set_option maxRecDepth 100000 in
theorem read_out (h : HasD w W post d D) (i : Int) (hoff : D.off = false) (hi : i < 0 ∨ (D.size : Int) ≤ i) : Calls Tryd.prog 28 #[.pointer (some ⟨d, 0, none⟩), .int .i64 i] W fun ex W' => ex = .returned (.tuple #[.string ⟨#[]⟩, .int .i64 1]) ∧ Below W.heap.size W W' := by
  obtain ⟨r, vw, vk, es, clk, hm, hO⟩ := h
  have c3 : W.cell? ⟨d, 3, none⟩ = some (.bool D.off) := hO.cell 0 rfl 3
  have c0 : W.cell? ⟨d, 0, none⟩ = some (.int .i64 D.size) := hO.cell 0 rfl 0
  rw [hoff] at c3
  have c3' := cellA (.cells #[.int .i64 0] 24) (cellA (.cells #[.string ⟨#[]⟩] 9) (cellA (.cells #[.int .i64 i] 3) c3))
  have c0' := cellA (.cells #[.int .i64 0] 24) (cellA (.cells #[.string ⟨#[]⟩] 9) (cellA (.cells #[.int .i64 i] 3) c0))
  have ci : (((W.alloc (.cells #[.int .i64 i] 3)).alloc (.cells #[.string ⟨#[]⟩] 9)).alloc (.cells #[.int .i64 0] 24)).cell? ⟨W.heap.size, 0, none⟩ = some (.int .i64 i) := cellA _ (cellA _ ((blk_cell (blk_new W _) 0).trans rfl))
  have q := three W i 0
  have e1 : (W.alloc (.cells #[.int .i64 i] 3)).heap.size = W.heap.size + 1 := by simp
  have e2 : ((W.alloc (.cells #[.int .i64 i] 3)).alloc (.cells #[.string ⟨#[]⟩] 9)).heap.size = W.heap.size + 1 + 1 := by simp
  have b2 := (Boxed.new (W.alloc (.cells #[.int .i64 i] 3)) 9 (.string ⟨#[]⟩)).alloc (.cells #[.int .i64 0] 24)
  have b3 := Boxed.new ((W.alloc (.cells #[.int .i64 i] 3)).alloc (.cells #[.string ⟨#[]⟩] 9)) 24 (.int .i64 0)
  rw [e1] at b2
  rw [e2] at b3
  have Q := Aside0.mk q
  have s2 := b2.cell
  have f2 := b2.frozen
  have s3 := b3.cell
  have f3 := b3.frozen
  have hbs : W.heap.size ≤ W.heap.size + 1 := by omega
  have hbe : W.heap.size ≤ W.heap.size + 1 + 1 := by omega
  have hse : W.heap.size + 1 ≠ W.heap.size + 1 + 1 := by omega
  clear hO hm c3 c0 q b2 b3 e1 e2
  go_enter Tryd.func28, Tryd.ntmps28
  go_upto_block 0 with fail
  generalize ((W.alloc (.cells #[.int .i64 i] 3)).alloc (.cells #[.string ⟨#[]⟩] 9)).alloc (.cells #[.int .i64 0] 24) = W3 at c3' c0' ci Q s2 f2 s3 f3 ⊢
  generalize W.heap.size + 1 + 1 = be at hbe hse s3 f3 Q ⊢
  generalize W.heap.size + 1 = bs at hbs hse s2 f2 Q ⊢
  have HQ := Aside0.mk Q.out.2.2
  clear Q
  obtain ⟨bi, hbi⟩ : ∃ bi, W.heap.size = bi := ⟨_, rfl⟩
  rw [hbi] at ci
  simp only [hbi]
  go_upto_region 5 with fail
  go_cut [18] (fun s18 wx => s18 = .bool true ∧ ∃ nq, wx = W3.drewN nq)
  case first =>
    by_cases h0 : i < 0
    · have d1 : decide (i < 0) = true := decide_eq_true h0
      go_quiet (fail)
      go_wp2_with fail
      go_meet
      case rel => exact ⟨by first | rfl | simp, nq, rfl⟩
    · have d1 : decide (i < 0) = false := decide_eq_false h0
      have h2 : (D.size : Int) ≤ i := hi.resolve_left h0
      have d2 : decide ((D.size : Int) ≤ i) = true := decide_eq_true h2
      go_quiet (fail)
      go_wp2_with fail
      go_meet
      case rel => exact ⟨by first | rfl | simp, nq, rfl⟩
  case rest =>
    obtain ⟨rfl, nq, rfl⟩ := hcut
    have HB := Aside0.mk (HQ.out.trans (pw_below_drewN (Below.refl W.heap.size W3) nq))
    have s2' : (W3.drewN nq).cell? ⟨bs, 0, none⟩ = some (.string ⟨#[]⟩) := s2
    have s3' : (W3.drewN nq).cell? ⟨be, 0, none⟩ = some (.int .i64 0) := s3
    have f2' : (W3.drewN nq).frozen? ⟨bs, 0, none⟩ = false := f2
    have f3' : (W3.drewN nq).frozen? ⟨be, 0, none⟩ = false := f3
    clear s2 s3 f2 f3 ci c0' c3' HQ
    generalize W3.drewN nq = W4 at HB s2' s3' f2' f3' ⊢
    go_wp2
    have hs1 : (W4.setCell ⟨bs, 0, none⟩ (.string ⟨#[]⟩)).cell? ⟨bs, 0, none⟩ = some (.string ⟨#[]⟩) := World.cell?_setCell_same' _ _ _ (by rw [s2']; rfl)
    have hs2 : (W4.setCell ⟨bs, 0, none⟩ (.string ⟨#[]⟩)).cell? ⟨be, 0, none⟩ = some (.int .i64 0) := (cell_set_ne hse _).trans s3'
    have hs3 := World.cell?_setCell_same' (W4.setCell ⟨bs, 0, none⟩ (.string ⟨#[]⟩)) ⟨be, 0, none⟩ (.int .i64 1) (by rw [hs2]; rfl)
    have hs4 : ((W4.setCell ⟨bs, 0, none⟩ (.string ⟨#[]⟩)).setCell ⟨be, 0, none⟩ (.int .i64 1)).cell? ⟨bs, 0, none⟩ = some (.string ⟨#[]⟩) := (cell_set_ne hse.symm _).trans hs1
    have hBf := (HB.out.setCell (p := ⟨bs, 0, none⟩) hbs (.string ⟨#[]⟩)).setCell (p := ⟨be, 0, none⟩) hbe (.int .i64 1)
    refine bodyPost_ret (v := .tuple #[.string ⟨#[]⟩, .int .i64 1]) (by simp [results, Tryd.f28, go_sem, hs3, hs4]) rfl ⟨rfl, hBf⟩
/-- Whatever is read. -/
theorem read_D (h : HasD w W post d D) (hl : D.wait.length ≤ 1000000) (i : Int) : Calls Tryd.prog 28 #[.pointer (some ⟨d, 0, none⟩), .int .i64 i] W fun ex W' => ex = .returned (.tuple #[.string (D.read i).1, .int .i64 (D.read i).2]) ∧ Below W.heap.size W W' := by
  unfold Dev.read
  cases hoff : D.off with
  | true => rw [if_pos rfl]; exact read_off h i hoff
  | false =>
    rw [if_neg (by simp)]
    by_cases hi : i < 0 ∨ (D.size : Int) ≤ i
    · rw [if_pos hi]; exact read_out h i hoff hi
    · rw [if_neg hi]; exact read_in h hl i hoff (by omega) (by omega)
end Go.Proofs.YtegeaemkkbenfaaDoor.Ownd
