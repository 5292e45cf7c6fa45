/- Open: Txns. Condition: at most 100000 transactions. -/
import Derived.Test.YtchpagboglomoaaUTxA
import Derived.Test.YtchpagboglomoaaUOpC
namespace Go.Proofs.Ytchpagboglomoaa.GP.MU
open Go.RowKit Go.Shelf Go.Proofs.Ytchpagboglomoaa.Ownd Go.Proofs.YtchpagboglomoaaW.PrintWords Go.Proofs.YtchpagboglomoaaW.PrintLast Go.Proofs.YtchpagboglomoaaW.PrintMore
set_option linter.unusedVariables false
set_option linter.unusedSimpArgs false
attribute [local go_sem] Oper.semAt_some
theorem infoI : (Try.prog.info? 3).map (fun i => (i.zero, i.size, i.bytes)) = some (some (.int .i64 0), 1, 8) := by kernel_rfl
theorem txns_nil (W : World) : Calls Try.prog 27 #[.pointer none] W fun ex W' => ex = .returned (.slice none 0 0) ∧ W' = W := by
  go_enter Try.func27, Try.ntmps27
  go_wp2
  go_ret
  exact ⟨rfl, rfl⟩
abbrev keysV (l : List P2) : List Value := l.map (fun x => Value.int .i64 x.1)
/-- A row of pairs, as a range reads it. -/
theorem row_reads {w W : World} {l : List Thing} {v : Value} {xs : List P2} (h : Ownd.Own w W l) (j : Nat) (hj : l[j]? = some (.row kP 102 v xs)) (d : Nat) (hd : d < W.heap.size) (hdw : w.heap.size ≤ d) :
    ∃ b A cap, v = .slice A xs.length cap ∧ b < W.heap.size ∧ w.heap.size ≤ b ∧ (0 < xs.length → A = some ⟨b, 0, none⟩) ∧ ∀ k (hk : k < xs.length), W.cell? ⟨b, k * 2, none⟩ = some (.int .i64 xs[k].1) ∧ W.cell? ⟨b, k * 2 + 1, none⟩ = some (.slice xs[k].2.1 xs[k].2.2.1 xs[k].2.2.2) := by
  obtain ⟨A, c, rfl⟩ := h.row j hj
  by_cases h0 : 0 < xs.length
  · obtain ⟨g, c', cs, e, -, -, -, hcell, -⟩ := h.elem j hj 0 h0
    obtain rfl := (Value.slice.inj e).1
    obtain ⟨ok, hN⟩ := h.N j hj
    refine ⟨g, _, c, rfl, Kd.N_lt hN g (by simp [Value.ownBlock]), Kd.N_base hN g (by simp [Value.ownBlock]), fun _ => rfl, fun k hk => ?_⟩
    obtain ⟨g', c'', cs', e', -, -, hK, hcell', -⟩ := h.elem j hj k hk
    obtain rfl : g = g' := by have := (Value.slice.inj e').1; simpa using this
    obtain rfl := kP_is hK
    exact ⟨hcell' 0 _ rfl, hcell' 1 _ rfl⟩
  · exact ⟨d, A, c, rfl, hd, hdw, fun h => absurd h h0, fun k hk => absurd hk (by omega)⟩
set_option maxHeartbeats 2000000 in
set_option maxRecDepth 100000 in
theorem all_C {W : World} {g c : Nat} {A : Option Addr} {xs : List P2} (hcell : W.cell? ⟨g, 0, none⟩ = some (.slice A xs.length c)) (hC : Kd.C kP W A xs.length xs) (hl : xs.length ≤ 100000) :
    Calls Try.prog 42 #[.pointer (some ⟨g, 0, none⟩)] W fun ex W' => ∃ b v', ex = .returned (.func (.func 61) #[] #[.pointer (some ⟨b, 0, none⟩)]) ∧ Ownd.Own W W' [.row kP 102 v' xs, .box b (.cells #[v'] 25 (0, 0))] := by
  have HE := Aside0.mk (each_O (Ownd.Own.start W 2) (c := c) hC (fun e => C_none (by rw [← e]; exact hC)) hl 0 1 rfl rfl (by decide))
  clear hC hl
  go_enter Try.func42, Try.ntmps42
  go_wp2_with (go_at_call 52; refine HE.out.mono ?_; rintro e w' ⟨b, v1, rfl, hO2⟩; have HO2 := Aside0.mk hO2; clear hO2)
  go_ret
  exact ⟨b, v1, rfl, HO2.out⟩
theorem keysV_snoc (pre : List P2) (x : P2) : keysV (pre ++ [x]) = keysV pre ++ [.int .i64 x.1] := by simp [keysV]
set_option maxRecDepth 100000 in
set_option maxHeartbeats 4000000 in
theorem txns_C {W : World} {g c : Nat} {A : Option Addr} {xs : List P2} (hcell : W.cell? ⟨g, 0, none⟩ = some (.slice A xs.length c)) (hC : Kd.C kP W A xs.length xs) (hxl : xs.length ≤ 100000) :
    Calls Try.prog 27 #[.pointer (some ⟨g, 0, none⟩)] W fun ex W' => ∃ v', ex = .returned v' ∧ W'.ownsRow W.heap.size 3 1 v' xs.length (keysV xs) ∧ Below W.heap.size W W' := by
  obtain ⟨i0, hI0, hz0, hz1, hz2⟩ := info_parts infoI
  have bO := Boxed.new W 73 (.slice none 0 0)
  have hB0 := below_alloc (Below.refl W.heap.size W) (.cells #[.slice none 0 0] 73)
  have hbl := Boxed.lt bO
  have HA := Aside0.mk (all_C ((hB0.cell (World.block_lt_of_cell? W _ hcell)).trans hcell) (Kd.C_below hC hB0) hxl)
  have HB0 := Aside0.mk hB0
  clear hcell hC hB0
  refine (callsIn_wide (n := 3)).1 ?_
  refine callsIn_of_wp_marks Try.func27 rfl trivial ?_ rfl
  simp only [Try.ntmps27, List.size_toArray, List.length_cons, List.length_nil, Nat.reduceAdd, Nat.reduceSub, Array.replicate_succ, Array.replicate_zero, List.push_toArray, List.append_toArray, List.nil_append, List.cons_append]
  refine wpIn_wide.2 ?_
  go_upto_region 4 with fail
  generalize W.alloc (.cells #[.slice none 0 0] 73) = W1 at bO HB0 HA hbl ⊢
  go_upto_block 0 with (go_at_call 42; refine HA.out.mono ?_; rintro e W2 ⟨bc, v2, rfl, hO2⟩)
  have hbx := hO2.box 1 rfl
  obtain ⟨b, A2, cap2, rfl, hb, hbge, hA2, hcs⟩ := row_reads hO2 0 rfl bc (blk_lt hbx) (hO2.old 1 rfl)
  have hcB : W2.cell? ⟨bc, 0, none⟩ = some (.slice A2 xs.length cap2) := (blk_cell hbx 0).trans rfl
  have hB2 : Below W.heap.size W W2 := HB0.out.trans (hO2.1.mono (Nat.le_of_lt hbl))
  have bO2 : Boxed W2 W.heap.size 73 (.slice none 0 0) := (hO2.1.block _ hbl).trans bO
  have hgb : W.heap.size ≠ b := by omega
  have hge : W.heap.size ≤ W2.heap.size := hB2.size
  clear hO2 hbx HA HB0 bO
  go_wp2_with fail
  refine (wpIn_wide (n := 3)).1 ?_
  refine wpIn_rangeFunc_ownH (α := P2) (F := Fence.wide) (n := 3) rfl (by decide) (gf := 61) (lb := #[.pointer (some ⟨bc, 0, none⟩)]) rfl trivial (Go.Proofs.enters_of Try.func61 (by kernel_rfl) rfl)
    (each1_stops Fence.wide 2 trivial rfl (by decide) bc b cap2 A2 xs (by omega) hA2 W2 hb hcB hcs) keepB_t (keepB_b hb) (Below.refl _ _) (fun _ => by rfl)
    (fun pre W' => (∃ v, Boxed W' W.heap.size 73 v ∧ W'.ownsRow W2.heap.size 3 1 v pre.length (keysV pre) ∧ True) ∧ Below W.heap.size W W' ∧ W2.heap.size ≤ W'.heap.size)
    (fun _ _ _ => False)
    (OwnFrom.and (Own.from (holdsRow_own W2.heap.size W.heap.size 73 3 1 (fun pre : List P2 => pre.length) (fun pre => keysV pre) (fun pre v => True)) _) (OwnFrom.and (ownFrom_below (Nat.le_refl _) hge) (fun s A B row hs hg hr => Nat.le_trans hs hg.size)))
    (fun _ _ _ _ _ hs _ _ => hs)
    ⟨⟨_, bO2, World.ownsRow_nil _ _ _ _, trivial⟩, hB2, Nat.le_refl _⟩
    (fun x a' W' => a' = { tmps := #[.pointer (some ⟨g, 0, none⟩), undef, .slice none 0 0, .pointer (some ⟨W.heap.size, 0, none⟩), .int .i64 x.1, .pointer (some ⟨g, 0, none⟩), .bool false, .pointer (some ⟨g, 0, none⟩), .pointer (some ⟨g, 0, none⟩), .pointer (some ⟨g, 0, none⟩), .func (.func 61) #[] #[.pointer (some ⟨bc, 0, none⟩)], .int .i64 x.1, .slice x.2.1 x.2.2.1 x.2.2.2, undef, undef, undef, undef, undef], defers := [] })
    (fun x a' _ _ _ _ hs _ _ => hs)
    ?assign ?body ?done ?stop
  case assign =>
    rintro l pre x W' K hI hK
    unfold encP
    gi_wp2
    exact hK _ _ (KeepsFrom.refl _ _) rfl hI rfl
  case body =>
    rintro l pre x a' W' hl1 hr ⟨⟨v, hv, hrow, -⟩, hB, hsz⟩ rfl hlt
    have hc := hv.cell
    have hbw : b < W'.heap.size := Nat.lt_of_lt_of_le hb hsz
    have hnb : some b ≠ v.ownBlock := fun e => by have := own_base hrow b e.symm; omega
    have hl2 : pre.length < 100000 := Nat.lt_of_lt_of_le hlt hxl
    have hgW : W.heap.size ≤ W'.heap.size := hB.size
    gi_wp2_with (gi_at_builtin; refine wpListIn_append_own _ rfl _ _ 73 rfl W2.heap.size 3 i0 (.int .i64 0) 1 8 Try.underlying73 hI0 hz0 hz1 hz2 rfl (by decide) _ _ _ rfl (hrow.alloc _) ⟨W'.heap.size, 0, none⟩ 1 1 [.int .i64 x.1] rfl rfl (cell_one_new _ _ _) (by simp [Value.oneCell']) (by unfold maxLen; omega) (by omega) (by simp; omega) ?_; intro v' w1 hown' hgrow _; obtain ⟨g', cap', rfl⟩ := ownsRow_succ hown'; obtain ⟨hv1, hv2, hr2, hk2, hb2⟩ := hv.appended (by decide) (own_weaken hrow hge) hgW (Nat.le_refl _) (own_weaken hown' hge) hgrow; have hc1 := hv1.cell; have hf1 := hv1.frozen)
    have hkb : KeepB b W' (w1.setCell ⟨W.heap.size, 0, none⟩ (.slice (some ⟨g', 0, none⟩) (pre.length + 1) cap')) :=
      (Below.heap_setCell w1 ⟨W.heap.size, 0, none⟩ _ b (fun e => hgb e.symm)).trans ((hgrow.block b (by simp; omega) hnb).trans (Below.heap_alloc _ _ _ hbw))
    refine ⟨hk2.from _, hkb, ⟨_, hv2, ?_, trivial⟩, hB.trans hb2, ?_⟩
    · rw [keysV_snoc, List.length_append]
      exact hown'.kept (grownBy_setCell' w1 W.heap.size _) (.inr (hv1.not_row (by decide) hown').symm)
    · have h1 := hgrow.size
      simp at h1 ⊢
      omega
  case done =>
    rintro D ys W' hD rfl ⟨⟨v, hv, hrow, -⟩, hB, hsz⟩ hK
    have hc := hv.cell
    have hne : some D ≠ v.ownBlock := fun e => by
      obtain ⟨cells, hcell⟩ := own_typed hrow D e.symm
      rw [hK] at hcell
      cases hcell
    rcases hrow.2 with ⟨rfl, h0⟩ | ⟨gv, capv, cur, rfl, hrest⟩
    all_goals (
      go_wp2
      refine ⟨by simp, .inl ⟨_, _, rfl, run_takeDeferred hK, ?_⟩⟩
      exact ⟨_, results_tmp rfl _ _ _, _, rfl, own_weaken (ownsRow_putObj hrow _ hK rfl) hge, hB.trans (belowK_b (w := W2) hge W' D _ _ hD hK rfl rfl)⟩)
  case stop =>
    rintro D c pre W' _ _ h _
    exact h.elim
end Go.Proofs.Ytchpagboglomoaa.GP.MU
