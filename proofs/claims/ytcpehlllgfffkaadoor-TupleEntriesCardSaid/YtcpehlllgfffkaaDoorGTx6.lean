-- Written by a program of this session (wip/pv.py, which turns the kit's print.py in a scratch copy): see NOTES.md.
import Derived.Test.YtcpehlllgfffkaaDoorGTx0
import Derived.Test.YtcpehlllgfffkaaDoorGTx4
namespace Go.Proofs.YtcpehlllgfffkaaDoor.GT
open Go.RowKit Go.Proofs.YtcpehlllgfffkaaDoorW.PrintWords Go.Proofs.YtcpehlllgfffkaaDoorW.PrintLast Go.Proofs.YtcpehlllgfffkaaDoorW.PrintMore
attribute [local go_sem] max2_int min2_int max_two min_two max_three min_three max_four min_four   -- for this text's walks alone
set_option linter.unusedVariables false
set_option linter.unusedSimpArgs false

/-! ### concordanceref01_Get: function 41 -/
mutual
def concordanceref01_Get.l0 : Nat → ByteArray → List (S26) → Int → Option ((List (S26)) × Int)
 | 0, _, _, _ => none
 | k + 1, x0, x4, x5 => if x5 < (x0.size : Int) then (if 0 ≤ x5 then (if (bt x0 x5) = 16 then (if (wrap64 ((x0.size : Int) - x5)) < 7 then (some (([] : List (S26)), 3)) else (concordanceref01_Get.l1 k x0 x4 x5 0 1 (⟨#[]⟩ : ByteArray) 0 false)) else (if (bt x0 x5) = 32 then (concordanceref01_Get.l2 k x0 x4 (wrap64 (x5 + 1)) false (⟨#[]⟩ : ByteArray) 0 true) else (some (([] : List (S26)), 2)))) else (none)) else (some (x4, 0))
def concordanceref01_Get.l1 : Nat → ByteArray → List (S26) → Int → Int → Int → ByteArray → Int → Bool → Option ((List (S26)) × Int)
 | 0, _, _, _, _, _, _, _, _ => none
 | k + 1, x0, x4, x5, x7, x8, x231000, x231001, x231002 => if x8 < 7 then (if 0 ≤ (wrap64 (x5 + x8)) then (if (wrap64 (x5 + x8)) < (x0.size : Int) then (concordanceref01_Get.l1 k x0 x4 x5 (wrap64 ((wrap64 (256 * x7)) + (wrap64 (bt x0 (wrap64 (x5 + x8)))))) (wrap64 (x8 + 1)) x231000 x231001 x231002) else (none)) else (none)) else (if x7 > 2199023255552 then (some (([] : List (S26)), 2)) else (if x4.length < 4398046511104 then (concordanceref01_Get.l0 k x0 (x4 ++ [(⟨x231000, wrap64 (x7 - 1099511627776), x231002⟩ : S26)]) (wrap64 (x5 + 7))) else (none)))
def concordanceref01_Get.l2 : Nat → ByteArray → List (S26) → Int → Bool → ByteArray → Int → Bool → Option ((List (S26)) × Int)
 | 0, _, _, _, _, _, _, _ => none
 | k + 1, x0, x4, x5, x9, x231000, x231001, x231002 => if x9 = true then (if (x231000.size : Int) > 20 then (some (([] : List (S26)), 6)) else (if x4.length < 4398046511104 then (concordanceref01_Get.l0 k x0 (x4 ++ [(⟨x231000, x231001, x231002⟩ : S26)]) x5) else (none))) else (if x5 ≥ (x0.size : Int) then (concordanceref01_Get.j3 k x0 x4 x5 x9 true x231000 x231001 x231002) else (if 0 ≤ x5 then (if x5 < (x0.size : Int) then (if (bt x0 x5) = 0 then (concordanceref01_Get.j3 k x0 x4 x5 x9 (decide ((wrap64 (x5 + 1)) ≥ (x0.size : Int))) x231000 x231001 x231002) else (concordanceref01_Get.j3 k x0 x4 x5 x9 false x231000 x231001 x231002)) else (none)) else (none)))
def concordanceref01_Get.j3 : Nat → ByteArray → List (S26) → Int → Bool → Bool → ByteArray → Int → Bool → Option ((List (S26)) × Int)
 | 0, _, _, _, _, _, _, _, _ => none
 | k + 1, x0, x4, x5, x9, x69, x231000, x231001, x231002 => if x69 = true then (some (([] : List (S26)), 3)) else (if 0 ≤ x5 then (if x5 < (x0.size : Int) then (if (bt x0 x5) = 0 then (if 0 ≤ (wrap64 (x5 + 1)) then (if (wrap64 (x5 + 1)) < (x0.size : Int) then (if (bt x0 (wrap64 (x5 + 1))) = 255 then (if x231000.size + 1 ≤ 9223372036854775807 then (concordanceref01_Get.l2 k x0 x4 (wrap64 (x5 + 2)) x9 (x231000 ++ (⟨#[0]⟩ : ByteArray)) x231001 x231002) else (none)) else (if (bt x0 (wrap64 (x5 + 1))) = 1 then (concordanceref01_Get.l2 k x0 x4 (wrap64 (x5 + 2)) true x231000 x231001 x231002) else (some (([] : List (S26)), 2)))) else (none)) else (none)) else (if x5 ≤ (wrap64 (x5 + 1)) then (if (wrap64 (x5 + 1)) ≤ (x0.size : Int) then (if x231000.size + (x0.extract (x5 : Int).toNat ((wrap64 (x5 + 1)) : Int).toNat).size ≤ 9223372036854775807 then (concordanceref01_Get.l2 k x0 x4 (wrap64 (x5 + 1)) x9 (x231000 ++ (x0.extract (x5 : Int).toNat ((wrap64 (x5 + 1)) : Int).toNat)) x231001 x231002) else (none)) else (none)) else (none))) else (none)) else (none))
end
def concordanceref01_Get.f (k : Nat) (a0 : ByteArray) : Option ((List (S26)) × Int) := concordanceref01_Get.l0 k a0 ([] : List (S26)) 0
theorem concordanceref01_Get.mono_l : ∀ k, (∀ y0 y1 y2, LeO (concordanceref01_Get.l0 k y0 y1 y2) (concordanceref01_Get.l0 (k + 1) y0 y1 y2)) ∧ (∀ y0 y1 y2 y3 y4 y5 y6 y7, LeO (concordanceref01_Get.l1 k y0 y1 y2 y3 y4 y5 y6 y7) (concordanceref01_Get.l1 (k + 1) y0 y1 y2 y3 y4 y5 y6 y7)) ∧ (∀ y0 y1 y2 y3 y4 y5 y6, LeO (concordanceref01_Get.l2 k y0 y1 y2 y3 y4 y5 y6) (concordanceref01_Get.l2 (k + 1) y0 y1 y2 y3 y4 y5 y6)) ∧ (∀ y0 y1 y2 y3 y4 y5 y6 y7, LeO (concordanceref01_Get.j3 k y0 y1 y2 y3 y4 y5 y6 y7) (concordanceref01_Get.j3 (k + 1) y0 y1 y2 y3 y4 y5 y6 y7))
 | 0 => ⟨fun _ _ _ r h => by simp [concordanceref01_Get.l0] at h, fun _ _ _ _ _ _ _ _ r h => by simp [concordanceref01_Get.l1] at h, fun _ _ _ _ _ _ _ r h => by simp [concordanceref01_Get.l2] at h, fun _ _ _ _ _ _ _ _ r h => by simp [concordanceref01_Get.j3] at h⟩
 | k + 1 => by
  obtain ⟨ih0, ih1, ih2, ih3⟩ := concordanceref01_Get.mono_l k
  refine ⟨?_, ?_, ?_, ?_⟩
  ·intro y0 y1 y2
   unfold concordanceref01_Get.l0
   repeat' first
   | (with_reducible exact ih0 _ _ _)
   | (with_reducible exact ih1 _ _ _ _ _ _ _ _)
   | (with_reducible exact ih2 _ _ _ _ _ _ _)
   | (with_reducible exact ih3 _ _ _ _ _ _ _ _)
   | (with_reducible exact LeO.refl _)
   | (with_reducible exact LeO.none _)
   | (with_reducible refine LeO.ite ?_ ?_)
   | (with_reducible refine LeO.bind ?_ (fun _ => ?_))
   | exact ih0 _ _ _
   | exact ih1 _ _ _ _ _ _ _ _
   | exact ih2 _ _ _ _ _ _ _
   | exact ih3 _ _ _ _ _ _ _ _
   | exact LeO.none _
   | refine LeO.ite ?_ ?_
   | refine LeO.bind ?_ (fun _ => ?_)
  ·intro y0 y1 y2 y3 y4 y5 y6 y7
   unfold concordanceref01_Get.l1
   repeat' first
   | (with_reducible exact ih0 _ _ _)
   | (with_reducible exact ih1 _ _ _ _ _ _ _ _)
   | (with_reducible exact ih2 _ _ _ _ _ _ _)
   | (with_reducible exact ih3 _ _ _ _ _ _ _ _)
   | (with_reducible exact LeO.refl _)
   | (with_reducible exact LeO.none _)
   | (with_reducible refine LeO.ite ?_ ?_)
   | (with_reducible refine LeO.bind ?_ (fun _ => ?_))
   | exact ih0 _ _ _
   | exact ih1 _ _ _ _ _ _ _ _
   | exact ih2 _ _ _ _ _ _ _
   | exact ih3 _ _ _ _ _ _ _ _
   | exact LeO.none _
   | refine LeO.ite ?_ ?_
   | refine LeO.bind ?_ (fun _ => ?_)
  ·intro y0 y1 y2 y3 y4 y5 y6
   unfold concordanceref01_Get.l2
   repeat' first
   | (with_reducible exact ih0 _ _ _)
   | (with_reducible exact ih1 _ _ _ _ _ _ _ _)
   | (with_reducible exact ih2 _ _ _ _ _ _ _)
   | (with_reducible exact ih3 _ _ _ _ _ _ _ _)
   | (with_reducible exact LeO.refl _)
   | (with_reducible exact LeO.none _)
   | (with_reducible refine LeO.ite ?_ ?_)
   | (with_reducible refine LeO.bind ?_ (fun _ => ?_))
   | exact ih0 _ _ _
   | exact ih1 _ _ _ _ _ _ _ _
   | exact ih2 _ _ _ _ _ _ _
   | exact ih3 _ _ _ _ _ _ _ _
   | exact LeO.none _
   | refine LeO.ite ?_ ?_
   | refine LeO.bind ?_ (fun _ => ?_)
  ·intro y0 y1 y2 y3 y4 y5 y6 y7
   unfold concordanceref01_Get.j3
   repeat' first
   | (with_reducible exact ih0 _ _ _)
   | (with_reducible exact ih1 _ _ _ _ _ _ _ _)
   | (with_reducible exact ih2 _ _ _ _ _ _ _)
   | (with_reducible exact ih3 _ _ _ _ _ _ _ _)
   | (with_reducible exact LeO.refl _)
   | (with_reducible exact LeO.none _)
   | (with_reducible refine LeO.ite ?_ ?_)
   | (with_reducible refine LeO.bind ?_ (fun _ => ?_))
   | exact ih0 _ _ _
   | exact ih1 _ _ _ _ _ _ _ _
   | exact ih2 _ _ _ _ _ _ _
   | exact ih3 _ _ _ _ _ _ _ _
   | exact LeO.none _
   | refine LeO.ite ?_ ?_
   | refine LeO.bind ?_ (fun _ => ?_)
theorem concordanceref01_Get.mono : ∀ a0 k, LeO (concordanceref01_Get.f k a0) (concordanceref01_Get.f (k + 1) a0) := by
 intro a0 k
 obtain ⟨ih0, ih1, ih2, ih3⟩ := concordanceref01_Get.mono_l k
 unfold concordanceref01_Get.f
 repeat' first
   | (with_reducible exact ih0 _ _ _)
   | (with_reducible exact ih1 _ _ _ _ _ _ _ _)
   | (with_reducible exact ih2 _ _ _ _ _ _ _)
   | (with_reducible exact ih3 _ _ _ _ _ _ _ _)
   | (with_reducible exact LeO.refl _)
   | (with_reducible exact LeO.none _)
   | (with_reducible refine LeO.ite ?_ ?_)
   | (with_reducible refine LeO.bind ?_ (fun _ => ?_))
   | exact ih0 _ _ _
   | exact ih1 _ _ _ _ _ _ _ _
   | exact ih2 _ _ _ _ _ _ _
   | exact ih3 _ _ _ _ _ _ _ _
   | exact LeO.none _
   | refine LeO.ite ?_ ?_
   | refine LeO.bind ?_ (fun _ => ?_)
def concordanceref01_Get.T25 : Bool × List (List Nat × List Nat) := (true, [([], []), ([0], [0]), ([], []), ([], []), ([], []), ([4], [4]), ([2, 3, 5], [2, 3, 5]), ([1, 6], [1, 6]), ([0, 1, 2, 3, 4, 5, 6, 7], []), ([8, 7, 0, 1, 2, 3, 4, 5, 6, 7], [7, 8])])
def concordanceref01_Get.B25 : List Nat := [0, 1, 0, 0, 0, 16, 60, 127, 255, 511]
theorem concordanceref01_Get.tab25 : rtab .any (opsOf Tryd.f41 25) = concordanceref01_Get.T25 := by kernel_rfl
theorem concordanceref01_Get.bits25 : waitsOk concordanceref01_Get.T25.2 concordanceref01_Get.B25 = true := by kernel_rfl
set_option maxHeartbeats 8000000 in
set_option maxRecDepth 100000 in
theorem concordanceref01_Get.calls (k : Nat) (a0 : ByteArray) (r1 : List (S26)) (r2 : Int) (w : World) (h : concordanceref01_Get.f k a0 = some (r1, r2)) :
  Calls Tryd.prog 41 #[.string a0] w fun e w' => ∃ v0_ : Value, e = .returned (.tuple #[v0_, .int .i64 r2]) ∧ Kd.R k26 26 w' w.heap.size (fun _ => True) v0_ r1 ∧ Below w.heap.size w w' := by
 have hu26 := Tryd.underlying26
 have HB := Aside0.mk (Below.refl w.heap.size w)
 have H : (concordanceref01_Get.l0 k a0 ([] : List (S26)) 0) = some (r1, r2) := h
 clear h
 have H' := Aside0.mk H
 clear H
 go_enter Tryd.func41, Tryd.ntmps41
 go_wp2
 go_loopg [4, 5] k (fun kq v4 v5 w' => ∃ (x4_1 : List (S26)) (x5_1 : Int), v5 = .int .i64 x5_1 ∧ Aside0 (concordanceref01_Get.l0 kq a0 x4_1 x5_1 = some (r1, r2)) ∧ Aside0 (kq ≤ k) ∧ Aside0 (Kd.R k26 26 w' w.heap.size (fun _ => True) v4 x4_1) ∧ Aside0 (Below w.heap.size w w'))
 case atStart => exact ⟨(([] : List (S26))), (0), (by first | rfl | (simp; done) | (simp [*]; done)), H', ⟨Nat.le_refl _⟩, ⟨by first | exact Kd.R_nil _ _ _ _ _ | exact Kd.N_nil _ _ _ _ _ | exact Kd.V_nil _ _ _ _ _ | exact Kd.Q_nil _ _ _ _ _ | exact Kd.S_nil _ _ _ _ _⟩, ⟨by repeat (first | (with_reducible first | exact HB.out | apply below_alloc | apply pw_below_drewN | apply below_drew1) | exact HB.out)⟩⟩
 case round =>
  clear H'
  obtain ⟨x4_1, x5_1, rfl, HA, HK1, HO_4, HB⟩ := hrel
  cases gk with
  | zero => exact absurd HA.out (by simp [concordanceref01_Get.l0])
  | succ k1 =>
   have H := HA.out
   clear HA
   simp only [concordanceref01_Get.l0] at H
   by_cases c2 : x5_1 < (a0.size : Int)
   ·rw [if_pos c2] at H
    have c2b0 : decide (x5_1 < (a0.size : Int)) = true := decide_eq_true c2
    clear c2
    by_cases c3 : 0 ≤ x5_1
    ·rw [if_pos c3] at H
     have c3b0 : decide (0 ≤ x5_1) = true := decide_eq_true c3
     clear c3
     by_cases c5 : (bt a0 x5_1) = 16
     ·rw [if_pos c5] at H
      have c5b0 : ((bt a0 x5_1) == 16) = true := beq_iff_eq.mpr c5
      have c5b1 : ((bt a0 x5_1) != 16) = false := bne_eq_false_iff_eq.mpr c5
      clear c5
      by_cases c6 : (wrap64 ((a0.size : Int) - x5_1)) < 7
      ·rw [if_pos c6] at H
       have c6b0 : decide ((wrap64 ((a0.size : Int) - x5_1)) < 7) = true := decide_eq_true c6
       clear c6
       simp only [Option.some.injEq, Prod.mk.injEq] at H
       obtain ⟨rfl, rfl⟩ := H
       go_wp2_with (first | ((with_reducible refine gate_dst (N := 6) rfl ?_); (try (refine gate_guard (by rfl) ?_; dsimp only)); refine box_event ?hg (N := 6) ?hd (cs := #[.string (⟨#[]⟩ : ByteArray), .int .i64 0, .bool false]) (t := 26) ?hr ?_; (case hd => rfl); (case hg => rfl); (case hr => first | (go_simp; done) | (go_simp; rfl)); intro gb230 hg w7 hbox hb; have n0_ := Aside0.mk (Kd.R_below (Kd.R_elderB (by (with_reducible repeat (first | apply Kd.R_alloc | apply Kd.R_drewN | apply Kd.R_drew)); exact HO_4.out) gb230 (Nat.le_of_eq hg.symm)) hb); have n1_ := Aside0.mk (below_step (by repeat (first | (with_reducible first | exact HB.out | apply below_alloc | apply pw_below_drewN | apply below_drew1) | exact HB.out)) hb); have n2_ := Aside0.mk (hbox); have n3_ := Aside0.mk ((by rw [hg]; exact (below_size (by repeat (first | (with_reducible first | exact HB.out | apply below_alloc | apply pw_below_drewN | apply below_drew1) | exact HB.out))) : w.heap.size ≤ gb230)); have n4_ := Aside0.mk ((by rw [hg]; exact (below_size (by repeat (first | (with_reducible first | exact HB.out | apply below_alloc | apply pw_below_drewN | apply below_drew1) | exact HB.out))) : w.heap.size ≤ gb230)); clear HO_4; clear HB; have HO_4 := n0_; have HB := n1_; have BK230 := n2_; have GW230 := n3_; have GE230 := n4_; clear n0_ n1_ n2_ n3_ n4_; clear hb hbox hg; have hcz8_0 : w7.cell? ⟨gb230, 0, none⟩ = some (.string (⟨#[]⟩ : ByteArray)) := (blk_cell BK230.out 0).trans rfl; have hcz8_1 : w7.cell? ⟨gb230, 1, none⟩ = some (.int .i64 0) := (blk_cell BK230.out 1).trans rfl; have hcz8_2 : w7.cell? ⟨gb230, 2, none⟩ = some (.bool false) := (blk_cell BK230.out 2).trans rfl; have hfz8_0 := blk_frozen BK230.out 0; have hfz8_1 := blk_frozen BK230.out 1; have hfz8_2 := blk_frozen BK230.out 2; have p4 : 0 ≤ (x5_1 : Int) := of_decide_eq_true (by first | (with_reducible assumption) | assumption); have q4 : x5_1 < (a0.size : Int) := of_decide_eq_true (by first | (with_reducible assumption) | assumption); have hx4 := bt_at a0 x5_1; replace p4 := eq_true p4; replace q4 := eq_true q4))
       go_ret2
       exact ⟨_, by first | rfl | (simp [errW_none, errW_some] <;> rfl) | (simp [*, errW_none, errW_some] <;> rfl), by first | exact Kd.R_nil _ _ _ _ _ | exact Kd.N_nil _ _ _ _ _ | exact Kd.V_nil _ _ _ _ _ | exact Kd.Q_nil _ _ _ _ _ | exact Kd.S_nil _ _ _ _ _, by repeat (first | (with_reducible first | exact HB.out | apply below_alloc | apply pw_below_drewN | apply below_drew1 | refine below_set ?_ GE230.out) | exact HB.out)⟩
      ·rw [if_neg c6] at H
       have c6b0 : decide ((wrap64 ((a0.size : Int) - x5_1)) < 7) = false := decide_eq_false c6
       clear c6
       have H' := Aside0.mk H
       clear H
       go_wp2_with (first | ((with_reducible refine gate_dst (N := 6) rfl ?_); (try (refine gate_guard (by rfl) ?_; dsimp only)); refine box_event ?hg (N := 6) ?hd (cs := #[.string (⟨#[]⟩ : ByteArray), .int .i64 0, .bool false]) (t := 26) ?hr ?_; (case hd => rfl); (case hg => rfl); (case hr => first | (go_simp; done) | (go_simp; rfl)); intro gb230 hg w9 hbox hb; have n0_ := Aside0.mk (Kd.R_below (Kd.R_elderB (by (with_reducible repeat (first | apply Kd.R_alloc | apply Kd.R_drewN | apply Kd.R_drew)); exact HO_4.out) gb230 (Nat.le_of_eq hg.symm)) hb); have n1_ := Aside0.mk (below_step (by repeat (first | (with_reducible first | exact HB.out | apply below_alloc | apply pw_below_drewN | apply below_drew1) | exact HB.out)) hb); have n2_ := Aside0.mk (hbox); have n3_ := Aside0.mk ((by rw [hg]; exact (below_size (by repeat (first | (with_reducible first | exact HB.out | apply below_alloc | apply pw_below_drewN | apply below_drew1) | exact HB.out))) : w.heap.size ≤ gb230)); have n4_ := Aside0.mk ((by rw [hg]; exact (below_size (by repeat (first | (with_reducible first | exact HB.out | apply below_alloc | apply pw_below_drewN | apply below_drew1) | exact HB.out))) : w.heap.size ≤ gb230)); clear HO_4; clear HB; have HO_4 := n0_; have HB := n1_; have BK230 := n2_; have GW230 := n3_; have GE230 := n4_; clear n0_ n1_ n2_ n3_ n4_; clear hb hbox hg; have hcz10_0 : w9.cell? ⟨gb230, 0, none⟩ = some (.string (⟨#[]⟩ : ByteArray)) := (blk_cell BK230.out 0).trans rfl; have hcz10_1 : w9.cell? ⟨gb230, 1, none⟩ = some (.int .i64 0) := (blk_cell BK230.out 1).trans rfl; have hcz10_2 : w9.cell? ⟨gb230, 2, none⟩ = some (.bool false) := (blk_cell BK230.out 2).trans rfl; have hfz10_0 := blk_frozen BK230.out 0; have hfz10_1 := blk_frozen BK230.out 1; have hfz10_2 := blk_frozen BK230.out 2; have p4 : 0 ≤ (x5_1 : Int) := of_decide_eq_true (by first | (with_reducible assumption) | assumption); have q4 : x5_1 < (a0.size : Int) := of_decide_eq_true (by first | (with_reducible assumption) | assumption); have hx4 := bt_at a0 x5_1; replace p4 := eq_true p4; replace q4 := eq_true q4))
       go_loopg [7, 8] k1 (fun kq v7 v8 w' => ∃ (x7_2 : Int) (x8_2 : Int), v7 = .int .i64 x7_2 ∧ v8 = .int .i64 x8_2 ∧ Aside0 (concordanceref01_Get.l1 kq a0 x4_1 x5_1 x7_2 x8_2 (⟨#[]⟩ : ByteArray) 0 false = some (r1, r2)) ∧ Aside0 (kq ≤ k1) ∧ Aside0 (Kd.R k26 26 w' w.heap.size (fun k_ => k_ ≠ gb230) u4 x4_1) ∧ Aside0 (w'.heap[gb230]? = some (.cells #[.string (⟨#[]⟩ : ByteArray), .int .i64 0, .bool false] 26 (0, 0))) ∧ Aside0 (Below w.heap.size w w'))
       case atStart => exact ⟨(0), (1), (by first | rfl | (simp; done) | (simp [*]; done)), (by first | rfl | (simp; done) | (simp [*]; done)), H', ⟨Nat.le_refl _⟩, ⟨by (with_reducible repeat (first | apply Kd.R_alloc | apply Kd.R_drewN | apply Kd.R_drew)); exact Kd.R_mono (Kd.R_far (p := ⟨gb230, 2, none⟩) (Kd.R_far (p := ⟨gb230, 1, none⟩) (Kd.R_far (p := ⟨gb230, 0, none⟩) (Kd.R_mono HO_4.out (fun k_ hk => (⟨hk, hk.2⟩ : _ ∧ k_ ≠ gb230))) (fun _ hk => hk.2) (.string (⟨#[]⟩ : ByteArray))) (fun _ hk => hk.2) (.int .i64 0)) (fun _ hk => hk.2) (.bool false)) (fun _ hk => hk.1.2)⟩, ⟨by (with_reducible repeat (first | refine blk_drewN ?_ _ | refine blk_drew ?_ | refine blk_alloc ?_ _)); refine blk_put (cs := #[.string (⟨#[]⟩ : ByteArray), .int .i64 0, .bool false]) ?_ 2 _ rfl; (with_reducible repeat (first | refine blk_drewN ?_ _ | refine blk_drew ?_ | refine blk_alloc ?_ _)); refine blk_put (cs := #[.string (⟨#[]⟩ : ByteArray), .int .i64 0, .bool false]) ?_ 1 _ rfl; (with_reducible repeat (first | refine blk_drewN ?_ _ | refine blk_drew ?_ | refine blk_alloc ?_ _)); refine blk_put (cs := #[.string (⟨#[]⟩ : ByteArray), .int .i64 0, .bool false]) ?_ 0 _ rfl; (with_reducible repeat (first | refine blk_drewN ?_ _ | refine blk_drew ?_ | refine blk_alloc ?_ _)); exact BK230.out⟩, ⟨by repeat (first | (with_reducible first | exact HB.out | apply below_alloc | apply pw_below_drewN | apply below_drew1 | refine below_set ?_ GE230.out) | exact HB.out)⟩⟩
       case round =>
        clear H'
        try clear c2
        try clear c2b0
        try clear p2
        try clear c3
        try clear c3b0
        try clear c4
        try clear p4
        try clear q4
        try clear hx4
        try clear c5
        try clear c5b0
        try clear c5b1
        try clear c6
        try clear c6b0
        try clear p6
        try clear hcz10_0
        try clear hcz10_1
        try clear hcz10_2
        try clear hcz8_0
        try clear hcz8_1
        try clear hcz8_2
        try clear hfz10_0
        try clear hfz10_1
        try clear hfz10_2
        try clear hfz8_0
        try clear hfz8_1
        try clear hfz8_2
        try clear p4
        try clear q4
        obtain ⟨x7_2, x8_2, rfl, rfl, HA, HK2, HO_4, BK230, HB⟩ := hrel
        cases gk with
        | zero => exact absurd HA.out (by simp [concordanceref01_Get.l1])
        | succ k2 =>
         have H := HA.out
         clear HA
         simp only [concordanceref01_Get.l1] at H
         by_cases c11 : x8_2 < 7
         ·rw [if_pos c11] at H
          have c11b0 : decide (x8_2 < 7) = true := decide_eq_true c11
          clear c11
          obtain ⟨ji12, hji12⟩ : ∃ j_ : Int, (wrap64 (x5_1 + x8_2)) = j_ := ⟨_, rfl⟩
          replace H : (if 0 ≤ (ji12) then (if (ji12) < (a0.size : Int) then (concordanceref01_Get.l1 k2 a0 x4_1 x5_1 (wrap64 ((wrap64 (256 * x7_2)) + (wrap64 (bt a0 (ji12))))) (wrap64 (x8_2 + 1)) (⟨#[]⟩ : ByteArray) 0 false) else (none)) else (none)) = some (r1, r2) := by first | (rw [hji12] at H; exact H) | (simp only [hji12] at H ⊢; exact H)
          have hji12w : (IntKind.i64.wrap (x5_1 + x8_2)) = ji12 := (i64_w _).trans hji12
          by_cases c13 : 0 ≤ (ji12)
          ·rw [if_pos c13] at H
           have c13b0 : decide (0 ≤ (ji12)) = true := decide_eq_true c13
           clear c13
           by_cases c14 : (ji12) < (a0.size : Int)
           ·rw [if_pos c14] at H
            have c14b0 : decide ((ji12) < (a0.size : Int)) = true := decide_eq_true c14
            clear c14
            have H' := Aside0.mk H
            clear H
            have p15 : 0 ≤ ((ji12) : Int) := of_decide_eq_true (by first | (with_reducible assumption) | assumption)
            have q15 : (ji12) < (a0.size : Int) := of_decide_eq_true (by first | (with_reducible assumption) | assumption)
            have hx15 := bt_at a0 (ji12)
            replace p15 := eq_true p15
            replace q15 := eq_true q15
            go_wp2
            go_roundg k2
            case measure => have := HK1.out; have := HK2.out; omega
            case rel => exact ⟨(wrap64 ((wrap64 (256 * x7_2)) + (wrap64 (bt a0 (ji12))))), (wrap64 (x8_2 + 1)), (by first | rfl | (simp; done) | (simp only [← hji12] <;> (first | rfl | simp)) | (simp [*]; done)), (by first | rfl | (simp; done) | (simp [*]; done)), H', ⟨by have := HK1.out; have := HK2.out; omega⟩, ⟨by (with_reducible repeat (first | apply Kd.R_alloc | apply Kd.R_drewN | apply Kd.R_drew)); exact HO_4.out⟩, ⟨by (with_reducible repeat (first | refine blk_drewN ?_ _ | refine blk_drew ?_ | refine blk_alloc ?_ _)); exact BK230.out⟩, ⟨by repeat (first | (with_reducible first | exact HB.out | apply below_alloc | apply pw_below_drewN | apply below_drew1 | refine below_set ?_ GE230.out) | exact HB.out)⟩⟩
           ·rw [if_neg c14] at H
            exact absurd H (by simp)
          ·rw [if_neg c13] at H
           exact absurd H (by simp)
         ·rw [if_neg c11] at H
          have c11b0 : decide (x8_2 < 7) = false := decide_eq_false c11
          clear c11
          by_cases c16 : x7_2 > 2199023255552
          ·rw [if_pos c16] at H
           have c16b0 : decide (2199023255552 < x7_2) = true := decide_eq_true c16
           clear c16
           simp only [Option.some.injEq, Prod.mk.injEq] at H
           obtain ⟨rfl, rfl⟩ := H
           go_wp2
           go_ret2
           exact ⟨_, by first | rfl | (simp [errW_none, errW_some] <;> rfl) | (simp [*, errW_none, errW_some] <;> rfl), by first | exact Kd.R_nil _ _ _ _ _ | exact Kd.N_nil _ _ _ _ _ | exact Kd.V_nil _ _ _ _ _ | exact Kd.Q_nil _ _ _ _ _ | exact Kd.S_nil _ _ _ _ _, by repeat (first | (with_reducible first | exact HB.out | apply below_alloc | apply pw_below_drewN | apply below_drew1 | refine below_set ?_ GE230.out) | exact HB.out)⟩
          ·rw [if_neg c16] at H
           have c16b0 : decide (2199023255552 < x7_2) = false := decide_eq_false c16
           clear c16
           by_cases c17 : x4_1.length < 4398046511104
           ·rw [if_pos c17] at H
            have LMc17 := Aside0.mk c17
            clear c17
            obtain ⟨y231, hy231⟩ : ∃ y_ : List (S26), y_ = (x4_1 ++ [(⟨(⟨#[]⟩ : ByteArray), wrap64 (x7_2 - 1099511627776), false⟩ : S26)]) := ⟨_, rfl⟩
            replace H : (concordanceref01_Get.l0 k2 a0 y231 (wrap64 (x5_1 + 7))) = some (r1, r2) := by first | (rw [hy231]; with_reducible exact H) | (have H2_ := (Option.bind_some _ _).symm.trans H; rw [hy231]; with_reducible exact H2_) | (have H2_ := (Option.bind_some _ _).symm.trans H; with_reducible exact H2_) | with_reducible exact H | (rw [hy231]; exact H) | exact H
            have Ny231 := Aside0.mk hy231
            clear hy231
            have H' := Aside0.mk H
            clear H
            have hcz18_0 : wr.cell? ⟨gb230, 0, none⟩ = some (.string (⟨#[]⟩ : ByteArray)) := (blk_cell BK230.out 0).trans rfl
            have hcz18_1 : wr.cell? ⟨gb230, 1, none⟩ = some (.int .i64 0) := (blk_cell BK230.out 1).trans rfl
            have hcz18_2 : wr.cell? ⟨gb230, 2, none⟩ = some (.bool false) := (blk_cell BK230.out 2).trans rfl
            have hfz18_0 := blk_frozen BK230.out 0
            have hfz18_1 := blk_frozen BK230.out 1
            have hfz18_2 := blk_frozen BK230.out 2
            go_wp2_with (first | ((with_reducible refine gate_builtin (b := .append) (xs := #[.tmp 107, .tmp 109]) rfl ?_); (try (refine gate_guard (by rfl) ?_; dsimp only)); at_builtin; refine Kd.R_append k26 (w0 := w) w.heap.size rfl (.tmp 107) (.tmp 109) 45 26 (.agg #[(.string ⟨#[]⟩), (.int .i64 0), (.bool false)]) 32 rfl Tryd.underlying45 info26 rfl (by decide) (by omega) u4 x4_1 (⟨(⟨#[]⟩ : ByteArray), wrap64 (x7_2 - 1099511627776), false⟩ : S26) [.string (⟨#[]⟩ : ByteArray), .int .i64 (wrap64 (x7_2 - 1099511627776)), .bool false] (fun k_ => k_ ≠ gb230) (fun _ => False) rfl (by first | (go_simp; done) | (go_simp; rfl)) ?aP (fun _ hk => hk.elim) ?aF ?aO ?aB ?aS ?aL ?_; (case aP => exact k26_mkM _ _ _ (⟨(⟨#[]⟩ : ByteArray), wrap64 (x7_2 - 1099511627776), false⟩ : S26)); (case aB => exact (by repeat (first | (with_reducible first | exact HB.out | apply below_alloc | apply pw_below_drewN | apply below_drew1 | refine below_set ?_ GE230.out) | exact HB.out))); (case aF => exact (fun k_ hk => Kd.freshB (g := gb230) (o := .cells #[.string (⟨#[]⟩ : ByteArray), .int .i64 (wrap64 (x7_2 - 1099511627776)), .bool false] 26 (0, 0)) (by (with_reducible repeat (first | refine blk_drewN ?_ _ | refine blk_drew ?_ | refine blk_alloc ?_ _)); refine blk_put (cs := #[.string (⟨#[]⟩ : ByteArray), .int .i64 0, .bool false]) ?_ 1 _ rfl; (with_reducible repeat (first | refine blk_drewN ?_ _ | refine blk_drew ?_ | refine blk_alloc ?_ _)); exact BK230.out) k_ hk)); (case aO => exact (by (with_reducible repeat (first | apply Kd.R_alloc | apply Kd.R_drewN | apply Kd.R_drew)); exact Kd.R_mono (Kd.R_far (p := ⟨gb230, 1, none⟩) (Kd.R_mono HO_4.out (fun k_ hk => (⟨hk, hk⟩ : _ ∧ k_ ≠ gb230))) (fun _ hk => hk.2) (.int .i64 (wrap64 (x7_2 - 1099511627776)))) (fun _ hk => hk.1))); (case aS => exact (below_size (by repeat (first | (with_reducible first | exact HB.out | apply below_alloc | apply pw_below_drewN | apply below_drew1 | refine below_set ?_ GE230.out) | exact HB.out)))); (case aL => have := LMc17.out; omega); intro v232 w19 ho hb hg hat; rw [← Ny231.out] at ho; have n0_ := Aside0.mk (blk_grown (g := gb230) (o := .cells #[.string (⟨#[]⟩ : ByteArray), .int .i64 (wrap64 (x7_2 - 1099511627776)), .bool false] 26 (0, 0)) (by (with_reducible repeat (first | refine blk_drewN ?_ _ | refine blk_drew ?_ | refine blk_alloc ?_ _)); refine blk_put (cs := #[.string (⟨#[]⟩ : ByteArray), .int .i64 0, .bool false]) ?_ 1 _ rfl; (with_reducible repeat (first | refine blk_drewN ?_ _ | refine blk_drew ?_ | refine blk_alloc ?_ _)); exact BK230.out) hg (Kd.R_away HO_4.out (fun _ hk => hk))); have n1_ := Aside0.mk (hb); have n2_ := Aside0.mk (ho); clear BK230; clear HB; clear HO_4; have BK230 := n0_; have HB := n1_; have HO233 := n2_; clear n0_ n1_ n2_; clear ho hb hg hat))
            go_roundg k2
            case measure => have := HK1.out; have := HK2.out; omega
            case rel => exact ⟨(y231), (wrap64 (x5_1 + 7)), (by first | rfl | (simp; done) | (simp [*]; done)), H', ⟨by have := HK1.out; have := HK2.out; omega⟩, ⟨by (with_reducible repeat (first | apply Kd.R_alloc | apply Kd.R_drewN | apply Kd.R_drew)); exact Kd.R_mono HO233.out (fun _ hk => trivial)⟩, ⟨by repeat (first | (with_reducible first | exact HB.out | apply below_alloc | apply pw_below_drewN | apply below_drew1 | refine below_set ?_ GE230.out) | exact HB.out)⟩⟩
           ·rw [if_neg c17] at H
            exact absurd H (by simp)
     ·rw [if_neg c5] at H
      have c5b0 : ((bt a0 x5_1) == 16) = false := beq_eq_false_iff_ne.mpr c5
      have c5b1 : ((bt a0 x5_1) != 16) = true := bne_iff_ne.mpr c5
      by_cases c21 : (bt a0 x5_1) = 32
      ·rw [if_pos c21] at H
       have c21b0 : ((bt a0 x5_1) == 32) = true := beq_iff_eq.mpr c21
       have c21b1 : ((bt a0 x5_1) != 32) = false := bne_eq_false_iff_eq.mpr c21
       clear c21
       have H' := Aside0.mk H
       clear H
       go_wp2_with (first | ((with_reducible refine gate_dst (N := 6) rfl ?_); (try (refine gate_guard (by rfl) ?_; dsimp only)); refine box_event ?hg (N := 6) ?hd (cs := #[.string (⟨#[]⟩ : ByteArray), .int .i64 0, .bool false]) (t := 26) ?hr ?_; (case hd => rfl); (case hg => rfl); (case hr => first | (go_simp; done) | (go_simp; rfl)); intro gb230 hg w22 hbox hb; have n0_ := Aside0.mk (Kd.R_below (Kd.R_elderB (by (with_reducible repeat (first | apply Kd.R_alloc | apply Kd.R_drewN | apply Kd.R_drew)); exact HO_4.out) gb230 (Nat.le_of_eq hg.symm)) hb); have n1_ := Aside0.mk (below_step (by repeat (first | (with_reducible first | exact HB.out | apply below_alloc | apply pw_below_drewN | apply below_drew1) | exact HB.out)) hb); have n2_ := Aside0.mk (hbox); have n3_ := Aside0.mk ((by rw [hg]; exact (below_size (by repeat (first | (with_reducible first | exact HB.out | apply below_alloc | apply pw_below_drewN | apply below_drew1) | exact HB.out))) : w.heap.size ≤ gb230)); have n4_ := Aside0.mk ((by rw [hg]; exact (below_size (by repeat (first | (with_reducible first | exact HB.out | apply below_alloc | apply pw_below_drewN | apply below_drew1) | exact HB.out))) : w.heap.size ≤ gb230)); clear HO_4; clear HB; have HO_4 := n0_; have HB := n1_; have BK230 := n2_; have GW230 := n3_; have GE230 := n4_; clear n0_ n1_ n2_ n3_ n4_; clear hb hbox hg; have hcz23_0 : w22.cell? ⟨gb230, 0, none⟩ = some (.string (⟨#[]⟩ : ByteArray)) := (blk_cell BK230.out 0).trans rfl; have hcz23_1 : w22.cell? ⟨gb230, 1, none⟩ = some (.int .i64 0) := (blk_cell BK230.out 1).trans rfl; have hcz23_2 : w22.cell? ⟨gb230, 2, none⟩ = some (.bool false) := (blk_cell BK230.out 2).trans rfl; have hfz23_0 := blk_frozen BK230.out 0; have hfz23_1 := blk_frozen BK230.out 1; have hfz23_2 := blk_frozen BK230.out 2; have p4 : 0 ≤ (x5_1 : Int) := of_decide_eq_true (by first | (with_reducible assumption) | assumption); have q4 : x5_1 < (a0.size : Int) := of_decide_eq_true (by first | (with_reducible assumption) | assumption); have hx4 := bt_at a0 x5_1; replace p4 := eq_true p4; replace q4 := eq_true q4; have p20 : 0 ≤ (x5_1 : Int) := of_decide_eq_true (by first | (with_reducible assumption) | assumption); have q20 : x5_1 < (a0.size : Int) := of_decide_eq_true (by first | (with_reducible assumption) | assumption); have hx20 := bt_at a0 x5_1; replace p20 := eq_true p20; replace q20 := eq_true q20))
       go_loopg [5, 9] k1 (fun kq v5 v9 w' => ∃ (x5_2 : Int) (x9_2 : Bool) (x231000_2 : ByteArray), v5 = .int .i64 x5_2 ∧ v9 = .bool x9_2 ∧ Aside0 (concordanceref01_Get.l2 kq a0 x4_1 x5_2 x9_2 x231000_2 0 true = some (r1, r2)) ∧ Aside0 (kq ≤ k1) ∧ Aside0 (Kd.R k26 26 w' w.heap.size (fun k_ => k_ ≠ gb230) u4 x4_1) ∧ Aside0 (w'.heap[gb230]? = some (.cells #[.string x231000_2, .int .i64 0, .bool true] 26 (0, 0))) ∧ Aside0 (Below w.heap.size w w'))
       case atStart => exact ⟨(wrap64 (x5_1 + 1)), (false), ((⟨#[]⟩ : ByteArray)), (by first | rfl | (simp; done) | (simp [*]; done)), (by first | rfl | (simp; done) | (simp [*]; done)), H', ⟨Nat.le_refl _⟩, ⟨by (with_reducible repeat (first | apply Kd.R_alloc | apply Kd.R_drewN | apply Kd.R_drew)); exact Kd.R_mono (Kd.R_far (p := ⟨gb230, 2, none⟩) (Kd.R_far (p := ⟨gb230, 2, none⟩) (Kd.R_far (p := ⟨gb230, 1, none⟩) (Kd.R_far (p := ⟨gb230, 0, none⟩) (Kd.R_mono HO_4.out (fun k_ hk => (⟨hk, hk.2⟩ : _ ∧ k_ ≠ gb230))) (fun _ hk => hk.2) (.string (⟨#[]⟩ : ByteArray))) (fun _ hk => hk.2) (.int .i64 0)) (fun _ hk => hk.2) (.bool false)) (fun _ hk => hk.2) (.bool true)) (fun _ hk => hk.1.2)⟩, ⟨by (with_reducible repeat (first | refine blk_drewN ?_ _ | refine blk_drew ?_ | refine blk_alloc ?_ _)); refine blk_put (cs := #[.string (⟨#[]⟩ : ByteArray), .int .i64 0, .bool false]) ?_ 2 _ rfl; (with_reducible repeat (first | refine blk_drewN ?_ _ | refine blk_drew ?_ | refine blk_alloc ?_ _)); refine blk_put (cs := #[.string (⟨#[]⟩ : ByteArray), .int .i64 0, .bool false]) ?_ 2 _ rfl; (with_reducible repeat (first | refine blk_drewN ?_ _ | refine blk_drew ?_ | refine blk_alloc ?_ _)); refine blk_put (cs := #[.string (⟨#[]⟩ : ByteArray), .int .i64 0, .bool false]) ?_ 1 _ rfl; (with_reducible repeat (first | refine blk_drewN ?_ _ | refine blk_drew ?_ | refine blk_alloc ?_ _)); refine blk_put (cs := #[.string (⟨#[]⟩ : ByteArray), .int .i64 0, .bool false]) ?_ 0 _ rfl; (with_reducible repeat (first | refine blk_drewN ?_ _ | refine blk_drew ?_ | refine blk_alloc ?_ _)); exact BK230.out⟩, ⟨by repeat (first | (with_reducible first | exact HB.out | apply below_alloc | apply pw_below_drewN | apply below_drew1 | refine below_set ?_ GE230.out) | exact HB.out)⟩⟩
       case round =>
        clear H'
        try clear c1
        try clear p1
        try clear q1
        try clear hx1
        try clear c2
        try clear c2b0
        try clear p2
        try clear q2
        try clear hx2
        try clear c3
        try clear c3b0
        try clear c4
        try clear p4
        try clear q4
        try clear hx4
        try clear c5
        try clear c5b0
        try clear c5b1
        try clear c6
        try clear c6b0
        try clear p6
        try clear c11
        try clear c11b0
        try clear c13
        try clear c13b0
        try clear c14
        try clear c14b0
        try clear p15
        try clear q15
        try clear hx15
        try clear c16
        try clear c16b0
        try clear c17
        try clear p20
        try clear q20
        try clear hx20
        try clear c21
        try clear c21b0
        try clear c21b1
        try clear hcz10_0
        try clear hcz10_1
        try clear hcz10_2
        try clear hcz18_0
        try clear hcz18_1
        try clear hcz18_2
        try clear hcz23_0
        try clear hcz23_1
        try clear hcz23_2
        try clear hcz8_0
        try clear hcz8_1
        try clear hcz8_2
        try clear hfz10_0
        try clear hfz10_1
        try clear hfz10_2
        try clear hfz18_0
        try clear hfz18_1
        try clear hfz18_2
        try clear hfz23_0
        try clear hfz23_1
        try clear hfz23_2
        try clear hfz8_0
        try clear hfz8_1
        try clear hfz8_2
        try clear p15
        try clear p2
        try clear p20
        try clear p4
        try clear p6
        try clear q15
        try clear q20
        try clear q4
        obtain ⟨x5_2, x9_2, x231000_2, rfl, rfl, HA, HK2, HO_4, BK230, HB⟩ := hrel
        cases gk with
        | zero => exact absurd HA.out (by simp [concordanceref01_Get.l2])
        | succ k2 =>
         have H := HA.out
         clear HA
         simp only [concordanceref01_Get.l2] at H
         by_cases c24 : x9_2 = true
         ·subst c24
          have H1 : (if (x231000_2.size : Int) > 20 then (some (([] : List (S26)), 6)) else (if x4_1.length < 4398046511104 then (concordanceref01_Get.l0 k2 a0 (x4_1 ++ [(⟨x231000_2, 0, true⟩ : S26)]) x5_2) else (none))) = some (r1, r2) := by rw [if_pos rfl] at H; exact H
          clear H
          have H := H1
          clear H1
          by_cases c25 : (x231000_2.size : Int) > 20
          ·rw [if_pos c25] at H
           have c25b0 : decide (20 < (x231000_2.size : Int)) = true := decide_eq_true c25
           have c25b1 : decide (20 < x231000_2.size) = true := decide_eq_true (by omega)
           clear c25
           simp only [Option.some.injEq, Prod.mk.injEq] at H
           obtain ⟨rfl, rfl⟩ := H
           have hcz26_0 : wr.cell? ⟨gb230, 0, none⟩ = some (.string x231000_2) := (blk_cell BK230.out 0).trans rfl
           have hcz26_1 : wr.cell? ⟨gb230, 1, none⟩ = some (.int .i64 0) := (blk_cell BK230.out 1).trans rfl
           have hcz26_2 : wr.cell? ⟨gb230, 2, none⟩ = some (.bool true) := (blk_cell BK230.out 2).trans rfl
           have hfz26_0 := blk_frozen BK230.out 0
           have hfz26_1 := blk_frozen BK230.out 1
           have hfz26_2 := blk_frozen BK230.out 2
           go_wp2
           go_ret2
           exact ⟨_, by first | rfl | (simp [errW_none, errW_some] <;> rfl) | (simp [*, errW_none, errW_some] <;> rfl), by first | exact Kd.R_nil _ _ _ _ _ | exact Kd.N_nil _ _ _ _ _ | exact Kd.V_nil _ _ _ _ _ | exact Kd.Q_nil _ _ _ _ _ | exact Kd.S_nil _ _ _ _ _, by repeat (first | (with_reducible first | exact HB.out | apply below_alloc | apply pw_below_drewN | apply below_drew1 | refine below_set ?_ GE230.out) | exact HB.out)⟩
          ·rw [if_neg c25] at H
           have c25b0 : decide (20 < (x231000_2.size : Int)) = false := decide_eq_false c25
           have c25b1 : decide (20 < x231000_2.size) = false := decide_eq_false (by omega)
           clear c25
           by_cases c27 : x4_1.length < 4398046511104
           ·rw [if_pos c27] at H
            have LMc27 := Aside0.mk c27
            clear c27
            obtain ⟨y234, hy234⟩ : ∃ y_ : List (S26), y_ = (x4_1 ++ [(⟨x231000_2, 0, true⟩ : S26)]) := ⟨_, rfl⟩
            replace H : (concordanceref01_Get.l0 k2 a0 y234 x5_2) = some (r1, r2) := by first | (rw [hy234]; with_reducible exact H) | (have H2_ := (Option.bind_some _ _).symm.trans H; rw [hy234]; with_reducible exact H2_) | (have H2_ := (Option.bind_some _ _).symm.trans H; with_reducible exact H2_) | with_reducible exact H | (rw [hy234]; exact H) | exact H
            have Ny234 := Aside0.mk hy234
            clear hy234
            have H' := Aside0.mk H
            clear H
            have hcz28_0 : wr.cell? ⟨gb230, 0, none⟩ = some (.string x231000_2) := (blk_cell BK230.out 0).trans rfl
            have hcz28_1 : wr.cell? ⟨gb230, 1, none⟩ = some (.int .i64 0) := (blk_cell BK230.out 1).trans rfl
            have hcz28_2 : wr.cell? ⟨gb230, 2, none⟩ = some (.bool true) := (blk_cell BK230.out 2).trans rfl
            have hfz28_0 := blk_frozen BK230.out 0
            have hfz28_1 := blk_frozen BK230.out 1
            have hfz28_2 := blk_frozen BK230.out 2
            go_wp2_with (first | ((with_reducible refine gate_builtin (b := .append) (xs := #[.tmp 107, .tmp 109]) rfl ?_); (try (refine gate_guard (by rfl) ?_; dsimp only)); at_builtin; refine Kd.R_append k26 (w0 := w) w.heap.size rfl (.tmp 107) (.tmp 109) 45 26 (.agg #[(.string ⟨#[]⟩), (.int .i64 0), (.bool false)]) 32 rfl Tryd.underlying45 info26 rfl (by decide) (by omega) u4 x4_1 (⟨x231000_2, 0, true⟩ : S26) [.string x231000_2, .int .i64 0, .bool true] (fun k_ => k_ ≠ gb230) (fun _ => False) rfl rfl ?aP (fun _ hk => hk.elim) ?aF ?aO ?aB ?aS ?aL ?_; (case aP => exact k26_mkM _ _ _ (⟨x231000_2, 0, true⟩ : S26)); (case aB => exact (by repeat (first | (with_reducible first | exact HB.out | apply below_alloc | apply pw_below_drewN | apply below_drew1 | refine below_set ?_ GE230.out) | exact HB.out))); (case aF => exact (fun k_ hk => Kd.freshB (g := gb230) (o := .cells #[.string x231000_2, .int .i64 0, .bool true] 26 (0, 0)) (by (with_reducible repeat (first | refine blk_drewN ?_ _ | refine blk_drew ?_ | refine blk_alloc ?_ _)); exact BK230.out) k_ hk)); (case aO => exact (by (with_reducible repeat (first | apply Kd.R_alloc | apply Kd.R_drewN | apply Kd.R_drew)); exact HO_4.out)); (case aS => exact (below_size (by repeat (first | (with_reducible first | exact HB.out | apply below_alloc | apply pw_below_drewN | apply below_drew1 | refine below_set ?_ GE230.out) | exact HB.out)))); (case aL => have := LMc27.out; omega); intro v235 w29 ho hb hg hat; rw [← Ny234.out] at ho; have n0_ := Aside0.mk (blk_grown (g := gb230) (o := .cells #[.string x231000_2, .int .i64 0, .bool true] 26 (0, 0)) (by (with_reducible repeat (first | refine blk_drewN ?_ _ | refine blk_drew ?_ | refine blk_alloc ?_ _)); exact BK230.out) hg (Kd.R_away HO_4.out (fun _ hk => hk))); have n1_ := Aside0.mk (hb); have n2_ := Aside0.mk (ho); clear BK230; clear HB; clear HO_4; have BK230 := n0_; have HB := n1_; have HO236 := n2_; clear n0_ n1_ n2_; clear ho hb hg hat))
            go_roundg k2
            case measure => have := HK1.out; have := HK2.out; omega
            case rel => exact ⟨(y234), (x5_2), (by first | rfl | (simp; done) | (simp [*]; done)), H', ⟨by have := HK1.out; have := HK2.out; omega⟩, ⟨by (with_reducible repeat (first | apply Kd.R_alloc | apply Kd.R_drewN | apply Kd.R_drew)); exact Kd.R_mono HO236.out (fun _ hk => trivial)⟩, ⟨by repeat (first | (with_reducible first | exact HB.out | apply below_alloc | apply pw_below_drewN | apply below_drew1 | refine below_set ?_ GE230.out) | exact HB.out)⟩⟩
           ·rw [if_neg c27] at H
            exact absurd H (by simp)
         ·replace c24 := Bool.eq_false_iff.mpr c24
          subst c24
          have H1 : (if x5_2 ≥ (a0.size : Int) then (concordanceref01_Get.j3 k2 a0 x4_1 x5_2 false true x231000_2 0 true) else (if 0 ≤ x5_2 then (if x5_2 < (a0.size : Int) then (if (bt a0 x5_2) = 0 then (concordanceref01_Get.j3 k2 a0 x4_1 x5_2 false (decide ((wrap64 (x5_2 + 1)) ≥ (a0.size : Int))) x231000_2 0 true) else (concordanceref01_Get.j3 k2 a0 x4_1 x5_2 false false x231000_2 0 true)) else (none)) else (none))) = some (r1, r2) := by rw [if_neg (show ¬ (false = true) by decide)] at H; exact H
          clear H
          have H := H1
          clear H1
          have HC30 := Aside0.mk H
          clear H
          go_upto_region 22 with (fail)
          go_cut [69] (fun v69 wc => ∃ (kq : Nat) (x69_29 : Bool), v69 = .bool x69_29 ∧ Aside0 (concordanceref01_Get.j3 kq a0 x4_1 x5_2 false x69_29 x231000_2 0 true = some (r1, r2)) ∧ Aside0 (kq ≤ k2) ∧ Aside0 (Kd.R k26 26 wc w.heap.size (fun k_ => k_ ≠ gb230) u4 x4_1) ∧ Aside0 (wc.heap[gb230]? = some (.cells #[.string x231000_2, .int .i64 0, .bool true] 26 (0, 0))) ∧ Aside0 (Below w.heap.size w wc))
          case first =>
           have H := HC30.out
           clear HC30
           by_cases c31 : x5_2 ≥ (a0.size : Int)
           ·rw [if_pos c31] at H
            have c31b0 : decide ((a0.size : Int) ≤ x5_2) = true := decide_eq_true c31
            clear c31
            (first | rw [c31b0] | (simp only [i64_w, i32_w]; rw [c31b0]) | skip)
            have H' := Aside0.mk H
            clear H
            go_wp2
            go_meet
            case rel => exact ⟨_, (true), (by first | rfl | (simp; done) | (simp [*]; done)), H', ⟨by have := HK1.out; have := HK2.out; first | omega | exact Nat.le_refl _⟩, ⟨by (with_reducible repeat (first | apply Kd.R_alloc | apply Kd.R_drewN | apply Kd.R_drew)); exact HO_4.out⟩, ⟨by (with_reducible repeat (first | refine blk_drewN ?_ _ | refine blk_drew ?_ | refine blk_alloc ?_ _)); exact BK230.out⟩, ⟨by repeat (first | (with_reducible first | exact HB.out | apply below_alloc | apply pw_below_drewN | apply below_drew1 | refine below_set ?_ GE230.out) | exact HB.out)⟩⟩
           ·rw [if_neg c31] at H
            have c31b0 : decide ((a0.size : Int) ≤ x5_2) = false := decide_eq_false c31
            clear c31
            (first | rw [c31b0] | (simp only [i64_w, i32_w]; rw [c31b0]) | skip)
            by_cases c32 : 0 ≤ x5_2
            ·rw [if_pos c32] at H
             have c32b0 : decide (0 ≤ x5_2) = true := decide_eq_true c32
             clear c32
             by_cases c33 : x5_2 < (a0.size : Int)
             ·rw [if_pos c33] at H
              have c33b0 : decide (x5_2 < (a0.size : Int)) = true := decide_eq_true c33
              clear c33
              by_cases c35 : (bt a0 x5_2) = 0
              ·rw [if_pos c35] at H
               have c35b0 : ((bt a0 x5_2) == 0) = true := beq_iff_eq.mpr c35
               have c35b1 : ((bt a0 x5_2) != 0) = false := bne_eq_false_iff_eq.mpr c35
               clear c35
               have H' := Aside0.mk H
               clear H
               have p34 : 0 ≤ (x5_2 : Int) := of_decide_eq_true (by first | (with_reducible assumption) | assumption)
               have q34 : x5_2 < (a0.size : Int) := of_decide_eq_true (by first | (with_reducible assumption) | assumption)
               have hx34 := bt_at a0 x5_2
               replace p34 := eq_true p34
               replace q34 := eq_true q34
               go_wp2
               go_meet
               case rel => exact ⟨_, (decide ((wrap64 (x5_2 + 1)) ≥ (a0.size : Int))), (by first | rfl | (simp; done) | (simp [*]; done)), H', ⟨by have := HK1.out; have := HK2.out; first | omega | exact Nat.le_refl _⟩, ⟨by (with_reducible repeat (first | apply Kd.R_alloc | apply Kd.R_drewN | apply Kd.R_drew)); exact HO_4.out⟩, ⟨by (with_reducible repeat (first | refine blk_drewN ?_ _ | refine blk_drew ?_ | refine blk_alloc ?_ _)); exact BK230.out⟩, ⟨by repeat (first | (with_reducible first | exact HB.out | apply below_alloc | apply pw_below_drewN | apply below_drew1 | refine below_set ?_ GE230.out) | exact HB.out)⟩⟩
              ·rw [if_neg c35] at H
               have c35b0 : ((bt a0 x5_2) == 0) = false := beq_eq_false_iff_ne.mpr c35
               have c35b1 : ((bt a0 x5_2) != 0) = true := bne_iff_ne.mpr c35
               have H' := Aside0.mk H
               clear H
               have p34 : 0 ≤ (x5_2 : Int) := of_decide_eq_true (by first | (with_reducible assumption) | assumption)
               have q34 : x5_2 < (a0.size : Int) := of_decide_eq_true (by first | (with_reducible assumption) | assumption)
               have hx34 := bt_at a0 x5_2
               replace p34 := eq_true p34
               replace q34 := eq_true q34
               go_wp2
               go_meet
               case rel => exact ⟨_, (false), (by first | rfl | (simp; done) | (simp [*]; done)), H', ⟨by have := HK1.out; have := HK2.out; first | omega | exact Nat.le_refl _⟩, ⟨by (with_reducible repeat (first | apply Kd.R_alloc | apply Kd.R_drewN | apply Kd.R_drew)); exact HO_4.out⟩, ⟨by (with_reducible repeat (first | refine blk_drewN ?_ _ | refine blk_drew ?_ | refine blk_alloc ?_ _)); exact BK230.out⟩, ⟨by repeat (first | (with_reducible first | exact HB.out | apply below_alloc | apply pw_below_drewN | apply below_drew1 | refine below_set ?_ GE230.out) | exact HB.out)⟩⟩
             ·rw [if_neg c33] at H
              exact absurd H (by simp)
            ·rw [if_neg c32] at H
             exact absurd H (by simp)
          case rest =>
           clear HC30
           try clear c1
           try clear p1
           try clear q1
           try clear hx1
           try clear c2
           try clear c2b0
           try clear p2
           try clear q2
           try clear hx2
           try clear c3
           try clear c3b0
           try clear p3
           try clear q3
           try clear hx3
           try clear c4
           try clear p4
           try clear q4
           try clear hx4
           try clear c5
           try clear c5b0
           try clear c5b1
           try clear c6
           try clear c6b0
           try clear p6
           try clear c11
           try clear c11b0
           try clear c13
           try clear c13b0
           try clear c14
           try clear c14b0
           try clear p15
           try clear q15
           try clear hx15
           try clear c16
           try clear c16b0
           try clear c17
           try clear p20
           try clear q20
           try clear hx20
           try clear c21
           try clear c21b0
           try clear c21b1
           try clear c24
           try clear c25
           try clear c25b0
           try clear c25b1
           try clear c27
           try clear c31
           try clear c31b0
           try clear c32
           try clear c32b0
           try clear c33
           try clear c33b0
           try clear p34
           try clear q34
           try clear hx34
           try clear c35
           try clear c35b0
           try clear c35b1
           try clear hcz10_0
           try clear hcz10_1
           try clear hcz10_2
           try clear hcz18_0
           try clear hcz18_1
           try clear hcz18_2
           try clear hcz23_0
           try clear hcz23_1
           try clear hcz23_2
           try clear hcz26_0
           try clear hcz26_1
           try clear hcz26_2
           try clear hcz28_0
           try clear hcz28_1
           try clear hcz28_2
           try clear hcz8_0
           try clear hcz8_1
           try clear hcz8_2
           try clear hfz10_0
           try clear hfz10_1
           try clear hfz10_2
           try clear hfz18_0
           try clear hfz18_1
           try clear hfz18_2
           try clear hfz23_0
           try clear hfz23_1
           try clear hfz23_2
           try clear hfz26_0
           try clear hfz26_1
           try clear hfz26_2
           try clear hfz28_0
           try clear hfz28_1
           try clear hfz28_2
           try clear hfz8_0
           try clear hfz8_1
           try clear hfz8_2
           try clear p1
           try clear p15
           try clear p2
           try clear p20
           try clear p34
           try clear p4
           try clear p6
           try clear q1
           try clear q15
           try clear q2
           try clear q20
           try clear q34
           try clear q4
           obtain ⟨kq, x69_29, rfl, HA, HJ29, HO_4, BK230, HB⟩ := hcut
           cases kq with
           | zero => exact absurd HA.out (by simp [concordanceref01_Get.j3])
           | succ kj29 =>
            have H := HA.out
            clear HA
            simp only [concordanceref01_Get.j3] at H
            by_cases c36 : x69_29 = true
            ·subst c36
             have H1 : (some (([] : List (S26)), 3)) = some (r1, r2) := by rw [if_pos rfl] at H; exact H
             clear H
             have H := H1
             clear H1
             simp only [Option.some.injEq, Prod.mk.injEq] at H
             obtain ⟨rfl, rfl⟩ := H
             go_wp2
             go_ret2
             exact ⟨_, by first | rfl | (simp [errW_none, errW_some] <;> rfl) | (simp [*, errW_none, errW_some] <;> rfl), by first | exact Kd.R_nil _ _ _ _ _ | exact Kd.N_nil _ _ _ _ _ | exact Kd.V_nil _ _ _ _ _ | exact Kd.Q_nil _ _ _ _ _ | exact Kd.S_nil _ _ _ _ _, by repeat (first | (with_reducible first | exact HB.out | apply below_alloc | apply pw_below_drewN | apply below_drew1 | refine below_set ?_ GE230.out) | exact HB.out)⟩
            ·replace c36 := Bool.eq_false_iff.mpr c36
             subst c36
             have H1 : (if 0 ≤ x5_2 then (if x5_2 < (a0.size : Int) then (if (bt a0 x5_2) = 0 then (if 0 ≤ (wrap64 (x5_2 + 1)) then (if (wrap64 (x5_2 + 1)) < (a0.size : Int) then (if (bt a0 (wrap64 (x5_2 + 1))) = 255 then (if x231000_2.size + 1 ≤ 9223372036854775807 then (concordanceref01_Get.l2 kj29 a0 x4_1 (wrap64 (x5_2 + 2)) false (x231000_2 ++ (⟨#[0]⟩ : ByteArray)) 0 true) else (none)) else (if (bt a0 (wrap64 (x5_2 + 1))) = 1 then (concordanceref01_Get.l2 kj29 a0 x4_1 (wrap64 (x5_2 + 2)) true x231000_2 0 true) else (some (([] : List (S26)), 2)))) else (none)) else (none)) else (if x5_2 ≤ (wrap64 (x5_2 + 1)) then (if (wrap64 (x5_2 + 1)) ≤ (a0.size : Int) then (if x231000_2.size + (a0.extract (x5_2 : Int).toNat ((wrap64 (x5_2 + 1)) : Int).toNat).size ≤ 9223372036854775807 then (concordanceref01_Get.l2 kj29 a0 x4_1 (wrap64 (x5_2 + 1)) false (x231000_2 ++ (a0.extract (x5_2 : Int).toNat ((wrap64 (x5_2 + 1)) : Int).toNat)) 0 true) else (none)) else (none)) else (none))) else (none)) else (none)) = some (r1, r2) := by rw [if_neg (show ¬ (false = true) by decide)] at H; exact H
             clear H
             have H := H1
             clear H1
             by_cases c37 : 0 ≤ x5_2
             ·rw [if_pos c37] at H
              have c37b0 : decide (0 ≤ x5_2) = true := decide_eq_true c37
              clear c37
              by_cases c38 : x5_2 < (a0.size : Int)
              ·rw [if_pos c38] at H
               have c38b0 : decide (x5_2 < (a0.size : Int)) = true := decide_eq_true c38
               clear c38
               by_cases c40 : (bt a0 x5_2) = 0
               ·rw [if_pos c40] at H
                have c40b0 : ((bt a0 x5_2) == 0) = true := beq_iff_eq.mpr c40
                have c40b1 : ((bt a0 x5_2) != 0) = false := bne_eq_false_iff_eq.mpr c40
                clear c40
                obtain ⟨ji41, hji41⟩ : ∃ j_ : Int, (wrap64 (x5_2 + 1)) = j_ := ⟨_, rfl⟩
                replace H : (if 0 ≤ (ji41) then (if (ji41) < (a0.size : Int) then (if (bt a0 (ji41)) = 255 then (if x231000_2.size + 1 ≤ 9223372036854775807 then (concordanceref01_Get.l2 kj29 a0 x4_1 (wrap64 (x5_2 + 2)) false (x231000_2 ++ (⟨#[0]⟩ : ByteArray)) 0 true) else (none)) else (if (bt a0 (ji41)) = 1 then (concordanceref01_Get.l2 kj29 a0 x4_1 (wrap64 (x5_2 + 2)) true x231000_2 0 true) else (some (([] : List (S26)), 2)))) else (none)) else (none)) = some (r1, r2) := by first | (rw [hji41] at H; exact H) | (simp only [hji41] at H ⊢; exact H)
                have hji41w : (IntKind.i64.wrap (x5_2 + 1)) = ji41 := (i64_w _).trans hji41
                by_cases c42 : 0 ≤ (ji41)
                ·rw [if_pos c42] at H
                 have c42b0 : decide (0 ≤ (ji41)) = true := decide_eq_true c42
                 clear c42
                 by_cases c43 : (ji41) < (a0.size : Int)
                 ·rw [if_pos c43] at H
                  have c43b0 : decide ((ji41) < (a0.size : Int)) = true := decide_eq_true c43
                  clear c43
                  by_cases c45 : (bt a0 (ji41)) = 255
                  ·rw [if_pos c45] at H
                   have c45b0 : ((bt a0 (ji41)) == 255) = true := beq_iff_eq.mpr c45
                   have c45b1 : ((bt a0 (ji41)) != 255) = false := bne_eq_false_iff_eq.mpr c45
                   clear c45
                   by_cases c46 : x231000_2.size + 1 ≤ 9223372036854775807
                   ·rw [if_pos c46] at H
                    have c46b0 := eq_true c46
                    have c46b1 : decide (x231000_2.size + 1 ≤ 9223372036854775807) = true := decide_eq_true c46
                    try have c46b2 : (9223372036854775807 < x231000_2.size + 1) = False := eq_false (Nat.not_lt.2 c46)
                    have H' := Aside0.mk H
                    clear H
                    have p39 : 0 ≤ (x5_2 : Int) := of_decide_eq_true (by first | (with_reducible assumption) | assumption)
                    have q39 : x5_2 < (a0.size : Int) := of_decide_eq_true (by first | (with_reducible assumption) | assumption)
                    have hx39 := bt_at a0 x5_2
                    replace p39 := eq_true p39
                    replace q39 := eq_true q39
                    have p44 : 0 ≤ ((ji41) : Int) := of_decide_eq_true (by first | (with_reducible assumption) | assumption)
                    have q44 : (ji41) < (a0.size : Int) := of_decide_eq_true (by first | (with_reducible assumption) | assumption)
                    have hx44 := bt_at a0 (ji41)
                    replace p44 := eq_true p44
                    replace q44 := eq_true q44
                    have hcz47_0 : wc.cell? ⟨gb230, 0, none⟩ = some (.string x231000_2) := (blk_cell BK230.out 0).trans rfl
                    have hcz47_1 : wc.cell? ⟨gb230, 1, none⟩ = some (.int .i64 0) := (blk_cell BK230.out 1).trans rfl
                    have hcz47_2 : wc.cell? ⟨gb230, 2, none⟩ = some (.bool true) := (blk_cell BK230.out 2).trans rfl
                    have hfz47_0 := blk_frozen BK230.out 0
                    have hfz47_1 := blk_frozen BK230.out 1
                    have hfz47_2 := blk_frozen BK230.out 2
                    go_wp2
                    go_roundg kj29
                    case measure => have := HK1.out; have := HK2.out; have := HJ29.out; omega
                    case rel => exact ⟨(wrap64 (x5_2 + 2)), (false), (x231000_2 ++ (⟨#[0]⟩ : ByteArray)), (by first | rfl | (simp; done) | (simp [*]; done)), (by first | rfl | (simp; done) | (simp [*]; done)), H', ⟨by have := HK1.out; have := HK2.out; have := HJ29.out; omega⟩, ⟨by (with_reducible repeat (first | apply Kd.R_alloc | apply Kd.R_drewN | apply Kd.R_drew)); exact Kd.R_mono (Kd.R_far (p := ⟨gb230, 0, none⟩) (Kd.R_mono HO_4.out (fun k_ hk => (⟨hk, hk⟩ : _ ∧ k_ ≠ gb230))) (fun _ hk => hk.2) (.string (x231000_2 ++ (⟨#[0]⟩ : ByteArray)))) (fun _ hk => hk.1)⟩, ⟨by (with_reducible repeat (first | refine blk_drewN ?_ _ | refine blk_drew ?_ | refine blk_alloc ?_ _)); refine blk_put (cs := #[.string x231000_2, .int .i64 0, .bool true]) ?_ 0 _ rfl; (with_reducible repeat (first | refine blk_drewN ?_ _ | refine blk_drew ?_ | refine blk_alloc ?_ _)); exact BK230.out⟩, ⟨by repeat (first | (with_reducible first | exact HB.out | apply below_alloc | apply pw_below_drewN | apply below_drew1 | refine below_set ?_ GE230.out) | exact HB.out)⟩⟩
                   ·rw [if_neg c46] at H
                    exact absurd H (by simp)
                  ·rw [if_neg c45] at H
                   have c45b0 : ((bt a0 (ji41)) == 255) = false := beq_eq_false_iff_ne.mpr c45
                   have c45b1 : ((bt a0 (ji41)) != 255) = true := bne_iff_ne.mpr c45
                   by_cases c49 : (bt a0 (ji41)) = 1
                   ·rw [if_pos c49] at H
                    have c49b0 : ((bt a0 (ji41)) == 1) = true := beq_iff_eq.mpr c49
                    have c49b1 : ((bt a0 (ji41)) != 1) = false := bne_eq_false_iff_eq.mpr c49
                    clear c49
                    have H' := Aside0.mk H
                    clear H
                    have p39 : 0 ≤ (x5_2 : Int) := of_decide_eq_true (by first | (with_reducible assumption) | assumption)
                    have q39 : x5_2 < (a0.size : Int) := of_decide_eq_true (by first | (with_reducible assumption) | assumption)
                    have hx39 := bt_at a0 x5_2
                    replace p39 := eq_true p39
                    replace q39 := eq_true q39
                    have p44 : 0 ≤ ((ji41) : Int) := of_decide_eq_true (by first | (with_reducible assumption) | assumption)
                    have q44 : (ji41) < (a0.size : Int) := of_decide_eq_true (by first | (with_reducible assumption) | assumption)
                    have hx44 := bt_at a0 (ji41)
                    replace p44 := eq_true p44
                    replace q44 := eq_true q44
                    have p48 : 0 ≤ ((ji41) : Int) := of_decide_eq_true (by first | (with_reducible assumption) | assumption)
                    have q48 : (ji41) < (a0.size : Int) := of_decide_eq_true (by first | (with_reducible assumption) | assumption)
                    have hx48 := bt_at a0 (ji41)
                    replace p48 := eq_true p48
                    replace q48 := eq_true q48
                    go_wp2
                    go_roundg kj29
                    case measure => have := HK1.out; have := HK2.out; have := HJ29.out; omega
                    case rel => exact ⟨(wrap64 (x5_2 + 2)), (true), (x231000_2), (by first | rfl | (simp; done) | (simp [*]; done)), (by first | rfl | (simp; done) | (simp [*]; done)), H', ⟨by have := HK1.out; have := HK2.out; have := HJ29.out; omega⟩, ⟨by (with_reducible repeat (first | apply Kd.R_alloc | apply Kd.R_drewN | apply Kd.R_drew)); exact HO_4.out⟩, ⟨by (with_reducible repeat (first | refine blk_drewN ?_ _ | refine blk_drew ?_ | refine blk_alloc ?_ _)); exact BK230.out⟩, ⟨by repeat (first | (with_reducible first | exact HB.out | apply below_alloc | apply pw_below_drewN | apply below_drew1 | refine below_set ?_ GE230.out) | exact HB.out)⟩⟩
                   ·rw [if_neg c49] at H
                    have c49b0 : ((bt a0 (ji41)) == 1) = false := beq_eq_false_iff_ne.mpr c49
                    have c49b1 : ((bt a0 (ji41)) != 1) = true := bne_iff_ne.mpr c49
                    simp only [Option.some.injEq, Prod.mk.injEq] at H
                    obtain ⟨rfl, rfl⟩ := H
                    have p39 : 0 ≤ (x5_2 : Int) := of_decide_eq_true (by first | (with_reducible assumption) | assumption)
                    have q39 : x5_2 < (a0.size : Int) := of_decide_eq_true (by first | (with_reducible assumption) | assumption)
                    have hx39 := bt_at a0 x5_2
                    replace p39 := eq_true p39
                    replace q39 := eq_true q39
                    have p44 : 0 ≤ ((ji41) : Int) := of_decide_eq_true (by first | (with_reducible assumption) | assumption)
                    have q44 : (ji41) < (a0.size : Int) := of_decide_eq_true (by first | (with_reducible assumption) | assumption)
                    have hx44 := bt_at a0 (ji41)
                    replace p44 := eq_true p44
                    replace q44 := eq_true q44
                    have p48 : 0 ≤ ((ji41) : Int) := of_decide_eq_true (by first | (with_reducible assumption) | assumption)
                    have q48 : (ji41) < (a0.size : Int) := of_decide_eq_true (by first | (with_reducible assumption) | assumption)
                    have hx48 := bt_at a0 (ji41)
                    replace p48 := eq_true p48
                    replace q48 := eq_true q48
                    go_wp2
                    go_ret2
                    exact ⟨_, by first | rfl | (simp [errW_none, errW_some] <;> rfl) | (simp only [← hji41]; first | rfl | (simp [errW_none, errW_some] <;> rfl)) | (simp [*, errW_none, errW_some] <;> rfl), by first | exact Kd.R_nil _ _ _ _ _ | exact Kd.N_nil _ _ _ _ _ | exact Kd.V_nil _ _ _ _ _ | exact Kd.Q_nil _ _ _ _ _ | exact Kd.S_nil _ _ _ _ _, by repeat (first | (with_reducible first | exact HB.out | apply below_alloc | apply pw_below_drewN | apply below_drew1 | refine below_set ?_ GE230.out) | exact HB.out)⟩
                 ·rw [if_neg c43] at H
                  exact absurd H (by simp)
                ·rw [if_neg c42] at H
                 exact absurd H (by simp)
               ·rw [if_neg c40] at H
                have c40b0 : ((bt a0 x5_2) == 0) = false := beq_eq_false_iff_ne.mpr c40
                have c40b1 : ((bt a0 x5_2) != 0) = true := bne_iff_ne.mpr c40
                have c50b0 := eq_true (of_decide_eq_true (by first | (with_reducible assumption) | assumption) : 0 ≤ x5_2)
                by_cases c51 : x5_2 ≤ (wrap64 (x5_2 + 1))
                ·rw [if_pos c51] at H
                 have c51b0 := eq_true c51
                 have c51b1 : decide (x5_2 ≤ (wrap64 (x5_2 + 1))) = true := decide_eq_true c51
                 by_cases c52 : (wrap64 (x5_2 + 1)) ≤ (a0.size : Int)
                 ·rw [if_pos c52] at H
                  have c52b0 := eq_true c52
                  have c52b1 : decide ((wrap64 (x5_2 + 1)) ≤ (a0.size : Int)) = true := decide_eq_true c52
                  by_cases c53 : x231000_2.size + (a0.extract (x5_2 : Int).toNat ((wrap64 (x5_2 + 1)) : Int).toNat).size ≤ 9223372036854775807
                  ·rw [if_pos c53] at H
                   have c53b0 := eq_true c53
                   have c53b1 : decide (x231000_2.size + (a0.extract (x5_2 : Int).toNat ((wrap64 (x5_2 + 1)) : Int).toNat).size ≤ 9223372036854775807) = true := decide_eq_true c53
                   try have c53b2 : (9223372036854775807 < x231000_2.size + (a0.extract (x5_2 : Int).toNat ((wrap64 (x5_2 + 1)) : Int).toNat).size) = False := eq_false (Nat.not_lt.2 c53)
                   try (have hz_ : (a0.extract x5_2.toNat (wrap64 (x5_2 + 1)).toNat).size = (wrap64 (x5_2 + 1)).toNat - x5_2.toNat := by rw [ByteArray.size_extract, Nat.min_eq_left (Int.toNat_le.mpr (of_eq_true (by assumption)))]); (have c53b6 := c53b2; rw [hz_] at c53b6; clear hz_)
                   have H' := Aside0.mk H
                   clear H
                   have p39 : 0 ≤ (x5_2 : Int) := of_decide_eq_true (by first | (with_reducible assumption) | assumption)
                   have q39 : x5_2 < (a0.size : Int) := of_decide_eq_true (by first | (with_reducible assumption) | assumption)
                   have hx39 := bt_at a0 x5_2
                   replace p39 := eq_true p39
                   replace q39 := eq_true q39
                   try go_wp2
                   have n0_ := Aside0.mk (Kd.R_drew HO_4.out)
                   have n1_ := Aside0.mk (blk_drew BK230.out)
                   have n2_ := Aside0.mk (below_drew1 HB.out)
                   clear HO_4
                   clear BK230
                   clear HB
                   have HO_4 := n0_
                   have BK230 := n1_
                   have HB := n2_
                   clear n0_ n1_ n2_
                   refine start_ (n := 10) (S := fun w' => w'.cell? ⟨gb230, 0, none⟩ = some (.string x231000_2) ∧ w'.cell? ⟨gb230, 1, none⟩ = some (.int .i64 0) ∧ w'.cell? ⟨gb230, 2, none⟩ = some (.bool true)) (ds := [9]) #[false, false, false, false, false, false, false, false, false, false] (by kernel_rfl) rfl rfl ⟨(blk_cell BK230.out 0).trans rfl, (blk_cell BK230.out 1).trans rfl, (blk_cell BK230.out 2).trans rfl⟩ (fun hHeld => ?_); refine with_tabW concordanceref01_Get.tab25 concordanceref01_Get.bits25 (fun HT_ HW_ => ?_)
                   generalize wc.drew = w54 at HO_4 BK230 HB hHeld ⊢
                   refine pure_ (i := 0) (N := some 74) (v := ?_) (a' := ?_) #[true, false, false, false, false, false, false, false, false, false] rfl rfl (any_of HT_.out (by kernel_rfl)) (fun _ _ _ h => h) (Or.inl ⟨by rfl, ?_⟩) ?_ ?_
                   rotate_left
                   ·intro w'
                    go_simp
                    with_reducible rfl
                   rotate_left
                   ·simp only [Act.put, List.setIfInBounds_toArray, List.set_cons_zero, List.set_cons_succ, i64_w, i32_w]
                    rfl
                   refine pure_ (i := 2) (N := some 76) (v := ?_) (a' := ?_) #[true, false, true, false, false, false, false, false, false, false] rfl rfl (any_of HT_.out (by kernel_rfl)) (fun _ _ _ h => h) (Or.inl ⟨by rfl, ?_⟩) ?_ ?_
                   rotate_left
                   ·intro w'
                    go_simp
                    with_reducible rfl
                   rotate_left
                   ·simp only [Act.put, List.setIfInBounds_toArray, List.set_cons_zero, List.set_cons_succ, i64_w, i32_w]
                    rfl
                   refine pure_ (i := 3) (N := some 77) (v := ?_) (a' := ?_) #[true, false, true, true, false, false, false, false, false, false] rfl rfl (any_of HT_.out (by kernel_rfl)) (fun _ _ _ h => h) (Or.inl ⟨by rfl, ?_⟩) ?_ ?_
                   rotate_left
                   ·intro w'
                    go_simp
                    with_reducible rfl
                   rotate_left
                   ·simp only [Act.put, List.setIfInBounds_toArray, List.set_cons_zero, List.set_cons_succ, i64_w, i32_w]
                    rfl
                   refine pure_ (i := 4) (N := some 78) (v := ?_) (a' := ?_) #[true, false, true, true, true, false, false, false, false, false] rfl rfl (any_of HT_.out (by kernel_rfl)) (fun _ _ _ h => h) (Or.inl ⟨by rfl, ?_⟩) ?_ ?_
                   rotate_left
                   ·intro w'
                    go_simp
                    with_reducible rfl
                   rotate_left
                   ·simp only [Act.put, List.setIfInBounds_toArray, List.set_cons_zero, List.set_cons_succ, i64_w, i32_w]
                    rfl
                   refine pure_ (i := 5) (N := some 79) (v := ?_) (a' := ?_) #[true, false, true, true, true, true, false, false, false, false] rfl rfl (any_of HT_.out (by kernel_rfl)) (fun _ _ _ h => h) (Or.inl ⟨by rfl, ?_⟩) ?_ ?_
                   rotate_left
                   ·intro w'
                    go_simp
                    with_reducible rfl
                   rotate_left
                   ·simp only [Act.put, List.setIfInBounds_toArray, List.set_cons_zero, List.set_cons_succ, i64_w, i32_w]
                    rfl
                   refine pure_ (i := 6) (N := some 80) (v := ?_) (a' := ?_) #[true, false, true, true, true, true, true, false, false, false] rfl rfl (any_of HT_.out (by kernel_rfl)) (fun _ _ _ h => h) (Or.inl ⟨by rfl, ?_⟩) ?_ ?_
                   rotate_left
                   ·intro w'
                    go_simp
                    with_reducible rfl
                   rotate_left
                   ·simp only [Act.put, List.setIfInBounds_toArray, List.set_cons_zero, List.set_cons_succ, i64_w, i32_w]
                    rfl
                   refine take_ (i := 1) (N := some 75) (v := ?_) (a' := ?_) #[true, true, true, true, true, true, true, false, false, false] rfl rfl (take_ofW HT_.out HW_.out (by kernel_rfl)) (fun _ _ _ h => h) (Or.inl ⟨by rfl, ?_⟩) hHeld ?_ ?_
                   rotate_left
                   ·rintro w' ⟨s0, s1, s2⟩
                    go_simp
                    with_reducible rfl
                   rotate_left
                   ·simp only [Act.put, List.setIfInBounds_toArray, List.set_cons_zero, List.set_cons_succ, i64_w, i32_w]
                    rfl
                   refine pure_ (i := 7) (N := some 81) (v := ?_) (a' := ?_) #[true, true, true, true, true, true, true, true, false, false] rfl rfl (any_of HT_.out (by kernel_rfl)) (fun _ _ _ h => h) (Or.inl ⟨by rfl, ?_⟩) ?_ ?_
                   rotate_left
                   ·intro w'
                    go_simp
                    with_reducible rfl
                   rotate_left
                   ·simp only [Act.put, List.setIfInBounds_toArray, List.set_cons_zero, List.set_cons_succ, i64_w, i32_w]
                    rfl
                   refine pure_ (i := 8) (N := some 82) (v := ?_) (a' := ?_) #[true, true, true, true, true, true, true, true, true, false] rfl rfl (any_of HT_.out (by kernel_rfl)) (fun _ _ _ h => h) (Or.inl ⟨by rfl, ?_⟩) ?_ ?_
                   rotate_left
                   ·intro w'
                    go_simp
                    with_reducible rfl
                   rotate_left
                   ·simp only [Act.put, List.setIfInBounds_toArray, List.set_cons_zero, List.set_cons_succ, i64_w, i32_w]
                    rfl
                   refine last_ (i := 9) (N := none) #[true, true, true, true, true, true, true, true, true, true] rfl rfl (one_of HT_.out (by kernel_rfl)) (by decide) (fun K hK => ?_)
                   have hs55 : w54.cell? ⟨gb230, 0, none⟩ = some (.string x231000_2) := (blk_cell BK230.out 0).trans rfl
                   have hfs55 := blk_frozen BK230.out 0
                   refine skip_ (w1 := ?_) (by rfl) rfl ?_ ?_
                   rotate_left
                   ·go_simp
                    rfl
                   refine hK.out _ _ ?_
                   clear hK K
                   refine done_ (done_of HT_.out (by kernel_rfl)) ?_
                   try go_wp2
                   go_roundg kj29
                   case measure => have := HK1.out; have := HK2.out; have := HJ29.out; omega
                   case rel => exact ⟨(wrap64 (x5_2 + 1)), (false), (x231000_2 ++ (a0.extract (x5_2 : Int).toNat ((wrap64 (x5_2 + 1)) : Int).toNat)), (by first | rfl | (simp; done) | (simp [*]; done)), (by first | rfl | (simp; done) | (simp [*]; done)), H', ⟨by have := HK1.out; have := HK2.out; have := HJ29.out; omega⟩, ⟨by (with_reducible repeat (first | apply Kd.R_alloc | apply Kd.R_drewN | apply Kd.R_drew)); exact Kd.R_mono (Kd.R_far (p := ⟨gb230, 0, none⟩) (Kd.R_mono HO_4.out (fun k_ hk => (⟨hk, hk⟩ : _ ∧ k_ ≠ gb230))) (fun _ hk => hk.2) (.string (x231000_2 ++ (a0.extract (x5_2 : Int).toNat ((wrap64 (x5_2 + 1)) : Int).toNat)))) (fun _ hk => hk.1)⟩, ⟨by (with_reducible repeat (first | refine blk_drewN ?_ _ | refine blk_drew ?_ | refine blk_alloc ?_ _)); refine blk_put (cs := #[.string x231000_2, .int .i64 0, .bool true]) ?_ 0 _ rfl; (with_reducible repeat (first | refine blk_drewN ?_ _ | refine blk_drew ?_ | refine blk_alloc ?_ _)); exact BK230.out⟩, ⟨by repeat (first | (with_reducible first | exact HB.out | apply below_alloc | apply pw_below_drewN | apply below_drew1 | refine below_set ?_ GE230.out) | exact HB.out)⟩⟩
                  ·rw [if_neg c53] at H
                   exact absurd H (by simp)
                 ·rw [if_neg c52] at H
                  exact absurd H (by simp)
                ·rw [if_neg c51] at H
                 exact absurd H (by simp)
              ·rw [if_neg c38] at H
               exact absurd H (by simp)
             ·rw [if_neg c37] at H
              exact absurd H (by simp)
      ·rw [if_neg c21] at H
       have c21b0 : ((bt a0 x5_1) == 32) = false := beq_eq_false_iff_ne.mpr c21
       have c21b1 : ((bt a0 x5_1) != 32) = true := bne_iff_ne.mpr c21
       simp only [Option.some.injEq, Prod.mk.injEq] at H
       obtain ⟨rfl, rfl⟩ := H
       go_wp2_with (first | ((with_reducible refine gate_dst (N := 6) rfl ?_); (try (refine gate_guard (by rfl) ?_; dsimp only)); refine box_event ?hg (N := 6) ?hd (cs := #[.string (⟨#[]⟩ : ByteArray), .int .i64 0, .bool false]) (t := 26) ?hr ?_; (case hd => rfl); (case hg => rfl); (case hr => first | (go_simp; done) | (go_simp; rfl)); intro gb230 hg w56 hbox hb; have n0_ := Aside0.mk (Kd.R_below (Kd.R_elderB (by (with_reducible repeat (first | apply Kd.R_alloc | apply Kd.R_drewN | apply Kd.R_drew)); exact HO_4.out) gb230 (Nat.le_of_eq hg.symm)) hb); have n1_ := Aside0.mk (below_step (by repeat (first | (with_reducible first | exact HB.out | apply below_alloc | apply pw_below_drewN | apply below_drew1) | exact HB.out)) hb); have n2_ := Aside0.mk (hbox); have n3_ := Aside0.mk ((by rw [hg]; exact (below_size (by repeat (first | (with_reducible first | exact HB.out | apply below_alloc | apply pw_below_drewN | apply below_drew1) | exact HB.out))) : w.heap.size ≤ gb230)); have n4_ := Aside0.mk ((by rw [hg]; exact (below_size (by repeat (first | (with_reducible first | exact HB.out | apply below_alloc | apply pw_below_drewN | apply below_drew1) | exact HB.out))) : w.heap.size ≤ gb230)); clear HO_4; clear HB; have HO_4 := n0_; have HB := n1_; have BK230 := n2_; have GW230 := n3_; have GE230 := n4_; clear n0_ n1_ n2_ n3_ n4_; clear hb hbox hg; have hcz57_0 : w56.cell? ⟨gb230, 0, none⟩ = some (.string (⟨#[]⟩ : ByteArray)) := (blk_cell BK230.out 0).trans rfl; have hcz57_1 : w56.cell? ⟨gb230, 1, none⟩ = some (.int .i64 0) := (blk_cell BK230.out 1).trans rfl; have hcz57_2 : w56.cell? ⟨gb230, 2, none⟩ = some (.bool false) := (blk_cell BK230.out 2).trans rfl; have hfz57_0 := blk_frozen BK230.out 0; have hfz57_1 := blk_frozen BK230.out 1; have hfz57_2 := blk_frozen BK230.out 2; have p4 : 0 ≤ (x5_1 : Int) := of_decide_eq_true (by first | (with_reducible assumption) | assumption); have q4 : x5_1 < (a0.size : Int) := of_decide_eq_true (by first | (with_reducible assumption) | assumption); have hx4 := bt_at a0 x5_1; replace p4 := eq_true p4; replace q4 := eq_true q4; have p20 : 0 ≤ (x5_1 : Int) := of_decide_eq_true (by first | (with_reducible assumption) | assumption); have q20 : x5_1 < (a0.size : Int) := of_decide_eq_true (by first | (with_reducible assumption) | assumption); have hx20 := bt_at a0 x5_1; replace p20 := eq_true p20; replace q20 := eq_true q20))
       go_ret2
       exact ⟨_, by first | rfl | (simp [errW_none, errW_some] <;> rfl) | (simp [*, errW_none, errW_some] <;> rfl), by first | exact Kd.R_nil _ _ _ _ _ | exact Kd.N_nil _ _ _ _ _ | exact Kd.V_nil _ _ _ _ _ | exact Kd.Q_nil _ _ _ _ _ | exact Kd.S_nil _ _ _ _ _, by repeat (first | (with_reducible first | exact HB.out | apply below_alloc | apply pw_below_drewN | apply below_drew1 | refine below_set ?_ GE230.out) | exact HB.out)⟩
    ·rw [if_neg c3] at H
     exact absurd H (by simp)
   ·rw [if_neg c2] at H
    have c2b0 : decide (x5_1 < (a0.size : Int)) = false := decide_eq_false c2
    clear c2
    simp only [Option.some.injEq, Prod.mk.injEq] at H
    obtain ⟨rfl, rfl⟩ := H
    go_wp2
    go_ret2
    exact ⟨_, by first | rfl | (simp [errW_none, errW_some] <;> rfl) | (simp [*, errW_none, errW_some] <;> rfl), by (with_reducible repeat (first | apply Kd.R_alloc | apply Kd.R_drewN | apply Kd.R_drew)); exact HO_4.out, by repeat (first | (with_reducible first | exact HB.out | apply below_alloc | apply pw_below_drewN | apply below_drew1) | exact HB.out)⟩

/-! ### concordanceref02_Get: function 42 -/
def concordanceref02_Get.l0 : Nat → ByteArray → Int → Int → Option (Int)
 | 0, _, _, _ => none
 | k + 1, x0, x3, x4 => if x4 < (x0.size : Int) then (if (x0.size : Int) < 8 then (if 0 ≤ x4 then (concordanceref02_Get.l0 k x0 (wrap64 ((wrap64 (256 * x3)) + (wrap64 (bt x0 x4)))) (wrap64 (x4 + 1))) else (none)) else (some x3)) else (some x3)
def concordanceref02_Get.f (k : Nat) (a0 : ByteArray) : Option (Int) := concordanceref02_Get.l0 k a0 0 0
theorem concordanceref02_Get.mono_l : ∀ k, (∀ y0 y1 y2, LeO (concordanceref02_Get.l0 k y0 y1 y2) (concordanceref02_Get.l0 (k + 1) y0 y1 y2))
 | 0 => fun _ _ _ r h => by simp [concordanceref02_Get.l0] at h
 | k + 1 => by
  have ih0 := concordanceref02_Get.mono_l k
  ·intro y0 y1 y2
   unfold concordanceref02_Get.l0
   repeat' first
   | (with_reducible exact ih0 _ _ _)
   | (with_reducible exact LeO.refl _)
   | (with_reducible exact LeO.none _)
   | (with_reducible refine LeO.ite ?_ ?_)
   | (with_reducible refine LeO.bind ?_ (fun _ => ?_))
   | exact ih0 _ _ _
   | exact LeO.none _
   | refine LeO.ite ?_ ?_
   | refine LeO.bind ?_ (fun _ => ?_)
theorem concordanceref02_Get.mono : ∀ a0 k, LeO (concordanceref02_Get.f k a0) (concordanceref02_Get.f (k + 1) a0) := by
 intro a0 k
 have ih0 := concordanceref02_Get.mono_l k
 unfold concordanceref02_Get.f
 repeat' first
   | (with_reducible exact ih0 _ _ _)
   | (with_reducible exact LeO.refl _)
   | (with_reducible exact LeO.none _)
   | (with_reducible refine LeO.ite ?_ ?_)
   | (with_reducible refine LeO.bind ?_ (fun _ => ?_))
   | exact ih0 _ _ _
   | exact LeO.none _
   | refine LeO.ite ?_ ?_
   | refine LeO.bind ?_ (fun _ => ?_)
set_option maxHeartbeats 8000000 in
set_option maxRecDepth 100000 in
theorem concordanceref02_Get.calls (k : Nat) (a0 : ByteArray) (r : Int) (w : World) (h : concordanceref02_Get.f k a0 = some r) :
  Calls Tryd.prog 42 #[.string a0] w fun e w' => e = .returned (.int .i64 r) ∧ Drawn0 w w' := by
 have H : (concordanceref02_Get.l0 k a0 0 0) = some r := h
 clear h
 have H' := Aside0.mk H
 clear H
 go_enter Tryd.func42, Tryd.ntmps42
 go_wp2
 go_loopg [3, 4] k (fun kq v3 v4 w' => ∃ (x3_1 : Int) (x4_1 : Int), v3 = .int .i64 x3_1 ∧ v4 = .int .i64 x4_1 ∧ Aside0 (concordanceref02_Get.l0 kq a0 x3_1 x4_1 = some r) ∧ Aside0 (kq ≤ k) ∧ Drawn0 w w')
 case atStart => exact ⟨(0), (0), (by first | rfl | (simp; done) | (simp [*]; done)), (by first | rfl | (simp; done) | (simp [*]; done)), H', ⟨Nat.le_refl _⟩, by repeat (first | exact Drawn0.refl _ | apply Drawn0.step)⟩
 case round =>
  clear H'
  obtain ⟨x3_1, x4_1, rfl, rfl, HA, HK1, ⟨m1, rfl⟩⟩ := hrel
  cases gk with
  | zero => exact absurd HA.out (by simp [concordanceref02_Get.l0])
  | succ k1 =>
   have H := HA.out
   clear HA
   simp only [concordanceref02_Get.l0] at H
   by_cases c2 : x4_1 < (a0.size : Int)
   ·rw [if_pos c2] at H
    have c2b0 : decide (x4_1 < (a0.size : Int)) = true := decide_eq_true c2
    clear c2
    by_cases c3 : (a0.size : Int) < 8
    ·rw [if_pos c3] at H
     have c3b0 : decide ((a0.size : Int) < 8) = true := decide_eq_true c3
     have c3b1 : decide (a0.size < 8) = true := decide_eq_true (by omega)
     clear c3
     by_cases c4 : 0 ≤ x4_1
     ·rw [if_pos c4] at H
      have c4b0 : decide (0 ≤ x4_1) = true := decide_eq_true c4
      clear c4
      have H' := Aside0.mk H
      clear H
      have p5 : 0 ≤ (x4_1 : Int) := of_decide_eq_true (by first | (with_reducible assumption) | assumption)
      have q5 : x4_1 < (a0.size : Int) := of_decide_eq_true (by first | (with_reducible assumption) | assumption)
      have hx5 := bt_at a0 x4_1
      replace p5 := eq_true p5
      replace q5 := eq_true q5
      go_wp2
      go_roundg k1
      case measure => have := HK1.out; omega
      case rel => exact ⟨(wrap64 ((wrap64 (256 * x3_1)) + (wrap64 (bt a0 x4_1)))), (wrap64 (x4_1 + 1)), (by first | rfl | (simp; done) | (simp [*]; done)), (by first | rfl | (simp; done) | (simp [*]; done)), H', ⟨by have := HK1.out; omega⟩, by repeat (first | exact Drawn0.refl _ | apply Drawn0.step)⟩
     ·rw [if_neg c4] at H
      exact absurd H (by simp)
    ·rw [if_neg c3] at H
     have c3b0 : decide ((a0.size : Int) < 8) = false := decide_eq_false c3
     have c3b1 : decide (a0.size < 8) = false := decide_eq_false (by omega)
     clear c3
     obtain rfl := Option.some.inj H
     go_wp2
     go_ret
     exact ⟨by first | rfl | (simp; done) | (simp [*]; done), by repeat (first | exact Drawn0.refl _ | apply Drawn0.step)⟩
   ·rw [if_neg c2] at H
    have c2b0 : decide (x4_1 < (a0.size : Int)) = false := decide_eq_false c2
    clear c2
    obtain rfl := Option.some.inj H
    go_wp2
    go_ret
    exact ⟨by first | rfl | (simp; done) | (simp [*]; done), by repeat (first | exact Drawn0.refl _ | apply Drawn0.step)⟩

/-! ### concordanceref19_Split: function 15 -/
def concordanceref19_Split.f (k : Nat) (a0 : ByteArray) : Option (ByteArray × Int × Bool × Int × Int) := if (wrap64 ((a0.size : Int) - 6)) < 0 then (some ((⟨#[]⟩ : ByteArray), 0, false, 0, 3)) else (if 0 ≤ (wrap64 ((a0.size : Int) - 6)) then (if (wrap64 ((a0.size : Int) - 6)) ≤ (a0.size : Int) then ((concordanceref01_Get.f k (a0.extract 0 ((wrap64 ((a0.size : Int) - 6)) : Int).toNat)).bind fun bt238 => ((concordanceref02_Get.f k (a0.extract ((wrap64 ((a0.size : Int) - 6)) : Int).toNat a0.size)).bind fun t242 => (if bt238.2 = 0 then (if (bt238.1.length : Int) = 1 then (if t242 < 1 then (some ((⟨#[]⟩ : ByteArray), 0, false, 0, 2)) else (if t242 > 1099511627776 then (some ((⟨#[]⟩ : ByteArray), 0, false, 0, 2)) else (if 0 < (bt238.1.length : Int) then (some ((rd_T26 bt238.1 0).f0, (rd_T26 bt238.1 0).f1, (rd_T26 bt238.1 0).f2, t242, 0)) else (none)))) else (some ((⟨#[]⟩ : ByteArray), 0, false, 0, 2))) else (some ((⟨#[]⟩ : ByteArray), 0, false, 0, bt238.2))))) else (none)) else (none))
theorem concordanceref19_Split.mono : ∀ a0 k, LeO (concordanceref19_Split.f k a0) (concordanceref19_Split.f (k + 1) a0) := by
 intro a0 k
 unfold concordanceref19_Split.f
 repeat' first
   | (with_reducible exact concordanceref01_Get.mono _ _)
   | (with_reducible exact concordanceref02_Get.mono _ _)
   | (with_reducible exact LeO.refl _)
   | (with_reducible exact LeO.none _)
   | (with_reducible refine LeO.ite ?_ ?_)
   | (with_reducible refine LeO.bind ?_ (fun _ => ?_))
   | exact concordanceref01_Get.mono _ _
   | exact concordanceref02_Get.mono _ _
   | exact LeO.none _
   | refine LeO.ite ?_ ?_
   | refine LeO.bind ?_ (fun _ => ?_)
set_option maxHeartbeats 8000000 in
set_option maxRecDepth 100000 in
theorem concordanceref19_Split.calls (k : Nat) (a0 : ByteArray) (r1 : ByteArray) (r2 : Int) (r3 : Bool) (r4 : Int) (r5 : Int) (w : World) (h : concordanceref19_Split.f k a0 = some (r1, r2, r3, r4, r5)) :
  Calls Tryd.prog 15 #[.string a0] w fun e w' => e = .returned (.tuple #[.agg #[.string r1, .int .i64 r2, .bool r3], .int .i64 r4, .int .i64 r5]) ∧ Below w.heap.size w w' := by
 have hu26 := Tryd.underlying26
 have HB := Aside0.mk (Below.refl w.heap.size w)
 have H : (if (wrap64 ((a0.size : Int) - 6)) < 0 then (some ((⟨#[]⟩ : ByteArray), 0, false, 0, 3)) else (if 0 ≤ (wrap64 ((a0.size : Int) - 6)) then (if (wrap64 ((a0.size : Int) - 6)) ≤ (a0.size : Int) then ((concordanceref01_Get.f k (a0.extract 0 ((wrap64 ((a0.size : Int) - 6)) : Int).toNat)).bind fun bt238 => ((concordanceref02_Get.f k (a0.extract ((wrap64 ((a0.size : Int) - 6)) : Int).toNat a0.size)).bind fun t242 => (if bt238.2 = 0 then (if (bt238.1.length : Int) = 1 then (if t242 < 1 then (some ((⟨#[]⟩ : ByteArray), 0, false, 0, 2)) else (if t242 > 1099511627776 then (some ((⟨#[]⟩ : ByteArray), 0, false, 0, 2)) else (if 0 < (bt238.1.length : Int) then (some ((rd_T26 bt238.1 0).f0, (rd_T26 bt238.1 0).f1, (rd_T26 bt238.1 0).f2, t242, 0)) else (none)))) else (some ((⟨#[]⟩ : ByteArray), 0, false, 0, 2))) else (some ((⟨#[]⟩ : ByteArray), 0, false, 0, bt238.2))))) else (none)) else (none))) = some (r1, r2, r3, r4, r5) := h
 clear h
 by_cases c2 : (wrap64 ((a0.size : Int) - 6)) < 0
 ·rw [if_pos c2] at H
  have c2b0 : decide ((wrap64 ((a0.size : Int) - 6)) < 0) = true := decide_eq_true c2
  clear c2
  simp only [Option.some.injEq, Prod.mk.injEq] at H
  obtain ⟨rfl, rfl, rfl, rfl, rfl⟩ := H
  go_enter Tryd.func15, Tryd.ntmps15
  go_wp2_with (first | ((with_reducible refine gate_dst (N := 2) rfl ?_); refine box_event ?hg (N := 2) ?hd (cs := #[.string (⟨#[]⟩ : ByteArray), .int .i64 0, .bool false]) (t := 26) ?hr ?_; (case hd => rfl); (case hg => rfl); (case hr => first | (go_simp; done) | (go_simp; rfl)); intro gb237 hg w3 hbox hb; have n0_ := Aside0.mk (below_step (by repeat (first | (with_reducible first | exact HB.out | apply below_alloc | apply pw_below_drewN | apply below_drew1) | exact HB.out)) hb); have n1_ := Aside0.mk (hbox); have n2_ := Aside0.mk ((by rw [hg]; exact (below_size (by repeat (first | (with_reducible first | exact HB.out | apply below_alloc | apply pw_below_drewN | apply below_drew1) | exact HB.out))) : w.heap.size ≤ gb237)); have n3_ := Aside0.mk ((by rw [hg]; exact (below_size (by repeat (first | (with_reducible first | exact HB.out | apply below_alloc | apply pw_below_drewN | apply below_drew1) | exact HB.out))) : w.heap.size ≤ gb237)); clear HB; have HB := n0_; have BK237 := n1_; have GW237 := n2_; have GE237 := n3_; clear n0_ n1_ n2_ n3_; clear hb hbox hg; have hcz4_0 : w3.cell? ⟨gb237, 0, none⟩ = some (.string (⟨#[]⟩ : ByteArray)) := (blk_cell BK237.out 0).trans rfl; have hcz4_1 : w3.cell? ⟨gb237, 1, none⟩ = some (.int .i64 0) := (blk_cell BK237.out 1).trans rfl; have hcz4_2 : w3.cell? ⟨gb237, 2, none⟩ = some (.bool false) := (blk_cell BK237.out 2).trans rfl; have hfz4_0 := blk_frozen BK237.out 0; have hfz4_1 := blk_frozen BK237.out 1; have hfz4_2 := blk_frozen BK237.out 2))
  refine bodyPost_ret (results_ctt rfl _ _ gb237 26 #[.string (⟨#[]⟩ : ByteArray), .int .i64 0, .bool false] (0, 0) _ rfl (by (with_reducible repeat (first | refine blk_drewN ?_ _ | refine blk_drew ?_ | refine blk_alloc ?_ _)); refine blk_put (cs := #[.string (⟨#[]⟩ : ByteArray), .int .i64 0, .bool false]) ?_ 2 _ rfl; (with_reducible repeat (first | refine blk_drewN ?_ _ | refine blk_drew ?_ | refine blk_alloc ?_ _)); refine blk_put (cs := #[.string (⟨#[]⟩ : ByteArray), .int .i64 0, .bool false]) ?_ 1 _ rfl; (with_reducible repeat (first | refine blk_drewN ?_ _ | refine blk_drew ?_ | refine blk_alloc ?_ _)); refine blk_put (cs := #[.string (⟨#[]⟩ : ByteArray), .int .i64 0, .bool false]) ?_ 0 _ rfl; (with_reducible repeat (first | refine blk_drewN ?_ _ | refine blk_drew ?_ | refine blk_alloc ?_ _)); exact BK237.out) Tryd.underlying26 rfl (by kernel_rfl)) rfl ?_
  exact ⟨by first | rfl | (simp [errW_none, errW_some] <;> rfl) | (simp [*, errW_none, errW_some] <;> rfl), by repeat (first | (with_reducible first | exact HB.out | apply below_alloc | apply pw_below_drewN | apply below_drew1 | refine below_set ?_ GE237.out) | exact HB.out)⟩
 ·rw [if_neg c2] at H
  have c2b0 : decide ((wrap64 ((a0.size : Int) - 6)) < 0) = false := decide_eq_false c2
  clear c2
  obtain ⟨ji5, hji5⟩ : ∃ j_ : Int, (wrap64 ((a0.size : Int) - 6)) = j_ := ⟨_, rfl⟩
  replace H : (if 0 ≤ (ji5) then (if (ji5) ≤ (a0.size : Int) then ((concordanceref01_Get.f k (a0.extract 0 ((ji5) : Int).toNat)).bind fun bt238 => ((concordanceref02_Get.f k (a0.extract ((ji5) : Int).toNat a0.size)).bind fun t242 => (if bt238.2 = 0 then (if (bt238.1.length : Int) = 1 then (if t242 < 1 then (some ((⟨#[]⟩ : ByteArray), 0, false, 0, 2)) else (if t242 > 1099511627776 then (some ((⟨#[]⟩ : ByteArray), 0, false, 0, 2)) else (if 0 < (bt238.1.length : Int) then (some ((rd_T26 bt238.1 0).f0, (rd_T26 bt238.1 0).f1, (rd_T26 bt238.1 0).f2, t242, 0)) else (none)))) else (some ((⟨#[]⟩ : ByteArray), 0, false, 0, 2))) else (some ((⟨#[]⟩ : ByteArray), 0, false, 0, bt238.2))))) else (none)) else (none)) = some (r1, r2, r3, r4, r5) := by first | (rw [hji5] at H; exact H) | (simp only [hji5] at H ⊢; exact H)
  (try rw [hji5] at c2b0)
  have hji5w : (IntKind.i64.wrap ((a0.size : Int) - 6)) = ji5 := (i64_w _).trans hji5
  by_cases c6 : 0 ≤ (ji5)
  ·rw [if_pos c6] at H
   have c6b0 := eq_true c6
   have c6b1 : decide (0 ≤ (ji5)) = true := decide_eq_true c6
   clear c6
   by_cases c7 : (ji5) ≤ (a0.size : Int)
   ·rw [if_pos c7] at H
    have c7b0 := eq_true c7
    have c7b1 : decide ((ji5) ≤ (a0.size : Int)) = true := decide_eq_true c7
    clear c7
    replace H := Option.bind_eq_some_iff.mp H
    obtain ⟨⟨t238, t239⟩, A80, H⟩ := H
    replace H : ((concordanceref02_Get.f k (a0.extract ((ji5) : Int).toNat a0.size)).bind fun t242 => (if t239 = 0 then (if (t238.length : Int) = 1 then (if t242 < 1 then (some ((⟨#[]⟩ : ByteArray), 0, false, 0, 2)) else (if t242 > 1099511627776 then (some ((⟨#[]⟩ : ByteArray), 0, false, 0, 2)) else (if 0 < (t238.length : Int) then (some ((rd_T26 t238 0).f0, (rd_T26 t238 0).f1, (rd_T26 t238 0).f2, t242, 0)) else (none)))) else (some ((⟨#[]⟩ : ByteArray), 0, false, 0, 2))) else (some ((⟨#[]⟩ : ByteArray), 0, false, 0, t239)))) = some (r1, r2, r3, r4, r5) := H
    have A8 := Aside0.mk A80
    clear A80
    have c9b0 := eq_true (of_decide_eq_true (by first | (with_reducible assumption) | assumption) : 0 ≤ (ji5))
    have c10b0 := eq_true (of_decide_eq_true (by first | (with_reducible assumption) | assumption) : (ji5) ≤ (a0.size : Int))
    replace H := Option.bind_eq_some_iff.mp H
    obtain ⟨t242, A110, H⟩ := H
    replace H : (if t239 = 0 then (if (t238.length : Int) = 1 then (if t242 < 1 then (some ((⟨#[]⟩ : ByteArray), 0, false, 0, 2)) else (if t242 > 1099511627776 then (some ((⟨#[]⟩ : ByteArray), 0, false, 0, 2)) else (if 0 < (t238.length : Int) then (some ((rd_T26 t238 0).f0, (rd_T26 t238 0).f1, (rd_T26 t238 0).f2, t242, 0)) else (none)))) else (some ((⟨#[]⟩ : ByteArray), 0, false, 0, 2))) else (some ((⟨#[]⟩ : ByteArray), 0, false, 0, t239))) = some (r1, r2, r3, r4, r5) := H
    have A11 := Aside0.mk A110
    clear A110
    by_cases c12 : t239 = 0
    ·rw [if_pos c12] at H
     have c12b0 : (t239 == 0) = true := beq_iff_eq.mpr c12
     have c12b1 : (t239 != 0) = false := bne_eq_false_iff_eq.mpr c12
     clear c12
     by_cases c13 : (t238.length : Int) = 1
     ·rw [if_pos c13] at H
      have c13b0 : ((t238.length : Int) == 1) = true := beq_iff_eq.mpr c13
      have c13b1 : ((t238.length : Int) != 1) = false := bne_eq_false_iff_eq.mpr c13
      clear c13
      by_cases c14 : t242 < 1
      ·rw [if_pos c14] at H
       have c14b0 : decide (t242 < 1) = true := decide_eq_true c14
       clear c14
       simp only [Option.some.injEq, Prod.mk.injEq] at H
       obtain ⟨rfl, rfl, rfl, rfl, rfl⟩ := H
       go_enter Tryd.func15, Tryd.ntmps15
       go_wp2_with (first | ((with_reducible refine gate_dst (N := 2) rfl ?_); refine box_event ?hg (N := 2) ?hd (cs := #[.string (⟨#[]⟩ : ByteArray), .int .i64 0, .bool false]) (t := 26) ?hr ?_; (case hd => rfl); (case hg => rfl); (case hr => first | (go_simp; done) | (go_simp; rfl)); intro gb237 hg w15 hbox hb; have n0_ := Aside0.mk (below_step (by repeat (first | (with_reducible first | exact HB.out | apply below_alloc | apply pw_below_drewN | apply below_drew1) | exact HB.out)) hb); have n1_ := Aside0.mk (hbox); have n2_ := Aside0.mk ((by rw [hg]; exact (below_size (by repeat (first | (with_reducible first | exact HB.out | apply below_alloc | apply pw_below_drewN | apply below_drew1) | exact HB.out))) : w.heap.size ≤ gb237)); have n3_ := Aside0.mk ((by rw [hg]; exact (below_size (by repeat (first | (with_reducible first | exact HB.out | apply below_alloc | apply pw_below_drewN | apply below_drew1) | exact HB.out))) : w.heap.size ≤ gb237)); clear HB; have HB := n0_; have BK237 := n1_; have GW237 := n2_; have GE237 := n3_; clear n0_ n1_ n2_ n3_; clear hb hbox hg) | ((with_reducible refine gate_callee (f := 41) rfl ?_); refine goesL_ (some 19) rfl rfl Tryd.func41 (by kernel_rfl) rfl #[.string (a0.extract 0 ((ji5) : Int).toNat)] rfl (by (try simp only [List.map_toArray, List.map_cons, List.map_nil]); first | done | (simp only [hji5]; rfl) | rfl | (simp only [List.length_drop, List.length_take]; rfl)) ?_; (with_reducible refine (concordanceref01_Get.calls k (a0.extract 0 ((ji5) : Int).toNat) t238 t239 _ A8.out).mono ?_); rintro e w16 ⟨v240, rfl, ho0, hb⟩; refine ⟨_, rfl, ?_⟩; have n0_ := Aside0.mk (Kd.R_lower (Kd.R_newB ho0 (g := gb237) (o := .cells #[.string (⟨#[]⟩ : ByteArray), .int .i64 0, .bool false] 26 (0, 0)) (by (with_reducible repeat (first | refine blk_drewN ?_ _ | refine blk_drew ?_ | refine blk_alloc ?_ _)); exact BK237.out)) (below_size (by repeat (first | (with_reducible first | exact HB.out | apply below_alloc | apply pw_below_drewN | apply below_drew1 | refine below_set ?_ GE237.out) | exact HB.out)))); have n1_ := Aside0.mk (blk_below (g := gb237) (o := .cells #[.string (⟨#[]⟩ : ByteArray), .int .i64 0, .bool false] 26 (0, 0)) (by (with_reducible repeat (first | refine blk_drewN ?_ _ | refine blk_drew ?_ | refine blk_alloc ?_ _)); exact BK237.out) hb); have n2_ := Aside0.mk (below_step (by repeat (first | (with_reducible first | exact HB.out | apply below_alloc | apply pw_below_drewN | apply below_drew1 | refine below_set ?_ GE237.out) | exact HB.out)) hb); clear BK237; clear HB; have HO241 := n0_; have BK237 := n1_; have HB := n2_; clear n0_ n1_ n2_; (try clear hb); (try clear hb2); (try clear hk); (try clear hi); (try clear ho0)) | ((with_reducible refine gate_callee (f := 42) rfl ?_); refine goesL_ (some 25) rfl rfl Tryd.func42 (by kernel_rfl) rfl #[.string (a0.extract ((ji5) : Int).toNat a0.size)] rfl (by (try simp only [List.map_toArray, List.map_cons, List.map_nil]); first | done | (simp only [hji5]; rfl) | rfl | (simp only [List.length_drop, List.length_take]; rfl)) ?_; (with_reducible refine (concordanceref02_Get.calls k (a0.extract ((ji5) : Int).toNat a0.size) t242 _ A11.out).mono ?_); rintro e w' ⟨rfl, ⟨nd, rfl⟩⟩; refine ⟨_, rfl, ?_⟩; (try (rw [drewN_self w16]; generalize hq_ : World.drewN w16 _ = w16; have n0_ : Aside0 (Kd.R k26 26 w16 w.heap.size (fun k_ => k_ ≠ gb237) v240 t238) := ⟨by rw [← hq_]; exact (by (with_reducible repeat (first | apply Kd.R_alloc | apply Kd.R_drewN | apply Kd.R_drew)); exact Kd.R_mono HO241.out (fun _ hk => hk.2))⟩; have n1_ : Aside0 (w16.heap[gb237]? = some (.cells #[.string (⟨#[]⟩ : ByteArray), .int .i64 0, .bool false] 26 (0, 0))) := ⟨by rw [← hq_]; exact (by (with_reducible repeat (first | refine blk_drewN ?_ _ | refine blk_drew ?_ | refine blk_alloc ?_ _)); exact BK237.out)⟩; have n2_ : Aside0 (Below w.heap.size w w16) := ⟨by rw [← hq_]; exact (by repeat (first | (with_reducible first | exact HB.out | apply below_alloc | apply pw_below_drewN | apply below_drew1 | refine below_set ?_ GE237.out) | exact HB.out))⟩; clear HO241 BK237 HB hq_; have HO241 := n0_; have BK237 := n1_; have HB := n2_; clear n0_ n1_ n2_)); obtain ⟨Ao17, co17, eo17⟩ := Kd.R_slice HO241.out; subst eo17; have hcz18_0 : w16.cell? ⟨gb237, 0, none⟩ = some (.string (⟨#[]⟩ : ByteArray)) := (blk_cell BK237.out 0).trans rfl; have hcz18_1 : w16.cell? ⟨gb237, 1, none⟩ = some (.int .i64 0) := (blk_cell BK237.out 1).trans rfl; have hcz18_2 : w16.cell? ⟨gb237, 2, none⟩ = some (.bool false) := (blk_cell BK237.out 2).trans rfl; have hfz18_0 := blk_frozen BK237.out 0; have hfz18_1 := blk_frozen BK237.out 1; have hfz18_2 := blk_frozen BK237.out 2))
       refine bodyPost_ret (results_ctt rfl _ _ gb237 26 #[.string (⟨#[]⟩ : ByteArray), .int .i64 0, .bool false] (0, 0) _ rfl (by (with_reducible repeat (first | refine blk_drewN ?_ _ | refine blk_drew ?_ | refine blk_alloc ?_ _)); refine blk_put (cs := #[.string (⟨#[]⟩ : ByteArray), .int .i64 0, .bool false]) ?_ 2 _ rfl; (with_reducible repeat (first | refine blk_drewN ?_ _ | refine blk_drew ?_ | refine blk_alloc ?_ _)); refine blk_put (cs := #[.string (⟨#[]⟩ : ByteArray), .int .i64 0, .bool false]) ?_ 1 _ rfl; (with_reducible repeat (first | refine blk_drewN ?_ _ | refine blk_drew ?_ | refine blk_alloc ?_ _)); refine blk_put (cs := #[.string (⟨#[]⟩ : ByteArray), .int .i64 0, .bool false]) ?_ 0 _ rfl; (with_reducible repeat (first | refine blk_drewN ?_ _ | refine blk_drew ?_ | refine blk_alloc ?_ _)); exact BK237.out) Tryd.underlying26 rfl (by kernel_rfl)) rfl ?_
       exact ⟨by first | rfl | (simp [errW_none, errW_some] <;> rfl) | (simp only [← hji5]; first | rfl | (simp [errW_none, errW_some] <;> rfl)) | (simp [*, errW_none, errW_some] <;> rfl), by repeat (first | (with_reducible first | exact HB.out | apply below_alloc | apply pw_below_drewN | apply below_drew1 | refine below_set ?_ GE237.out) | exact HB.out)⟩
      ·rw [if_neg c14] at H
       have c14b0 : decide (t242 < 1) = false := decide_eq_false c14
       clear c14
       by_cases c19 : t242 > 1099511627776
       ·rw [if_pos c19] at H
        have c19b0 : decide (1099511627776 < t242) = true := decide_eq_true c19
        clear c19
        simp only [Option.some.injEq, Prod.mk.injEq] at H
        obtain ⟨rfl, rfl, rfl, rfl, rfl⟩ := H
        go_enter Tryd.func15, Tryd.ntmps15
        go_wp2_with (first | ((with_reducible refine gate_dst (N := 2) rfl ?_); refine box_event ?hg (N := 2) ?hd (cs := #[.string (⟨#[]⟩ : ByteArray), .int .i64 0, .bool false]) (t := 26) ?hr ?_; (case hd => rfl); (case hg => rfl); (case hr => first | (go_simp; done) | (go_simp; rfl)); intro gb237 hg w20 hbox hb; have n0_ := Aside0.mk (below_step (by repeat (first | (with_reducible first | exact HB.out | apply below_alloc | apply pw_below_drewN | apply below_drew1) | exact HB.out)) hb); have n1_ := Aside0.mk (hbox); have n2_ := Aside0.mk ((by rw [hg]; exact (below_size (by repeat (first | (with_reducible first | exact HB.out | apply below_alloc | apply pw_below_drewN | apply below_drew1) | exact HB.out))) : w.heap.size ≤ gb237)); have n3_ := Aside0.mk ((by rw [hg]; exact (below_size (by repeat (first | (with_reducible first | exact HB.out | apply below_alloc | apply pw_below_drewN | apply below_drew1) | exact HB.out))) : w.heap.size ≤ gb237)); clear HB; have HB := n0_; have BK237 := n1_; have GW237 := n2_; have GE237 := n3_; clear n0_ n1_ n2_ n3_; clear hb hbox hg) | ((with_reducible refine gate_callee (f := 41) rfl ?_); refine goesL_ (some 19) rfl rfl Tryd.func41 (by kernel_rfl) rfl #[.string (a0.extract 0 ((ji5) : Int).toNat)] rfl (by (try simp only [List.map_toArray, List.map_cons, List.map_nil]); first | done | (simp only [hji5]; rfl) | rfl | (simp only [List.length_drop, List.length_take]; rfl)) ?_; (with_reducible refine (concordanceref01_Get.calls k (a0.extract 0 ((ji5) : Int).toNat) t238 t239 _ A8.out).mono ?_); rintro e w21 ⟨v240, rfl, ho0, hb⟩; refine ⟨_, rfl, ?_⟩; have n0_ := Aside0.mk (Kd.R_lower (Kd.R_newB ho0 (g := gb237) (o := .cells #[.string (⟨#[]⟩ : ByteArray), .int .i64 0, .bool false] 26 (0, 0)) (by (with_reducible repeat (first | refine blk_drewN ?_ _ | refine blk_drew ?_ | refine blk_alloc ?_ _)); exact BK237.out)) (below_size (by repeat (first | (with_reducible first | exact HB.out | apply below_alloc | apply pw_below_drewN | apply below_drew1 | refine below_set ?_ GE237.out) | exact HB.out)))); have n1_ := Aside0.mk (blk_below (g := gb237) (o := .cells #[.string (⟨#[]⟩ : ByteArray), .int .i64 0, .bool false] 26 (0, 0)) (by (with_reducible repeat (first | refine blk_drewN ?_ _ | refine blk_drew ?_ | refine blk_alloc ?_ _)); exact BK237.out) hb); have n2_ := Aside0.mk (below_step (by repeat (first | (with_reducible first | exact HB.out | apply below_alloc | apply pw_below_drewN | apply below_drew1 | refine below_set ?_ GE237.out) | exact HB.out)) hb); clear BK237; clear HB; have HO241 := n0_; have BK237 := n1_; have HB := n2_; clear n0_ n1_ n2_; (try clear hb); (try clear hb2); (try clear hk); (try clear hi); (try clear ho0)) | ((with_reducible refine gate_callee (f := 42) rfl ?_); refine goesL_ (some 25) rfl rfl Tryd.func42 (by kernel_rfl) rfl #[.string (a0.extract ((ji5) : Int).toNat a0.size)] rfl (by (try simp only [List.map_toArray, List.map_cons, List.map_nil]); first | done | (simp only [hji5]; rfl) | rfl | (simp only [List.length_drop, List.length_take]; rfl)) ?_; (with_reducible refine (concordanceref02_Get.calls k (a0.extract ((ji5) : Int).toNat a0.size) t242 _ A11.out).mono ?_); rintro e w' ⟨rfl, ⟨nd, rfl⟩⟩; refine ⟨_, rfl, ?_⟩; (try (rw [drewN_self w21]; generalize hq_ : World.drewN w21 _ = w21; have n0_ : Aside0 (Kd.R k26 26 w21 w.heap.size (fun k_ => k_ ≠ gb237) v240 t238) := ⟨by rw [← hq_]; exact (by (with_reducible repeat (first | apply Kd.R_alloc | apply Kd.R_drewN | apply Kd.R_drew)); exact Kd.R_mono HO241.out (fun _ hk => hk.2))⟩; have n1_ : Aside0 (w21.heap[gb237]? = some (.cells #[.string (⟨#[]⟩ : ByteArray), .int .i64 0, .bool false] 26 (0, 0))) := ⟨by rw [← hq_]; exact (by (with_reducible repeat (first | refine blk_drewN ?_ _ | refine blk_drew ?_ | refine blk_alloc ?_ _)); exact BK237.out)⟩; have n2_ : Aside0 (Below w.heap.size w w21) := ⟨by rw [← hq_]; exact (by repeat (first | (with_reducible first | exact HB.out | apply below_alloc | apply pw_below_drewN | apply below_drew1 | refine below_set ?_ GE237.out) | exact HB.out))⟩; clear HO241 BK237 HB hq_; have HO241 := n0_; have BK237 := n1_; have HB := n2_; clear n0_ n1_ n2_)); obtain ⟨Ao22, co22, eo22⟩ := Kd.R_slice HO241.out; subst eo22; have hcz23_0 : w21.cell? ⟨gb237, 0, none⟩ = some (.string (⟨#[]⟩ : ByteArray)) := (blk_cell BK237.out 0).trans rfl; have hcz23_1 : w21.cell? ⟨gb237, 1, none⟩ = some (.int .i64 0) := (blk_cell BK237.out 1).trans rfl; have hcz23_2 : w21.cell? ⟨gb237, 2, none⟩ = some (.bool false) := (blk_cell BK237.out 2).trans rfl; have hfz23_0 := blk_frozen BK237.out 0; have hfz23_1 := blk_frozen BK237.out 1; have hfz23_2 := blk_frozen BK237.out 2))
        refine bodyPost_ret (results_ctt rfl _ _ gb237 26 #[.string (⟨#[]⟩ : ByteArray), .int .i64 0, .bool false] (0, 0) _ rfl (by (with_reducible repeat (first | refine blk_drewN ?_ _ | refine blk_drew ?_ | refine blk_alloc ?_ _)); refine blk_put (cs := #[.string (⟨#[]⟩ : ByteArray), .int .i64 0, .bool false]) ?_ 2 _ rfl; (with_reducible repeat (first | refine blk_drewN ?_ _ | refine blk_drew ?_ | refine blk_alloc ?_ _)); refine blk_put (cs := #[.string (⟨#[]⟩ : ByteArray), .int .i64 0, .bool false]) ?_ 1 _ rfl; (with_reducible repeat (first | refine blk_drewN ?_ _ | refine blk_drew ?_ | refine blk_alloc ?_ _)); refine blk_put (cs := #[.string (⟨#[]⟩ : ByteArray), .int .i64 0, .bool false]) ?_ 0 _ rfl; (with_reducible repeat (first | refine blk_drewN ?_ _ | refine blk_drew ?_ | refine blk_alloc ?_ _)); exact BK237.out) Tryd.underlying26 rfl (by kernel_rfl)) rfl ?_
        exact ⟨by first | rfl | (simp [errW_none, errW_some] <;> rfl) | (simp only [← hji5]; first | rfl | (simp [errW_none, errW_some] <;> rfl)) | (simp [*, errW_none, errW_some] <;> rfl), by repeat (first | (with_reducible first | exact HB.out | apply below_alloc | apply pw_below_drewN | apply below_drew1 | refine below_set ?_ GE237.out) | exact HB.out)⟩
       ·rw [if_neg c19] at H
        have c19b0 : decide (1099511627776 < t242) = false := decide_eq_false c19
        clear c19
        by_cases c24 : 0 < (t238.length : Int)
        ·rw [if_pos c24] at H
         have c24b0 : decide (0 < (t238.length : Int)) = true := decide_eq_true c24
         have c24b1 : decide (0 < t238.length) = true := decide_eq_true (by omega)
         clear c24
         simp only [Option.some.injEq, Prod.mk.injEq] at H
         obtain ⟨rfl, rfl, rfl, rfl, rfl⟩ := H
         go_enter Tryd.func15, Tryd.ntmps15
         go_wp2_with (first | ((with_reducible refine gate_dst (N := 2) rfl ?_); refine box_event ?hg (N := 2) ?hd (cs := #[.string (⟨#[]⟩ : ByteArray), .int .i64 0, .bool false]) (t := 26) ?hr ?_; (case hd => rfl); (case hg => rfl); (case hr => first | (go_simp; done) | (go_simp; rfl)); intro gb237 hg w25 hbox hb; have n0_ := Aside0.mk (below_step (by repeat (first | (with_reducible first | exact HB.out | apply below_alloc | apply pw_below_drewN | apply below_drew1) | exact HB.out)) hb); have n1_ := Aside0.mk (hbox); have n2_ := Aside0.mk ((by rw [hg]; exact (below_size (by repeat (first | (with_reducible first | exact HB.out | apply below_alloc | apply pw_below_drewN | apply below_drew1) | exact HB.out))) : w.heap.size ≤ gb237)); have n3_ := Aside0.mk ((by rw [hg]; exact (below_size (by repeat (first | (with_reducible first | exact HB.out | apply below_alloc | apply pw_below_drewN | apply below_drew1) | exact HB.out))) : w.heap.size ≤ gb237)); clear HB; have HB := n0_; have BK237 := n1_; have GW237 := n2_; have GE237 := n3_; clear n0_ n1_ n2_ n3_; clear hb hbox hg) | ((with_reducible refine gate_callee (f := 41) rfl ?_); refine goesL_ (some 19) rfl rfl Tryd.func41 (by kernel_rfl) rfl #[.string (a0.extract 0 ((ji5) : Int).toNat)] rfl (by (try simp only [List.map_toArray, List.map_cons, List.map_nil]); first | done | (simp only [hji5]; rfl) | rfl | (simp only [List.length_drop, List.length_take]; rfl)) ?_; (with_reducible refine (concordanceref01_Get.calls k (a0.extract 0 ((ji5) : Int).toNat) t238 t239 _ A8.out).mono ?_); rintro e w26 ⟨v240, rfl, ho0, hb⟩; refine ⟨_, rfl, ?_⟩; have n0_ := Aside0.mk (Kd.R_lower (Kd.R_newB ho0 (g := gb237) (o := .cells #[.string (⟨#[]⟩ : ByteArray), .int .i64 0, .bool false] 26 (0, 0)) (by (with_reducible repeat (first | refine blk_drewN ?_ _ | refine blk_drew ?_ | refine blk_alloc ?_ _)); exact BK237.out)) (below_size (by repeat (first | (with_reducible first | exact HB.out | apply below_alloc | apply pw_below_drewN | apply below_drew1 | refine below_set ?_ GE237.out) | exact HB.out)))); have n1_ := Aside0.mk (blk_below (g := gb237) (o := .cells #[.string (⟨#[]⟩ : ByteArray), .int .i64 0, .bool false] 26 (0, 0)) (by (with_reducible repeat (first | refine blk_drewN ?_ _ | refine blk_drew ?_ | refine blk_alloc ?_ _)); exact BK237.out) hb); have n2_ := Aside0.mk (below_step (by repeat (first | (with_reducible first | exact HB.out | apply below_alloc | apply pw_below_drewN | apply below_drew1 | refine below_set ?_ GE237.out) | exact HB.out)) hb); clear BK237; clear HB; have HO241 := n0_; have BK237 := n1_; have HB := n2_; clear n0_ n1_ n2_; (try clear hb); (try clear hb2); (try clear hk); (try clear hi); (try clear ho0)) | ((with_reducible refine gate_callee (f := 42) rfl ?_); refine goesL_ (some 25) rfl rfl Tryd.func42 (by kernel_rfl) rfl #[.string (a0.extract ((ji5) : Int).toNat a0.size)] rfl (by (try simp only [List.map_toArray, List.map_cons, List.map_nil]); first | done | (simp only [hji5]; rfl) | rfl | (simp only [List.length_drop, List.length_take]; rfl)) ?_; (with_reducible refine (concordanceref02_Get.calls k (a0.extract ((ji5) : Int).toNat a0.size) t242 _ A11.out).mono ?_); rintro e w' ⟨rfl, ⟨nd, rfl⟩⟩; refine ⟨_, rfl, ?_⟩; (try (rw [drewN_self w26]; generalize hq_ : World.drewN w26 _ = w26; have n0_ : Aside0 (Kd.R k26 26 w26 w.heap.size (fun k_ => k_ ≠ gb237) v240 t238) := ⟨by rw [← hq_]; exact (by (with_reducible repeat (first | apply Kd.R_alloc | apply Kd.R_drewN | apply Kd.R_drew)); exact Kd.R_mono HO241.out (fun _ hk => hk.2))⟩; have n1_ : Aside0 (w26.heap[gb237]? = some (.cells #[.string (⟨#[]⟩ : ByteArray), .int .i64 0, .bool false] 26 (0, 0))) := ⟨by rw [← hq_]; exact (by (with_reducible repeat (first | refine blk_drewN ?_ _ | refine blk_drew ?_ | refine blk_alloc ?_ _)); exact BK237.out)⟩; have n2_ : Aside0 (Below w.heap.size w w26) := ⟨by rw [← hq_]; exact (by repeat (first | (with_reducible first | exact HB.out | apply below_alloc | apply pw_below_drewN | apply below_drew1 | refine below_set ?_ GE237.out) | exact HB.out))⟩; clear HO241 BK237 HB hq_; have HO241 := n0_; have BK237 := n1_; have HB := n2_; clear n0_ n1_ n2_)); obtain ⟨Ao27, co27, eo27⟩ := Kd.R_slice HO241.out; subst eo27; have p243 : 0 ≤ (0 : Int) := (by omega); have q243 : 0 < (t238.length : Int) := of_decide_eq_true (by first | (with_reducible assumption) | assumption); obtain ⟨ad243, e243, hx243_0, hx243_1, hx243_2⟩ := at_T26 (Kd.R_reads' HO241.out).2.2 0 p243 q243; cases e243; have qi243 : (0 < t238.length) = True := eq_true (by omega); (try rw [show ((0 : Int)).toNat = 0 from rfl] at hx243_0); (try rw [show 0 * 3 = 0 from rfl] at hx243_0); (try rw [Addr.add_zero'] at hx243_0); (try rw [show ((0 : Int)).toNat = 0 from rfl] at hx243_1); (try rw [show 0 * 3 = 0 from rfl] at hx243_1); (try rw [Addr.add_zero'] at hx243_1); (try rw [show ((0 : Int)).toNat = 0 from rfl] at hx243_2); (try rw [show 0 * 3 = 0 from rfl] at hx243_2); (try rw [Addr.add_zero'] at hx243_2); replace p243 := eq_true p243; replace q243 := eq_true q243; have hcz28_0 : w26.cell? ⟨gb237, 0, none⟩ = some (.string (⟨#[]⟩ : ByteArray)) := (blk_cell BK237.out 0).trans rfl; have hcz28_1 : w26.cell? ⟨gb237, 1, none⟩ = some (.int .i64 0) := (blk_cell BK237.out 1).trans rfl; have hcz28_2 : w26.cell? ⟨gb237, 2, none⟩ = some (.bool false) := (blk_cell BK237.out 2).trans rfl; have hfz28_0 := blk_frozen BK237.out 0; have hfz28_1 := blk_frozen BK237.out 1; have hfz28_2 := blk_frozen BK237.out 2))
         refine bodyPost_ret (results_ctt rfl _ _ gb237 26 #[.string ((rd_T26 t238 0).f0), .int .i64 ((rd_T26 t238 0).f1), .bool ((rd_T26 t238 0).f2)] (0, 0) _ rfl (by (with_reducible repeat (first | refine blk_drewN ?_ _ | refine blk_drew ?_ | refine blk_alloc ?_ _)); refine blk_put (cs := #[.string ((rd_T26 t238 0).f0), .int .i64 ((rd_T26 t238 0).f1), .bool false]) ?_ 2 _ rfl; (with_reducible repeat (first | refine blk_drewN ?_ _ | refine blk_drew ?_ | refine blk_alloc ?_ _)); refine blk_put (cs := #[.string ((rd_T26 t238 0).f0), .int .i64 0, .bool false]) ?_ 1 _ rfl; (with_reducible repeat (first | refine blk_drewN ?_ _ | refine blk_drew ?_ | refine blk_alloc ?_ _)); refine blk_put (cs := #[.string (⟨#[]⟩ : ByteArray), .int .i64 0, .bool false]) ?_ 0 _ rfl; (with_reducible repeat (first | refine blk_drewN ?_ _ | refine blk_drew ?_ | refine blk_alloc ?_ _)); exact BK237.out) Tryd.underlying26 rfl (by kernel_rfl)) rfl ?_
         exact ⟨by first | rfl | (simp [errW_none, errW_some] <;> rfl) | (simp only [← hji5]; first | rfl | (simp [errW_none, errW_some] <;> rfl)) | (simp [*, errW_none, errW_some] <;> rfl), by repeat (first | (with_reducible first | exact HB.out | apply below_alloc | apply pw_below_drewN | apply below_drew1 | refine below_set ?_ GE237.out) | exact HB.out)⟩
        ·rw [if_neg c24] at H
         exact absurd H (by simp)
     ·rw [if_neg c13] at H
      have c13b0 : ((t238.length : Int) == 1) = false := beq_eq_false_iff_ne.mpr c13
      have c13b1 : ((t238.length : Int) != 1) = true := bne_iff_ne.mpr c13
      simp only [Option.some.injEq, Prod.mk.injEq] at H
      obtain ⟨rfl, rfl, rfl, rfl, rfl⟩ := H
      go_enter Tryd.func15, Tryd.ntmps15
      go_wp2_with (first | ((with_reducible refine gate_dst (N := 2) rfl ?_); refine box_event ?hg (N := 2) ?hd (cs := #[.string (⟨#[]⟩ : ByteArray), .int .i64 0, .bool false]) (t := 26) ?hr ?_; (case hd => rfl); (case hg => rfl); (case hr => first | (go_simp; done) | (go_simp; rfl)); intro gb237 hg w29 hbox hb; have n0_ := Aside0.mk (below_step (by repeat (first | (with_reducible first | exact HB.out | apply below_alloc | apply pw_below_drewN | apply below_drew1) | exact HB.out)) hb); have n1_ := Aside0.mk (hbox); have n2_ := Aside0.mk ((by rw [hg]; exact (below_size (by repeat (first | (with_reducible first | exact HB.out | apply below_alloc | apply pw_below_drewN | apply below_drew1) | exact HB.out))) : w.heap.size ≤ gb237)); have n3_ := Aside0.mk ((by rw [hg]; exact (below_size (by repeat (first | (with_reducible first | exact HB.out | apply below_alloc | apply pw_below_drewN | apply below_drew1) | exact HB.out))) : w.heap.size ≤ gb237)); clear HB; have HB := n0_; have BK237 := n1_; have GW237 := n2_; have GE237 := n3_; clear n0_ n1_ n2_ n3_; clear hb hbox hg) | ((with_reducible refine gate_callee (f := 41) rfl ?_); refine goesL_ (some 19) rfl rfl Tryd.func41 (by kernel_rfl) rfl #[.string (a0.extract 0 ((ji5) : Int).toNat)] rfl (by (try simp only [List.map_toArray, List.map_cons, List.map_nil]); first | done | (simp only [hji5]; rfl) | rfl | (simp only [List.length_drop, List.length_take]; rfl)) ?_; (with_reducible refine (concordanceref01_Get.calls k (a0.extract 0 ((ji5) : Int).toNat) t238 t239 _ A8.out).mono ?_); rintro e w30 ⟨v240, rfl, ho0, hb⟩; refine ⟨_, rfl, ?_⟩; have n0_ := Aside0.mk (Kd.R_lower (Kd.R_newB ho0 (g := gb237) (o := .cells #[.string (⟨#[]⟩ : ByteArray), .int .i64 0, .bool false] 26 (0, 0)) (by (with_reducible repeat (first | refine blk_drewN ?_ _ | refine blk_drew ?_ | refine blk_alloc ?_ _)); exact BK237.out)) (below_size (by repeat (first | (with_reducible first | exact HB.out | apply below_alloc | apply pw_below_drewN | apply below_drew1 | refine below_set ?_ GE237.out) | exact HB.out)))); have n1_ := Aside0.mk (blk_below (g := gb237) (o := .cells #[.string (⟨#[]⟩ : ByteArray), .int .i64 0, .bool false] 26 (0, 0)) (by (with_reducible repeat (first | refine blk_drewN ?_ _ | refine blk_drew ?_ | refine blk_alloc ?_ _)); exact BK237.out) hb); have n2_ := Aside0.mk (below_step (by repeat (first | (with_reducible first | exact HB.out | apply below_alloc | apply pw_below_drewN | apply below_drew1 | refine below_set ?_ GE237.out) | exact HB.out)) hb); clear BK237; clear HB; have HO241 := n0_; have BK237 := n1_; have HB := n2_; clear n0_ n1_ n2_; (try clear hb); (try clear hb2); (try clear hk); (try clear hi); (try clear ho0)) | ((with_reducible refine gate_callee (f := 42) rfl ?_); refine goesL_ (some 25) rfl rfl Tryd.func42 (by kernel_rfl) rfl #[.string (a0.extract ((ji5) : Int).toNat a0.size)] rfl (by (try simp only [List.map_toArray, List.map_cons, List.map_nil]); first | done | (simp only [hji5]; rfl) | rfl | (simp only [List.length_drop, List.length_take]; rfl)) ?_; (with_reducible refine (concordanceref02_Get.calls k (a0.extract ((ji5) : Int).toNat a0.size) t242 _ A11.out).mono ?_); rintro e w' ⟨rfl, ⟨nd, rfl⟩⟩; refine ⟨_, rfl, ?_⟩; (try (rw [drewN_self w30]; generalize hq_ : World.drewN w30 _ = w30; have n0_ : Aside0 (Kd.R k26 26 w30 w.heap.size (fun k_ => k_ ≠ gb237) v240 t238) := ⟨by rw [← hq_]; exact (by (with_reducible repeat (first | apply Kd.R_alloc | apply Kd.R_drewN | apply Kd.R_drew)); exact Kd.R_mono HO241.out (fun _ hk => hk.2))⟩; have n1_ : Aside0 (w30.heap[gb237]? = some (.cells #[.string (⟨#[]⟩ : ByteArray), .int .i64 0, .bool false] 26 (0, 0))) := ⟨by rw [← hq_]; exact (by (with_reducible repeat (first | refine blk_drewN ?_ _ | refine blk_drew ?_ | refine blk_alloc ?_ _)); exact BK237.out)⟩; have n2_ : Aside0 (Below w.heap.size w w30) := ⟨by rw [← hq_]; exact (by repeat (first | (with_reducible first | exact HB.out | apply below_alloc | apply pw_below_drewN | apply below_drew1 | refine below_set ?_ GE237.out) | exact HB.out))⟩; clear HO241 BK237 HB hq_; have HO241 := n0_; have BK237 := n1_; have HB := n2_; clear n0_ n1_ n2_)); obtain ⟨Ao31, co31, eo31⟩ := Kd.R_slice HO241.out; subst eo31; have hcz32_0 : w30.cell? ⟨gb237, 0, none⟩ = some (.string (⟨#[]⟩ : ByteArray)) := (blk_cell BK237.out 0).trans rfl; have hcz32_1 : w30.cell? ⟨gb237, 1, none⟩ = some (.int .i64 0) := (blk_cell BK237.out 1).trans rfl; have hcz32_2 : w30.cell? ⟨gb237, 2, none⟩ = some (.bool false) := (blk_cell BK237.out 2).trans rfl; have hfz32_0 := blk_frozen BK237.out 0; have hfz32_1 := blk_frozen BK237.out 1; have hfz32_2 := blk_frozen BK237.out 2))
      refine bodyPost_ret (results_ctt rfl _ _ gb237 26 #[.string (⟨#[]⟩ : ByteArray), .int .i64 0, .bool false] (0, 0) _ rfl (by (with_reducible repeat (first | refine blk_drewN ?_ _ | refine blk_drew ?_ | refine blk_alloc ?_ _)); refine blk_put (cs := #[.string (⟨#[]⟩ : ByteArray), .int .i64 0, .bool false]) ?_ 2 _ rfl; (with_reducible repeat (first | refine blk_drewN ?_ _ | refine blk_drew ?_ | refine blk_alloc ?_ _)); refine blk_put (cs := #[.string (⟨#[]⟩ : ByteArray), .int .i64 0, .bool false]) ?_ 1 _ rfl; (with_reducible repeat (first | refine blk_drewN ?_ _ | refine blk_drew ?_ | refine blk_alloc ?_ _)); refine blk_put (cs := #[.string (⟨#[]⟩ : ByteArray), .int .i64 0, .bool false]) ?_ 0 _ rfl; (with_reducible repeat (first | refine blk_drewN ?_ _ | refine blk_drew ?_ | refine blk_alloc ?_ _)); exact BK237.out) Tryd.underlying26 rfl (by kernel_rfl)) rfl ?_
      exact ⟨by first | rfl | (simp [errW_none, errW_some] <;> rfl) | (simp only [← hji5]; first | rfl | (simp [errW_none, errW_some] <;> rfl)) | (simp [*, errW_none, errW_some] <;> rfl), by repeat (first | (with_reducible first | exact HB.out | apply below_alloc | apply pw_below_drewN | apply below_drew1 | refine below_set ?_ GE237.out) | exact HB.out)⟩
    ·rw [if_neg c12] at H
     have c12b0 : (t239 == 0) = false := beq_eq_false_iff_ne.mpr c12
     have c12b1 : (t239 != 0) = true := bne_iff_ne.mpr c12
     simp only [Option.some.injEq, Prod.mk.injEq] at H
     obtain ⟨rfl, rfl, rfl, rfl, rfl⟩ := H
     go_enter Tryd.func15, Tryd.ntmps15
     go_wp2_with (first | ((with_reducible refine gate_dst (N := 2) rfl ?_); refine box_event ?hg (N := 2) ?hd (cs := #[.string (⟨#[]⟩ : ByteArray), .int .i64 0, .bool false]) (t := 26) ?hr ?_; (case hd => rfl); (case hg => rfl); (case hr => first | (go_simp; done) | (go_simp; rfl)); intro gb237 hg w33 hbox hb; have n0_ := Aside0.mk (below_step (by repeat (first | (with_reducible first | exact HB.out | apply below_alloc | apply pw_below_drewN | apply below_drew1) | exact HB.out)) hb); have n1_ := Aside0.mk (hbox); have n2_ := Aside0.mk ((by rw [hg]; exact (below_size (by repeat (first | (with_reducible first | exact HB.out | apply below_alloc | apply pw_below_drewN | apply below_drew1) | exact HB.out))) : w.heap.size ≤ gb237)); have n3_ := Aside0.mk ((by rw [hg]; exact (below_size (by repeat (first | (with_reducible first | exact HB.out | apply below_alloc | apply pw_below_drewN | apply below_drew1) | exact HB.out))) : w.heap.size ≤ gb237)); clear HB; have HB := n0_; have BK237 := n1_; have GW237 := n2_; have GE237 := n3_; clear n0_ n1_ n2_ n3_; clear hb hbox hg) | ((with_reducible refine gate_callee (f := 41) rfl ?_); refine goesL_ (some 19) rfl rfl Tryd.func41 (by kernel_rfl) rfl #[.string (a0.extract 0 ((ji5) : Int).toNat)] rfl (by (try simp only [List.map_toArray, List.map_cons, List.map_nil]); first | done | (simp only [hji5]; rfl) | rfl | (simp only [List.length_drop, List.length_take]; rfl)) ?_; (with_reducible refine (concordanceref01_Get.calls k (a0.extract 0 ((ji5) : Int).toNat) t238 t239 _ A8.out).mono ?_); rintro e w34 ⟨v240, rfl, ho0, hb⟩; refine ⟨_, rfl, ?_⟩; have n0_ := Aside0.mk (Kd.R_lower (Kd.R_newB ho0 (g := gb237) (o := .cells #[.string (⟨#[]⟩ : ByteArray), .int .i64 0, .bool false] 26 (0, 0)) (by (with_reducible repeat (first | refine blk_drewN ?_ _ | refine blk_drew ?_ | refine blk_alloc ?_ _)); exact BK237.out)) (below_size (by repeat (first | (with_reducible first | exact HB.out | apply below_alloc | apply pw_below_drewN | apply below_drew1 | refine below_set ?_ GE237.out) | exact HB.out)))); have n1_ := Aside0.mk (blk_below (g := gb237) (o := .cells #[.string (⟨#[]⟩ : ByteArray), .int .i64 0, .bool false] 26 (0, 0)) (by (with_reducible repeat (first | refine blk_drewN ?_ _ | refine blk_drew ?_ | refine blk_alloc ?_ _)); exact BK237.out) hb); have n2_ := Aside0.mk (below_step (by repeat (first | (with_reducible first | exact HB.out | apply below_alloc | apply pw_below_drewN | apply below_drew1 | refine below_set ?_ GE237.out) | exact HB.out)) hb); clear BK237; clear HB; have HO241 := n0_; have BK237 := n1_; have HB := n2_; clear n0_ n1_ n2_; (try clear hb); (try clear hb2); (try clear hk); (try clear hi); (try clear ho0)) | ((with_reducible refine gate_callee (f := 42) rfl ?_); refine goesL_ (some 25) rfl rfl Tryd.func42 (by kernel_rfl) rfl #[.string (a0.extract ((ji5) : Int).toNat a0.size)] rfl (by (try simp only [List.map_toArray, List.map_cons, List.map_nil]); first | done | (simp only [hji5]; rfl) | rfl | (simp only [List.length_drop, List.length_take]; rfl)) ?_; (with_reducible refine (concordanceref02_Get.calls k (a0.extract ((ji5) : Int).toNat a0.size) t242 _ A11.out).mono ?_); rintro e w' ⟨rfl, ⟨nd, rfl⟩⟩; refine ⟨_, rfl, ?_⟩; (try (rw [drewN_self w34]; generalize hq_ : World.drewN w34 _ = w34; have n0_ : Aside0 (Kd.R k26 26 w34 w.heap.size (fun k_ => k_ ≠ gb237) v240 t238) := ⟨by rw [← hq_]; exact (by (with_reducible repeat (first | apply Kd.R_alloc | apply Kd.R_drewN | apply Kd.R_drew)); exact Kd.R_mono HO241.out (fun _ hk => hk.2))⟩; have n1_ : Aside0 (w34.heap[gb237]? = some (.cells #[.string (⟨#[]⟩ : ByteArray), .int .i64 0, .bool false] 26 (0, 0))) := ⟨by rw [← hq_]; exact (by (with_reducible repeat (first | refine blk_drewN ?_ _ | refine blk_drew ?_ | refine blk_alloc ?_ _)); exact BK237.out)⟩; have n2_ : Aside0 (Below w.heap.size w w34) := ⟨by rw [← hq_]; exact (by repeat (first | (with_reducible first | exact HB.out | apply below_alloc | apply pw_below_drewN | apply below_drew1 | refine below_set ?_ GE237.out) | exact HB.out))⟩; clear HO241 BK237 HB hq_; have HO241 := n0_; have BK237 := n1_; have HB := n2_; clear n0_ n1_ n2_)); have hcz35_0 : w34.cell? ⟨gb237, 0, none⟩ = some (.string (⟨#[]⟩ : ByteArray)) := (blk_cell BK237.out 0).trans rfl; have hcz35_1 : w34.cell? ⟨gb237, 1, none⟩ = some (.int .i64 0) := (blk_cell BK237.out 1).trans rfl; have hcz35_2 : w34.cell? ⟨gb237, 2, none⟩ = some (.bool false) := (blk_cell BK237.out 2).trans rfl; have hfz35_0 := blk_frozen BK237.out 0; have hfz35_1 := blk_frozen BK237.out 1; have hfz35_2 := blk_frozen BK237.out 2))
     refine bodyPost_ret (results_ctt rfl _ _ gb237 26 #[.string (⟨#[]⟩ : ByteArray), .int .i64 0, .bool false] (0, 0) _ rfl (by (with_reducible repeat (first | refine blk_drewN ?_ _ | refine blk_drew ?_ | refine blk_alloc ?_ _)); refine blk_put (cs := #[.string (⟨#[]⟩ : ByteArray), .int .i64 0, .bool false]) ?_ 2 _ rfl; (with_reducible repeat (first | refine blk_drewN ?_ _ | refine blk_drew ?_ | refine blk_alloc ?_ _)); refine blk_put (cs := #[.string (⟨#[]⟩ : ByteArray), .int .i64 0, .bool false]) ?_ 1 _ rfl; (with_reducible repeat (first | refine blk_drewN ?_ _ | refine blk_drew ?_ | refine blk_alloc ?_ _)); refine blk_put (cs := #[.string (⟨#[]⟩ : ByteArray), .int .i64 0, .bool false]) ?_ 0 _ rfl; (with_reducible repeat (first | refine blk_drewN ?_ _ | refine blk_drew ?_ | refine blk_alloc ?_ _)); exact BK237.out) Tryd.underlying26 rfl (by kernel_rfl)) rfl ?_
     exact ⟨by first | rfl | (simp [errW_none, errW_some] <;> rfl) | (simp only [← hji5]; first | rfl | (simp [errW_none, errW_some] <;> rfl)) | (simp [*, errW_none, errW_some] <;> rfl), by repeat (first | (with_reducible first | exact HB.out | apply below_alloc | apply pw_below_drewN | apply below_drew1 | refine below_set ?_ GE237.out) | exact HB.out)⟩
   ·rw [if_neg c7] at H
    exact absurd H (by simp)
  ·rw [if_neg c6] at H
   exact absurd H (by simp)

/-! ### tuple_Get: function 16 -/
def tuple_Get.f (k : Nat) (a0 : ByteArray) : Option ((List (S25)) × Int) := if (a0.size : Int) > 100 then (some (([] : List (S25)), 6)) else ((keys_Get.f k a0).bind fun bt244 => (some (bt244.1, bt244.2)))
theorem tuple_Get.mono : ∀ a0 k, LeO (tuple_Get.f k a0) (tuple_Get.f (k + 1) a0) := by
 intro a0 k
 unfold tuple_Get.f
 repeat' first
   | (with_reducible exact keys_Get.mono _ _)
   | (with_reducible exact LeO.refl _)
   | (with_reducible exact LeO.none _)
   | (with_reducible refine LeO.ite ?_ ?_)
   | (with_reducible refine LeO.bind ?_ (fun _ => ?_))
   | exact keys_Get.mono _ _
   | exact LeO.none _
   | refine LeO.ite ?_ ?_
   | refine LeO.bind ?_ (fun _ => ?_)
set_option maxHeartbeats 8000000 in
set_option maxRecDepth 100000 in
theorem tuple_Get.calls (k : Nat) (a0 : ByteArray) (r1 : List (S25)) (r2 : Int) (w : World) (h : tuple_Get.f k a0 = some (r1, r2)) :
  Calls Tryd.prog 16 #[.string a0] w fun e w' => ∃ v0_ : Value, e = .returned (.tuple #[v0_, .int .i64 r2]) ∧ Kd.R k25 25 w' w.heap.size (fun _ => True) v0_ r1 ∧ Below w.heap.size w w' := by
 have HB := Aside0.mk (Below.refl w.heap.size w)
 have H : (if (a0.size : Int) > 100 then (some (([] : List (S25)), 6)) else ((keys_Get.f k a0).bind fun bt244 => (some (bt244.1, bt244.2)))) = some (r1, r2) := h
 clear h
 by_cases c2 : (a0.size : Int) > 100
 ·rw [if_pos c2] at H
  have c2b0 : decide (100 < (a0.size : Int)) = true := decide_eq_true c2
  have c2b1 : decide (100 < a0.size) = true := decide_eq_true (by omega)
  clear c2
  simp only [Option.some.injEq, Prod.mk.injEq] at H
  obtain ⟨rfl, rfl⟩ := H
  go_enter Tryd.func16, Tryd.ntmps16
  go_wp2
  go_ret2
  exact ⟨_, by first | rfl | (simp [errW_none, errW_some] <;> rfl) | (simp [*, errW_none, errW_some] <;> rfl), by first | exact Kd.R_nil _ _ _ _ _ | exact Kd.N_nil _ _ _ _ _ | exact Kd.V_nil _ _ _ _ _ | exact Kd.Q_nil _ _ _ _ _ | exact Kd.S_nil _ _ _ _ _, by repeat (first | (with_reducible first | exact HB.out | apply below_alloc | apply pw_below_drewN | apply below_drew1) | exact HB.out)⟩
 ·rw [if_neg c2] at H
  have c2b0 : decide (100 < (a0.size : Int)) = false := decide_eq_false c2
  have c2b1 : decide (100 < a0.size) = false := decide_eq_false (by omega)
  clear c2
  replace H := Option.bind_eq_some_iff.mp H
  obtain ⟨⟨t244, t245⟩, A30, H⟩ := H
  replace H : (some (t244, t245)) = some (r1, r2) := H
  have A3 := Aside0.mk A30
  clear A30
  simp only [Option.some.injEq, Prod.mk.injEq] at H
  obtain ⟨rfl, rfl⟩ := H
  go_enter Tryd.func16, Tryd.ntmps16
  go_wp2_with (first | ((with_reducible refine gate_callee (f := 39) rfl ?_); refine goesL_ (some 8) rfl rfl Tryd.func39 (by kernel_rfl) rfl #[.string a0] rfl (by (try simp only [List.map_toArray, List.map_cons, List.map_nil]); first | done | rfl | (simp only [List.length_drop, List.length_take]; rfl)) ?_; (with_reducible refine (keys_Get.calls k a0 t244 t245 _ A3.out).mono ?_); rintro e w4 ⟨v246, rfl, ho0, hb⟩; refine ⟨_, rfl, ?_⟩; have n0_ := Aside0.mk (Kd.R_lower ho0 (below_size (by repeat (first | (with_reducible first | exact HB.out | apply below_alloc | apply pw_below_drewN | apply below_drew1) | exact HB.out)))); have n1_ := Aside0.mk (below_step (by repeat (first | (with_reducible first | exact HB.out | apply below_alloc | apply pw_below_drewN | apply below_drew1) | exact HB.out)) hb); clear HB; have HO247 := n0_; have HB := n1_; clear n0_ n1_; (try clear hb); (try clear hb2); (try clear hk); (try clear hi); (try clear ho0)))
  go_ret2
  exact ⟨_, by first | rfl | (simp [errW_none, errW_some] <;> rfl) | (simp [*, errW_none, errW_some] <;> rfl), by (with_reducible repeat (first | apply Kd.R_alloc | apply Kd.R_drewN | apply Kd.R_drew)); exact HO247.out, by repeat (first | (with_reducible first | exact HB.out | apply below_alloc | apply pw_below_drewN | apply below_drew1) | exact HB.out)⟩

/-! ### concordanceref19_Get: function 17 -/
def concordanceref19_Get.f (k : Nat) (a0 : ByteArray) : Option ((List (S26)) × Int) := if (a0.size : Int) > 100 then (some (([] : List (S26)), 6)) else ((concordanceref01_Get.f k a0).bind fun bt248 => (some (bt248.1, bt248.2)))
theorem concordanceref19_Get.mono : ∀ a0 k, LeO (concordanceref19_Get.f k a0) (concordanceref19_Get.f (k + 1) a0) := by
 intro a0 k
 unfold concordanceref19_Get.f
 repeat' first
   | (with_reducible exact concordanceref01_Get.mono _ _)
   | (with_reducible exact LeO.refl _)
   | (with_reducible exact LeO.none _)
   | (with_reducible refine LeO.ite ?_ ?_)
   | (with_reducible refine LeO.bind ?_ (fun _ => ?_))
   | exact concordanceref01_Get.mono _ _
   | exact LeO.none _
   | refine LeO.ite ?_ ?_
   | refine LeO.bind ?_ (fun _ => ?_)
set_option maxHeartbeats 8000000 in
set_option maxRecDepth 100000 in
theorem concordanceref19_Get.calls (k : Nat) (a0 : ByteArray) (r1 : List (S26)) (r2 : Int) (w : World) (h : concordanceref19_Get.f k a0 = some (r1, r2)) :
  Calls Tryd.prog 17 #[.string a0] w fun e w' => ∃ v0_ : Value, e = .returned (.tuple #[v0_, .int .i64 r2]) ∧ Kd.R k26 26 w' w.heap.size (fun _ => True) v0_ r1 ∧ Below w.heap.size w w' := by
 have HB := Aside0.mk (Below.refl w.heap.size w)
 have H : (if (a0.size : Int) > 100 then (some (([] : List (S26)), 6)) else ((concordanceref01_Get.f k a0).bind fun bt248 => (some (bt248.1, bt248.2)))) = some (r1, r2) := h
 clear h
 by_cases c2 : (a0.size : Int) > 100
 ·rw [if_pos c2] at H
  have c2b0 : decide (100 < (a0.size : Int)) = true := decide_eq_true c2
  have c2b1 : decide (100 < a0.size) = true := decide_eq_true (by omega)
  clear c2
  simp only [Option.some.injEq, Prod.mk.injEq] at H
  obtain ⟨rfl, rfl⟩ := H
  go_enter Tryd.func17, Tryd.ntmps17
  go_wp2
  go_ret2
  exact ⟨_, by first | rfl | (simp [errW_none, errW_some] <;> rfl) | (simp [*, errW_none, errW_some] <;> rfl), by first | exact Kd.R_nil _ _ _ _ _ | exact Kd.N_nil _ _ _ _ _ | exact Kd.V_nil _ _ _ _ _ | exact Kd.Q_nil _ _ _ _ _ | exact Kd.S_nil _ _ _ _ _, by repeat (first | (with_reducible first | exact HB.out | apply below_alloc | apply pw_below_drewN | apply below_drew1) | exact HB.out)⟩
 ·rw [if_neg c2] at H
  have c2b0 : decide (100 < (a0.size : Int)) = false := decide_eq_false c2
  have c2b1 : decide (100 < a0.size) = false := decide_eq_false (by omega)
  clear c2
  replace H := Option.bind_eq_some_iff.mp H
  obtain ⟨⟨t248, t249⟩, A30, H⟩ := H
  replace H : (some (t248, t249)) = some (r1, r2) := H
  have A3 := Aside0.mk A30
  clear A30
  simp only [Option.some.injEq, Prod.mk.injEq] at H
  obtain ⟨rfl, rfl⟩ := H
  go_enter Tryd.func17, Tryd.ntmps17
  go_wp2_with (first | ((with_reducible refine gate_callee (f := 41) rfl ?_); refine goesL_ (some 8) rfl rfl Tryd.func41 (by kernel_rfl) rfl #[.string a0] rfl (by (try simp only [List.map_toArray, List.map_cons, List.map_nil]); first | done | rfl | (simp only [List.length_drop, List.length_take]; rfl)) ?_; (with_reducible refine (concordanceref01_Get.calls k a0 t248 t249 _ A3.out).mono ?_); rintro e w4 ⟨v250, rfl, ho0, hb⟩; refine ⟨_, rfl, ?_⟩; have n0_ := Aside0.mk (Kd.R_lower ho0 (below_size (by repeat (first | (with_reducible first | exact HB.out | apply below_alloc | apply pw_below_drewN | apply below_drew1) | exact HB.out)))); have n1_ := Aside0.mk (below_step (by repeat (first | (with_reducible first | exact HB.out | apply below_alloc | apply pw_below_drewN | apply below_drew1) | exact HB.out)) hb); clear HB; have HO251 := n0_; have HB := n1_; clear n0_ n1_; (try clear hb); (try clear hb2); (try clear hk); (try clear hi); (try clear ho0)))
  go_ret2
  exact ⟨_, by first | rfl | (simp [errW_none, errW_some] <;> rfl) | (simp [*, errW_none, errW_some] <;> rfl), by (with_reducible repeat (first | apply Kd.R_alloc | apply Kd.R_drewN | apply Kd.R_drew)); exact HO251.out, by repeat (first | (with_reducible first | exact HB.out | apply below_alloc | apply pw_below_drewN | apply below_drew1) | exact HB.out)⟩

end Go.Proofs.YtcpehlllgfffkaaDoor.GT
