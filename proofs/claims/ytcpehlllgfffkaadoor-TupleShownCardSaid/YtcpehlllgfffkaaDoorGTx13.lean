-- Written by a program of this session (wip/pv.py, which turns the kit's print.py in a scratch copy): see NOTES.md.
import Derived.Test.YtcpehlllgfffkaaDoorGTx0
import Derived.Test.YtcpehlllgfffkaaDoorGTx1
import Derived.Test.YtcpehlllgfffkaaDoorGTx4
import Derived.Test.YtcpehlllgfffkaaDoorGTx10
import Derived.Test.YtcpehlllgfffkaaDoorTItoa
namespace Go.Proofs.YtcpehlllgfffkaaDoor.GT
open Go.RowKit Go.Proofs.YtcpehlllgfffkaaDoorW.PrintWords Go.Proofs.YtcpehlllgfffkaaDoorW.PrintLast Go.Proofs.YtcpehlllgfffkaaDoorW.PrintMore
attribute [local go_sem] max2_int min2_int max_two min_two max_three min_three max_four min_four   -- for this text's walks alone
set_option linter.unusedVariables false
set_option linter.unusedSimpArgs false

attribute [local go_sem high] eqA25
/-! ### concordancelaw19_TupleShown: function 3 -/
mutual
def concordancelaw19_TupleShown.j0 : Nat → ByteArray → Int → Bool → ByteArray → Int → Bool → Option (Bool)
 | 0, _, _, _, _, _, _ => none
 | k + 1, x305000, x305001, x305002, x313000, x313001, x313002 => if x313002 = true then (concordancelaw19_TupleShown.j1 k x305000 x305001 x305002 x313000 0 x313002) else (concordancelaw19_TupleShown.j1 k x305000 x305001 x305002 (⟨#[]⟩ : ByteArray) x313001 x313002)
def concordancelaw19_TupleShown.j1 : Nat → ByteArray → Int → Bool → ByteArray → Int → Bool → Option (Bool)
 | 0, _, _, _, _, _, _ => none
 | k + 1, x305000, x305001, x305002, x313000, x313001, x313002 => (tuple_Show.g x305000 x305001 x305002).bind fun t314 => ((tuple_Show.g x313000 x313001 x313002).bind fun t315 => (concordancelaw19_TupleShown.l0 k t314 t315 0 x305000 x305001 x305002 x313000 x313001 x313002))
def concordancelaw19_TupleShown.l0 : Nat → ByteArray → ByteArray → Int → ByteArray → Int → Bool → ByteArray → Int → Bool → Option (Bool)
 | 0, _, _, _, _, _, _, _, _, _ => none
 | k + 1, x9, x10, x11, x305000, x305001, x305002, x313000, x313001, x313002 => if x11 < (x9.size : Int) then (if 0 ≤ x11 then (if (bt x9 x11) < 32 then (none) else (if (bt x9 x11) > 126 then (none) else (concordancelaw19_TupleShown.l0 k x9 x10 (wrap64 (x11 + 1)) x305000 x305001 x305002 x313000 x313001 x313002))) else (none)) else (if x9.toList = ([] : List UInt8) then (none) else (some ((x9.toList == x10.toList) == (x305000.toList == x313000.toList && (x305001 == x313001 && (x305002 == x313002))))))
end
def concordancelaw19_TupleShown.f (k : Nat) (a0_0 : ByteArray) (a0_1 : Int) (a0_2 : Bool) (a1_0 : ByteArray) (a1_1 : Int) (a1_2 : Bool) : Option (Bool) := (concordancelaw19_speaks.f k).bind fun t297 => (if t297 = true then ((concordancelaw19_one.f a0_0 a0_1 a0_2).bind fun bt298 => ((concordancelaw19_one.f a1_0 a1_1 a1_2).bind fun bt306 => (if bt298.2.2.1 = true then (concordancelaw19_TupleShown.j0 k bt298.1 0 bt298.2.2.1 bt306.1 bt306.2.1 bt306.2.2.1) else (concordancelaw19_TupleShown.j0 k (⟨#[]⟩ : ByteArray) bt298.2.1 bt298.2.2.1 bt306.1 bt306.2.1 bt306.2.2.1)))) else (none))
theorem concordancelaw19_TupleShown.mono_l : ∀ k, (∀ y0 y1 y2 y3 y4 y5, LeO (concordancelaw19_TupleShown.j0 k y0 y1 y2 y3 y4 y5) (concordancelaw19_TupleShown.j0 (k + 1) y0 y1 y2 y3 y4 y5)) ∧ (∀ y0 y1 y2 y3 y4 y5, LeO (concordancelaw19_TupleShown.j1 k y0 y1 y2 y3 y4 y5) (concordancelaw19_TupleShown.j1 (k + 1) y0 y1 y2 y3 y4 y5)) ∧ (∀ y0 y1 y2 y3 y4 y5 y6 y7 y8, LeO (concordancelaw19_TupleShown.l0 k y0 y1 y2 y3 y4 y5 y6 y7 y8) (concordancelaw19_TupleShown.l0 (k + 1) y0 y1 y2 y3 y4 y5 y6 y7 y8))
 | 0 => ⟨fun _ _ _ _ _ _ r h => by simp [concordancelaw19_TupleShown.j0] at h, fun _ _ _ _ _ _ r h => by simp [concordancelaw19_TupleShown.j1] at h, fun _ _ _ _ _ _ _ _ _ r h => by simp [concordancelaw19_TupleShown.l0] at h⟩
 | k + 1 => by
  obtain ⟨ih0, ih1, ih2⟩ := concordancelaw19_TupleShown.mono_l k
  refine ⟨?_, ?_, ?_⟩
  ·intro y0 y1 y2 y3 y4 y5
   unfold concordancelaw19_TupleShown.j0
   repeat' first
   | (with_reducible exact ih0 _ _ _ _ _ _)
   | (with_reducible exact ih1 _ _ _ _ _ _)
   | (with_reducible exact ih2 _ _ _ _ _ _ _ _ _)
   | (with_reducible exact concordancelaw19_speaks.mono _)
   | (with_reducible exact LeO.refl _)
   | (with_reducible exact LeO.none _)
   | (with_reducible refine LeO.ite ?_ ?_)
   | (with_reducible refine LeO.bind ?_ (fun _ => ?_))
   | exact ih0 _ _ _ _ _ _
   | exact ih1 _ _ _ _ _ _
   | exact ih2 _ _ _ _ _ _ _ _ _
   | exact concordancelaw19_speaks.mono _
   | exact LeO.none _
   | refine LeO.ite ?_ ?_
   | refine LeO.bind ?_ (fun _ => ?_)
  ·intro y0 y1 y2 y3 y4 y5
   unfold concordancelaw19_TupleShown.j1
   repeat' first
   | (with_reducible exact ih0 _ _ _ _ _ _)
   | (with_reducible exact ih1 _ _ _ _ _ _)
   | (with_reducible exact ih2 _ _ _ _ _ _ _ _ _)
   | (with_reducible exact concordancelaw19_speaks.mono _)
   | (with_reducible exact LeO.refl _)
   | (with_reducible exact LeO.none _)
   | (with_reducible refine LeO.ite ?_ ?_)
   | (with_reducible refine LeO.bind ?_ (fun _ => ?_))
   | exact ih0 _ _ _ _ _ _
   | exact ih1 _ _ _ _ _ _
   | exact ih2 _ _ _ _ _ _ _ _ _
   | exact concordancelaw19_speaks.mono _
   | exact LeO.none _
   | refine LeO.ite ?_ ?_
   | refine LeO.bind ?_ (fun _ => ?_)
  ·intro y0 y1 y2 y3 y4 y5 y6 y7 y8
   unfold concordancelaw19_TupleShown.l0
   repeat' first
   | (with_reducible exact ih0 _ _ _ _ _ _)
   | (with_reducible exact ih1 _ _ _ _ _ _)
   | (with_reducible exact ih2 _ _ _ _ _ _ _ _ _)
   | (with_reducible exact concordancelaw19_speaks.mono _)
   | (with_reducible exact LeO.refl _)
   | (with_reducible exact LeO.none _)
   | (with_reducible refine LeO.ite ?_ ?_)
   | (with_reducible refine LeO.bind ?_ (fun _ => ?_))
   | exact ih0 _ _ _ _ _ _
   | exact ih1 _ _ _ _ _ _
   | exact ih2 _ _ _ _ _ _ _ _ _
   | exact concordancelaw19_speaks.mono _
   | exact LeO.none _
   | refine LeO.ite ?_ ?_
   | refine LeO.bind ?_ (fun _ => ?_)
theorem concordancelaw19_TupleShown.mono : ∀ a0 a1 a2 a3 a4 a5 k, LeO (concordancelaw19_TupleShown.f k a0 a1 a2 a3 a4 a5) (concordancelaw19_TupleShown.f (k + 1) a0 a1 a2 a3 a4 a5) := by
 intro a0 a1 a2 a3 a4 a5 k
 obtain ⟨ih0, ih1, ih2⟩ := concordancelaw19_TupleShown.mono_l k
 unfold concordancelaw19_TupleShown.f
 repeat' first
   | (with_reducible exact ih0 _ _ _ _ _ _)
   | (with_reducible exact ih1 _ _ _ _ _ _)
   | (with_reducible exact ih2 _ _ _ _ _ _ _ _ _)
   | (with_reducible exact concordancelaw19_speaks.mono _)
   | (with_reducible exact LeO.refl _)
   | (with_reducible exact LeO.none _)
   | (with_reducible refine LeO.ite ?_ ?_)
   | (with_reducible refine LeO.bind ?_ (fun _ => ?_))
   | exact ih0 _ _ _ _ _ _
   | exact ih1 _ _ _ _ _ _
   | exact ih2 _ _ _ _ _ _ _ _ _
   | exact concordancelaw19_speaks.mono _
   | exact LeO.none _
   | refine LeO.ite ?_ ?_
   | refine LeO.bind ?_ (fun _ => ?_)
set_option maxHeartbeats 8000000 in
set_option maxRecDepth 100000 in
theorem concordancelaw19_TupleShown.calls (k : Nat) (a0_0 : ByteArray) (a0_1 : Int) (a0_2 : Bool) (a1_0 : ByteArray) (a1_1 : Int) (a1_2 : Bool) (r : Bool) (w : World) (hT : Tab w) (h : concordancelaw19_TupleShown.f k a0_0 a0_1 a0_2 a1_0 a1_1 a1_2 = some r) :
  Calls Tryd.prog 3 #[.agg #[.string a0_0, .int .i64 a0_1, .bool a0_2], .agg #[.string a1_0, .int .i64 a1_1, .bool a1_2]] w fun e w' => e = .returned (.bool r) ∧ Below w.heap.size w w' := by
 have HTab := Aside0.mk hT
 clear hT
 have hu23 := Tryd.underlying23
 have hu25 := Tryd.underlying25
 have hu26 := Tryd.underlying26
 have HB := Aside0.mk (Below.refl w.heap.size w)
 have H : ((concordancelaw19_speaks.f k).bind fun t297 => (if t297 = true then ((concordancelaw19_one.f a0_0 a0_1 a0_2).bind fun bt298 => ((concordancelaw19_one.f a1_0 a1_1 a1_2).bind fun bt306 => (if bt298.2.2.1 = true then (concordancelaw19_TupleShown.j0 k bt298.1 0 bt298.2.2.1 bt306.1 bt306.2.1 bt306.2.2.1) else (concordancelaw19_TupleShown.j0 k (⟨#[]⟩ : ByteArray) bt298.2.1 bt298.2.2.1 bt306.1 bt306.2.1 bt306.2.2.1)))) else (none))) = some r := h
 clear h
 replace H := Option.bind_eq_some_iff.mp H
 obtain ⟨t297, A30, H⟩ := H
 replace H : (if t297 = true then ((concordancelaw19_one.f a0_0 a0_1 a0_2).bind fun bt298 => ((concordancelaw19_one.f a1_0 a1_1 a1_2).bind fun bt306 => (if bt298.2.2.1 = true then (concordancelaw19_TupleShown.j0 k bt298.1 0 bt298.2.2.1 bt306.1 bt306.2.1 bt306.2.2.1) else (concordancelaw19_TupleShown.j0 k (⟨#[]⟩ : ByteArray) bt298.2.1 bt298.2.2.1 bt306.1 bt306.2.1 bt306.2.2.1)))) else (none)) = some r := H
 have A3 := Aside0.mk A30
 clear A30
 by_cases c4 : t297 = true
 ·subst c4
  have H1 : ((concordancelaw19_one.f a0_0 a0_1 a0_2).bind fun bt298 => ((concordancelaw19_one.f a1_0 a1_1 a1_2).bind fun bt306 => (if bt298.2.2.1 = true then (concordancelaw19_TupleShown.j0 k bt298.1 0 bt298.2.2.1 bt306.1 bt306.2.1 bt306.2.2.1) else (concordancelaw19_TupleShown.j0 k (⟨#[]⟩ : ByteArray) bt298.2.1 bt298.2.2.1 bt306.1 bt306.2.1 bt306.2.2.1)))) = some r := by rw [if_pos rfl] at H; exact H
  clear H
  have H := H1
  clear H1
  replace H := Option.bind_eq_some_iff.mp H
  obtain ⟨⟨t298, t299, t300, t301, t302, t303⟩, A50, H⟩ := H
  replace H : ((concordancelaw19_one.f a1_0 a1_1 a1_2).bind fun bt306 => (if t300 = true then (concordancelaw19_TupleShown.j0 k t298 0 t300 bt306.1 bt306.2.1 bt306.2.2.1) else (concordancelaw19_TupleShown.j0 k (⟨#[]⟩ : ByteArray) t299 t300 bt306.1 bt306.2.1 bt306.2.2.1))) = some r := H
  have A5 := Aside0.mk A50
  clear A50
  replace H := Option.bind_eq_some_iff.mp H
  obtain ⟨⟨t306, t307, t308, t309, t310, t311⟩, A60, H⟩ := H
  replace H : (if t300 = true then (concordancelaw19_TupleShown.j0 k t298 0 t300 t306 t307 t308) else (concordancelaw19_TupleShown.j0 k (⟨#[]⟩ : ByteArray) t299 t300 t306 t307 t308)) = some r := H
  have A6 := Aside0.mk A60
  clear A60
  have HC7 := Aside0.mk H
  clear H
  go_enter Tryd.func3, Tryd.ntmps3
  go_upto_if 25 with (first | ((with_reducible refine gate_dst (N := 2) rfl ?_); refine box_event ?hg (N := 2) ?hd (cs := #[.string a0_0, .int .i64 a0_1, .bool a0_2]) (t := 23) ?hr ?_; (case hd => rfl); (case hg => rfl); (case hr => first | (go_simp; done) | (go_simp; rfl)); intro gb295 hg w8 hbox hb; have n0_ := Aside0.mk (below_step (by repeat (first | (with_reducible first | exact HB.out | apply below_alloc | apply pw_below_drewN | apply below_drew1) | exact HB.out)) hb); have n1_ := Aside0.mk (hbox); have n2_ := Aside0.mk ((by rw [hg]; exact (below_size (by repeat (first | (with_reducible first | exact HB.out | apply below_alloc | apply pw_below_drewN | apply below_drew1) | exact HB.out))) : w.heap.size ≤ gb295)); have n3_ := Aside0.mk ((by rw [hg]; exact (below_size (by repeat (first | (with_reducible first | exact HB.out | apply below_alloc | apply pw_below_drewN | apply below_drew1) | exact HB.out))) : w.heap.size ≤ gb295)); clear HB; have HB := n0_; have BK295 := n1_; have GW295 := n2_; have GE295 := n3_; clear n0_ n1_ n2_ n3_; clear hb hbox hg) | ((with_reducible refine gate_dst (N := 3) rfl ?_); refine box_event ?hg (N := 3) ?hd (cs := #[.string a1_0, .int .i64 a1_1, .bool a1_2]) (t := 23) ?hr ?_; (case hd => rfl); (case hg => rfl); (case hr => first | (go_simp; done) | (go_simp; rfl)); intro gb296 hg w9 hbox hb; have n0_ := Aside0.mk (blk_below (g := gb295) (o := .cells #[.string a0_0, .int .i64 a0_1, .bool a0_2] 23 (0, 0)) (by (with_reducible repeat (first | refine blk_drewN ?_ _ | refine blk_drew ?_ | refine blk_alloc ?_ _)); exact BK295.out) hb); have n1_ := Aside0.mk (below_step (by repeat (first | (with_reducible first | exact HB.out | apply below_alloc | apply pw_below_drewN | apply below_drew1 | refine below_set ?_ GE295.out) | exact HB.out)) hb); have n2_ := Aside0.mk (hbox); have n3_ := Aside0.mk ((by rw [hg]; exact (below_size (by repeat (first | (with_reducible first | exact HB.out | apply below_alloc | apply pw_below_drewN | apply below_drew1 | refine below_set ?_ GE295.out) | exact HB.out))) : w.heap.size ≤ gb296)); have n4_ := Aside0.mk ((by rw [hg]; exact (below_size (by repeat (first | (with_reducible first | exact HB.out | apply below_alloc | apply pw_below_drewN | apply below_drew1 | refine below_set ?_ GE295.out) | exact HB.out))) : w.heap.size ≤ gb296)); have n5_ := Aside0.mk ((by rw [hg]; exact Nat.ne_of_lt (blk_lt (g := gb295) (o := .cells #[.string a0_0, .int .i64 a0_1, .bool a0_2] 23 (0, 0)) (by (with_reducible repeat (first | refine blk_drewN ?_ _ | refine blk_drew ?_ | refine blk_alloc ?_ _)); exact BK295.out)) : gb295 ≠ gb296)); have n6_ := Aside0.mk ((by rw [hg]; exact Nat.ne_of_gt (blk_lt (g := gb295) (o := .cells #[.string a0_0, .int .i64 a0_1, .bool a0_2] 23 (0, 0)) (by (with_reducible repeat (first | refine blk_drewN ?_ _ | refine blk_drew ?_ | refine blk_alloc ?_ _)); exact BK295.out)) : gb296 ≠ gb295)); clear BK295; clear HB; have BK295 := n0_; have HB := n1_; have BK296 := n2_; have GW296 := n3_; have GE296 := n4_; have NB295_296 := n5_; have NB296_295 := n6_; clear n0_ n1_ n2_ n3_ n4_ n5_ n6_; clear hb hbox hg) | ((with_reducible refine gate_callee (f := 8) rfl ?_); refine goesL_ (some 12) rfl rfl Tryd.func8 (by kernel_rfl) rfl #[] rfl (by (try simp only [List.map_toArray, List.map_cons, List.map_nil]); first | done | rfl | (simp only [List.length_drop, List.length_take]; rfl)) ?_; (with_reducible refine (concordancelaw19_speaks.calls k  true _ A3.out).mono ?_); rintro e w10 ⟨rfl, hb⟩; refine ⟨_, rfl, ?_⟩; have n0_ := Aside0.mk (blk_below (g := gb295) (o := .cells #[.string a0_0, .int .i64 a0_1, .bool a0_2] 23 (0, 0)) (by (with_reducible repeat (first | refine blk_drewN ?_ _ | refine blk_drew ?_ | refine blk_alloc ?_ _)); exact BK295.out) hb); have n1_ := Aside0.mk (blk_below (g := gb296) (o := .cells #[.string a1_0, .int .i64 a1_1, .bool a1_2] 23 (0, 0)) (by (with_reducible repeat (first | refine blk_drewN ?_ _ | refine blk_drew ?_ | refine blk_alloc ?_ _)); exact BK296.out) hb); have n2_ := Aside0.mk (below_step (by repeat (first | (with_reducible first | exact HB.out | apply below_alloc | apply pw_below_drewN | apply below_drew1 | refine below_set ?_ GE295.out | refine below_set ?_ GE296.out) | exact HB.out)) hb); clear BK295; clear BK296; clear HB; have BK295 := n0_; have BK296 := n1_; have HB := n2_; clear n0_ n1_ n2_; (try clear hb); (try clear hb2); (try clear hk); (try clear hi); have hnb11 := NB295_296.out; have hnc11 := NB296_295.out; have hcz12_0 : w10.cell? ⟨gb295, 0, none⟩ = some (.string a0_0) := (blk_cell BK295.out 0).trans rfl; have hcz12_1 : w10.cell? ⟨gb295, 1, none⟩ = some (.int .i64 a0_1) := (blk_cell BK295.out 1).trans rfl; have hcz12_2 : w10.cell? ⟨gb295, 2, none⟩ = some (.bool a0_2) := (blk_cell BK295.out 2).trans rfl; have hfz12_0 := blk_frozen BK295.out 0; have hfz12_1 := blk_frozen BK295.out 1; have hfz12_2 := blk_frozen BK295.out 2) | ((with_reducible refine gate_callee (f := 9) rfl ?_); refine goesL_ (some 16) rfl rfl Tryd.func9 (by kernel_rfl) rfl #[.agg #[.string a0_0, .int .i64 a0_1, .bool a0_2]] rfl (by (try simp only [List.map_toArray, List.map_cons, List.map_nil]); first | done | rfl | (simp only [List.length_drop, List.length_take]; rfl)) ?_; (with_reducible refine (concordancelaw19_one.calls a0_0 a0_1 a0_2 t298 t299 t300 t301 t302 t303 _ A5.out).mono ?_); rintro e w13 ⟨rfl, hb⟩; refine ⟨_, rfl, ?_⟩; have n0_ := Aside0.mk (blk_below (g := gb295) (o := .cells #[.string a0_0, .int .i64 a0_1, .bool a0_2] 23 (0, 0)) (by (with_reducible repeat (first | refine blk_drewN ?_ _ | refine blk_drew ?_ | refine blk_alloc ?_ _)); exact BK295.out) hb); have n1_ := Aside0.mk (blk_below (g := gb296) (o := .cells #[.string a1_0, .int .i64 a1_1, .bool a1_2] 23 (0, 0)) (by (with_reducible repeat (first | refine blk_drewN ?_ _ | refine blk_drew ?_ | refine blk_alloc ?_ _)); exact BK296.out) hb); have n2_ := Aside0.mk (below_step (by repeat (first | (with_reducible first | exact HB.out | apply below_alloc | apply pw_below_drewN | apply below_drew1 | refine below_set ?_ GE295.out | refine below_set ?_ GE296.out) | exact HB.out)) hb); clear BK295; clear BK296; clear HB; have BK295 := n0_; have BK296 := n1_; have HB := n2_; clear n0_ n1_ n2_; (try clear hb); (try clear hb2); (try clear hk); (try clear hi)) | ((with_reducible refine gate_dst (N := 5) rfl ?_); refine box_event ?hg (N := 5) ?hd (cs := #[.string (⟨#[]⟩ : ByteArray), .int .i64 0, .bool false]) (t := 25) ?hr ?_; (case hd => rfl); (case hg => rfl); (case hr => first | (go_simp; done) | (go_simp; rfl)); intro gb304 hg w14 hbox hb; have n0_ := Aside0.mk (blk_below (g := gb295) (o := .cells #[.string a0_0, .int .i64 a0_1, .bool a0_2] 23 (0, 0)) (by (with_reducible repeat (first | refine blk_drewN ?_ _ | refine blk_drew ?_ | refine blk_alloc ?_ _)); exact BK295.out) hb); have n1_ := Aside0.mk (blk_below (g := gb296) (o := .cells #[.string a1_0, .int .i64 a1_1, .bool a1_2] 23 (0, 0)) (by (with_reducible repeat (first | refine blk_drewN ?_ _ | refine blk_drew ?_ | refine blk_alloc ?_ _)); exact BK296.out) hb); have n2_ := Aside0.mk (below_step (by repeat (first | (with_reducible first | exact HB.out | apply below_alloc | apply pw_below_drewN | apply below_drew1 | refine below_set ?_ GE295.out | refine below_set ?_ GE296.out) | exact HB.out)) hb); have n3_ := Aside0.mk (hbox); have n4_ := Aside0.mk ((by rw [hg]; exact (below_size (by repeat (first | (with_reducible first | exact HB.out | apply below_alloc | apply pw_below_drewN | apply below_drew1 | refine below_set ?_ GE295.out | refine below_set ?_ GE296.out) | exact HB.out))) : w.heap.size ≤ gb304)); have n5_ := Aside0.mk ((by rw [hg]; exact (below_size (by repeat (first | (with_reducible first | exact HB.out | apply below_alloc | apply pw_below_drewN | apply below_drew1 | refine below_set ?_ GE295.out | refine below_set ?_ GE296.out) | exact HB.out))) : w.heap.size ≤ gb304)); have n6_ := Aside0.mk ((by rw [hg]; exact Nat.ne_of_lt (blk_lt (g := gb295) (o := .cells #[.string a0_0, .int .i64 a0_1, .bool a0_2] 23 (0, 0)) (by (with_reducible repeat (first | refine blk_drewN ?_ _ | refine blk_drew ?_ | refine blk_alloc ?_ _)); exact BK295.out)) : gb295 ≠ gb304)); have n7_ := Aside0.mk ((by rw [hg]; exact Nat.ne_of_gt (blk_lt (g := gb295) (o := .cells #[.string a0_0, .int .i64 a0_1, .bool a0_2] 23 (0, 0)) (by (with_reducible repeat (first | refine blk_drewN ?_ _ | refine blk_drew ?_ | refine blk_alloc ?_ _)); exact BK295.out)) : gb304 ≠ gb295)); have n8_ := Aside0.mk ((by rw [hg]; exact Nat.ne_of_lt (blk_lt (g := gb296) (o := .cells #[.string a1_0, .int .i64 a1_1, .bool a1_2] 23 (0, 0)) (by (with_reducible repeat (first | refine blk_drewN ?_ _ | refine blk_drew ?_ | refine blk_alloc ?_ _)); exact BK296.out)) : gb296 ≠ gb304)); have n9_ := Aside0.mk ((by rw [hg]; exact Nat.ne_of_gt (blk_lt (g := gb296) (o := .cells #[.string a1_0, .int .i64 a1_1, .bool a1_2] 23 (0, 0)) (by (with_reducible repeat (first | refine blk_drewN ?_ _ | refine blk_drew ?_ | refine blk_alloc ?_ _)); exact BK296.out)) : gb304 ≠ gb296)); clear BK295; clear BK296; clear HB; have BK295 := n0_; have BK296 := n1_; have HB := n2_; have BK304 := n3_; have GW304 := n4_; have GE304 := n5_; have NB295_304 := n6_; have NB304_295 := n7_; have NB296_304 := n8_; have NB304_296 := n9_; clear n0_ n1_ n2_ n3_ n4_ n5_ n6_ n7_ n8_ n9_; clear hb hbox hg) | ((with_reducible refine gate_dst (N := 6) rfl ?_); refine box_event ?hg (N := 6) ?hd (cs := #[.string (⟨#[]⟩ : ByteArray), .int .i64 0, .bool false]) (t := 26) ?hr ?_; (case hd => rfl); (case hg => rfl); (case hr => first | (go_simp; done) | (go_simp; rfl)); intro gb305 hg w15 hbox hb; have n0_ := Aside0.mk (blk_below (g := gb295) (o := .cells #[.string a0_0, .int .i64 a0_1, .bool a0_2] 23 (0, 0)) (by (with_reducible repeat (first | refine blk_drewN ?_ _ | refine blk_drew ?_ | refine blk_alloc ?_ _)); exact BK295.out) hb); have n1_ := Aside0.mk (blk_below (g := gb296) (o := .cells #[.string a1_0, .int .i64 a1_1, .bool a1_2] 23 (0, 0)) (by (with_reducible repeat (first | refine blk_drewN ?_ _ | refine blk_drew ?_ | refine blk_alloc ?_ _)); exact BK296.out) hb); have n2_ := Aside0.mk (blk_below (g := gb304) (o := .cells #[.string (⟨#[]⟩ : ByteArray), .int .i64 0, .bool false] 25 (0, 0)) (by (with_reducible repeat (first | refine blk_drewN ?_ _ | refine blk_drew ?_ | refine blk_alloc ?_ _)); exact BK304.out) hb); have n3_ := Aside0.mk (below_step (by repeat (first | (with_reducible first | exact HB.out | apply below_alloc | apply pw_below_drewN | apply below_drew1 | refine below_set ?_ GE295.out | refine below_set ?_ GE296.out | refine below_set ?_ GE304.out) | exact HB.out)) hb); have n4_ := Aside0.mk (hbox); have n5_ := Aside0.mk ((by rw [hg]; exact (below_size (by repeat (first | (with_reducible first | exact HB.out | apply below_alloc | apply pw_below_drewN | apply below_drew1 | refine below_set ?_ GE295.out | refine below_set ?_ GE296.out | refine below_set ?_ GE304.out) | exact HB.out))) : w.heap.size ≤ gb305)); have n6_ := Aside0.mk ((by rw [hg]; exact (below_size (by repeat (first | (with_reducible first | exact HB.out | apply below_alloc | apply pw_below_drewN | apply below_drew1 | refine below_set ?_ GE295.out | refine below_set ?_ GE296.out | refine below_set ?_ GE304.out) | exact HB.out))) : w.heap.size ≤ gb305)); have n7_ := Aside0.mk ((by rw [hg]; exact Nat.ne_of_lt (blk_lt (g := gb295) (o := .cells #[.string a0_0, .int .i64 a0_1, .bool a0_2] 23 (0, 0)) (by (with_reducible repeat (first | refine blk_drewN ?_ _ | refine blk_drew ?_ | refine blk_alloc ?_ _)); exact BK295.out)) : gb295 ≠ gb305)); have n8_ := Aside0.mk ((by rw [hg]; exact Nat.ne_of_gt (blk_lt (g := gb295) (o := .cells #[.string a0_0, .int .i64 a0_1, .bool a0_2] 23 (0, 0)) (by (with_reducible repeat (first | refine blk_drewN ?_ _ | refine blk_drew ?_ | refine blk_alloc ?_ _)); exact BK295.out)) : gb305 ≠ gb295)); have n9_ := Aside0.mk ((by rw [hg]; exact Nat.ne_of_lt (blk_lt (g := gb296) (o := .cells #[.string a1_0, .int .i64 a1_1, .bool a1_2] 23 (0, 0)) (by (with_reducible repeat (first | refine blk_drewN ?_ _ | refine blk_drew ?_ | refine blk_alloc ?_ _)); exact BK296.out)) : gb296 ≠ gb305)); have n10_ := Aside0.mk ((by rw [hg]; exact Nat.ne_of_gt (blk_lt (g := gb296) (o := .cells #[.string a1_0, .int .i64 a1_1, .bool a1_2] 23 (0, 0)) (by (with_reducible repeat (first | refine blk_drewN ?_ _ | refine blk_drew ?_ | refine blk_alloc ?_ _)); exact BK296.out)) : gb305 ≠ gb296)); have n11_ := Aside0.mk ((by rw [hg]; exact Nat.ne_of_lt (blk_lt (g := gb304) (o := .cells #[.string (⟨#[]⟩ : ByteArray), .int .i64 0, .bool false] 25 (0, 0)) (by (with_reducible repeat (first | refine blk_drewN ?_ _ | refine blk_drew ?_ | refine blk_alloc ?_ _)); exact BK304.out)) : gb304 ≠ gb305)); have n12_ := Aside0.mk ((by rw [hg]; exact Nat.ne_of_gt (blk_lt (g := gb304) (o := .cells #[.string (⟨#[]⟩ : ByteArray), .int .i64 0, .bool false] 25 (0, 0)) (by (with_reducible repeat (first | refine blk_drewN ?_ _ | refine blk_drew ?_ | refine blk_alloc ?_ _)); exact BK304.out)) : gb305 ≠ gb304)); clear BK295; clear BK296; clear BK304; clear HB; have BK295 := n0_; have BK296 := n1_; have BK304 := n2_; have HB := n3_; have BK305 := n4_; have GW305 := n5_; have GE305 := n6_; have NB295_305 := n7_; have NB305_295 := n8_; have NB296_305 := n9_; have NB305_296 := n10_; have NB304_305 := n11_; have NB305_304 := n12_; clear n0_ n1_ n2_ n3_ n4_ n5_ n6_ n7_ n8_ n9_ n10_ n11_ n12_; clear hb hbox hg; have hnb16 := NB304_295.out; have hnc16 := NB295_304.out; have hnb17 := NB304_296.out; have hnc17 := NB296_304.out; have hnb18 := NB304_305.out; have hnc18 := NB305_304.out; have hcz19_0 : w15.cell? ⟨gb304, 0, none⟩ = some (.string (⟨#[]⟩ : ByteArray)) := (blk_cell BK304.out 0).trans rfl; have hcz19_1 : w15.cell? ⟨gb304, 1, none⟩ = some (.int .i64 0) := (blk_cell BK304.out 1).trans rfl; have hcz19_2 : w15.cell? ⟨gb304, 2, none⟩ = some (.bool false) := (blk_cell BK304.out 2).trans rfl; have hfz19_0 := blk_frozen BK304.out 0; have hfz19_1 := blk_frozen BK304.out 1; have hfz19_2 := blk_frozen BK304.out 2; have hnb20 := NB305_295.out; have hnc20 := NB295_305.out; have hnb21 := NB305_296.out; have hnc21 := NB296_305.out; have hcz22_0 : w15.cell? ⟨gb305, 0, none⟩ = some (.string (⟨#[]⟩ : ByteArray)) := (blk_cell BK305.out 0).trans rfl; have hcz22_1 : w15.cell? ⟨gb305, 1, none⟩ = some (.int .i64 0) := (blk_cell BK305.out 1).trans rfl; have hcz22_2 : w15.cell? ⟨gb305, 2, none⟩ = some (.bool false) := (blk_cell BK305.out 2).trans rfl; have hfz22_0 := blk_frozen BK305.out 0; have hfz22_1 := blk_frozen BK305.out 1; have hfz22_2 := blk_frozen BK305.out 2; have hcz23_0 : w15.cell? ⟨gb296, 0, none⟩ = some (.string a1_0) := (blk_cell BK296.out 0).trans rfl; have hcz23_1 : w15.cell? ⟨gb296, 1, none⟩ = some (.int .i64 a1_1) := (blk_cell BK296.out 1).trans rfl; have hcz23_2 : w15.cell? ⟨gb296, 2, none⟩ = some (.bool a1_2) := (blk_cell BK296.out 2).trans rfl; have hfz23_0 := blk_frozen BK296.out 0; have hfz23_1 := blk_frozen BK296.out 1; have hfz23_2 := blk_frozen BK296.out 2) | ((with_reducible refine gate_callee (f := 9) rfl ?_); refine goesL_ (some 21) rfl rfl Tryd.func9 (by kernel_rfl) rfl #[.agg #[.string a1_0, .int .i64 a1_1, .bool a1_2]] rfl (by (try simp only [List.map_toArray, List.map_cons, List.map_nil]); first | done | rfl | (simp only [List.length_drop, List.length_take]; rfl)) ?_; (with_reducible refine (concordancelaw19_one.calls a1_0 a1_1 a1_2 t306 t307 t308 t309 t310 t311 _ A6.out).mono ?_); rintro e w24 ⟨rfl, hb⟩; refine ⟨_, rfl, ?_⟩; have n0_ := Aside0.mk (blk_below (g := gb295) (o := .cells #[.string a0_0, .int .i64 a0_1, .bool a0_2] 23 (0, 0)) (by (with_reducible repeat (first | refine blk_drewN ?_ _ | refine blk_drew ?_ | refine blk_alloc ?_ _)); refine blk_far ?_ NB295_305.out _; (with_reducible repeat (first | refine blk_drewN ?_ _ | refine blk_drew ?_ | refine blk_alloc ?_ _)); refine blk_far ?_ NB295_305.out _; (with_reducible repeat (first | refine blk_drewN ?_ _ | refine blk_drew ?_ | refine blk_alloc ?_ _)); refine blk_far ?_ NB295_305.out _; (with_reducible repeat (first | refine blk_drewN ?_ _ | refine blk_drew ?_ | refine blk_alloc ?_ _)); refine blk_far ?_ NB295_304.out _; (with_reducible repeat (first | refine blk_drewN ?_ _ | refine blk_drew ?_ | refine blk_alloc ?_ _)); refine blk_far ?_ NB295_304.out _; (with_reducible repeat (first | refine blk_drewN ?_ _ | refine blk_drew ?_ | refine blk_alloc ?_ _)); refine blk_far ?_ NB295_304.out _; (with_reducible repeat (first | refine blk_drewN ?_ _ | refine blk_drew ?_ | refine blk_alloc ?_ _)); exact BK295.out) hb); have n1_ := Aside0.mk (blk_below (g := gb296) (o := .cells #[.string a1_0, .int .i64 a1_1, .bool a1_2] 23 (0, 0)) (by (with_reducible repeat (first | refine blk_drewN ?_ _ | refine blk_drew ?_ | refine blk_alloc ?_ _)); refine blk_far ?_ NB296_305.out _; (with_reducible repeat (first | refine blk_drewN ?_ _ | refine blk_drew ?_ | refine blk_alloc ?_ _)); refine blk_far ?_ NB296_305.out _; (with_reducible repeat (first | refine blk_drewN ?_ _ | refine blk_drew ?_ | refine blk_alloc ?_ _)); refine blk_far ?_ NB296_305.out _; (with_reducible repeat (first | refine blk_drewN ?_ _ | refine blk_drew ?_ | refine blk_alloc ?_ _)); refine blk_far ?_ NB296_304.out _; (with_reducible repeat (first | refine blk_drewN ?_ _ | refine blk_drew ?_ | refine blk_alloc ?_ _)); refine blk_far ?_ NB296_304.out _; (with_reducible repeat (first | refine blk_drewN ?_ _ | refine blk_drew ?_ | refine blk_alloc ?_ _)); refine blk_far ?_ NB296_304.out _; (with_reducible repeat (first | refine blk_drewN ?_ _ | refine blk_drew ?_ | refine blk_alloc ?_ _)); exact BK296.out) hb); have n2_ := Aside0.mk (blk_below (g := gb304) (o := .cells #[.string t298, .int .i64 t299, .bool t300] 25 (0, 0)) (by (with_reducible repeat (first | refine blk_drewN ?_ _ | refine blk_drew ?_ | refine blk_alloc ?_ _)); refine blk_far ?_ NB304_305.out _; (with_reducible repeat (first | refine blk_drewN ?_ _ | refine blk_drew ?_ | refine blk_alloc ?_ _)); refine blk_far ?_ NB304_305.out _; (with_reducible repeat (first | refine blk_drewN ?_ _ | refine blk_drew ?_ | refine blk_alloc ?_ _)); refine blk_far ?_ NB304_305.out _; (with_reducible repeat (first | refine blk_drewN ?_ _ | refine blk_drew ?_ | refine blk_alloc ?_ _)); refine blk_put (cs := #[.string t298, .int .i64 t299, .bool false]) ?_ 2 _ rfl; (with_reducible repeat (first | refine blk_drewN ?_ _ | refine blk_drew ?_ | refine blk_alloc ?_ _)); refine blk_put (cs := #[.string t298, .int .i64 0, .bool false]) ?_ 1 _ rfl; (with_reducible repeat (first | refine blk_drewN ?_ _ | refine blk_drew ?_ | refine blk_alloc ?_ _)); refine blk_put (cs := #[.string (⟨#[]⟩ : ByteArray), .int .i64 0, .bool false]) ?_ 0 _ rfl; (with_reducible repeat (first | refine blk_drewN ?_ _ | refine blk_drew ?_ | refine blk_alloc ?_ _)); exact BK304.out) hb); have n3_ := Aside0.mk (blk_below (g := gb305) (o := .cells #[.string t301, .int .i64 t302, .bool t303] 26 (0, 0)) (by (with_reducible repeat (first | refine blk_drewN ?_ _ | refine blk_drew ?_ | refine blk_alloc ?_ _)); refine blk_put (cs := #[.string t301, .int .i64 t302, .bool false]) ?_ 2 _ rfl; (with_reducible repeat (first | refine blk_drewN ?_ _ | refine blk_drew ?_ | refine blk_alloc ?_ _)); refine blk_put (cs := #[.string t301, .int .i64 0, .bool false]) ?_ 1 _ rfl; (with_reducible repeat (first | refine blk_drewN ?_ _ | refine blk_drew ?_ | refine blk_alloc ?_ _)); refine blk_put (cs := #[.string (⟨#[]⟩ : ByteArray), .int .i64 0, .bool false]) ?_ 0 _ rfl; (with_reducible repeat (first | refine blk_drewN ?_ _ | refine blk_drew ?_ | refine blk_alloc ?_ _)); refine blk_far ?_ NB305_304.out _; (with_reducible repeat (first | refine blk_drewN ?_ _ | refine blk_drew ?_ | refine blk_alloc ?_ _)); refine blk_far ?_ NB305_304.out _; (with_reducible repeat (first | refine blk_drewN ?_ _ | refine blk_drew ?_ | refine blk_alloc ?_ _)); refine blk_far ?_ NB305_304.out _; (with_reducible repeat (first | refine blk_drewN ?_ _ | refine blk_drew ?_ | refine blk_alloc ?_ _)); exact BK305.out) hb); have n4_ := Aside0.mk (below_step (by repeat (first | (with_reducible first | exact HB.out | apply below_alloc | apply pw_below_drewN | apply below_drew1 | refine below_set ?_ GE295.out | refine below_set ?_ GE296.out | refine below_set ?_ GE304.out | refine below_set ?_ GE305.out) | exact HB.out)) hb); clear BK295; clear BK296; clear BK304; clear BK305; clear HB; have BK295 := n0_; have BK296 := n1_; have BK304 := n2_; have BK305 := n3_; have HB := n4_; clear n0_ n1_ n2_ n3_ n4_; (try clear hb); (try clear hb2); (try clear hk); (try clear hi)) | ((with_reducible refine gate_dst (N := 7) rfl ?_); refine box_event ?hg (N := 7) ?hd (cs := #[.string (⟨#[]⟩ : ByteArray), .int .i64 0, .bool false]) (t := 25) ?hr ?_; (case hd => rfl); (case hg => rfl); (case hr => first | (go_simp; done) | (go_simp; rfl)); intro gb312 hg w25 hbox hb; have n0_ := Aside0.mk (blk_below (g := gb295) (o := .cells #[.string a0_0, .int .i64 a0_1, .bool a0_2] 23 (0, 0)) (by (with_reducible repeat (first | refine blk_drewN ?_ _ | refine blk_drew ?_ | refine blk_alloc ?_ _)); exact BK295.out) hb); have n1_ := Aside0.mk (blk_below (g := gb296) (o := .cells #[.string a1_0, .int .i64 a1_1, .bool a1_2] 23 (0, 0)) (by (with_reducible repeat (first | refine blk_drewN ?_ _ | refine blk_drew ?_ | refine blk_alloc ?_ _)); exact BK296.out) hb); have n2_ := Aside0.mk (blk_below (g := gb304) (o := .cells #[.string t298, .int .i64 t299, .bool t300] 25 (0, 0)) (by (with_reducible repeat (first | refine blk_drewN ?_ _ | refine blk_drew ?_ | refine blk_alloc ?_ _)); exact BK304.out) hb); have n3_ := Aside0.mk (blk_below (g := gb305) (o := .cells #[.string t301, .int .i64 t302, .bool t303] 26 (0, 0)) (by (with_reducible repeat (first | refine blk_drewN ?_ _ | refine blk_drew ?_ | refine blk_alloc ?_ _)); exact BK305.out) hb); have n4_ := Aside0.mk (below_step (by repeat (first | (with_reducible first | exact HB.out | apply below_alloc | apply pw_below_drewN | apply below_drew1 | refine below_set ?_ GE295.out | refine below_set ?_ GE296.out | refine below_set ?_ GE304.out | refine below_set ?_ GE305.out) | exact HB.out)) hb); have n5_ := Aside0.mk (hbox); have n6_ := Aside0.mk ((by rw [hg]; exact (below_size (by repeat (first | (with_reducible first | exact HB.out | apply below_alloc | apply pw_below_drewN | apply below_drew1 | refine below_set ?_ GE295.out | refine below_set ?_ GE296.out | refine below_set ?_ GE304.out | refine below_set ?_ GE305.out) | exact HB.out))) : w.heap.size ≤ gb312)); have n7_ := Aside0.mk ((by rw [hg]; exact (below_size (by repeat (first | (with_reducible first | exact HB.out | apply below_alloc | apply pw_below_drewN | apply below_drew1 | refine below_set ?_ GE295.out | refine below_set ?_ GE296.out | refine below_set ?_ GE304.out | refine below_set ?_ GE305.out) | exact HB.out))) : w.heap.size ≤ gb312)); have n8_ := Aside0.mk ((by rw [hg]; exact Nat.ne_of_lt (blk_lt (g := gb295) (o := .cells #[.string a0_0, .int .i64 a0_1, .bool a0_2] 23 (0, 0)) (by (with_reducible repeat (first | refine blk_drewN ?_ _ | refine blk_drew ?_ | refine blk_alloc ?_ _)); exact BK295.out)) : gb295 ≠ gb312)); have n9_ := Aside0.mk ((by rw [hg]; exact Nat.ne_of_gt (blk_lt (g := gb295) (o := .cells #[.string a0_0, .int .i64 a0_1, .bool a0_2] 23 (0, 0)) (by (with_reducible repeat (first | refine blk_drewN ?_ _ | refine blk_drew ?_ | refine blk_alloc ?_ _)); exact BK295.out)) : gb312 ≠ gb295)); have n10_ := Aside0.mk ((by rw [hg]; exact Nat.ne_of_lt (blk_lt (g := gb296) (o := .cells #[.string a1_0, .int .i64 a1_1, .bool a1_2] 23 (0, 0)) (by (with_reducible repeat (first | refine blk_drewN ?_ _ | refine blk_drew ?_ | refine blk_alloc ?_ _)); exact BK296.out)) : gb296 ≠ gb312)); have n11_ := Aside0.mk ((by rw [hg]; exact Nat.ne_of_gt (blk_lt (g := gb296) (o := .cells #[.string a1_0, .int .i64 a1_1, .bool a1_2] 23 (0, 0)) (by (with_reducible repeat (first | refine blk_drewN ?_ _ | refine blk_drew ?_ | refine blk_alloc ?_ _)); exact BK296.out)) : gb312 ≠ gb296)); have n12_ := Aside0.mk ((by rw [hg]; exact Nat.ne_of_lt (blk_lt (g := gb304) (o := .cells #[.string t298, .int .i64 t299, .bool t300] 25 (0, 0)) (by (with_reducible repeat (first | refine blk_drewN ?_ _ | refine blk_drew ?_ | refine blk_alloc ?_ _)); exact BK304.out)) : gb304 ≠ gb312)); have n13_ := Aside0.mk ((by rw [hg]; exact Nat.ne_of_gt (blk_lt (g := gb304) (o := .cells #[.string t298, .int .i64 t299, .bool t300] 25 (0, 0)) (by (with_reducible repeat (first | refine blk_drewN ?_ _ | refine blk_drew ?_ | refine blk_alloc ?_ _)); exact BK304.out)) : gb312 ≠ gb304)); have n14_ := Aside0.mk ((by rw [hg]; exact Nat.ne_of_lt (blk_lt (g := gb305) (o := .cells #[.string t301, .int .i64 t302, .bool t303] 26 (0, 0)) (by (with_reducible repeat (first | refine blk_drewN ?_ _ | refine blk_drew ?_ | refine blk_alloc ?_ _)); exact BK305.out)) : gb305 ≠ gb312)); have n15_ := Aside0.mk ((by rw [hg]; exact Nat.ne_of_gt (blk_lt (g := gb305) (o := .cells #[.string t301, .int .i64 t302, .bool t303] 26 (0, 0)) (by (with_reducible repeat (first | refine blk_drewN ?_ _ | refine blk_drew ?_ | refine blk_alloc ?_ _)); exact BK305.out)) : gb312 ≠ gb305)); clear BK295; clear BK296; clear BK304; clear BK305; clear HB; have BK295 := n0_; have BK296 := n1_; have BK304 := n2_; have BK305 := n3_; have HB := n4_; have BK312 := n5_; have GW312 := n6_; have GE312 := n7_; have NB295_312 := n8_; have NB312_295 := n9_; have NB296_312 := n10_; have NB312_296 := n11_; have NB304_312 := n12_; have NB312_304 := n13_; have NB305_312 := n14_; have NB312_305 := n15_; clear n0_ n1_ n2_ n3_ n4_ n5_ n6_ n7_ n8_ n9_ n10_ n11_ n12_ n13_ n14_ n15_; clear hb hbox hg) | ((with_reducible refine gate_dst (N := 8) rfl ?_); refine box_event ?hg (N := 8) ?hd (cs := #[.string (⟨#[]⟩ : ByteArray), .int .i64 0, .bool false]) (t := 26) ?hr ?_; (case hd => rfl); (case hg => rfl); (case hr => first | (go_simp; done) | (go_simp; rfl)); intro gb313 hg w26 hbox hb; have n0_ := Aside0.mk (blk_below (g := gb295) (o := .cells #[.string a0_0, .int .i64 a0_1, .bool a0_2] 23 (0, 0)) (by (with_reducible repeat (first | refine blk_drewN ?_ _ | refine blk_drew ?_ | refine blk_alloc ?_ _)); exact BK295.out) hb); have n1_ := Aside0.mk (blk_below (g := gb296) (o := .cells #[.string a1_0, .int .i64 a1_1, .bool a1_2] 23 (0, 0)) (by (with_reducible repeat (first | refine blk_drewN ?_ _ | refine blk_drew ?_ | refine blk_alloc ?_ _)); exact BK296.out) hb); have n2_ := Aside0.mk (blk_below (g := gb304) (o := .cells #[.string t298, .int .i64 t299, .bool t300] 25 (0, 0)) (by (with_reducible repeat (first | refine blk_drewN ?_ _ | refine blk_drew ?_ | refine blk_alloc ?_ _)); exact BK304.out) hb); have n3_ := Aside0.mk (blk_below (g := gb305) (o := .cells #[.string t301, .int .i64 t302, .bool t303] 26 (0, 0)) (by (with_reducible repeat (first | refine blk_drewN ?_ _ | refine blk_drew ?_ | refine blk_alloc ?_ _)); exact BK305.out) hb); have n4_ := Aside0.mk (blk_below (g := gb312) (o := .cells #[.string (⟨#[]⟩ : ByteArray), .int .i64 0, .bool false] 25 (0, 0)) (by (with_reducible repeat (first | refine blk_drewN ?_ _ | refine blk_drew ?_ | refine blk_alloc ?_ _)); exact BK312.out) hb); have n5_ := Aside0.mk (below_step (by repeat (first | (with_reducible first | exact HB.out | apply below_alloc | apply pw_below_drewN | apply below_drew1 | refine below_set ?_ GE295.out | refine below_set ?_ GE296.out | refine below_set ?_ GE304.out | refine below_set ?_ GE305.out | refine below_set ?_ GE312.out) | exact HB.out)) hb); have n6_ := Aside0.mk (hbox); have n7_ := Aside0.mk ((by rw [hg]; exact (below_size (by repeat (first | (with_reducible first | exact HB.out | apply below_alloc | apply pw_below_drewN | apply below_drew1 | refine below_set ?_ GE295.out | refine below_set ?_ GE296.out | refine below_set ?_ GE304.out | refine below_set ?_ GE305.out | refine below_set ?_ GE312.out) | exact HB.out))) : w.heap.size ≤ gb313)); have n8_ := Aside0.mk ((by rw [hg]; exact (below_size (by repeat (first | (with_reducible first | exact HB.out | apply below_alloc | apply pw_below_drewN | apply below_drew1 | refine below_set ?_ GE295.out | refine below_set ?_ GE296.out | refine below_set ?_ GE304.out | refine below_set ?_ GE305.out | refine below_set ?_ GE312.out) | exact HB.out))) : w.heap.size ≤ gb313)); have n9_ := Aside0.mk ((by rw [hg]; exact Nat.ne_of_lt (blk_lt (g := gb295) (o := .cells #[.string a0_0, .int .i64 a0_1, .bool a0_2] 23 (0, 0)) (by (with_reducible repeat (first | refine blk_drewN ?_ _ | refine blk_drew ?_ | refine blk_alloc ?_ _)); exact BK295.out)) : gb295 ≠ gb313)); have n10_ := Aside0.mk ((by rw [hg]; exact Nat.ne_of_gt (blk_lt (g := gb295) (o := .cells #[.string a0_0, .int .i64 a0_1, .bool a0_2] 23 (0, 0)) (by (with_reducible repeat (first | refine blk_drewN ?_ _ | refine blk_drew ?_ | refine blk_alloc ?_ _)); exact BK295.out)) : gb313 ≠ gb295)); have n11_ := Aside0.mk ((by rw [hg]; exact Nat.ne_of_lt (blk_lt (g := gb296) (o := .cells #[.string a1_0, .int .i64 a1_1, .bool a1_2] 23 (0, 0)) (by (with_reducible repeat (first | refine blk_drewN ?_ _ | refine blk_drew ?_ | refine blk_alloc ?_ _)); exact BK296.out)) : gb296 ≠ gb313)); have n12_ := Aside0.mk ((by rw [hg]; exact Nat.ne_of_gt (blk_lt (g := gb296) (o := .cells #[.string a1_0, .int .i64 a1_1, .bool a1_2] 23 (0, 0)) (by (with_reducible repeat (first | refine blk_drewN ?_ _ | refine blk_drew ?_ | refine blk_alloc ?_ _)); exact BK296.out)) : gb313 ≠ gb296)); have n13_ := Aside0.mk ((by rw [hg]; exact Nat.ne_of_lt (blk_lt (g := gb304) (o := .cells #[.string t298, .int .i64 t299, .bool t300] 25 (0, 0)) (by (with_reducible repeat (first | refine blk_drewN ?_ _ | refine blk_drew ?_ | refine blk_alloc ?_ _)); exact BK304.out)) : gb304 ≠ gb313)); have n14_ := Aside0.mk ((by rw [hg]; exact Nat.ne_of_gt (blk_lt (g := gb304) (o := .cells #[.string t298, .int .i64 t299, .bool t300] 25 (0, 0)) (by (with_reducible repeat (first | refine blk_drewN ?_ _ | refine blk_drew ?_ | refine blk_alloc ?_ _)); exact BK304.out)) : gb313 ≠ gb304)); have n15_ := Aside0.mk ((by rw [hg]; exact Nat.ne_of_lt (blk_lt (g := gb305) (o := .cells #[.string t301, .int .i64 t302, .bool t303] 26 (0, 0)) (by (with_reducible repeat (first | refine blk_drewN ?_ _ | refine blk_drew ?_ | refine blk_alloc ?_ _)); exact BK305.out)) : gb305 ≠ gb313)); have n16_ := Aside0.mk ((by rw [hg]; exact Nat.ne_of_gt (blk_lt (g := gb305) (o := .cells #[.string t301, .int .i64 t302, .bool t303] 26 (0, 0)) (by (with_reducible repeat (first | refine blk_drewN ?_ _ | refine blk_drew ?_ | refine blk_alloc ?_ _)); exact BK305.out)) : gb313 ≠ gb305)); have n17_ := Aside0.mk ((by rw [hg]; exact Nat.ne_of_lt (blk_lt (g := gb312) (o := .cells #[.string (⟨#[]⟩ : ByteArray), .int .i64 0, .bool false] 25 (0, 0)) (by (with_reducible repeat (first | refine blk_drewN ?_ _ | refine blk_drew ?_ | refine blk_alloc ?_ _)); exact BK312.out)) : gb312 ≠ gb313)); have n18_ := Aside0.mk ((by rw [hg]; exact Nat.ne_of_gt (blk_lt (g := gb312) (o := .cells #[.string (⟨#[]⟩ : ByteArray), .int .i64 0, .bool false] 25 (0, 0)) (by (with_reducible repeat (first | refine blk_drewN ?_ _ | refine blk_drew ?_ | refine blk_alloc ?_ _)); exact BK312.out)) : gb313 ≠ gb312)); clear BK295; clear BK296; clear BK304; clear BK305; clear BK312; clear HB; have BK295 := n0_; have BK296 := n1_; have BK304 := n2_; have BK305 := n3_; have BK312 := n4_; have HB := n5_; have BK313 := n6_; have GW313 := n7_; have GE313 := n8_; have NB295_313 := n9_; have NB313_295 := n10_; have NB296_313 := n11_; have NB313_296 := n12_; have NB304_313 := n13_; have NB313_304 := n14_; have NB305_313 := n15_; have NB313_305 := n16_; have NB312_313 := n17_; have NB313_312 := n18_; clear n0_ n1_ n2_ n3_ n4_ n5_ n6_ n7_ n8_ n9_ n10_ n11_ n12_ n13_ n14_ n15_ n16_ n17_ n18_; clear hb hbox hg; have hnb27 := NB312_295.out; have hnc27 := NB295_312.out; have hnb28 := NB312_296.out; have hnc28 := NB296_312.out; have hnb29 := NB312_304.out; have hnc29 := NB304_312.out; have hnb30 := NB312_305.out; have hnc30 := NB305_312.out; have hnb31 := NB312_313.out; have hnc31 := NB313_312.out; have hcz32_0 : w26.cell? ⟨gb312, 0, none⟩ = some (.string (⟨#[]⟩ : ByteArray)) := (blk_cell BK312.out 0).trans rfl; have hcz32_1 : w26.cell? ⟨gb312, 1, none⟩ = some (.int .i64 0) := (blk_cell BK312.out 1).trans rfl; have hcz32_2 : w26.cell? ⟨gb312, 2, none⟩ = some (.bool false) := (blk_cell BK312.out 2).trans rfl; have hfz32_0 := blk_frozen BK312.out 0; have hfz32_1 := blk_frozen BK312.out 1; have hfz32_2 := blk_frozen BK312.out 2; have hnb33 := NB313_295.out; have hnc33 := NB295_313.out; have hnb34 := NB313_296.out; have hnc34 := NB296_313.out; have hnb35 := NB313_304.out; have hnc35 := NB304_313.out; have hnb36 := NB313_305.out; have hnc36 := NB305_313.out; have hcz37_0 : w26.cell? ⟨gb313, 0, none⟩ = some (.string (⟨#[]⟩ : ByteArray)) := (blk_cell BK313.out 0).trans rfl; have hcz37_1 : w26.cell? ⟨gb313, 1, none⟩ = some (.int .i64 0) := (blk_cell BK313.out 1).trans rfl; have hcz37_2 : w26.cell? ⟨gb313, 2, none⟩ = some (.bool false) := (blk_cell BK313.out 2).trans rfl; have hfz37_0 := blk_frozen BK313.out 0; have hfz37_1 := blk_frozen BK313.out 1; have hfz37_2 := blk_frozen BK313.out 2; have hcz38_0 : w26.cell? ⟨gb304, 0, none⟩ = some (.string t298) := (blk_cell BK304.out 0).trans rfl; have hcz38_1 : w26.cell? ⟨gb304, 1, none⟩ = some (.int .i64 t299) := (blk_cell BK304.out 1).trans rfl; have hcz38_2 : w26.cell? ⟨gb304, 2, none⟩ = some (.bool t300) := (blk_cell BK304.out 2).trans rfl; have hfz38_0 := blk_frozen BK304.out 0; have hfz38_1 := blk_frozen BK304.out 1; have hfz38_2 := blk_frozen BK304.out 2))
  (try simp only [Act.put, List.setIfInBounds_toArray, List.set_cons_zero, List.set_cons_succ])
  go_cut [] (fun wc => ∃ (kq : Nat) (x305000_6 : ByteArray) (x305001_6 : Int), Aside0 (concordancelaw19_TupleShown.j0 kq x305000_6 x305001_6 t300 t306 t307 t308 = some r) ∧ Aside0 (kq ≤ k) ∧ Aside0 (wc.heap[gb295]? = some (.cells #[.string a0_0, .int .i64 a0_1, .bool a0_2] 23 (0, 0))) ∧ Aside0 (wc.heap[gb296]? = some (.cells #[.string a1_0, .int .i64 a1_1, .bool a1_2] 23 (0, 0))) ∧ Aside0 (wc.heap[gb304]? = some (.cells #[.string x305000_6, .int .i64 x305001_6, .bool t300] 25 (0, 0))) ∧ Aside0 (wc.heap[gb305]? = some (.cells #[.string t301, .int .i64 t302, .bool t303] 26 (0, 0))) ∧ Aside0 (wc.heap[gb312]? = some (.cells #[.string t306, .int .i64 t307, .bool t308] 25 (0, 0))) ∧ Aside0 (wc.heap[gb313]? = some (.cells #[.string t309, .int .i64 t310, .bool t311] 26 (0, 0))) ∧ Aside0 (Below w.heap.size w wc))
  case first =>
   have H := HC7.out
   clear HC7
   by_cases c39 : t300 = true
   ·subst c39
    have H1 : (concordancelaw19_TupleShown.j0 k t298 0 true t306 t307 t308) = some r := by rw [if_pos rfl] at H; exact H
    clear H
    have H := H1
    clear H1
    have H' := Aside0.mk H
    clear H
    have hnb40 := NB304_295.out
    have hnc40 := NB295_304.out
    have hnb41 := NB304_296.out
    have hnc41 := NB296_304.out
    have hnb42 := NB304_305.out
    have hnc42 := NB305_304.out
    have hnb43 := NB304_312.out
    have hnc43 := NB312_304.out
    have hnb44 := NB304_313.out
    have hnc44 := NB313_304.out
    have hcz45_0 : w26.cell? ⟨gb304, 0, none⟩ = some (.string t298) := (blk_cell BK304.out 0).trans rfl
    have hcz45_1 : w26.cell? ⟨gb304, 1, none⟩ = some (.int .i64 t299) := (blk_cell BK304.out 1).trans rfl
    have hcz45_2 : w26.cell? ⟨gb304, 2, none⟩ = some (.bool true) := (blk_cell BK304.out 2).trans rfl
    have hfz45_0 := blk_frozen BK304.out 0
    have hfz45_1 := blk_frozen BK304.out 1
    have hfz45_2 := blk_frozen BK304.out 2
    go_wp2
    go_meet
    case rel => exact ⟨_, (t298), (0), H', ⟨by first | omega | exact Nat.le_refl _⟩, ⟨by (with_reducible repeat (first | refine blk_drewN ?_ _ | refine blk_drew ?_ | refine blk_alloc ?_ _)); refine blk_far ?_ NB295_304.out _; (with_reducible repeat (first | refine blk_drewN ?_ _ | refine blk_drew ?_ | refine blk_alloc ?_ _)); refine blk_far ?_ NB295_313.out _; (with_reducible repeat (first | refine blk_drewN ?_ _ | refine blk_drew ?_ | refine blk_alloc ?_ _)); refine blk_far ?_ NB295_313.out _; (with_reducible repeat (first | refine blk_drewN ?_ _ | refine blk_drew ?_ | refine blk_alloc ?_ _)); refine blk_far ?_ NB295_313.out _; (with_reducible repeat (first | refine blk_drewN ?_ _ | refine blk_drew ?_ | refine blk_alloc ?_ _)); refine blk_far ?_ NB295_312.out _; (with_reducible repeat (first | refine blk_drewN ?_ _ | refine blk_drew ?_ | refine blk_alloc ?_ _)); refine blk_far ?_ NB295_312.out _; (with_reducible repeat (first | refine blk_drewN ?_ _ | refine blk_drew ?_ | refine blk_alloc ?_ _)); refine blk_far ?_ NB295_312.out _; (with_reducible repeat (first | refine blk_drewN ?_ _ | refine blk_drew ?_ | refine blk_alloc ?_ _)); exact BK295.out⟩, ⟨by (with_reducible repeat (first | refine blk_drewN ?_ _ | refine blk_drew ?_ | refine blk_alloc ?_ _)); refine blk_far ?_ NB296_304.out _; (with_reducible repeat (first | refine blk_drewN ?_ _ | refine blk_drew ?_ | refine blk_alloc ?_ _)); refine blk_far ?_ NB296_313.out _; (with_reducible repeat (first | refine blk_drewN ?_ _ | refine blk_drew ?_ | refine blk_alloc ?_ _)); refine blk_far ?_ NB296_313.out _; (with_reducible repeat (first | refine blk_drewN ?_ _ | refine blk_drew ?_ | refine blk_alloc ?_ _)); refine blk_far ?_ NB296_313.out _; (with_reducible repeat (first | refine blk_drewN ?_ _ | refine blk_drew ?_ | refine blk_alloc ?_ _)); refine blk_far ?_ NB296_312.out _; (with_reducible repeat (first | refine blk_drewN ?_ _ | refine blk_drew ?_ | refine blk_alloc ?_ _)); refine blk_far ?_ NB296_312.out _; (with_reducible repeat (first | refine blk_drewN ?_ _ | refine blk_drew ?_ | refine blk_alloc ?_ _)); refine blk_far ?_ NB296_312.out _; (with_reducible repeat (first | refine blk_drewN ?_ _ | refine blk_drew ?_ | refine blk_alloc ?_ _)); exact BK296.out⟩, ⟨by (with_reducible repeat (first | refine blk_drewN ?_ _ | refine blk_drew ?_ | refine blk_alloc ?_ _)); refine blk_put (cs := #[.string t298, .int .i64 t299, .bool true]) ?_ 1 _ rfl; (with_reducible repeat (first | refine blk_drewN ?_ _ | refine blk_drew ?_ | refine blk_alloc ?_ _)); refine blk_far ?_ NB304_313.out _; (with_reducible repeat (first | refine blk_drewN ?_ _ | refine blk_drew ?_ | refine blk_alloc ?_ _)); refine blk_far ?_ NB304_313.out _; (with_reducible repeat (first | refine blk_drewN ?_ _ | refine blk_drew ?_ | refine blk_alloc ?_ _)); refine blk_far ?_ NB304_313.out _; (with_reducible repeat (first | refine blk_drewN ?_ _ | refine blk_drew ?_ | refine blk_alloc ?_ _)); refine blk_far ?_ NB304_312.out _; (with_reducible repeat (first | refine blk_drewN ?_ _ | refine blk_drew ?_ | refine blk_alloc ?_ _)); refine blk_far ?_ NB304_312.out _; (with_reducible repeat (first | refine blk_drewN ?_ _ | refine blk_drew ?_ | refine blk_alloc ?_ _)); refine blk_far ?_ NB304_312.out _; (with_reducible repeat (first | refine blk_drewN ?_ _ | refine blk_drew ?_ | refine blk_alloc ?_ _)); exact BK304.out⟩, ⟨by (with_reducible repeat (first | refine blk_drewN ?_ _ | refine blk_drew ?_ | refine blk_alloc ?_ _)); refine blk_far ?_ NB305_304.out _; (with_reducible repeat (first | refine blk_drewN ?_ _ | refine blk_drew ?_ | refine blk_alloc ?_ _)); refine blk_far ?_ NB305_313.out _; (with_reducible repeat (first | refine blk_drewN ?_ _ | refine blk_drew ?_ | refine blk_alloc ?_ _)); refine blk_far ?_ NB305_313.out _; (with_reducible repeat (first | refine blk_drewN ?_ _ | refine blk_drew ?_ | refine blk_alloc ?_ _)); refine blk_far ?_ NB305_313.out _; (with_reducible repeat (first | refine blk_drewN ?_ _ | refine blk_drew ?_ | refine blk_alloc ?_ _)); refine blk_far ?_ NB305_312.out _; (with_reducible repeat (first | refine blk_drewN ?_ _ | refine blk_drew ?_ | refine blk_alloc ?_ _)); refine blk_far ?_ NB305_312.out _; (with_reducible repeat (first | refine blk_drewN ?_ _ | refine blk_drew ?_ | refine blk_alloc ?_ _)); refine blk_far ?_ NB305_312.out _; (with_reducible repeat (first | refine blk_drewN ?_ _ | refine blk_drew ?_ | refine blk_alloc ?_ _)); exact BK305.out⟩, ⟨by (with_reducible repeat (first | refine blk_drewN ?_ _ | refine blk_drew ?_ | refine blk_alloc ?_ _)); refine blk_far ?_ NB312_304.out _; (with_reducible repeat (first | refine blk_drewN ?_ _ | refine blk_drew ?_ | refine blk_alloc ?_ _)); refine blk_far ?_ NB312_313.out _; (with_reducible repeat (first | refine blk_drewN ?_ _ | refine blk_drew ?_ | refine blk_alloc ?_ _)); refine blk_far ?_ NB312_313.out _; (with_reducible repeat (first | refine blk_drewN ?_ _ | refine blk_drew ?_ | refine blk_alloc ?_ _)); refine blk_far ?_ NB312_313.out _; (with_reducible repeat (first | refine blk_drewN ?_ _ | refine blk_drew ?_ | refine blk_alloc ?_ _)); refine blk_put (cs := #[.string t306, .int .i64 t307, .bool false]) ?_ 2 _ rfl; (with_reducible repeat (first | refine blk_drewN ?_ _ | refine blk_drew ?_ | refine blk_alloc ?_ _)); refine blk_put (cs := #[.string t306, .int .i64 0, .bool false]) ?_ 1 _ rfl; (with_reducible repeat (first | refine blk_drewN ?_ _ | refine blk_drew ?_ | refine blk_alloc ?_ _)); refine blk_put (cs := #[.string (⟨#[]⟩ : ByteArray), .int .i64 0, .bool false]) ?_ 0 _ rfl; (with_reducible repeat (first | refine blk_drewN ?_ _ | refine blk_drew ?_ | refine blk_alloc ?_ _)); exact BK312.out⟩, ⟨by (with_reducible repeat (first | refine blk_drewN ?_ _ | refine blk_drew ?_ | refine blk_alloc ?_ _)); refine blk_far ?_ NB313_304.out _; (with_reducible repeat (first | refine blk_drewN ?_ _ | refine blk_drew ?_ | refine blk_alloc ?_ _)); refine blk_put (cs := #[.string t309, .int .i64 t310, .bool false]) ?_ 2 _ rfl; (with_reducible repeat (first | refine blk_drewN ?_ _ | refine blk_drew ?_ | refine blk_alloc ?_ _)); refine blk_put (cs := #[.string t309, .int .i64 0, .bool false]) ?_ 1 _ rfl; (with_reducible repeat (first | refine blk_drewN ?_ _ | refine blk_drew ?_ | refine blk_alloc ?_ _)); refine blk_put (cs := #[.string (⟨#[]⟩ : ByteArray), .int .i64 0, .bool false]) ?_ 0 _ rfl; (with_reducible repeat (first | refine blk_drewN ?_ _ | refine blk_drew ?_ | refine blk_alloc ?_ _)); refine blk_far ?_ NB313_312.out _; (with_reducible repeat (first | refine blk_drewN ?_ _ | refine blk_drew ?_ | refine blk_alloc ?_ _)); refine blk_far ?_ NB313_312.out _; (with_reducible repeat (first | refine blk_drewN ?_ _ | refine blk_drew ?_ | refine blk_alloc ?_ _)); refine blk_far ?_ NB313_312.out _; (with_reducible repeat (first | refine blk_drewN ?_ _ | refine blk_drew ?_ | refine blk_alloc ?_ _)); exact BK313.out⟩, ⟨by repeat (first | (with_reducible first | exact HB.out | apply below_alloc | apply pw_below_drewN | apply below_drew1 | refine below_set ?_ GE295.out | refine below_set ?_ GE296.out | refine below_set ?_ GE304.out | refine below_set ?_ GE305.out | refine below_set ?_ GE312.out | refine below_set ?_ GE313.out) | exact HB.out)⟩⟩
   ·replace c39 := Bool.eq_false_iff.mpr c39
    subst c39
    have H1 : (concordancelaw19_TupleShown.j0 k (⟨#[]⟩ : ByteArray) t299 false t306 t307 t308) = some r := by rw [if_neg (show ¬ (false = true) by decide)] at H; exact H
    clear H
    have H := H1
    clear H1
    have H' := Aside0.mk H
    clear H
    have hnb46 := NB304_295.out
    have hnc46 := NB295_304.out
    have hnb47 := NB304_296.out
    have hnc47 := NB296_304.out
    have hnb48 := NB304_305.out
    have hnc48 := NB305_304.out
    have hnb49 := NB304_312.out
    have hnc49 := NB312_304.out
    have hnb50 := NB304_313.out
    have hnc50 := NB313_304.out
    have hcz51_0 : w26.cell? ⟨gb304, 0, none⟩ = some (.string t298) := (blk_cell BK304.out 0).trans rfl
    have hcz51_1 : w26.cell? ⟨gb304, 1, none⟩ = some (.int .i64 t299) := (blk_cell BK304.out 1).trans rfl
    have hcz51_2 : w26.cell? ⟨gb304, 2, none⟩ = some (.bool false) := (blk_cell BK304.out 2).trans rfl
    have hfz51_0 := blk_frozen BK304.out 0
    have hfz51_1 := blk_frozen BK304.out 1
    have hfz51_2 := blk_frozen BK304.out 2
    go_wp2
    go_meet
    case rel => exact ⟨_, ((⟨#[]⟩ : ByteArray)), (t299), H', ⟨by first | omega | exact Nat.le_refl _⟩, ⟨by (with_reducible repeat (first | refine blk_drewN ?_ _ | refine blk_drew ?_ | refine blk_alloc ?_ _)); refine blk_far ?_ NB295_304.out _; (with_reducible repeat (first | refine blk_drewN ?_ _ | refine blk_drew ?_ | refine blk_alloc ?_ _)); refine blk_far ?_ NB295_313.out _; (with_reducible repeat (first | refine blk_drewN ?_ _ | refine blk_drew ?_ | refine blk_alloc ?_ _)); refine blk_far ?_ NB295_313.out _; (with_reducible repeat (first | refine blk_drewN ?_ _ | refine blk_drew ?_ | refine blk_alloc ?_ _)); refine blk_far ?_ NB295_313.out _; (with_reducible repeat (first | refine blk_drewN ?_ _ | refine blk_drew ?_ | refine blk_alloc ?_ _)); refine blk_far ?_ NB295_312.out _; (with_reducible repeat (first | refine blk_drewN ?_ _ | refine blk_drew ?_ | refine blk_alloc ?_ _)); refine blk_far ?_ NB295_312.out _; (with_reducible repeat (first | refine blk_drewN ?_ _ | refine blk_drew ?_ | refine blk_alloc ?_ _)); refine blk_far ?_ NB295_312.out _; (with_reducible repeat (first | refine blk_drewN ?_ _ | refine blk_drew ?_ | refine blk_alloc ?_ _)); exact BK295.out⟩, ⟨by (with_reducible repeat (first | refine blk_drewN ?_ _ | refine blk_drew ?_ | refine blk_alloc ?_ _)); refine blk_far ?_ NB296_304.out _; (with_reducible repeat (first | refine blk_drewN ?_ _ | refine blk_drew ?_ | refine blk_alloc ?_ _)); refine blk_far ?_ NB296_313.out _; (with_reducible repeat (first | refine blk_drewN ?_ _ | refine blk_drew ?_ | refine blk_alloc ?_ _)); refine blk_far ?_ NB296_313.out _; (with_reducible repeat (first | refine blk_drewN ?_ _ | refine blk_drew ?_ | refine blk_alloc ?_ _)); refine blk_far ?_ NB296_313.out _; (with_reducible repeat (first | refine blk_drewN ?_ _ | refine blk_drew ?_ | refine blk_alloc ?_ _)); refine blk_far ?_ NB296_312.out _; (with_reducible repeat (first | refine blk_drewN ?_ _ | refine blk_drew ?_ | refine blk_alloc ?_ _)); refine blk_far ?_ NB296_312.out _; (with_reducible repeat (first | refine blk_drewN ?_ _ | refine blk_drew ?_ | refine blk_alloc ?_ _)); refine blk_far ?_ NB296_312.out _; (with_reducible repeat (first | refine blk_drewN ?_ _ | refine blk_drew ?_ | refine blk_alloc ?_ _)); exact BK296.out⟩, ⟨by (with_reducible repeat (first | refine blk_drewN ?_ _ | refine blk_drew ?_ | refine blk_alloc ?_ _)); refine blk_put (cs := #[.string t298, .int .i64 t299, .bool false]) ?_ 0 _ rfl; (with_reducible repeat (first | refine blk_drewN ?_ _ | refine blk_drew ?_ | refine blk_alloc ?_ _)); refine blk_far ?_ NB304_313.out _; (with_reducible repeat (first | refine blk_drewN ?_ _ | refine blk_drew ?_ | refine blk_alloc ?_ _)); refine blk_far ?_ NB304_313.out _; (with_reducible repeat (first | refine blk_drewN ?_ _ | refine blk_drew ?_ | refine blk_alloc ?_ _)); refine blk_far ?_ NB304_313.out _; (with_reducible repeat (first | refine blk_drewN ?_ _ | refine blk_drew ?_ | refine blk_alloc ?_ _)); refine blk_far ?_ NB304_312.out _; (with_reducible repeat (first | refine blk_drewN ?_ _ | refine blk_drew ?_ | refine blk_alloc ?_ _)); refine blk_far ?_ NB304_312.out _; (with_reducible repeat (first | refine blk_drewN ?_ _ | refine blk_drew ?_ | refine blk_alloc ?_ _)); refine blk_far ?_ NB304_312.out _; (with_reducible repeat (first | refine blk_drewN ?_ _ | refine blk_drew ?_ | refine blk_alloc ?_ _)); exact BK304.out⟩, ⟨by (with_reducible repeat (first | refine blk_drewN ?_ _ | refine blk_drew ?_ | refine blk_alloc ?_ _)); refine blk_far ?_ NB305_304.out _; (with_reducible repeat (first | refine blk_drewN ?_ _ | refine blk_drew ?_ | refine blk_alloc ?_ _)); refine blk_far ?_ NB305_313.out _; (with_reducible repeat (first | refine blk_drewN ?_ _ | refine blk_drew ?_ | refine blk_alloc ?_ _)); refine blk_far ?_ NB305_313.out _; (with_reducible repeat (first | refine blk_drewN ?_ _ | refine blk_drew ?_ | refine blk_alloc ?_ _)); refine blk_far ?_ NB305_313.out _; (with_reducible repeat (first | refine blk_drewN ?_ _ | refine blk_drew ?_ | refine blk_alloc ?_ _)); refine blk_far ?_ NB305_312.out _; (with_reducible repeat (first | refine blk_drewN ?_ _ | refine blk_drew ?_ | refine blk_alloc ?_ _)); refine blk_far ?_ NB305_312.out _; (with_reducible repeat (first | refine blk_drewN ?_ _ | refine blk_drew ?_ | refine blk_alloc ?_ _)); refine blk_far ?_ NB305_312.out _; (with_reducible repeat (first | refine blk_drewN ?_ _ | refine blk_drew ?_ | refine blk_alloc ?_ _)); exact BK305.out⟩, ⟨by (with_reducible repeat (first | refine blk_drewN ?_ _ | refine blk_drew ?_ | refine blk_alloc ?_ _)); refine blk_far ?_ NB312_304.out _; (with_reducible repeat (first | refine blk_drewN ?_ _ | refine blk_drew ?_ | refine blk_alloc ?_ _)); refine blk_far ?_ NB312_313.out _; (with_reducible repeat (first | refine blk_drewN ?_ _ | refine blk_drew ?_ | refine blk_alloc ?_ _)); refine blk_far ?_ NB312_313.out _; (with_reducible repeat (first | refine blk_drewN ?_ _ | refine blk_drew ?_ | refine blk_alloc ?_ _)); refine blk_far ?_ NB312_313.out _; (with_reducible repeat (first | refine blk_drewN ?_ _ | refine blk_drew ?_ | refine blk_alloc ?_ _)); refine blk_put (cs := #[.string t306, .int .i64 t307, .bool false]) ?_ 2 _ rfl; (with_reducible repeat (first | refine blk_drewN ?_ _ | refine blk_drew ?_ | refine blk_alloc ?_ _)); refine blk_put (cs := #[.string t306, .int .i64 0, .bool false]) ?_ 1 _ rfl; (with_reducible repeat (first | refine blk_drewN ?_ _ | refine blk_drew ?_ | refine blk_alloc ?_ _)); refine blk_put (cs := #[.string (⟨#[]⟩ : ByteArray), .int .i64 0, .bool false]) ?_ 0 _ rfl; (with_reducible repeat (first | refine blk_drewN ?_ _ | refine blk_drew ?_ | refine blk_alloc ?_ _)); exact BK312.out⟩, ⟨by (with_reducible repeat (first | refine blk_drewN ?_ _ | refine blk_drew ?_ | refine blk_alloc ?_ _)); refine blk_far ?_ NB313_304.out _; (with_reducible repeat (first | refine blk_drewN ?_ _ | refine blk_drew ?_ | refine blk_alloc ?_ _)); refine blk_put (cs := #[.string t309, .int .i64 t310, .bool false]) ?_ 2 _ rfl; (with_reducible repeat (first | refine blk_drewN ?_ _ | refine blk_drew ?_ | refine blk_alloc ?_ _)); refine blk_put (cs := #[.string t309, .int .i64 0, .bool false]) ?_ 1 _ rfl; (with_reducible repeat (first | refine blk_drewN ?_ _ | refine blk_drew ?_ | refine blk_alloc ?_ _)); refine blk_put (cs := #[.string (⟨#[]⟩ : ByteArray), .int .i64 0, .bool false]) ?_ 0 _ rfl; (with_reducible repeat (first | refine blk_drewN ?_ _ | refine blk_drew ?_ | refine blk_alloc ?_ _)); refine blk_far ?_ NB313_312.out _; (with_reducible repeat (first | refine blk_drewN ?_ _ | refine blk_drew ?_ | refine blk_alloc ?_ _)); refine blk_far ?_ NB313_312.out _; (with_reducible repeat (first | refine blk_drewN ?_ _ | refine blk_drew ?_ | refine blk_alloc ?_ _)); refine blk_far ?_ NB313_312.out _; (with_reducible repeat (first | refine blk_drewN ?_ _ | refine blk_drew ?_ | refine blk_alloc ?_ _)); exact BK313.out⟩, ⟨by repeat (first | (with_reducible first | exact HB.out | apply below_alloc | apply pw_below_drewN | apply below_drew1 | refine below_set ?_ GE295.out | refine below_set ?_ GE296.out | refine below_set ?_ GE304.out | refine below_set ?_ GE305.out | refine below_set ?_ GE312.out | refine below_set ?_ GE313.out) | exact HB.out)⟩⟩
  case rest =>
   clear HC7
   try clear c1
   try clear c2
   try clear p2
   try clear c3
   try clear c4
   try clear c5
   try clear c8
   try clear c9
   try clear c11
   try clear c16
   try clear c17
   try clear c18
   try clear c20
   try clear c21
   try clear c27
   try clear c28
   try clear c29
   try clear c30
   try clear c31
   try clear c33
   try clear c34
   try clear c35
   try clear c36
   try clear c39
   try clear c40
   try clear c41
   try clear c42
   try clear c43
   try clear c44
   try clear c46
   try clear c47
   try clear c48
   try clear c49
   try clear c50
   try clear hcz12_0
   try clear hcz12_1
   try clear hcz12_2
   try clear hcz19_0
   try clear hcz19_1
   try clear hcz19_2
   try clear hcz22_0
   try clear hcz22_1
   try clear hcz22_2
   try clear hcz23_0
   try clear hcz23_1
   try clear hcz23_2
   try clear hcz32_0
   try clear hcz32_1
   try clear hcz32_2
   try clear hcz37_0
   try clear hcz37_1
   try clear hcz37_2
   try clear hcz38_0
   try clear hcz38_1
   try clear hcz38_2
   try clear hcz45_0
   try clear hcz45_1
   try clear hcz45_2
   try clear hcz51_0
   try clear hcz51_1
   try clear hcz51_2
   try clear hfz12_0
   try clear hfz12_1
   try clear hfz12_2
   try clear hfz19_0
   try clear hfz19_1
   try clear hfz19_2
   try clear hfz22_0
   try clear hfz22_1
   try clear hfz22_2
   try clear hfz23_0
   try clear hfz23_1
   try clear hfz23_2
   try clear hfz32_0
   try clear hfz32_1
   try clear hfz32_2
   try clear hfz37_0
   try clear hfz37_1
   try clear hfz37_2
   try clear hfz38_0
   try clear hfz38_1
   try clear hfz38_2
   try clear hfz45_0
   try clear hfz45_1
   try clear hfz45_2
   try clear hfz51_0
   try clear hfz51_1
   try clear hfz51_2
   obtain ⟨kq, x305000_6, x305001_6, HA, HJ6, BK295, BK296, BK304, BK305, BK312, BK313, HB⟩ := hcut
   cases kq with
   | zero => exact absurd HA.out (by simp [concordancelaw19_TupleShown.j0])
   | succ kj6 =>
    have H := HA.out
    clear HA
    simp only [concordancelaw19_TupleShown.j0] at H
    have HC52 := Aside0.mk H
    clear H
    have hnb53 := NB312_295.out
    have hnc53 := NB295_312.out
    have hnb54 := NB312_296.out
    have hnc54 := NB296_312.out
    have hnb55 := NB312_304.out
    have hnc55 := NB304_312.out
    have hnb56 := NB312_305.out
    have hnc56 := NB305_312.out
    have hnb57 := NB312_313.out
    have hnc57 := NB313_312.out
    have hcz58_0 : wc.cell? ⟨gb312, 0, none⟩ = some (.string t306) := (blk_cell BK312.out 0).trans rfl
    have hcz58_1 : wc.cell? ⟨gb312, 1, none⟩ = some (.int .i64 t307) := (blk_cell BK312.out 1).trans rfl
    have hcz58_2 : wc.cell? ⟨gb312, 2, none⟩ = some (.bool t308) := (blk_cell BK312.out 2).trans rfl
    have hfz58_0 := blk_frozen BK312.out 0
    have hfz58_1 := blk_frozen BK312.out 1
    have hfz58_2 := blk_frozen BK312.out 2
    go_upto_if 29 with (fail)
    go_cut [] (fun wc => ∃ (kq : Nat) (x313000_51 : ByteArray) (x313001_51 : Int), Aside0 (concordancelaw19_TupleShown.j1 kq x305000_6 x305001_6 t300 x313000_51 x313001_51 t308 = some r) ∧ Aside0 (kq ≤ kj6) ∧ Aside0 (wc.heap[gb295]? = some (.cells #[.string a0_0, .int .i64 a0_1, .bool a0_2] 23 (0, 0))) ∧ Aside0 (wc.heap[gb296]? = some (.cells #[.string a1_0, .int .i64 a1_1, .bool a1_2] 23 (0, 0))) ∧ Aside0 (wc.heap[gb304]? = some (.cells #[.string x305000_6, .int .i64 x305001_6, .bool t300] 25 (0, 0))) ∧ Aside0 (wc.heap[gb305]? = some (.cells #[.string t301, .int .i64 t302, .bool t303] 26 (0, 0))) ∧ Aside0 (wc.heap[gb312]? = some (.cells #[.string x313000_51, .int .i64 x313001_51, .bool t308] 25 (0, 0))) ∧ Aside0 (wc.heap[gb313]? = some (.cells #[.string t309, .int .i64 t310, .bool t311] 26 (0, 0))) ∧ Aside0 (Below w.heap.size w wc))
    case first =>
     have H := HC52.out
     clear HC52
     by_cases c59 : t308 = true
     ·subst c59
      have H1 : (concordancelaw19_TupleShown.j1 kj6 x305000_6 x305001_6 t300 t306 0 true) = some r := by rw [if_pos rfl] at H; exact H
      clear H
      have H := H1
      clear H1
      have H' := Aside0.mk H
      clear H
      have hnb60 := NB312_295.out
      have hnc60 := NB295_312.out
      have hnb61 := NB312_296.out
      have hnc61 := NB296_312.out
      have hnb62 := NB312_304.out
      have hnc62 := NB304_312.out
      have hnb63 := NB312_305.out
      have hnc63 := NB305_312.out
      have hnb64 := NB312_313.out
      have hnc64 := NB313_312.out
      have hcz65_0 : wc.cell? ⟨gb312, 0, none⟩ = some (.string t306) := (blk_cell BK312.out 0).trans rfl
      have hcz65_1 : wc.cell? ⟨gb312, 1, none⟩ = some (.int .i64 t307) := (blk_cell BK312.out 1).trans rfl
      have hcz65_2 : wc.cell? ⟨gb312, 2, none⟩ = some (.bool true) := (blk_cell BK312.out 2).trans rfl
      have hfz65_0 := blk_frozen BK312.out 0
      have hfz65_1 := blk_frozen BK312.out 1
      have hfz65_2 := blk_frozen BK312.out 2
      go_wp2
      go_meet
      case rel => exact ⟨_, (t306), (0), H', ⟨by have := HJ6.out; first | omega | exact Nat.le_refl _⟩, ⟨by (with_reducible repeat (first | refine blk_drewN ?_ _ | refine blk_drew ?_ | refine blk_alloc ?_ _)); refine blk_far ?_ NB295_312.out _; (with_reducible repeat (first | refine blk_drewN ?_ _ | refine blk_drew ?_ | refine blk_alloc ?_ _)); exact BK295.out⟩, ⟨by (with_reducible repeat (first | refine blk_drewN ?_ _ | refine blk_drew ?_ | refine blk_alloc ?_ _)); refine blk_far ?_ NB296_312.out _; (with_reducible repeat (first | refine blk_drewN ?_ _ | refine blk_drew ?_ | refine blk_alloc ?_ _)); exact BK296.out⟩, ⟨by (with_reducible repeat (first | refine blk_drewN ?_ _ | refine blk_drew ?_ | refine blk_alloc ?_ _)); refine blk_far ?_ NB304_312.out _; (with_reducible repeat (first | refine blk_drewN ?_ _ | refine blk_drew ?_ | refine blk_alloc ?_ _)); exact BK304.out⟩, ⟨by (with_reducible repeat (first | refine blk_drewN ?_ _ | refine blk_drew ?_ | refine blk_alloc ?_ _)); refine blk_far ?_ NB305_312.out _; (with_reducible repeat (first | refine blk_drewN ?_ _ | refine blk_drew ?_ | refine blk_alloc ?_ _)); exact BK305.out⟩, ⟨by (with_reducible repeat (first | refine blk_drewN ?_ _ | refine blk_drew ?_ | refine blk_alloc ?_ _)); refine blk_put (cs := #[.string t306, .int .i64 t307, .bool true]) ?_ 1 _ rfl; (with_reducible repeat (first | refine blk_drewN ?_ _ | refine blk_drew ?_ | refine blk_alloc ?_ _)); exact BK312.out⟩, ⟨by (with_reducible repeat (first | refine blk_drewN ?_ _ | refine blk_drew ?_ | refine blk_alloc ?_ _)); refine blk_far ?_ NB313_312.out _; (with_reducible repeat (first | refine blk_drewN ?_ _ | refine blk_drew ?_ | refine blk_alloc ?_ _)); exact BK313.out⟩, ⟨by repeat (first | (with_reducible first | exact HB.out | apply below_alloc | apply pw_below_drewN | apply below_drew1 | refine below_set ?_ GE295.out | refine below_set ?_ GE296.out | refine below_set ?_ GE304.out | refine below_set ?_ GE305.out | refine below_set ?_ GE312.out | refine below_set ?_ GE313.out) | exact HB.out)⟩⟩
     ·replace c59 := Bool.eq_false_iff.mpr c59
      subst c59
      have H1 : (concordancelaw19_TupleShown.j1 kj6 x305000_6 x305001_6 t300 (⟨#[]⟩ : ByteArray) t307 false) = some r := by rw [if_neg (show ¬ (false = true) by decide)] at H; exact H
      clear H
      have H := H1
      clear H1
      have H' := Aside0.mk H
      clear H
      have hnb66 := NB312_295.out
      have hnc66 := NB295_312.out
      have hnb67 := NB312_296.out
      have hnc67 := NB296_312.out
      have hnb68 := NB312_304.out
      have hnc68 := NB304_312.out
      have hnb69 := NB312_305.out
      have hnc69 := NB305_312.out
      have hnb70 := NB312_313.out
      have hnc70 := NB313_312.out
      have hcz71_0 : wc.cell? ⟨gb312, 0, none⟩ = some (.string t306) := (blk_cell BK312.out 0).trans rfl
      have hcz71_1 : wc.cell? ⟨gb312, 1, none⟩ = some (.int .i64 t307) := (blk_cell BK312.out 1).trans rfl
      have hcz71_2 : wc.cell? ⟨gb312, 2, none⟩ = some (.bool false) := (blk_cell BK312.out 2).trans rfl
      have hfz71_0 := blk_frozen BK312.out 0
      have hfz71_1 := blk_frozen BK312.out 1
      have hfz71_2 := blk_frozen BK312.out 2
      go_wp2
      go_meet
      case rel => exact ⟨_, ((⟨#[]⟩ : ByteArray)), (t307), H', ⟨by have := HJ6.out; first | omega | exact Nat.le_refl _⟩, ⟨by (with_reducible repeat (first | refine blk_drewN ?_ _ | refine blk_drew ?_ | refine blk_alloc ?_ _)); refine blk_far ?_ NB295_312.out _; (with_reducible repeat (first | refine blk_drewN ?_ _ | refine blk_drew ?_ | refine blk_alloc ?_ _)); exact BK295.out⟩, ⟨by (with_reducible repeat (first | refine blk_drewN ?_ _ | refine blk_drew ?_ | refine blk_alloc ?_ _)); refine blk_far ?_ NB296_312.out _; (with_reducible repeat (first | refine blk_drewN ?_ _ | refine blk_drew ?_ | refine blk_alloc ?_ _)); exact BK296.out⟩, ⟨by (with_reducible repeat (first | refine blk_drewN ?_ _ | refine blk_drew ?_ | refine blk_alloc ?_ _)); refine blk_far ?_ NB304_312.out _; (with_reducible repeat (first | refine blk_drewN ?_ _ | refine blk_drew ?_ | refine blk_alloc ?_ _)); exact BK304.out⟩, ⟨by (with_reducible repeat (first | refine blk_drewN ?_ _ | refine blk_drew ?_ | refine blk_alloc ?_ _)); refine blk_far ?_ NB305_312.out _; (with_reducible repeat (first | refine blk_drewN ?_ _ | refine blk_drew ?_ | refine blk_alloc ?_ _)); exact BK305.out⟩, ⟨by (with_reducible repeat (first | refine blk_drewN ?_ _ | refine blk_drew ?_ | refine blk_alloc ?_ _)); refine blk_put (cs := #[.string t306, .int .i64 t307, .bool false]) ?_ 0 _ rfl; (with_reducible repeat (first | refine blk_drewN ?_ _ | refine blk_drew ?_ | refine blk_alloc ?_ _)); exact BK312.out⟩, ⟨by (with_reducible repeat (first | refine blk_drewN ?_ _ | refine blk_drew ?_ | refine blk_alloc ?_ _)); refine blk_far ?_ NB313_312.out _; (with_reducible repeat (first | refine blk_drewN ?_ _ | refine blk_drew ?_ | refine blk_alloc ?_ _)); exact BK313.out⟩, ⟨by repeat (first | (with_reducible first | exact HB.out | apply below_alloc | apply pw_below_drewN | apply below_drew1 | refine below_set ?_ GE295.out | refine below_set ?_ GE296.out | refine below_set ?_ GE304.out | refine below_set ?_ GE305.out | refine below_set ?_ GE312.out | refine below_set ?_ GE313.out) | exact HB.out)⟩⟩
    case rest =>
     clear HC52
     try clear c1
     try clear c2
     try clear p2
     try clear c3
     try clear c4
     try clear c5
     try clear c6
     try clear c7
     try clear c8
     try clear c9
     try clear c11
     try clear c16
     try clear c17
     try clear c18
     try clear c20
     try clear c21
     try clear c27
     try clear c28
     try clear c29
     try clear c30
     try clear c31
     try clear c33
     try clear c34
     try clear c35
     try clear c36
     try clear c39
     try clear c40
     try clear c41
     try clear c42
     try clear c43
     try clear c44
     try clear c46
     try clear c47
     try clear c48
     try clear c49
     try clear c50
     try clear c53
     try clear c54
     try clear c55
     try clear c56
     try clear c57
     try clear c59
     try clear c60
     try clear c61
     try clear c62
     try clear c63
     try clear c64
     try clear c66
     try clear c67
     try clear c68
     try clear c69
     try clear c70
     try clear hcz12_0
     try clear hcz12_1
     try clear hcz12_2
     try clear hcz19_0
     try clear hcz19_1
     try clear hcz19_2
     try clear hcz22_0
     try clear hcz22_1
     try clear hcz22_2
     try clear hcz23_0
     try clear hcz23_1
     try clear hcz23_2
     try clear hcz32_0
     try clear hcz32_1
     try clear hcz32_2
     try clear hcz37_0
     try clear hcz37_1
     try clear hcz37_2
     try clear hcz38_0
     try clear hcz38_1
     try clear hcz38_2
     try clear hcz45_0
     try clear hcz45_1
     try clear hcz45_2
     try clear hcz51_0
     try clear hcz51_1
     try clear hcz51_2
     try clear hcz58_0
     try clear hcz58_1
     try clear hcz58_2
     try clear hcz65_0
     try clear hcz65_1
     try clear hcz65_2
     try clear hcz71_0
     try clear hcz71_1
     try clear hcz71_2
     try clear hfz12_0
     try clear hfz12_1
     try clear hfz12_2
     try clear hfz19_0
     try clear hfz19_1
     try clear hfz19_2
     try clear hfz22_0
     try clear hfz22_1
     try clear hfz22_2
     try clear hfz23_0
     try clear hfz23_1
     try clear hfz23_2
     try clear hfz32_0
     try clear hfz32_1
     try clear hfz32_2
     try clear hfz37_0
     try clear hfz37_1
     try clear hfz37_2
     try clear hfz38_0
     try clear hfz38_1
     try clear hfz38_2
     try clear hfz45_0
     try clear hfz45_1
     try clear hfz45_2
     try clear hfz51_0
     try clear hfz51_1
     try clear hfz51_2
     try clear hfz58_0
     try clear hfz58_1
     try clear hfz58_2
     try clear hfz65_0
     try clear hfz65_1
     try clear hfz65_2
     try clear hfz71_0
     try clear hfz71_1
     try clear hfz71_2
     try clear p2
     obtain ⟨kq, x313000_51, x313001_51, HA, HJ51, BK295, BK296, BK304, BK305, BK312, BK313, HB⟩ := hcut
     cases kq with
     | zero => exact absurd HA.out (by simp [concordancelaw19_TupleShown.j1])
     | succ kj51 =>
      have H := HA.out
      clear HA
      simp only [concordancelaw19_TupleShown.j1] at H
      replace H := Option.bind_eq_some_iff.mp H
      obtain ⟨t314, A720, H⟩ := H
      replace H : ((tuple_Show.g x313000_51 x313001_51 t308).bind fun t315 => (concordancelaw19_TupleShown.l0 kj51 t314 t315 0 x305000_6 x305001_6 t300 x313000_51 x313001_51 t308)) = some r := H
      have A72 := Aside0.mk A720
      clear A720
      replace H := Option.bind_eq_some_iff.mp H
      obtain ⟨t315, A730, H⟩ := H
      replace H : (concordancelaw19_TupleShown.l0 kj51 t314 t315 0 x305000_6 x305001_6 t300 x313000_51 x313001_51 t308) = some r := H
      have A73 := Aside0.mk A730
      clear A730
      have H' := Aside0.mk H
      clear H
      try go_wp2
      have n0_ := Aside0.mk (blk_drew BK295.out)
      have n1_ := Aside0.mk (blk_drew BK296.out)
      have n2_ := Aside0.mk (blk_drew BK304.out)
      have n3_ := Aside0.mk (blk_drew BK305.out)
      have n4_ := Aside0.mk (blk_drew BK312.out)
      have n5_ := Aside0.mk (blk_drew BK313.out)
      have n6_ := Aside0.mk (below_drew1 HB.out)
      clear BK295
      clear BK296
      clear BK304
      clear BK305
      clear BK312
      clear BK313
      clear HB
      have BK295 := n0_
      have BK296 := n1_
      have BK304 := n2_
      have BK305 := n3_
      have BK312 := n4_
      have BK313 := n5_
      have HB := n6_
      clear n0_ n1_ n2_ n3_ n4_ n5_ n6_
      refine start_ (n := 6) (S := fun w' => w'.cell? ⟨gb304, 0, none⟩ = some (.string x305000_6) ∧ w'.cell? ⟨gb304, 1, none⟩ = some (.int .i64 x305001_6) ∧ w'.cell? ⟨gb304, 2, none⟩ = some (.bool t300) ∧ w'.cell? ⟨gb312, 0, none⟩ = some (.string x313000_51) ∧ w'.cell? ⟨gb312, 1, none⟩ = some (.int .i64 x313001_51) ∧ w'.cell? ⟨gb312, 2, none⟩ = some (.bool t308)) (ds := []) #[false, false, false, false, false, false] (by kernel_rfl) rfl rfl ⟨(blk_cell BK304.out 0).trans rfl, (blk_cell BK304.out 1).trans rfl, (blk_cell BK304.out 2).trans rfl, (blk_cell BK312.out 0).trans rfl, (blk_cell BK312.out 1).trans rfl, (blk_cell BK312.out 2).trans rfl⟩ (fun hHeld => ?_)
      generalize wc.drew = w74 at BK295 BK296 BK304 BK305 BK312 BK313 HB hHeld ⊢
      refine take_ (i := 0) (N := some 32) (v := ?_) (a' := ?_) #[true, false, false, false, false, false] rfl rfl (by kernel_rfl) (fun _ _ _ h => h) (Or.inl ⟨by rfl, ?_⟩) hHeld ?_ ?_
      rotate_left
      ·rintro w' ⟨s0, s1, s2, s3, s4, s5⟩
       go_simp
       with_reducible rfl
      rotate_left
      ·simp only [Act.put, List.setIfInBounds_toArray, List.set_cons_zero, List.set_cons_succ, i64_w, i32_w]
       rfl
      refine take_ (i := 2) (N := some 34) (v := ?_) (a' := ?_) #[true, false, true, false, false, false] rfl rfl (by kernel_rfl) (fun _ _ _ h => h) (Or.inl ⟨by rfl, ?_⟩) hHeld ?_ ?_
      rotate_left
      ·rintro w' ⟨s0, s1, s2, s3, s4, s5⟩
       go_simp
       with_reducible rfl
      rotate_left
      ·simp only [Act.put, List.setIfInBounds_toArray, List.set_cons_zero, List.set_cons_succ, i64_w, i32_w]
       rfl
      refine one_ (i := 1) (N := some 33) #[true, true, true, false, false, false] rfl rfl (by kernel_rfl) (by decide) (fun K hK => ?_)
      refine goes_ Tryd.func10 (by kernel_rfl) rfl #[.agg #[.string x305000_6, .int .i64 x305001_6, .bool t300]] (by rfl) rfl rfl (by (try simp only [List.map_toArray, List.map_cons, List.map_nil]); first | done | rfl | (simp only [List.length_drop, List.length_take]; rfl)) ?_
      with_reducible refine (tuple_Show.callsG x305000_6 x305001_6 t300 t314 _ (HTab.out.below (by repeat (first | (with_reducible first | exact HB.out | apply below_alloc | apply pw_below_drewN | apply below_drew1 | refine below_set ?_ GE295.out | refine below_set ?_ GE296.out | refine below_set ?_ GE304.out | refine below_set ?_ GE305.out | refine below_set ?_ GE312.out | refine below_set ?_ GE313.out) | exact HB.out))) A72.out).mono ?_
      rintro e w75 ⟨rfl, hb⟩
      refine ⟨_, rfl, ?_⟩
      have n0_ := Aside0.mk (blk_below (g := gb295) (o := .cells #[.string a0_0, .int .i64 a0_1, .bool a0_2] 23 (0, 0)) (by (with_reducible repeat (first | refine blk_drewN ?_ _ | refine blk_drew ?_ | refine blk_alloc ?_ _)); exact BK295.out) hb)
      have n1_ := Aside0.mk (blk_below (g := gb296) (o := .cells #[.string a1_0, .int .i64 a1_1, .bool a1_2] 23 (0, 0)) (by (with_reducible repeat (first | refine blk_drewN ?_ _ | refine blk_drew ?_ | refine blk_alloc ?_ _)); exact BK296.out) hb)
      have n2_ := Aside0.mk (blk_below (g := gb304) (o := .cells #[.string x305000_6, .int .i64 x305001_6, .bool t300] 25 (0, 0)) (by (with_reducible repeat (first | refine blk_drewN ?_ _ | refine blk_drew ?_ | refine blk_alloc ?_ _)); exact BK304.out) hb)
      have n3_ := Aside0.mk (blk_below (g := gb305) (o := .cells #[.string t301, .int .i64 t302, .bool t303] 26 (0, 0)) (by (with_reducible repeat (first | refine blk_drewN ?_ _ | refine blk_drew ?_ | refine blk_alloc ?_ _)); exact BK305.out) hb)
      have n4_ := Aside0.mk (blk_below (g := gb312) (o := .cells #[.string x313000_51, .int .i64 x313001_51, .bool t308] 25 (0, 0)) (by (with_reducible repeat (first | refine blk_drewN ?_ _ | refine blk_drew ?_ | refine blk_alloc ?_ _)); exact BK312.out) hb)
      have n5_ := Aside0.mk (blk_below (g := gb313) (o := .cells #[.string t309, .int .i64 t310, .bool t311] 26 (0, 0)) (by (with_reducible repeat (first | refine blk_drewN ?_ _ | refine blk_drew ?_ | refine blk_alloc ?_ _)); exact BK313.out) hb)
      have n6_ := Aside0.mk (below_step (by repeat (first | (with_reducible first | exact HB.out | apply below_alloc | apply pw_below_drewN | apply below_drew1 | refine below_set ?_ GE295.out | refine below_set ?_ GE296.out | refine below_set ?_ GE304.out | refine below_set ?_ GE305.out | refine below_set ?_ GE312.out | refine below_set ?_ GE313.out) | exact HB.out)) hb)
      clear BK295
      clear BK296
      clear BK304
      clear BK305
      clear BK312
      clear BK313
      clear HB
      have BK295 := n0_
      have BK296 := n1_
      have BK304 := n2_
      have BK305 := n3_
      have BK312 := n4_
      have BK313 := n5_
      have HB := n6_
      clear n0_ n1_ n2_ n3_ n4_ n5_ n6_
      (try clear hb)
      (try clear hb2)
      (try clear hk)
      (try clear hi)
      refine hK.out _ _ ⟨(blk_cell BK304.out 0).trans rfl, (blk_cell BK304.out 1).trans rfl, (blk_cell BK304.out 2).trans rfl, (blk_cell BK312.out 0).trans rfl, (blk_cell BK312.out 1).trans rfl, (blk_cell BK312.out 2).trans rfl⟩ (fun hHeld => ?_)
      clear hK K
      refine norm_ (a' := ?_) ?_ ?_
      rotate_left
      ·show Act.put _ (some 33) _ = _
       simp only [Act.put, List.setIfInBounds_toArray, List.set_cons_zero, List.set_cons_succ, i64_w, i32_w]
       rfl
      refine one_ (i := 3) (N := some 35) #[true, true, true, true, false, false] rfl rfl (by kernel_rfl) (by decide) (fun K hK => ?_)
      refine goes_ Tryd.func10 (by kernel_rfl) rfl #[.agg #[.string x313000_51, .int .i64 x313001_51, .bool t308]] (by rfl) rfl rfl (by (try simp only [List.map_toArray, List.map_cons, List.map_nil]); first | done | rfl | (simp only [List.length_drop, List.length_take]; rfl)) ?_
      with_reducible refine (tuple_Show.callsG x313000_51 x313001_51 t308 t315 _ (HTab.out.below (by repeat (first | (with_reducible first | exact HB.out | apply below_alloc | apply pw_below_drewN | apply below_drew1 | refine below_set ?_ GE295.out | refine below_set ?_ GE296.out | refine below_set ?_ GE304.out | refine below_set ?_ GE305.out | refine below_set ?_ GE312.out | refine below_set ?_ GE313.out) | exact HB.out))) A73.out).mono ?_
      rintro e w76 ⟨rfl, hb⟩
      refine ⟨_, rfl, ?_⟩
      have n0_ := Aside0.mk (blk_below (g := gb295) (o := .cells #[.string a0_0, .int .i64 a0_1, .bool a0_2] 23 (0, 0)) (by (with_reducible repeat (first | refine blk_drewN ?_ _ | refine blk_drew ?_ | refine blk_alloc ?_ _)); exact BK295.out) hb)
      have n1_ := Aside0.mk (blk_below (g := gb296) (o := .cells #[.string a1_0, .int .i64 a1_1, .bool a1_2] 23 (0, 0)) (by (with_reducible repeat (first | refine blk_drewN ?_ _ | refine blk_drew ?_ | refine blk_alloc ?_ _)); exact BK296.out) hb)
      have n2_ := Aside0.mk (blk_below (g := gb304) (o := .cells #[.string x305000_6, .int .i64 x305001_6, .bool t300] 25 (0, 0)) (by (with_reducible repeat (first | refine blk_drewN ?_ _ | refine blk_drew ?_ | refine blk_alloc ?_ _)); exact BK304.out) hb)
      have n3_ := Aside0.mk (blk_below (g := gb305) (o := .cells #[.string t301, .int .i64 t302, .bool t303] 26 (0, 0)) (by (with_reducible repeat (first | refine blk_drewN ?_ _ | refine blk_drew ?_ | refine blk_alloc ?_ _)); exact BK305.out) hb)
      have n4_ := Aside0.mk (blk_below (g := gb312) (o := .cells #[.string x313000_51, .int .i64 x313001_51, .bool t308] 25 (0, 0)) (by (with_reducible repeat (first | refine blk_drewN ?_ _ | refine blk_drew ?_ | refine blk_alloc ?_ _)); exact BK312.out) hb)
      have n5_ := Aside0.mk (blk_below (g := gb313) (o := .cells #[.string t309, .int .i64 t310, .bool t311] 26 (0, 0)) (by (with_reducible repeat (first | refine blk_drewN ?_ _ | refine blk_drew ?_ | refine blk_alloc ?_ _)); exact BK313.out) hb)
      have n6_ := Aside0.mk (below_step (by repeat (first | (with_reducible first | exact HB.out | apply below_alloc | apply pw_below_drewN | apply below_drew1 | refine below_set ?_ GE295.out | refine below_set ?_ GE296.out | refine below_set ?_ GE304.out | refine below_set ?_ GE305.out | refine below_set ?_ GE312.out | refine below_set ?_ GE313.out) | exact HB.out)) hb)
      clear BK295
      clear BK296
      clear BK304
      clear BK305
      clear BK312
      clear BK313
      clear HB
      have BK295 := n0_
      have BK296 := n1_
      have BK304 := n2_
      have BK305 := n3_
      have BK312 := n4_
      have BK313 := n5_
      have HB := n6_
      clear n0_ n1_ n2_ n3_ n4_ n5_ n6_
      (try clear hb)
      (try clear hb2)
      (try clear hk)
      (try clear hi)
      refine hK.out _ _ ⟨(blk_cell BK304.out 0).trans rfl, (blk_cell BK304.out 1).trans rfl, (blk_cell BK304.out 2).trans rfl, (blk_cell BK312.out 0).trans rfl, (blk_cell BK312.out 1).trans rfl, (blk_cell BK312.out 2).trans rfl⟩ (fun hHeld => ?_)
      clear hK K
      refine norm_ (a' := ?_) ?_ ?_
      rotate_left
      ·show Act.put _ (some 35) _ = _
       simp only [Act.put, List.setIfInBounds_toArray, List.set_cons_zero, List.set_cons_succ, i64_w, i32_w]
       rfl
      refine pure_ (i := 4) (N := some 9) (v := ?_) (a' := ?_) #[true, true, true, true, true, false] rfl rfl (by kernel_rfl) (fun _ _ _ h => h) (Or.inl ⟨by rfl, ?_⟩) ?_ ?_
      rotate_left
      ·intro w'
       go_simp
       with_reducible rfl
      rotate_left
      ·simp only [Act.put, List.setIfInBounds_toArray, List.set_cons_zero, List.set_cons_succ, i64_w, i32_w]
       rfl
      refine pure_ (i := 5) (N := some 10) (v := ?_) (a' := ?_) #[true, true, true, true, true, true] rfl rfl (by kernel_rfl) (fun _ _ _ h => h) (Or.inl ⟨by rfl, ?_⟩) ?_ ?_
      rotate_left
      ·intro w'
       go_simp
       with_reducible rfl
      rotate_left
      ·simp only [Act.put, List.setIfInBounds_toArray, List.set_cons_zero, List.set_cons_succ, i64_w, i32_w]
       rfl
      refine done_ (by kernel_rfl) ?_
      try go_wp2
      go_loopg [11] kj51 (fun kq v11 w' => ∃ (x11_3 : Int), v11 = .int .i64 x11_3 ∧ Aside0 (concordancelaw19_TupleShown.l0 kq t314 t315 x11_3 x305000_6 x305001_6 t300 x313000_51 x313001_51 t308 = some r) ∧ Aside0 (kq ≤ kj51) ∧ Aside0 (w'.heap[gb295]? = some (.cells #[.string a0_0, .int .i64 a0_1, .bool a0_2] 23 (0, 0))) ∧ Aside0 (w'.heap[gb296]? = some (.cells #[.string a1_0, .int .i64 a1_1, .bool a1_2] 23 (0, 0))) ∧ Aside0 (w'.heap[gb304]? = some (.cells #[.string x305000_6, .int .i64 x305001_6, .bool t300] 25 (0, 0))) ∧ Aside0 (w'.heap[gb305]? = some (.cells #[.string t301, .int .i64 t302, .bool t303] 26 (0, 0))) ∧ Aside0 (w'.heap[gb312]? = some (.cells #[.string x313000_51, .int .i64 x313001_51, .bool t308] 25 (0, 0))) ∧ Aside0 (w'.heap[gb313]? = some (.cells #[.string t309, .int .i64 t310, .bool t311] 26 (0, 0))) ∧ Aside0 (Below w.heap.size w w'))
      case atStart => exact ⟨(0), (by first | rfl | (simp; done) | (simp [*]; done)), H', ⟨Nat.le_refl _⟩, ⟨by (with_reducible repeat (first | refine blk_drewN ?_ _ | refine blk_drew ?_ | refine blk_alloc ?_ _)); exact BK295.out⟩, ⟨by (with_reducible repeat (first | refine blk_drewN ?_ _ | refine blk_drew ?_ | refine blk_alloc ?_ _)); exact BK296.out⟩, ⟨by (with_reducible repeat (first | refine blk_drewN ?_ _ | refine blk_drew ?_ | refine blk_alloc ?_ _)); exact BK304.out⟩, ⟨by (with_reducible repeat (first | refine blk_drewN ?_ _ | refine blk_drew ?_ | refine blk_alloc ?_ _)); exact BK305.out⟩, ⟨by (with_reducible repeat (first | refine blk_drewN ?_ _ | refine blk_drew ?_ | refine blk_alloc ?_ _)); exact BK312.out⟩, ⟨by (with_reducible repeat (first | refine blk_drewN ?_ _ | refine blk_drew ?_ | refine blk_alloc ?_ _)); exact BK313.out⟩, ⟨by repeat (first | (with_reducible first | exact HB.out | apply below_alloc | apply pw_below_drewN | apply below_drew1 | refine below_set ?_ GE295.out | refine below_set ?_ GE296.out | refine below_set ?_ GE304.out | refine below_set ?_ GE305.out | refine below_set ?_ GE312.out | refine below_set ?_ GE313.out) | exact HB.out)⟩⟩
      case round =>
       clear H'
       try clear c1
       try clear c2
       try clear p2
       try clear c3
       try clear c4
       try clear c5
       try clear c6
       try clear c7
       try clear c8
       try clear c9
       try clear c10
       try clear c11
       try clear c16
       try clear c17
       try clear c18
       try clear c20
       try clear c21
       try clear c27
       try clear c28
       try clear c29
       try clear c30
       try clear c31
       try clear c33
       try clear c34
       try clear c35
       try clear c36
       try clear c39
       try clear c40
       try clear c41
       try clear c42
       try clear c43
       try clear c44
       try clear c46
       try clear c47
       try clear c48
       try clear c49
       try clear c50
       try clear c53
       try clear c54
       try clear c55
       try clear c56
       try clear c57
       try clear c59
       try clear c60
       try clear c61
       try clear c62
       try clear c63
       try clear c64
       try clear c66
       try clear c67
       try clear c68
       try clear c69
       try clear c70
       try clear hcz12_0
       try clear hcz12_1
       try clear hcz12_2
       try clear hcz19_0
       try clear hcz19_1
       try clear hcz19_2
       try clear hcz22_0
       try clear hcz22_1
       try clear hcz22_2
       try clear hcz23_0
       try clear hcz23_1
       try clear hcz23_2
       try clear hcz32_0
       try clear hcz32_1
       try clear hcz32_2
       try clear hcz37_0
       try clear hcz37_1
       try clear hcz37_2
       try clear hcz38_0
       try clear hcz38_1
       try clear hcz38_2
       try clear hcz45_0
       try clear hcz45_1
       try clear hcz45_2
       try clear hcz51_0
       try clear hcz51_1
       try clear hcz51_2
       try clear hcz58_0
       try clear hcz58_1
       try clear hcz58_2
       try clear hcz65_0
       try clear hcz65_1
       try clear hcz65_2
       try clear hcz71_0
       try clear hcz71_1
       try clear hcz71_2
       try clear hfz12_0
       try clear hfz12_1
       try clear hfz12_2
       try clear hfz19_0
       try clear hfz19_1
       try clear hfz19_2
       try clear hfz22_0
       try clear hfz22_1
       try clear hfz22_2
       try clear hfz23_0
       try clear hfz23_1
       try clear hfz23_2
       try clear hfz32_0
       try clear hfz32_1
       try clear hfz32_2
       try clear hfz37_0
       try clear hfz37_1
       try clear hfz37_2
       try clear hfz38_0
       try clear hfz38_1
       try clear hfz38_2
       try clear hfz45_0
       try clear hfz45_1
       try clear hfz45_2
       try clear hfz51_0
       try clear hfz51_1
       try clear hfz51_2
       try clear hfz58_0
       try clear hfz58_1
       try clear hfz58_2
       try clear hfz65_0
       try clear hfz65_1
       try clear hfz65_2
       try clear hfz71_0
       try clear hfz71_1
       try clear hfz71_2
       try clear p2
       obtain ⟨x11_3, rfl, HA, HK3, BK295, BK296, BK304, BK305, BK312, BK313, HB⟩ := hrel
       cases gk with
       | zero => exact absurd HA.out (by simp [concordancelaw19_TupleShown.l0])
       | succ k3 =>
        have H := HA.out
        clear HA
        simp only [concordancelaw19_TupleShown.l0] at H
        by_cases c77 : x11_3 < (t314.size : Int)
        ·rw [if_pos c77] at H
         have c77b0 : decide (x11_3 < (t314.size : Int)) = true := decide_eq_true c77
         clear c77
         by_cases c78 : 0 ≤ x11_3
         ·rw [if_pos c78] at H
          have c78b0 : decide (0 ≤ x11_3) = true := decide_eq_true c78
          clear c78
          by_cases c80 : (bt t314 x11_3) < 32
          ·rw [if_pos c80] at H
           exact absurd H (by simp)
          ·rw [if_neg c80] at H
           have c80b0 : decide ((bt t314 x11_3) < 32) = false := decide_eq_false c80
           clear c80
           by_cases c82 : (bt t314 x11_3) > 126
           ·rw [if_pos c82] at H
            exact absurd H (by simp)
           ·rw [if_neg c82] at H
            have c82b0 : decide (126 < (bt t314 x11_3)) = false := decide_eq_false c82
            clear c82
            have H' := Aside0.mk H
            clear H
            have p79 : 0 ≤ (x11_3 : Int) := of_decide_eq_true (by first | (with_reducible assumption) | assumption)
            have q79 : x11_3 < (t314.size : Int) := of_decide_eq_true (by first | (with_reducible assumption) | assumption)
            have hx79 := bt_at t314 x11_3
            replace p79 := eq_true p79
            replace q79 := eq_true q79
            have p81 : 0 ≤ (x11_3 : Int) := of_decide_eq_true (by first | (with_reducible assumption) | assumption)
            have q81 : x11_3 < (t314.size : Int) := of_decide_eq_true (by first | (with_reducible assumption) | assumption)
            have hx81 := bt_at t314 x11_3
            replace p81 := eq_true p81
            replace q81 := eq_true q81
            go_wp2
            go_roundg k3
            case measure => have := HJ6.out; have := HJ51.out; have := HK3.out; omega
            case rel => exact ⟨(wrap64 (x11_3 + 1)), (by first | rfl | (simp; done) | (simp [*]; done)), H', ⟨by have := HJ6.out; have := HJ51.out; have := HK3.out; omega⟩, ⟨by (with_reducible repeat (first | refine blk_drewN ?_ _ | refine blk_drew ?_ | refine blk_alloc ?_ _)); exact BK295.out⟩, ⟨by (with_reducible repeat (first | refine blk_drewN ?_ _ | refine blk_drew ?_ | refine blk_alloc ?_ _)); exact BK296.out⟩, ⟨by (with_reducible repeat (first | refine blk_drewN ?_ _ | refine blk_drew ?_ | refine blk_alloc ?_ _)); exact BK304.out⟩, ⟨by (with_reducible repeat (first | refine blk_drewN ?_ _ | refine blk_drew ?_ | refine blk_alloc ?_ _)); exact BK305.out⟩, ⟨by (with_reducible repeat (first | refine blk_drewN ?_ _ | refine blk_drew ?_ | refine blk_alloc ?_ _)); exact BK312.out⟩, ⟨by (with_reducible repeat (first | refine blk_drewN ?_ _ | refine blk_drew ?_ | refine blk_alloc ?_ _)); exact BK313.out⟩, ⟨by repeat (first | (with_reducible first | exact HB.out | apply below_alloc | apply pw_below_drewN | apply below_drew1 | refine below_set ?_ GE295.out | refine below_set ?_ GE296.out | refine below_set ?_ GE304.out | refine below_set ?_ GE305.out | refine below_set ?_ GE312.out | refine below_set ?_ GE313.out) | exact HB.out)⟩⟩
         ·rw [if_neg c78] at H
          exact absurd H (by simp)
        ·rw [if_neg c77] at H
         have c77b0 : decide (x11_3 < (t314.size : Int)) = false := decide_eq_false c77
         clear c77
         by_cases c83 : t314.toList = ([] : List UInt8)
         ·rw [if_pos c83] at H
          exact absurd H (by simp)
         ·rw [if_neg c83] at H
          have c83b0 : (t314.toList == ([] : List UInt8)) = false := beq_eq_false_iff_ne.mpr c83
          have c83b1 : (t314.toList != ([] : List UInt8)) = true := bne_iff_ne.mpr c83
          obtain rfl := Option.some.inj H
          have hnb84 := NB304_295.out
          have hnc84 := NB295_304.out
          have hnb85 := NB304_296.out
          have hnc85 := NB296_304.out
          have hnb86 := NB304_305.out
          have hnc86 := NB305_304.out
          have hnb87 := NB304_312.out
          have hnc87 := NB312_304.out
          have hnb88 := NB304_313.out
          have hnc88 := NB313_304.out
          have hcz89_0 : wr.cell? ⟨gb304, 0, none⟩ = some (.string x305000_6) := (blk_cell BK304.out 0).trans rfl
          have hcz89_1 : wr.cell? ⟨gb304, 1, none⟩ = some (.int .i64 x305001_6) := (blk_cell BK304.out 1).trans rfl
          have hcz89_2 : wr.cell? ⟨gb304, 2, none⟩ = some (.bool t300) := (blk_cell BK304.out 2).trans rfl
          have hfz89_0 := blk_frozen BK304.out 0
          have hfz89_1 := blk_frozen BK304.out 1
          have hfz89_2 := blk_frozen BK304.out 2
          have hnb90 := NB312_295.out
          have hnc90 := NB295_312.out
          have hnb91 := NB312_296.out
          have hnc91 := NB296_312.out
          have hnb92 := NB312_305.out
          have hnc92 := NB305_312.out
          have hnb93 := NB312_313.out
          have hnc93 := NB313_312.out
          have hcz94_0 : wr.cell? ⟨gb312, 0, none⟩ = some (.string x313000_51) := (blk_cell BK312.out 0).trans rfl
          have hcz94_1 : wr.cell? ⟨gb312, 1, none⟩ = some (.int .i64 x313001_51) := (blk_cell BK312.out 1).trans rfl
          have hcz94_2 : wr.cell? ⟨gb312, 2, none⟩ = some (.bool t308) := (blk_cell BK312.out 2).trans rfl
          have hfz94_0 := blk_frozen BK312.out 0
          have hfz94_1 := blk_frozen BK312.out 1
          have hfz94_2 := blk_frozen BK312.out 2
          go_wp2
          go_ret
          exact ⟨by first | rfl | (simp [errW_none, errW_some] <;> rfl) | (simp [*, errW_none, errW_some] <;> rfl), by repeat (first | (with_reducible first | exact HB.out | apply below_alloc | apply pw_below_drewN | apply below_drew1 | refine below_set ?_ GE295.out | refine below_set ?_ GE296.out | refine below_set ?_ GE304.out | refine below_set ?_ GE305.out | refine below_set ?_ GE312.out | refine below_set ?_ GE313.out) | exact HB.out)⟩
 ·replace c4 := Bool.eq_false_iff.mpr c4
  subst c4
  have H1 : (none) = some r := by rw [if_neg (show ¬ (false = true) by decide)] at H; exact H
  clear H
  have H := H1
  clear H1
  exact absurd H (by simp)

end Go.Proofs.YtcpehlllgfffkaaDoor.GT
