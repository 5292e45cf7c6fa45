-- Written by a program of this session (wip/pv.py, which turns the kit's print.py in a scratch copy): see NOTES.md.
import Derived.Test.YteehchhmonlkkaaGPx0
import Derived.Test.YteehchhmonlkkaaGPx1
namespace Go.Proofs.Yteehchhmonlkkaa.GP
open Go.RowKit Go.Proofs.YteehchhmonlkkaaW.PrintWords Go.Proofs.YteehchhmonlkkaaW.PrintLast Go.Proofs.YteehchhmonlkkaaW.PrintMore
attribute [local go_sem] max2_int min2_int max_two min_two max_three min_three max_four min_four   -- for this text's walks alone
set_option linter.unusedVariables false
set_option linter.unusedSimpArgs false

attribute [local go_sem high] eqA67
/-! ### concordancelaw07_same: function 12 -/
mutual
def concordancelaw07_same.j0 : Nat → Bool → Int → Int → Int → ByteArray → Int → List (S60) → Int → Int → Int → ByteArray → Int → List (S63) → Option (Bool)
 | 0, _, _, _, _, _, _, _, _, _, _, _, _, _ => none
 | k + 1, x48, x244000, x244001, x244002, x244003, x244004, x244005, x245000, x245001, x245002, x245003, x245004, x245005 => if x48 = true then (some false) else (concordancelaw07_same.l0 k 0 x244000 x244001 x244002 x244003 x244004 x244005 x245000 x245001 x245002 x245003 x245004 x245005)
def concordancelaw07_same.l0 : Nat → Int → Int → Int → Int → ByteArray → Int → List (S60) → Int → Int → Int → ByteArray → Int → List (S63) → Option (Bool)
 | 0, _, _, _, _, _, _, _, _, _, _, _, _, _ => none
 | k + 1, x5, x244000, x244001, x244002, x244003, x244004, x244005, x245000, x245001, x245002, x245003, x245004, x245005 => if x5 < (x245005.length : Int) then (if 0 ≤ x5 then (if x5 < (x244005.length : Int) then (if ((rd_T60 x244005 x5).f0) = ((rd_T63 x245005 x5).f0) then (concordancelaw07_same.j2 k x5 ((((rd_T60 x244005 x5).f1).length : Int) != (((rd_T63 x245005 x5).f1).length : Int)) x244000 x244001 x244002 x244003 x244004 x244005 x245000 x245001 x245002 x245003 x245004 x245005) else (concordancelaw07_same.j2 k x5 true x244000 x244001 x244002 x244003 x244004 x244005 x245000 x245001 x245002 x245003 x245004 x245005)) else (none)) else (none)) else (some true)
def concordancelaw07_same.j2 : Nat → Int → Bool → Int → Int → Int → ByteArray → Int → List (S60) → Int → Int → Int → ByteArray → Int → List (S63) → Option (Bool)
 | 0, _, _, _, _, _, _, _, _, _, _, _, _, _, _ => none
 | k + 1, x5, x85, x244000, x244001, x244002, x244003, x244004, x244005, x245000, x245001, x245002, x245003, x245004, x245005 => if x85 = true then (some false) else (concordancelaw07_same.l1 k x5 0 x244000 x244001 x244002 x244003 x244004 x244005 x245000 x245001 x245002 x245003 x245004 x245005)
def concordancelaw07_same.l1 : Nat → Int → Int → Int → Int → Int → ByteArray → Int → List (S60) → Int → Int → Int → ByteArray → Int → List (S63) → Option (Bool)
 | 0, _, _, _, _, _, _, _, _, _, _, _, _, _, _ => none
 | k + 1, x5, x6, x244000, x244001, x244002, x244003, x244004, x244005, x245000, x245001, x245002, x245003, x245004, x245005 => if 0 ≤ x5 then (if x5 < (x245005.length : Int) then (if x6 < (((rd_T63 x245005 x5).f1).length : Int) then (if x5 < (x244005.length : Int) then (if 0 ≤ x6 then (if x6 < (((rd_T60 x244005 x5).f1).length : Int) then (if (!(((rd_T66 ((rd_T60 x244005 x5).f1) x6).f0) == ((rd_T67 ((rd_T63 x245005 x5).f1) x6).f0)) || (!((((rd_T66 ((rd_T60 x244005 x5).f1) x6).f1).toList) == (((rd_T67 ((rd_T63 x245005 x5).f1) x6).f1).toList)))) = true then (some false) else (concordancelaw07_same.l1 k x5 (wrap64 (x6 + 1)) x244000 x244001 x244002 x244003 x244004 x244005 x245000 x245001 x245002 x245003 x245004 x245005)) else (none)) else (none)) else (none)) else (concordancelaw07_same.l0 k (wrap64 (x5 + 1)) x244000 x244001 x244002 x244003 x244004 x244005 x245000 x245001 x245002 x245003 x245004 x245005)) else (none)) else (none)
end
def concordancelaw07_same.f (k : Nat) (a0_0 : Int) (a0_1 : Int) (a0_2 : Int) (a0_3 : ByteArray) (a0_4 : Int) (l0_5 : List (S60)) (a1_0 : Int) (a1_1 : Int) (a1_2 : Int) (a1_3 : ByteArray) (a1_4 : Int) (l1_5 : List (S63)) : Option (Bool) := if a0_0 = a1_0 then (if a0_1 = a1_1 then (if a0_2 = a1_2 then (if a0_3.toList = a1_3.toList then (if a0_4 = a1_4 then (concordancelaw07_same.j0 k ((l0_5.length : Int) != (l1_5.length : Int)) a0_0 a0_1 a0_2 a0_3 a0_4 l0_5 a1_0 a1_1 a1_2 a1_3 a1_4 l1_5) else (concordancelaw07_same.j0 k true a0_0 a0_1 a0_2 a0_3 a0_4 l0_5 a1_0 a1_1 a1_2 a1_3 a1_4 l1_5)) else (concordancelaw07_same.j0 k true a0_0 a0_1 a0_2 a0_3 a0_4 l0_5 a1_0 a1_1 a1_2 a1_3 a1_4 l1_5)) else (concordancelaw07_same.j0 k true a0_0 a0_1 a0_2 a0_3 a0_4 l0_5 a1_0 a1_1 a1_2 a1_3 a1_4 l1_5)) else (concordancelaw07_same.j0 k true a0_0 a0_1 a0_2 a0_3 a0_4 l0_5 a1_0 a1_1 a1_2 a1_3 a1_4 l1_5)) else (concordancelaw07_same.j0 k true a0_0 a0_1 a0_2 a0_3 a0_4 l0_5 a1_0 a1_1 a1_2 a1_3 a1_4 l1_5)
theorem concordancelaw07_same.mono_l : ∀ k, (∀ y0 y1 y2 y3 y4 y5 y6 y7 y8 y9 y10 y11 y12, LeO (concordancelaw07_same.j0 k y0 y1 y2 y3 y4 y5 y6 y7 y8 y9 y10 y11 y12) (concordancelaw07_same.j0 (k + 1) y0 y1 y2 y3 y4 y5 y6 y7 y8 y9 y10 y11 y12)) ∧ (∀ y0 y1 y2 y3 y4 y5 y6 y7 y8 y9 y10 y11 y12, LeO (concordancelaw07_same.l0 k y0 y1 y2 y3 y4 y5 y6 y7 y8 y9 y10 y11 y12) (concordancelaw07_same.l0 (k + 1) y0 y1 y2 y3 y4 y5 y6 y7 y8 y9 y10 y11 y12)) ∧ (∀ y0 y1 y2 y3 y4 y5 y6 y7 y8 y9 y10 y11 y12 y13, LeO (concordancelaw07_same.j2 k y0 y1 y2 y3 y4 y5 y6 y7 y8 y9 y10 y11 y12 y13) (concordancelaw07_same.j2 (k + 1) y0 y1 y2 y3 y4 y5 y6 y7 y8 y9 y10 y11 y12 y13)) ∧ (∀ y0 y1 y2 y3 y4 y5 y6 y7 y8 y9 y10 y11 y12 y13, LeO (concordancelaw07_same.l1 k y0 y1 y2 y3 y4 y5 y6 y7 y8 y9 y10 y11 y12 y13) (concordancelaw07_same.l1 (k + 1) y0 y1 y2 y3 y4 y5 y6 y7 y8 y9 y10 y11 y12 y13))
 | 0 => ⟨fun _ _ _ _ _ _ _ _ _ _ _ _ _ r h => by simp [concordancelaw07_same.j0] at h, fun _ _ _ _ _ _ _ _ _ _ _ _ _ r h => by simp [concordancelaw07_same.l0] at h, fun _ _ _ _ _ _ _ _ _ _ _ _ _ _ r h => by simp [concordancelaw07_same.j2] at h, fun _ _ _ _ _ _ _ _ _ _ _ _ _ _ r h => by simp [concordancelaw07_same.l1] at h⟩
 | k + 1 => by
  obtain ⟨ih0, ih1, ih2, ih3⟩ := concordancelaw07_same.mono_l k
  refine ⟨?_, ?_, ?_, ?_⟩
  ·intro y0 y1 y2 y3 y4 y5 y6 y7 y8 y9 y10 y11 y12
   unfold concordancelaw07_same.j0
   repeat' first
   | (with_reducible exact ih0 _ _ _ _ _ _ _ _ _ _ _ _ _)
   | (with_reducible exact ih1 _ _ _ _ _ _ _ _ _ _ _ _ _)
   | (with_reducible exact ih2 _ _ _ _ _ _ _ _ _ _ _ _ _ _)
   | (with_reducible exact ih3 _ _ _ _ _ _ _ _ _ _ _ _ _ _)
   | (with_reducible exact LeO.refl _)
   | (with_reducible exact LeO.none _)
   | (with_reducible refine LeO.ite ?_ ?_)
   | (with_reducible refine LeO.bind ?_ (fun _ => ?_))
   | exact ih0 _ _ _ _ _ _ _ _ _ _ _ _ _
   | exact ih1 _ _ _ _ _ _ _ _ _ _ _ _ _
   | exact ih2 _ _ _ _ _ _ _ _ _ _ _ _ _ _
   | exact ih3 _ _ _ _ _ _ _ _ _ _ _ _ _ _
   | exact LeO.none _
   | refine LeO.ite ?_ ?_
   | refine LeO.bind ?_ (fun _ => ?_)
  ·intro y0 y1 y2 y3 y4 y5 y6 y7 y8 y9 y10 y11 y12
   unfold concordancelaw07_same.l0
   repeat' first
   | (with_reducible exact ih0 _ _ _ _ _ _ _ _ _ _ _ _ _)
   | (with_reducible exact ih1 _ _ _ _ _ _ _ _ _ _ _ _ _)
   | (with_reducible exact ih2 _ _ _ _ _ _ _ _ _ _ _ _ _ _)
   | (with_reducible exact ih3 _ _ _ _ _ _ _ _ _ _ _ _ _ _)
   | (with_reducible exact LeO.refl _)
   | (with_reducible exact LeO.none _)
   | (with_reducible refine LeO.ite ?_ ?_)
   | (with_reducible refine LeO.bind ?_ (fun _ => ?_))
   | exact ih0 _ _ _ _ _ _ _ _ _ _ _ _ _
   | exact ih1 _ _ _ _ _ _ _ _ _ _ _ _ _
   | exact ih2 _ _ _ _ _ _ _ _ _ _ _ _ _ _
   | exact ih3 _ _ _ _ _ _ _ _ _ _ _ _ _ _
   | exact LeO.none _
   | refine LeO.ite ?_ ?_
   | refine LeO.bind ?_ (fun _ => ?_)
  ·intro y0 y1 y2 y3 y4 y5 y6 y7 y8 y9 y10 y11 y12 y13
   unfold concordancelaw07_same.j2
   repeat' first
   | (with_reducible exact ih0 _ _ _ _ _ _ _ _ _ _ _ _ _)
   | (with_reducible exact ih1 _ _ _ _ _ _ _ _ _ _ _ _ _)
   | (with_reducible exact ih2 _ _ _ _ _ _ _ _ _ _ _ _ _ _)
   | (with_reducible exact ih3 _ _ _ _ _ _ _ _ _ _ _ _ _ _)
   | (with_reducible exact LeO.refl _)
   | (with_reducible exact LeO.none _)
   | (with_reducible refine LeO.ite ?_ ?_)
   | (with_reducible refine LeO.bind ?_ (fun _ => ?_))
   | exact ih0 _ _ _ _ _ _ _ _ _ _ _ _ _
   | exact ih1 _ _ _ _ _ _ _ _ _ _ _ _ _
   | exact ih2 _ _ _ _ _ _ _ _ _ _ _ _ _ _
   | exact ih3 _ _ _ _ _ _ _ _ _ _ _ _ _ _
   | exact LeO.none _
   | refine LeO.ite ?_ ?_
   | refine LeO.bind ?_ (fun _ => ?_)
  ·intro y0 y1 y2 y3 y4 y5 y6 y7 y8 y9 y10 y11 y12 y13
   unfold concordancelaw07_same.l1
   repeat' first
   | (with_reducible exact ih0 _ _ _ _ _ _ _ _ _ _ _ _ _)
   | (with_reducible exact ih1 _ _ _ _ _ _ _ _ _ _ _ _ _)
   | (with_reducible exact ih2 _ _ _ _ _ _ _ _ _ _ _ _ _ _)
   | (with_reducible exact ih3 _ _ _ _ _ _ _ _ _ _ _ _ _ _)
   | (with_reducible exact LeO.refl _)
   | (with_reducible exact LeO.none _)
   | (with_reducible refine LeO.ite ?_ ?_)
   | (with_reducible refine LeO.bind ?_ (fun _ => ?_))
   | exact ih0 _ _ _ _ _ _ _ _ _ _ _ _ _
   | exact ih1 _ _ _ _ _ _ _ _ _ _ _ _ _
   | exact ih2 _ _ _ _ _ _ _ _ _ _ _ _ _ _
   | exact ih3 _ _ _ _ _ _ _ _ _ _ _ _ _ _
   | exact LeO.none _
   | refine LeO.ite ?_ ?_
   | refine LeO.bind ?_ (fun _ => ?_)
theorem concordancelaw07_same.mono : ∀ a0 a1 a2 a3 a4 a5 a6 a7 a8 a9 a10 a11 k, LeO (concordancelaw07_same.f k a0 a1 a2 a3 a4 a5 a6 a7 a8 a9 a10 a11) (concordancelaw07_same.f (k + 1) a0 a1 a2 a3 a4 a5 a6 a7 a8 a9 a10 a11) := by
 intro a0 a1 a2 a3 a4 a5 a6 a7 a8 a9 a10 a11 k
 obtain ⟨ih0, ih1, ih2, ih3⟩ := concordancelaw07_same.mono_l k
 unfold concordancelaw07_same.f
 repeat' first
   | (with_reducible exact ih0 _ _ _ _ _ _ _ _ _ _ _ _ _)
   | (with_reducible exact ih1 _ _ _ _ _ _ _ _ _ _ _ _ _)
   | (with_reducible exact ih2 _ _ _ _ _ _ _ _ _ _ _ _ _ _)
   | (with_reducible exact ih3 _ _ _ _ _ _ _ _ _ _ _ _ _ _)
   | (with_reducible exact LeO.refl _)
   | (with_reducible exact LeO.none _)
   | (with_reducible refine LeO.ite ?_ ?_)
   | (with_reducible refine LeO.bind ?_ (fun _ => ?_))
   | exact ih0 _ _ _ _ _ _ _ _ _ _ _ _ _
   | exact ih1 _ _ _ _ _ _ _ _ _ _ _ _ _
   | exact ih2 _ _ _ _ _ _ _ _ _ _ _ _ _ _
   | exact ih3 _ _ _ _ _ _ _ _ _ _ _ _ _ _
   | exact LeO.none _
   | refine LeO.ite ?_ ?_
   | refine LeO.bind ?_ (fun _ => ?_)
set_option maxHeartbeats 8000000 in
set_option maxRecDepth 100000 in
theorem concordancelaw07_same.calls (k : Nat) (a0_0 : Int) (a0_1 : Int) (a0_2 : Int) (a0_3 : ByteArray) (a0_4 : Int) (A0_5 : Option Addr) (c0_5 : Nat) (l0_5 : List (S60)) (a1_0 : Int) (a1_1 : Int) (a1_2 : Int) (a1_3 : ByteArray) (a1_4 : Int) (A1_5 : Option Addr) (c1_5 : Nat) (l1_5 : List (S63)) (r : Bool) (w : World) (hr0_5 : Kd.C k60 w A0_5 l0_5.length l0_5) (hc0_5 : l0_5.length ≤ c0_5) (hr1_5 : Kd.C k63 w A1_5 l1_5.length l1_5) (hc1_5 : l1_5.length ≤ c1_5) (h : concordancelaw07_same.f k a0_0 a0_1 a0_2 a0_3 a0_4 l0_5 a1_0 a1_1 a1_2 a1_3 a1_4 l1_5 = some r) :
  Calls Try.prog 12 #[.agg #[.int .i64 a0_0, .int .i64 a0_1, .int .i64 a0_2, .string a0_3, .int .i64 a0_4, .slice A0_5 l0_5.length c0_5], .agg #[.int .i64 a1_0, .int .i64 a1_1, .int .i64 a1_2, .string a1_3, .int .i64 a1_4, .slice A1_5 l1_5.length c1_5]] w fun e w' => e = .returned (.bool r) ∧ Below w.heap.size w w' := by
 have hu29 := Try.underlying29
 have hu32 := Try.underlying32
 have hu66 := Try.underlying66
 have hu67 := Try.underlying67
 have HR0_5 := Aside0.mk hr0_5
 have HC0_5 := Aside0.mk hc0_5
 clear hr0_5 hc0_5
 have HR1_5 := Aside0.mk hr1_5
 have HC1_5 := Aside0.mk hc1_5
 clear hr1_5 hc1_5
 have HB := Aside0.mk (Below.refl w.heap.size w)
 have H : (if a0_0 = a1_0 then (if a0_1 = a1_1 then (if a0_2 = a1_2 then (if a0_3.toList = a1_3.toList then (if a0_4 = a1_4 then (concordancelaw07_same.j0 k ((l0_5.length : Int) != (l1_5.length : Int)) a0_0 a0_1 a0_2 a0_3 a0_4 l0_5 a1_0 a1_1 a1_2 a1_3 a1_4 l1_5) else (concordancelaw07_same.j0 k true a0_0 a0_1 a0_2 a0_3 a0_4 l0_5 a1_0 a1_1 a1_2 a1_3 a1_4 l1_5)) else (concordancelaw07_same.j0 k true a0_0 a0_1 a0_2 a0_3 a0_4 l0_5 a1_0 a1_1 a1_2 a1_3 a1_4 l1_5)) else (concordancelaw07_same.j0 k true a0_0 a0_1 a0_2 a0_3 a0_4 l0_5 a1_0 a1_1 a1_2 a1_3 a1_4 l1_5)) else (concordancelaw07_same.j0 k true a0_0 a0_1 a0_2 a0_3 a0_4 l0_5 a1_0 a1_1 a1_2 a1_3 a1_4 l1_5)) else (concordancelaw07_same.j0 k true a0_0 a0_1 a0_2 a0_3 a0_4 l0_5 a1_0 a1_1 a1_2 a1_3 a1_4 l1_5)) = some r := h
 clear h
 have HC3 := Aside0.mk H
 clear H
 go_enter Try.func12, Try.ntmps12
 go_upto_region 1 with (first | ((with_reducible refine gate_dst (N := 2) rfl ?_); (try (refine gate_guard (by rfl) ?_; dsimp only)); refine box_event ?hg (N := 2) ?hd (cs := #[.int .i64 a0_0, .int .i64 a0_1, .int .i64 a0_2, .string a0_3, .int .i64 a0_4, .slice A0_5 l0_5.length c0_5]) (t := 29) ?hr ?_; (case hd => rfl); (case hg => rfl); (case hr => first | (go_simp; done) | (go_simp; rfl)); intro gb243 hg w4 hbox hb; have n0_ := Aside0.mk (below_step (by repeat (first | (with_reducible first | exact HB.out | apply below_alloc | apply pw_below_drewN | apply below_drew1) | exact HB.out)) hb); have n1_ := Aside0.mk (hbox); have n2_ := Aside0.mk ((by rw [hg]; exact (below_size (by repeat (first | (with_reducible first | exact HB.out | apply below_alloc | apply pw_below_drewN | apply below_drew1) | exact HB.out))) : w.heap.size ≤ gb243)); have n3_ := Aside0.mk ((by rw [hg]; exact (below_size (by repeat (first | (with_reducible first | exact HB.out | apply below_alloc | apply pw_below_drewN | apply below_drew1) | exact HB.out))) : w.heap.size ≤ gb243)); clear HB; have HB := n0_; have BK243 := n1_; have GW243 := n2_; have GE243 := n3_; clear n0_ n1_ n2_ n3_; clear hb hbox hg) | ((with_reducible refine gate_dst (N := 3) rfl ?_); (try (refine gate_guard (by rfl) ?_; dsimp only)); refine box_event ?hg (N := 3) ?hd (cs := #[.int .i64 a1_0, .int .i64 a1_1, .int .i64 a1_2, .string a1_3, .int .i64 a1_4, .slice A1_5 l1_5.length c1_5]) (t := 32) ?hr ?_; (case hd => rfl); (case hg => rfl); (case hr => first | (go_simp; done) | (go_simp; rfl)); intro gb244 hg w5 hbox hb; have n0_ := Aside0.mk (blk_below (g := gb243) (o := .cells #[.int .i64 a0_0, .int .i64 a0_1, .int .i64 a0_2, .string a0_3, .int .i64 a0_4, .slice A0_5 l0_5.length c0_5] 29 (0, 0)) (by (with_reducible repeat (first | refine blk_drewN ?_ _ | refine blk_drew ?_ | refine blk_alloc ?_ _)); exact BK243.out) hb); have n1_ := Aside0.mk (below_step (by repeat (first | (with_reducible first | exact HB.out | apply below_alloc | apply pw_below_drewN | apply below_drew1 | refine below_set ?_ GE243.out) | exact HB.out)) hb); have n2_ := Aside0.mk (hbox); have n3_ := Aside0.mk ((by rw [hg]; exact (below_size (by repeat (first | (with_reducible first | exact HB.out | apply below_alloc | apply pw_below_drewN | apply below_drew1 | refine below_set ?_ GE243.out) | exact HB.out))) : w.heap.size ≤ gb244)); have n4_ := Aside0.mk ((by rw [hg]; exact (below_size (by repeat (first | (with_reducible first | exact HB.out | apply below_alloc | apply pw_below_drewN | apply below_drew1 | refine below_set ?_ GE243.out) | exact HB.out))) : w.heap.size ≤ gb244)); have n5_ := Aside0.mk ((by rw [hg]; exact Nat.ne_of_lt (blk_lt (g := gb243) (o := .cells #[.int .i64 a0_0, .int .i64 a0_1, .int .i64 a0_2, .string a0_3, .int .i64 a0_4, .slice A0_5 l0_5.length c0_5] 29 (0, 0)) (by (with_reducible repeat (first | refine blk_drewN ?_ _ | refine blk_drew ?_ | refine blk_alloc ?_ _)); exact BK243.out)) : gb243 ≠ gb244)); have n6_ := Aside0.mk ((by rw [hg]; exact Nat.ne_of_gt (blk_lt (g := gb243) (o := .cells #[.int .i64 a0_0, .int .i64 a0_1, .int .i64 a0_2, .string a0_3, .int .i64 a0_4, .slice A0_5 l0_5.length c0_5] 29 (0, 0)) (by (with_reducible repeat (first | refine blk_drewN ?_ _ | refine blk_drew ?_ | refine blk_alloc ?_ _)); exact BK243.out)) : gb244 ≠ gb243)); clear BK243; clear HB; have BK243 := n0_; have HB := n1_; have BK244 := n2_; have GW244 := n3_; have GE244 := n4_; have NB243_244 := n5_; have NB244_243 := n6_; clear n0_ n1_ n2_ n3_ n4_ n5_ n6_; clear hb hbox hg))
 repeat (go_quiet (first | ((with_reducible refine gate_dst (N := 2) rfl ?_); (try (refine gate_guard (by rfl) ?_; dsimp only)); refine box_event ?hg (N := 2) ?hd (cs := #[.int .i64 a0_0, .int .i64 a0_1, .int .i64 a0_2, .string a0_3, .int .i64 a0_4, .slice A0_5 l0_5.length c0_5]) (t := 29) ?hr ?_; (case hd => rfl); (case hg => rfl); (case hr => first | (go_simp; done) | (go_simp; rfl)); intro gb243 hg w4 hbox hb; have n0_ := Aside0.mk (below_step (by repeat (first | (with_reducible first | exact HB.out | apply below_alloc | apply pw_below_drewN | apply below_drew1) | exact HB.out)) hb); have n1_ := Aside0.mk (hbox); have n2_ := Aside0.mk ((by rw [hg]; exact (below_size (by repeat (first | (with_reducible first | exact HB.out | apply below_alloc | apply pw_below_drewN | apply below_drew1) | exact HB.out))) : w.heap.size ≤ gb243)); have n3_ := Aside0.mk ((by rw [hg]; exact (below_size (by repeat (first | (with_reducible first | exact HB.out | apply below_alloc | apply pw_below_drewN | apply below_drew1) | exact HB.out))) : w.heap.size ≤ gb243)); clear HB; have HB := n0_; have BK243 := n1_; have GW243 := n2_; have GE243 := n3_; clear n0_ n1_ n2_ n3_; clear hb hbox hg) | ((with_reducible refine gate_dst (N := 3) rfl ?_); (try (refine gate_guard (by rfl) ?_; dsimp only)); refine box_event ?hg (N := 3) ?hd (cs := #[.int .i64 a1_0, .int .i64 a1_1, .int .i64 a1_2, .string a1_3, .int .i64 a1_4, .slice A1_5 l1_5.length c1_5]) (t := 32) ?hr ?_; (case hd => rfl); (case hg => rfl); (case hr => first | (go_simp; done) | (go_simp; rfl)); intro gb244 hg w5 hbox hb; have n0_ := Aside0.mk (blk_below (g := gb243) (o := .cells #[.int .i64 a0_0, .int .i64 a0_1, .int .i64 a0_2, .string a0_3, .int .i64 a0_4, .slice A0_5 l0_5.length c0_5] 29 (0, 0)) (by (with_reducible repeat (first | refine blk_drewN ?_ _ | refine blk_drew ?_ | refine blk_alloc ?_ _)); exact BK243.out) hb); have n1_ := Aside0.mk (below_step (by repeat (first | (with_reducible first | exact HB.out | apply below_alloc | apply pw_below_drewN | apply below_drew1 | refine below_set ?_ GE243.out) | exact HB.out)) hb); have n2_ := Aside0.mk (hbox); have n3_ := Aside0.mk ((by rw [hg]; exact (below_size (by repeat (first | (with_reducible first | exact HB.out | apply below_alloc | apply pw_below_drewN | apply below_drew1 | refine below_set ?_ GE243.out) | exact HB.out))) : w.heap.size ≤ gb244)); have n4_ := Aside0.mk ((by rw [hg]; exact (below_size (by repeat (first | (with_reducible first | exact HB.out | apply below_alloc | apply pw_below_drewN | apply below_drew1 | refine below_set ?_ GE243.out) | exact HB.out))) : w.heap.size ≤ gb244)); have n5_ := Aside0.mk ((by rw [hg]; exact Nat.ne_of_lt (blk_lt (g := gb243) (o := .cells #[.int .i64 a0_0, .int .i64 a0_1, .int .i64 a0_2, .string a0_3, .int .i64 a0_4, .slice A0_5 l0_5.length c0_5] 29 (0, 0)) (by (with_reducible repeat (first | refine blk_drewN ?_ _ | refine blk_drew ?_ | refine blk_alloc ?_ _)); exact BK243.out)) : gb243 ≠ gb244)); have n6_ := Aside0.mk ((by rw [hg]; exact Nat.ne_of_gt (blk_lt (g := gb243) (o := .cells #[.int .i64 a0_0, .int .i64 a0_1, .int .i64 a0_2, .string a0_3, .int .i64 a0_4, .slice A0_5 l0_5.length c0_5] 29 (0, 0)) (by (with_reducible repeat (first | refine blk_drewN ?_ _ | refine blk_drew ?_ | refine blk_alloc ?_ _)); exact BK243.out)) : gb244 ≠ gb243)); clear BK243; clear HB; have BK243 := n0_; have HB := n1_; have BK244 := n2_; have GW244 := n3_; have GE244 := n4_; have NB243_244 := n5_; have NB244_243 := n6_; clear n0_ n1_ n2_ n3_ n4_ n5_ n6_; clear hb hbox hg)); go_upto_region 1 with (first | ((with_reducible refine gate_dst (N := 2) rfl ?_); (try (refine gate_guard (by rfl) ?_; dsimp only)); refine box_event ?hg (N := 2) ?hd (cs := #[.int .i64 a0_0, .int .i64 a0_1, .int .i64 a0_2, .string a0_3, .int .i64 a0_4, .slice A0_5 l0_5.length c0_5]) (t := 29) ?hr ?_; (case hd => rfl); (case hg => rfl); (case hr => first | (go_simp; done) | (go_simp; rfl)); intro gb243 hg w4 hbox hb; have n0_ := Aside0.mk (below_step (by repeat (first | (with_reducible first | exact HB.out | apply below_alloc | apply pw_below_drewN | apply below_drew1) | exact HB.out)) hb); have n1_ := Aside0.mk (hbox); have n2_ := Aside0.mk ((by rw [hg]; exact (below_size (by repeat (first | (with_reducible first | exact HB.out | apply below_alloc | apply pw_below_drewN | apply below_drew1) | exact HB.out))) : w.heap.size ≤ gb243)); have n3_ := Aside0.mk ((by rw [hg]; exact (below_size (by repeat (first | (with_reducible first | exact HB.out | apply below_alloc | apply pw_below_drewN | apply below_drew1) | exact HB.out))) : w.heap.size ≤ gb243)); clear HB; have HB := n0_; have BK243 := n1_; have GW243 := n2_; have GE243 := n3_; clear n0_ n1_ n2_ n3_; clear hb hbox hg) | ((with_reducible refine gate_dst (N := 3) rfl ?_); (try (refine gate_guard (by rfl) ?_; dsimp only)); refine box_event ?hg (N := 3) ?hd (cs := #[.int .i64 a1_0, .int .i64 a1_1, .int .i64 a1_2, .string a1_3, .int .i64 a1_4, .slice A1_5 l1_5.length c1_5]) (t := 32) ?hr ?_; (case hd => rfl); (case hg => rfl); (case hr => first | (go_simp; done) | (go_simp; rfl)); intro gb244 hg w5 hbox hb; have n0_ := Aside0.mk (blk_below (g := gb243) (o := .cells #[.int .i64 a0_0, .int .i64 a0_1, .int .i64 a0_2, .string a0_3, .int .i64 a0_4, .slice A0_5 l0_5.length c0_5] 29 (0, 0)) (by (with_reducible repeat (first | refine blk_drewN ?_ _ | refine blk_drew ?_ | refine blk_alloc ?_ _)); exact BK243.out) hb); have n1_ := Aside0.mk (below_step (by repeat (first | (with_reducible first | exact HB.out | apply below_alloc | apply pw_below_drewN | apply below_drew1 | refine below_set ?_ GE243.out) | exact HB.out)) hb); have n2_ := Aside0.mk (hbox); have n3_ := Aside0.mk ((by rw [hg]; exact (below_size (by repeat (first | (with_reducible first | exact HB.out | apply below_alloc | apply pw_below_drewN | apply below_drew1 | refine below_set ?_ GE243.out) | exact HB.out))) : w.heap.size ≤ gb244)); have n4_ := Aside0.mk ((by rw [hg]; exact (below_size (by repeat (first | (with_reducible first | exact HB.out | apply below_alloc | apply pw_below_drewN | apply below_drew1 | refine below_set ?_ GE243.out) | exact HB.out))) : w.heap.size ≤ gb244)); have n5_ := Aside0.mk ((by rw [hg]; exact Nat.ne_of_lt (blk_lt (g := gb243) (o := .cells #[.int .i64 a0_0, .int .i64 a0_1, .int .i64 a0_2, .string a0_3, .int .i64 a0_4, .slice A0_5 l0_5.length c0_5] 29 (0, 0)) (by (with_reducible repeat (first | refine blk_drewN ?_ _ | refine blk_drew ?_ | refine blk_alloc ?_ _)); exact BK243.out)) : gb243 ≠ gb244)); have n6_ := Aside0.mk ((by rw [hg]; exact Nat.ne_of_gt (blk_lt (g := gb243) (o := .cells #[.int .i64 a0_0, .int .i64 a0_1, .int .i64 a0_2, .string a0_3, .int .i64 a0_4, .slice A0_5 l0_5.length c0_5] 29 (0, 0)) (by (with_reducible repeat (first | refine blk_drewN ?_ _ | refine blk_drew ?_ | refine blk_alloc ?_ _)); exact BK243.out)) : gb244 ≠ gb243)); clear BK243; clear HB; have BK243 := n0_; have HB := n1_; have BK244 := n2_; have GW244 := n3_; have GE244 := n4_; have NB243_244 := n5_; have NB244_243 := n6_; clear n0_ n1_ n2_ n3_ n4_ n5_ n6_; clear hb hbox hg)))
 (try simp only [Act.put, List.setIfInBounds_toArray, List.set_cons_zero, List.set_cons_succ])
 go_cut [48] (fun v48 wc => ∃ (kq : Nat) (x48_2 : Bool), v48 = .bool x48_2 ∧ Aside0 (concordancelaw07_same.j0 kq x48_2 a0_0 a0_1 a0_2 a0_3 a0_4 l0_5 a1_0 a1_1 a1_2 a1_3 a1_4 l1_5 = some r) ∧ Aside0 (kq ≤ k) ∧ Aside0 (wc.heap[gb243]? = some (.cells #[.int .i64 a0_0, .int .i64 a0_1, .int .i64 a0_2, .string a0_3, .int .i64 a0_4, (.slice A0_5 l0_5.length c0_5)] 29 (0, 0))) ∧ Aside0 (wc.heap[gb244]? = some (.cells #[.int .i64 a1_0, .int .i64 a1_1, .int .i64 a1_2, .string a1_3, .int .i64 a1_4, (.slice A1_5 l1_5.length c1_5)] 32 (0, 0))) ∧ Aside0 (Below w.heap.size w wc))
 case first =>
  have H := HC3.out
  clear HC3
  by_cases c6 : a0_0 = a1_0
  ·rw [if_pos c6] at H
   have c6b0 : (a0_0 == a1_0) = true := beq_iff_eq.mpr c6
   have c6b1 : (a0_0 != a1_0) = false := bne_eq_false_iff_eq.mpr c6
   clear c6
   (first | rw [c6b0] | (simp only [i64_w, i32_w]; rw [c6b0]) | skip)
   by_cases c7 : a0_1 = a1_1
   ·rw [if_pos c7] at H
    have c7b0 : (a0_1 == a1_1) = true := beq_iff_eq.mpr c7
    have c7b1 : (a0_1 != a1_1) = false := bne_eq_false_iff_eq.mpr c7
    clear c7
    by_cases c8 : a0_2 = a1_2
    ·rw [if_pos c8] at H
     have c8b0 : (a0_2 == a1_2) = true := beq_iff_eq.mpr c8
     have c8b1 : (a0_2 != a1_2) = false := bne_eq_false_iff_eq.mpr c8
     clear c8
     by_cases c9 : a0_3.toList = a1_3.toList
     ·rw [if_pos c9] at H
      have c9b0 : (a0_3.toList == a1_3.toList) = true := beq_iff_eq.mpr c9
      have c9b1 : (a0_3.toList != a1_3.toList) = false := bne_eq_false_iff_eq.mpr c9
      clear c9
      by_cases c10 : a0_4 = a1_4
      ·rw [if_pos c10] at H
       have c10b0 : (a0_4 == a1_4) = true := beq_iff_eq.mpr c10
       have c10b1 : (a0_4 != a1_4) = false := bne_eq_false_iff_eq.mpr c10
       clear c10
       have H' := Aside0.mk H
       clear H
       have hnb11 := NB243_244.out
       have hnc11 := NB244_243.out
       have hcz12_0 : w5.cell? ⟨gb243, 0, none⟩ = some (.int .i64 a0_0) := (blk_cell BK243.out 0).trans rfl
       have hcz12_1 : w5.cell? ⟨gb243, 1, none⟩ = some (.int .i64 a0_1) := (blk_cell BK243.out 1).trans rfl
       have hcz12_2 : w5.cell? ⟨gb243, 2, none⟩ = some (.int .i64 a0_2) := (blk_cell BK243.out 2).trans rfl
       have hcz12_3 : w5.cell? ⟨gb243, 3, none⟩ = some (.string a0_3) := (blk_cell BK243.out 3).trans rfl
       have hcz12_4 : w5.cell? ⟨gb243, 4, none⟩ = some (.int .i64 a0_4) := (blk_cell BK243.out 4).trans rfl
       have hcz12_5 : w5.cell? ⟨gb243, 5, none⟩ = some (.slice A0_5 l0_5.length c0_5) := (blk_cell BK243.out 5).trans rfl
       have hfz12_0 := blk_frozen BK243.out 0
       have hfz12_1 := blk_frozen BK243.out 1
       have hfz12_2 := blk_frozen BK243.out 2
       have hfz12_3 := blk_frozen BK243.out 3
       have hfz12_4 := blk_frozen BK243.out 4
       have hfz12_5 := blk_frozen BK243.out 5
       have hcz13_0 : w5.cell? ⟨gb244, 0, none⟩ = some (.int .i64 a1_0) := (blk_cell BK244.out 0).trans rfl
       have hcz13_1 : w5.cell? ⟨gb244, 1, none⟩ = some (.int .i64 a1_1) := (blk_cell BK244.out 1).trans rfl
       have hcz13_2 : w5.cell? ⟨gb244, 2, none⟩ = some (.int .i64 a1_2) := (blk_cell BK244.out 2).trans rfl
       have hcz13_3 : w5.cell? ⟨gb244, 3, none⟩ = some (.string a1_3) := (blk_cell BK244.out 3).trans rfl
       have hcz13_4 : w5.cell? ⟨gb244, 4, none⟩ = some (.int .i64 a1_4) := (blk_cell BK244.out 4).trans rfl
       have hcz13_5 : w5.cell? ⟨gb244, 5, none⟩ = some (.slice A1_5 l1_5.length c1_5) := (blk_cell BK244.out 5).trans rfl
       have hfz13_0 := blk_frozen BK244.out 0
       have hfz13_1 := blk_frozen BK244.out 1
       have hfz13_2 := blk_frozen BK244.out 2
       have hfz13_3 := blk_frozen BK244.out 3
       have hfz13_4 := blk_frozen BK244.out 4
       have hfz13_5 := blk_frozen BK244.out 5
       go_wp2
       repeat (go_quiet (fail); try go_wp2)
       go_meet
       case rel => exact ⟨_, (((l0_5.length : Int) != (l1_5.length : Int))), (by first | rfl | (simp; done) | (simp [*]; done)), H', ⟨by first | omega | exact Nat.le_refl _⟩, ⟨by (with_reducible repeat (first | refine blk_drewN ?_ _ | refine blk_drew ?_ | refine blk_alloc ?_ _)); exact BK243.out⟩, ⟨by (with_reducible repeat (first | refine blk_drewN ?_ _ | refine blk_drew ?_ | refine blk_alloc ?_ _)); exact BK244.out⟩, ⟨by repeat (first | (with_reducible first | exact HB.out | apply below_alloc | apply pw_below_drewN | apply below_drew1 | refine below_set ?_ GE243.out | refine below_set ?_ GE244.out) | exact HB.out)⟩⟩
      ·rw [if_neg c10] at H
       have c10b0 : (a0_4 == a1_4) = false := beq_eq_false_iff_ne.mpr c10
       have c10b1 : (a0_4 != a1_4) = true := bne_iff_ne.mpr c10
       have H' := Aside0.mk H
       clear H
       have hnb14 := NB243_244.out
       have hnc14 := NB244_243.out
       have hcz15_0 : w5.cell? ⟨gb243, 0, none⟩ = some (.int .i64 a0_0) := (blk_cell BK243.out 0).trans rfl
       have hcz15_1 : w5.cell? ⟨gb243, 1, none⟩ = some (.int .i64 a0_1) := (blk_cell BK243.out 1).trans rfl
       have hcz15_2 : w5.cell? ⟨gb243, 2, none⟩ = some (.int .i64 a0_2) := (blk_cell BK243.out 2).trans rfl
       have hcz15_3 : w5.cell? ⟨gb243, 3, none⟩ = some (.string a0_3) := (blk_cell BK243.out 3).trans rfl
       have hcz15_4 : w5.cell? ⟨gb243, 4, none⟩ = some (.int .i64 a0_4) := (blk_cell BK243.out 4).trans rfl
       have hcz15_5 : w5.cell? ⟨gb243, 5, none⟩ = some (.slice A0_5 l0_5.length c0_5) := (blk_cell BK243.out 5).trans rfl
       have hfz15_0 := blk_frozen BK243.out 0
       have hfz15_1 := blk_frozen BK243.out 1
       have hfz15_2 := blk_frozen BK243.out 2
       have hfz15_3 := blk_frozen BK243.out 3
       have hfz15_4 := blk_frozen BK243.out 4
       have hfz15_5 := blk_frozen BK243.out 5
       have hcz16_0 : w5.cell? ⟨gb244, 0, none⟩ = some (.int .i64 a1_0) := (blk_cell BK244.out 0).trans rfl
       have hcz16_1 : w5.cell? ⟨gb244, 1, none⟩ = some (.int .i64 a1_1) := (blk_cell BK244.out 1).trans rfl
       have hcz16_2 : w5.cell? ⟨gb244, 2, none⟩ = some (.int .i64 a1_2) := (blk_cell BK244.out 2).trans rfl
       have hcz16_3 : w5.cell? ⟨gb244, 3, none⟩ = some (.string a1_3) := (blk_cell BK244.out 3).trans rfl
       have hcz16_4 : w5.cell? ⟨gb244, 4, none⟩ = some (.int .i64 a1_4) := (blk_cell BK244.out 4).trans rfl
       have hcz16_5 : w5.cell? ⟨gb244, 5, none⟩ = some (.slice A1_5 l1_5.length c1_5) := (blk_cell BK244.out 5).trans rfl
       have hfz16_0 := blk_frozen BK244.out 0
       have hfz16_1 := blk_frozen BK244.out 1
       have hfz16_2 := blk_frozen BK244.out 2
       have hfz16_3 := blk_frozen BK244.out 3
       have hfz16_4 := blk_frozen BK244.out 4
       have hfz16_5 := blk_frozen BK244.out 5
       go_wp2
       repeat (go_quiet (fail); try go_wp2)
       go_meet
       case rel => exact ⟨_, (true), (by first | rfl | (simp; done) | (simp [*]; done)), H', ⟨by first | omega | exact Nat.le_refl _⟩, ⟨by (with_reducible repeat (first | refine blk_drewN ?_ _ | refine blk_drew ?_ | refine blk_alloc ?_ _)); exact BK243.out⟩, ⟨by (with_reducible repeat (first | refine blk_drewN ?_ _ | refine blk_drew ?_ | refine blk_alloc ?_ _)); exact BK244.out⟩, ⟨by repeat (first | (with_reducible first | exact HB.out | apply below_alloc | apply pw_below_drewN | apply below_drew1 | refine below_set ?_ GE243.out | refine below_set ?_ GE244.out) | exact HB.out)⟩⟩
     ·rw [if_neg c9] at H
      have c9b0 : (a0_3.toList == a1_3.toList) = false := beq_eq_false_iff_ne.mpr c9
      have c9b1 : (a0_3.toList != a1_3.toList) = true := bne_iff_ne.mpr c9
      have H' := Aside0.mk H
      clear H
      have hnb17 := NB243_244.out
      have hnc17 := NB244_243.out
      have hcz18_0 : w5.cell? ⟨gb243, 0, none⟩ = some (.int .i64 a0_0) := (blk_cell BK243.out 0).trans rfl
      have hcz18_1 : w5.cell? ⟨gb243, 1, none⟩ = some (.int .i64 a0_1) := (blk_cell BK243.out 1).trans rfl
      have hcz18_2 : w5.cell? ⟨gb243, 2, none⟩ = some (.int .i64 a0_2) := (blk_cell BK243.out 2).trans rfl
      have hcz18_3 : w5.cell? ⟨gb243, 3, none⟩ = some (.string a0_3) := (blk_cell BK243.out 3).trans rfl
      have hcz18_4 : w5.cell? ⟨gb243, 4, none⟩ = some (.int .i64 a0_4) := (blk_cell BK243.out 4).trans rfl
      have hcz18_5 : w5.cell? ⟨gb243, 5, none⟩ = some (.slice A0_5 l0_5.length c0_5) := (blk_cell BK243.out 5).trans rfl
      have hfz18_0 := blk_frozen BK243.out 0
      have hfz18_1 := blk_frozen BK243.out 1
      have hfz18_2 := blk_frozen BK243.out 2
      have hfz18_3 := blk_frozen BK243.out 3
      have hfz18_4 := blk_frozen BK243.out 4
      have hfz18_5 := blk_frozen BK243.out 5
      have hcz19_0 : w5.cell? ⟨gb244, 0, none⟩ = some (.int .i64 a1_0) := (blk_cell BK244.out 0).trans rfl
      have hcz19_1 : w5.cell? ⟨gb244, 1, none⟩ = some (.int .i64 a1_1) := (blk_cell BK244.out 1).trans rfl
      have hcz19_2 : w5.cell? ⟨gb244, 2, none⟩ = some (.int .i64 a1_2) := (blk_cell BK244.out 2).trans rfl
      have hcz19_3 : w5.cell? ⟨gb244, 3, none⟩ = some (.string a1_3) := (blk_cell BK244.out 3).trans rfl
      have hcz19_4 : w5.cell? ⟨gb244, 4, none⟩ = some (.int .i64 a1_4) := (blk_cell BK244.out 4).trans rfl
      have hcz19_5 : w5.cell? ⟨gb244, 5, none⟩ = some (.slice A1_5 l1_5.length c1_5) := (blk_cell BK244.out 5).trans rfl
      have hfz19_0 := blk_frozen BK244.out 0
      have hfz19_1 := blk_frozen BK244.out 1
      have hfz19_2 := blk_frozen BK244.out 2
      have hfz19_3 := blk_frozen BK244.out 3
      have hfz19_4 := blk_frozen BK244.out 4
      have hfz19_5 := blk_frozen BK244.out 5
      go_wp2
      repeat (go_quiet (fail); try go_wp2)
      go_meet
      case rel => exact ⟨_, (true), (by first | rfl | (simp; done) | (simp [*]; done)), H', ⟨by first | omega | exact Nat.le_refl _⟩, ⟨by (with_reducible repeat (first | refine blk_drewN ?_ _ | refine blk_drew ?_ | refine blk_alloc ?_ _)); exact BK243.out⟩, ⟨by (with_reducible repeat (first | refine blk_drewN ?_ _ | refine blk_drew ?_ | refine blk_alloc ?_ _)); exact BK244.out⟩, ⟨by repeat (first | (with_reducible first | exact HB.out | apply below_alloc | apply pw_below_drewN | apply below_drew1 | refine below_set ?_ GE243.out | refine below_set ?_ GE244.out) | exact HB.out)⟩⟩
    ·rw [if_neg c8] at H
     have c8b0 : (a0_2 == a1_2) = false := beq_eq_false_iff_ne.mpr c8
     have c8b1 : (a0_2 != a1_2) = true := bne_iff_ne.mpr c8
     have H' := Aside0.mk H
     clear H
     have hnb20 := NB243_244.out
     have hnc20 := NB244_243.out
     have hcz21_0 : w5.cell? ⟨gb243, 0, none⟩ = some (.int .i64 a0_0) := (blk_cell BK243.out 0).trans rfl
     have hcz21_1 : w5.cell? ⟨gb243, 1, none⟩ = some (.int .i64 a0_1) := (blk_cell BK243.out 1).trans rfl
     have hcz21_2 : w5.cell? ⟨gb243, 2, none⟩ = some (.int .i64 a0_2) := (blk_cell BK243.out 2).trans rfl
     have hcz21_3 : w5.cell? ⟨gb243, 3, none⟩ = some (.string a0_3) := (blk_cell BK243.out 3).trans rfl
     have hcz21_4 : w5.cell? ⟨gb243, 4, none⟩ = some (.int .i64 a0_4) := (blk_cell BK243.out 4).trans rfl
     have hcz21_5 : w5.cell? ⟨gb243, 5, none⟩ = some (.slice A0_5 l0_5.length c0_5) := (blk_cell BK243.out 5).trans rfl
     have hfz21_0 := blk_frozen BK243.out 0
     have hfz21_1 := blk_frozen BK243.out 1
     have hfz21_2 := blk_frozen BK243.out 2
     have hfz21_3 := blk_frozen BK243.out 3
     have hfz21_4 := blk_frozen BK243.out 4
     have hfz21_5 := blk_frozen BK243.out 5
     have hcz22_0 : w5.cell? ⟨gb244, 0, none⟩ = some (.int .i64 a1_0) := (blk_cell BK244.out 0).trans rfl
     have hcz22_1 : w5.cell? ⟨gb244, 1, none⟩ = some (.int .i64 a1_1) := (blk_cell BK244.out 1).trans rfl
     have hcz22_2 : w5.cell? ⟨gb244, 2, none⟩ = some (.int .i64 a1_2) := (blk_cell BK244.out 2).trans rfl
     have hcz22_3 : w5.cell? ⟨gb244, 3, none⟩ = some (.string a1_3) := (blk_cell BK244.out 3).trans rfl
     have hcz22_4 : w5.cell? ⟨gb244, 4, none⟩ = some (.int .i64 a1_4) := (blk_cell BK244.out 4).trans rfl
     have hcz22_5 : w5.cell? ⟨gb244, 5, none⟩ = some (.slice A1_5 l1_5.length c1_5) := (blk_cell BK244.out 5).trans rfl
     have hfz22_0 := blk_frozen BK244.out 0
     have hfz22_1 := blk_frozen BK244.out 1
     have hfz22_2 := blk_frozen BK244.out 2
     have hfz22_3 := blk_frozen BK244.out 3
     have hfz22_4 := blk_frozen BK244.out 4
     have hfz22_5 := blk_frozen BK244.out 5
     go_wp2
     repeat (go_quiet (fail); try go_wp2)
     go_meet
     case rel => exact ⟨_, (true), (by first | rfl | (simp; done) | (simp [*]; done)), H', ⟨by first | omega | exact Nat.le_refl _⟩, ⟨by (with_reducible repeat (first | refine blk_drewN ?_ _ | refine blk_drew ?_ | refine blk_alloc ?_ _)); exact BK243.out⟩, ⟨by (with_reducible repeat (first | refine blk_drewN ?_ _ | refine blk_drew ?_ | refine blk_alloc ?_ _)); exact BK244.out⟩, ⟨by repeat (first | (with_reducible first | exact HB.out | apply below_alloc | apply pw_below_drewN | apply below_drew1 | refine below_set ?_ GE243.out | refine below_set ?_ GE244.out) | exact HB.out)⟩⟩
   ·rw [if_neg c7] at H
    have c7b0 : (a0_1 == a1_1) = false := beq_eq_false_iff_ne.mpr c7
    have c7b1 : (a0_1 != a1_1) = true := bne_iff_ne.mpr c7
    have H' := Aside0.mk H
    clear H
    have hnb23 := NB243_244.out
    have hnc23 := NB244_243.out
    have hcz24_0 : w5.cell? ⟨gb243, 0, none⟩ = some (.int .i64 a0_0) := (blk_cell BK243.out 0).trans rfl
    have hcz24_1 : w5.cell? ⟨gb243, 1, none⟩ = some (.int .i64 a0_1) := (blk_cell BK243.out 1).trans rfl
    have hcz24_2 : w5.cell? ⟨gb243, 2, none⟩ = some (.int .i64 a0_2) := (blk_cell BK243.out 2).trans rfl
    have hcz24_3 : w5.cell? ⟨gb243, 3, none⟩ = some (.string a0_3) := (blk_cell BK243.out 3).trans rfl
    have hcz24_4 : w5.cell? ⟨gb243, 4, none⟩ = some (.int .i64 a0_4) := (blk_cell BK243.out 4).trans rfl
    have hcz24_5 : w5.cell? ⟨gb243, 5, none⟩ = some (.slice A0_5 l0_5.length c0_5) := (blk_cell BK243.out 5).trans rfl
    have hfz24_0 := blk_frozen BK243.out 0
    have hfz24_1 := blk_frozen BK243.out 1
    have hfz24_2 := blk_frozen BK243.out 2
    have hfz24_3 := blk_frozen BK243.out 3
    have hfz24_4 := blk_frozen BK243.out 4
    have hfz24_5 := blk_frozen BK243.out 5
    have hcz25_0 : w5.cell? ⟨gb244, 0, none⟩ = some (.int .i64 a1_0) := (blk_cell BK244.out 0).trans rfl
    have hcz25_1 : w5.cell? ⟨gb244, 1, none⟩ = some (.int .i64 a1_1) := (blk_cell BK244.out 1).trans rfl
    have hcz25_2 : w5.cell? ⟨gb244, 2, none⟩ = some (.int .i64 a1_2) := (blk_cell BK244.out 2).trans rfl
    have hcz25_3 : w5.cell? ⟨gb244, 3, none⟩ = some (.string a1_3) := (blk_cell BK244.out 3).trans rfl
    have hcz25_4 : w5.cell? ⟨gb244, 4, none⟩ = some (.int .i64 a1_4) := (blk_cell BK244.out 4).trans rfl
    have hcz25_5 : w5.cell? ⟨gb244, 5, none⟩ = some (.slice A1_5 l1_5.length c1_5) := (blk_cell BK244.out 5).trans rfl
    have hfz25_0 := blk_frozen BK244.out 0
    have hfz25_1 := blk_frozen BK244.out 1
    have hfz25_2 := blk_frozen BK244.out 2
    have hfz25_3 := blk_frozen BK244.out 3
    have hfz25_4 := blk_frozen BK244.out 4
    have hfz25_5 := blk_frozen BK244.out 5
    go_wp2
    repeat (go_quiet (fail); try go_wp2)
    go_meet
    case rel => exact ⟨_, (true), (by first | rfl | (simp; done) | (simp [*]; done)), H', ⟨by first | omega | exact Nat.le_refl _⟩, ⟨by (with_reducible repeat (first | refine blk_drewN ?_ _ | refine blk_drew ?_ | refine blk_alloc ?_ _)); exact BK243.out⟩, ⟨by (with_reducible repeat (first | refine blk_drewN ?_ _ | refine blk_drew ?_ | refine blk_alloc ?_ _)); exact BK244.out⟩, ⟨by repeat (first | (with_reducible first | exact HB.out | apply below_alloc | apply pw_below_drewN | apply below_drew1 | refine below_set ?_ GE243.out | refine below_set ?_ GE244.out) | exact HB.out)⟩⟩
  ·rw [if_neg c6] at H
   have c6b0 : (a0_0 == a1_0) = false := beq_eq_false_iff_ne.mpr c6
   have c6b1 : (a0_0 != a1_0) = true := bne_iff_ne.mpr c6
   (first | rw [c6b0] | (simp only [i64_w, i32_w]; rw [c6b0]) | skip)
   have H' := Aside0.mk H
   clear H
   have hnb26 := NB243_244.out
   have hnc26 := NB244_243.out
   have hcz27_0 : w5.cell? ⟨gb243, 0, none⟩ = some (.int .i64 a0_0) := (blk_cell BK243.out 0).trans rfl
   have hcz27_1 : w5.cell? ⟨gb243, 1, none⟩ = some (.int .i64 a0_1) := (blk_cell BK243.out 1).trans rfl
   have hcz27_2 : w5.cell? ⟨gb243, 2, none⟩ = some (.int .i64 a0_2) := (blk_cell BK243.out 2).trans rfl
   have hcz27_3 : w5.cell? ⟨gb243, 3, none⟩ = some (.string a0_3) := (blk_cell BK243.out 3).trans rfl
   have hcz27_4 : w5.cell? ⟨gb243, 4, none⟩ = some (.int .i64 a0_4) := (blk_cell BK243.out 4).trans rfl
   have hcz27_5 : w5.cell? ⟨gb243, 5, none⟩ = some (.slice A0_5 l0_5.length c0_5) := (blk_cell BK243.out 5).trans rfl
   have hfz27_0 := blk_frozen BK243.out 0
   have hfz27_1 := blk_frozen BK243.out 1
   have hfz27_2 := blk_frozen BK243.out 2
   have hfz27_3 := blk_frozen BK243.out 3
   have hfz27_4 := blk_frozen BK243.out 4
   have hfz27_5 := blk_frozen BK243.out 5
   have hcz28_0 : w5.cell? ⟨gb244, 0, none⟩ = some (.int .i64 a1_0) := (blk_cell BK244.out 0).trans rfl
   have hcz28_1 : w5.cell? ⟨gb244, 1, none⟩ = some (.int .i64 a1_1) := (blk_cell BK244.out 1).trans rfl
   have hcz28_2 : w5.cell? ⟨gb244, 2, none⟩ = some (.int .i64 a1_2) := (blk_cell BK244.out 2).trans rfl
   have hcz28_3 : w5.cell? ⟨gb244, 3, none⟩ = some (.string a1_3) := (blk_cell BK244.out 3).trans rfl
   have hcz28_4 : w5.cell? ⟨gb244, 4, none⟩ = some (.int .i64 a1_4) := (blk_cell BK244.out 4).trans rfl
   have hcz28_5 : w5.cell? ⟨gb244, 5, none⟩ = some (.slice A1_5 l1_5.length c1_5) := (blk_cell BK244.out 5).trans rfl
   have hfz28_0 := blk_frozen BK244.out 0
   have hfz28_1 := blk_frozen BK244.out 1
   have hfz28_2 := blk_frozen BK244.out 2
   have hfz28_3 := blk_frozen BK244.out 3
   have hfz28_4 := blk_frozen BK244.out 4
   have hfz28_5 := blk_frozen BK244.out 5
   go_wp2
   repeat (go_quiet (fail); try go_wp2)
   go_meet
   case rel => exact ⟨_, (true), (by first | rfl | (simp; done) | (simp [*]; done)), H', ⟨by first | omega | exact Nat.le_refl _⟩, ⟨by (with_reducible repeat (first | refine blk_drewN ?_ _ | refine blk_drew ?_ | refine blk_alloc ?_ _)); exact BK243.out⟩, ⟨by (with_reducible repeat (first | refine blk_drewN ?_ _ | refine blk_drew ?_ | refine blk_alloc ?_ _)); exact BK244.out⟩, ⟨by repeat (first | (with_reducible first | exact HB.out | apply below_alloc | apply pw_below_drewN | apply below_drew1 | refine below_set ?_ GE243.out | refine below_set ?_ GE244.out) | exact HB.out)⟩⟩
 case rest =>
  clear HC3
  try clear c1
  try clear c2
  try clear p2
  try clear c6
  try clear c6b0
  try clear c6b1
  try clear c7
  try clear c7b0
  try clear c7b1
  try clear c8
  try clear c8b0
  try clear c8b1
  try clear c9
  try clear c9b0
  try clear c9b1
  try clear c10
  try clear c10b0
  try clear c10b1
  try clear c11
  try clear c12
  try clear c14
  try clear c17
  try clear c20
  try clear c23
  try clear c26
  try clear hcz12_0
  try clear hcz12_1
  try clear hcz12_2
  try clear hcz12_3
  try clear hcz12_4
  try clear hcz12_5
  try clear hcz13_0
  try clear hcz13_1
  try clear hcz13_2
  try clear hcz13_3
  try clear hcz13_4
  try clear hcz13_5
  try clear hcz15_0
  try clear hcz15_1
  try clear hcz15_2
  try clear hcz15_3
  try clear hcz15_4
  try clear hcz15_5
  try clear hcz16_0
  try clear hcz16_1
  try clear hcz16_2
  try clear hcz16_3
  try clear hcz16_4
  try clear hcz16_5
  try clear hcz18_0
  try clear hcz18_1
  try clear hcz18_2
  try clear hcz18_3
  try clear hcz18_4
  try clear hcz18_5
  try clear hcz19_0
  try clear hcz19_1
  try clear hcz19_2
  try clear hcz19_3
  try clear hcz19_4
  try clear hcz19_5
  try clear hcz21_0
  try clear hcz21_1
  try clear hcz21_2
  try clear hcz21_3
  try clear hcz21_4
  try clear hcz21_5
  try clear hcz22_0
  try clear hcz22_1
  try clear hcz22_2
  try clear hcz22_3
  try clear hcz22_4
  try clear hcz22_5
  try clear hcz24_0
  try clear hcz24_1
  try clear hcz24_2
  try clear hcz24_3
  try clear hcz24_4
  try clear hcz24_5
  try clear hcz25_0
  try clear hcz25_1
  try clear hcz25_2
  try clear hcz25_3
  try clear hcz25_4
  try clear hcz25_5
  try clear hcz27_0
  try clear hcz27_1
  try clear hcz27_2
  try clear hcz27_3
  try clear hcz27_4
  try clear hcz27_5
  try clear hcz28_0
  try clear hcz28_1
  try clear hcz28_2
  try clear hcz28_3
  try clear hcz28_4
  try clear hcz28_5
  try clear hfz12_0
  try clear hfz12_1
  try clear hfz12_2
  try clear hfz12_3
  try clear hfz12_4
  try clear hfz12_5
  try clear hfz13_0
  try clear hfz13_1
  try clear hfz13_2
  try clear hfz13_3
  try clear hfz13_4
  try clear hfz13_5
  try clear hfz15_0
  try clear hfz15_1
  try clear hfz15_2
  try clear hfz15_3
  try clear hfz15_4
  try clear hfz15_5
  try clear hfz16_0
  try clear hfz16_1
  try clear hfz16_2
  try clear hfz16_3
  try clear hfz16_4
  try clear hfz16_5
  try clear hfz18_0
  try clear hfz18_1
  try clear hfz18_2
  try clear hfz18_3
  try clear hfz18_4
  try clear hfz18_5
  try clear hfz19_0
  try clear hfz19_1
  try clear hfz19_2
  try clear hfz19_3
  try clear hfz19_4
  try clear hfz19_5
  try clear hfz21_0
  try clear hfz21_1
  try clear hfz21_2
  try clear hfz21_3
  try clear hfz21_4
  try clear hfz21_5
  try clear hfz22_0
  try clear hfz22_1
  try clear hfz22_2
  try clear hfz22_3
  try clear hfz22_4
  try clear hfz22_5
  try clear hfz24_0
  try clear hfz24_1
  try clear hfz24_2
  try clear hfz24_3
  try clear hfz24_4
  try clear hfz24_5
  try clear hfz25_0
  try clear hfz25_1
  try clear hfz25_2
  try clear hfz25_3
  try clear hfz25_4
  try clear hfz25_5
  try clear hfz27_0
  try clear hfz27_1
  try clear hfz27_2
  try clear hfz27_3
  try clear hfz27_4
  try clear hfz27_5
  try clear hfz28_0
  try clear hfz28_1
  try clear hfz28_2
  try clear hfz28_3
  try clear hfz28_4
  try clear hfz28_5
  obtain ⟨kq, x48_2, rfl, HA, HJ2, BK243, BK244, HB⟩ := hcut
  cases kq with
  | zero => exact absurd HA.out (by simp [concordancelaw07_same.j0])
  | succ kj2 =>
   have H := HA.out
   clear HA
   simp only [concordancelaw07_same.j0] at H
   by_cases c29 : x48_2 = true
   ·subst c29
    have H1 : (some false) = some r := by rw [if_pos rfl] at H; exact H
    clear H
    have H := H1
    clear H1
    obtain rfl := Option.some.inj H
    go_wp2
    repeat (go_quiet (fail); try go_wp2)
    go_ret
    exact ⟨by first | rfl | (simp [errW_none, errW_some] <;> rfl) | (simp [*, errW_none, errW_some] <;> rfl), by repeat (first | (with_reducible first | exact HB.out | apply below_alloc | apply pw_below_drewN | apply below_drew1 | refine below_set ?_ GE243.out | refine below_set ?_ GE244.out) | exact HB.out)⟩
   ·replace c29 := Bool.eq_false_iff.mpr c29
    subst c29
    have H1 : (concordancelaw07_same.l0 kj2 0 a0_0 a0_1 a0_2 a0_3 a0_4 l0_5 a1_0 a1_1 a1_2 a1_3 a1_4 l1_5) = some r := by rw [if_neg (show ¬ (false = true) by decide)] at H; exact H
    clear H
    have H := H1
    clear H1
    have H' := Aside0.mk H
    clear H
    go_wp2
    repeat (go_quiet (fail); try go_wp2)
    go_loopg [5] kj2 (fun kq v5 w' => ∃ (x5_2 : Int), v5 = .int .i64 x5_2 ∧ Aside0 (concordancelaw07_same.l0 kq x5_2 a0_0 a0_1 a0_2 a0_3 a0_4 l0_5 a1_0 a1_1 a1_2 a1_3 a1_4 l1_5 = some r) ∧ Aside0 (kq ≤ kj2) ∧ Aside0 (w'.heap[gb243]? = some (.cells #[.int .i64 a0_0, .int .i64 a0_1, .int .i64 a0_2, .string a0_3, .int .i64 a0_4, (.slice A0_5 l0_5.length c0_5)] 29 (0, 0))) ∧ Aside0 (w'.heap[gb244]? = some (.cells #[.int .i64 a1_0, .int .i64 a1_1, .int .i64 a1_2, .string a1_3, .int .i64 a1_4, (.slice A1_5 l1_5.length c1_5)] 32 (0, 0))) ∧ Aside0 (Below w.heap.size w w'))
    case atStart => exact ⟨(0), (by first | rfl | (simp; done) | (simp [*]; done)), H', ⟨Nat.le_refl _⟩, ⟨by (with_reducible repeat (first | refine blk_drewN ?_ _ | refine blk_drew ?_ | refine blk_alloc ?_ _)); exact BK243.out⟩, ⟨by (with_reducible repeat (first | refine blk_drewN ?_ _ | refine blk_drew ?_ | refine blk_alloc ?_ _)); exact BK244.out⟩, ⟨by repeat (first | (with_reducible first | exact HB.out | apply below_alloc | apply pw_below_drewN | apply below_drew1 | refine below_set ?_ GE243.out | refine below_set ?_ GE244.out) | exact HB.out)⟩⟩
    case round =>
     clear H'
     try clear c1
     try clear c2
     try clear p2
     try clear c6
     try clear c6b0
     try clear c6b1
     try clear c7
     try clear c7b0
     try clear c7b1
     try clear c8
     try clear c8b0
     try clear c8b1
     try clear c9
     try clear c9b0
     try clear c9b1
     try clear c10
     try clear c10b0
     try clear c10b1
     try clear c11
     try clear c12
     try clear c14
     try clear c17
     try clear c20
     try clear c23
     try clear c26
     try clear c29
     try clear hcz12_0
     try clear hcz12_1
     try clear hcz12_2
     try clear hcz12_3
     try clear hcz12_4
     try clear hcz12_5
     try clear hcz13_0
     try clear hcz13_1
     try clear hcz13_2
     try clear hcz13_3
     try clear hcz13_4
     try clear hcz13_5
     try clear hcz15_0
     try clear hcz15_1
     try clear hcz15_2
     try clear hcz15_3
     try clear hcz15_4
     try clear hcz15_5
     try clear hcz16_0
     try clear hcz16_1
     try clear hcz16_2
     try clear hcz16_3
     try clear hcz16_4
     try clear hcz16_5
     try clear hcz18_0
     try clear hcz18_1
     try clear hcz18_2
     try clear hcz18_3
     try clear hcz18_4
     try clear hcz18_5
     try clear hcz19_0
     try clear hcz19_1
     try clear hcz19_2
     try clear hcz19_3
     try clear hcz19_4
     try clear hcz19_5
     try clear hcz21_0
     try clear hcz21_1
     try clear hcz21_2
     try clear hcz21_3
     try clear hcz21_4
     try clear hcz21_5
     try clear hcz22_0
     try clear hcz22_1
     try clear hcz22_2
     try clear hcz22_3
     try clear hcz22_4
     try clear hcz22_5
     try clear hcz24_0
     try clear hcz24_1
     try clear hcz24_2
     try clear hcz24_3
     try clear hcz24_4
     try clear hcz24_5
     try clear hcz25_0
     try clear hcz25_1
     try clear hcz25_2
     try clear hcz25_3
     try clear hcz25_4
     try clear hcz25_5
     try clear hcz27_0
     try clear hcz27_1
     try clear hcz27_2
     try clear hcz27_3
     try clear hcz27_4
     try clear hcz27_5
     try clear hcz28_0
     try clear hcz28_1
     try clear hcz28_2
     try clear hcz28_3
     try clear hcz28_4
     try clear hcz28_5
     try clear hfz12_0
     try clear hfz12_1
     try clear hfz12_2
     try clear hfz12_3
     try clear hfz12_4
     try clear hfz12_5
     try clear hfz13_0
     try clear hfz13_1
     try clear hfz13_2
     try clear hfz13_3
     try clear hfz13_4
     try clear hfz13_5
     try clear hfz15_0
     try clear hfz15_1
     try clear hfz15_2
     try clear hfz15_3
     try clear hfz15_4
     try clear hfz15_5
     try clear hfz16_0
     try clear hfz16_1
     try clear hfz16_2
     try clear hfz16_3
     try clear hfz16_4
     try clear hfz16_5
     try clear hfz18_0
     try clear hfz18_1
     try clear hfz18_2
     try clear hfz18_3
     try clear hfz18_4
     try clear hfz18_5
     try clear hfz19_0
     try clear hfz19_1
     try clear hfz19_2
     try clear hfz19_3
     try clear hfz19_4
     try clear hfz19_5
     try clear hfz21_0
     try clear hfz21_1
     try clear hfz21_2
     try clear hfz21_3
     try clear hfz21_4
     try clear hfz21_5
     try clear hfz22_0
     try clear hfz22_1
     try clear hfz22_2
     try clear hfz22_3
     try clear hfz22_4
     try clear hfz22_5
     try clear hfz24_0
     try clear hfz24_1
     try clear hfz24_2
     try clear hfz24_3
     try clear hfz24_4
     try clear hfz24_5
     try clear hfz25_0
     try clear hfz25_1
     try clear hfz25_2
     try clear hfz25_3
     try clear hfz25_4
     try clear hfz25_5
     try clear hfz27_0
     try clear hfz27_1
     try clear hfz27_2
     try clear hfz27_3
     try clear hfz27_4
     try clear hfz27_5
     try clear hfz28_0
     try clear hfz28_1
     try clear hfz28_2
     try clear hfz28_3
     try clear hfz28_4
     try clear hfz28_5
     try clear p2
     obtain ⟨x5_2, rfl, HA, HK2, BK243, BK244, HB⟩ := hrel
     cases gk with
     | zero => exact absurd HA.out (by simp [concordancelaw07_same.l0])
     | succ k2 =>
      have H := HA.out
      clear HA
      simp only [concordancelaw07_same.l0] at H
      by_cases c30 : x5_2 < (l1_5.length : Int)
      ·rw [if_pos c30] at H
       have c30b0 : decide (x5_2 < (l1_5.length : Int)) = true := decide_eq_true c30
       clear c30
       have HC31 := Aside0.mk H
       clear H
       have hnb32 := NB244_243.out
       have hnc32 := NB243_244.out
       have hcz33_0 : wr.cell? ⟨gb244, 0, none⟩ = some (.int .i64 a1_0) := (blk_cell BK244.out 0).trans rfl
       have hcz33_1 : wr.cell? ⟨gb244, 1, none⟩ = some (.int .i64 a1_1) := (blk_cell BK244.out 1).trans rfl
       have hcz33_2 : wr.cell? ⟨gb244, 2, none⟩ = some (.int .i64 a1_2) := (blk_cell BK244.out 2).trans rfl
       have hcz33_3 : wr.cell? ⟨gb244, 3, none⟩ = some (.string a1_3) := (blk_cell BK244.out 3).trans rfl
       have hcz33_4 : wr.cell? ⟨gb244, 4, none⟩ = some (.int .i64 a1_4) := (blk_cell BK244.out 4).trans rfl
       have hcz33_5 : wr.cell? ⟨gb244, 5, none⟩ = some (.slice A1_5 l1_5.length c1_5) := (blk_cell BK244.out 5).trans rfl
       have hfz33_0 := blk_frozen BK244.out 0
       have hfz33_1 := blk_frozen BK244.out 1
       have hfz33_2 := blk_frozen BK244.out 2
       have hfz33_3 := blk_frozen BK244.out 3
       have hfz33_4 := blk_frozen BK244.out 4
       have hfz33_5 := blk_frozen BK244.out 5
       go_upto_region 6 with (fail)
       repeat (go_quiet (fail); go_upto_region 6 with (fail))
       go_cut [85] (fun v85 wc => ∃ (kq : Nat) (x85_30 : Bool), v85 = .bool x85_30 ∧ Aside0 (concordancelaw07_same.j2 kq x5_2 x85_30 a0_0 a0_1 a0_2 a0_3 a0_4 l0_5 a1_0 a1_1 a1_2 a1_3 a1_4 l1_5 = some r) ∧ Aside0 (kq ≤ k2) ∧ Aside0 (wc.heap[gb243]? = some (.cells #[.int .i64 a0_0, .int .i64 a0_1, .int .i64 a0_2, .string a0_3, .int .i64 a0_4, (.slice A0_5 l0_5.length c0_5)] 29 (0, 0))) ∧ Aside0 (wc.heap[gb244]? = some (.cells #[.int .i64 a1_0, .int .i64 a1_1, .int .i64 a1_2, .string a1_3, .int .i64 a1_4, (.slice A1_5 l1_5.length c1_5)] 32 (0, 0))) ∧ Aside0 (Below w.heap.size w wc))
       case first =>
        have H := HC31.out
        clear HC31
        by_cases c34 : 0 ≤ x5_2
        ·rw [if_pos c34] at H
         have c34b0 : decide (0 ≤ x5_2) = true := decide_eq_true c34
         clear c34
         (first | rw [c34b0] | (simp only [i64_w, i32_w]; rw [c34b0]) | skip)
         by_cases c35 : x5_2 < (l0_5.length : Int)
         ·rw [if_pos c35] at H
          have c35b0 : decide (x5_2 < (l0_5.length : Int)) = true := decide_eq_true c35
          clear c35
          by_cases c36 : ((rd_T60 l0_5 x5_2).f0) = ((rd_T63 l1_5 x5_2).f0)
          ·rw [if_pos c36] at H
           have c36b0 : (((rd_T60 l0_5 x5_2).f0) == ((rd_T63 l1_5 x5_2).f0)) = true := beq_iff_eq.mpr c36
           have c36b1 : (((rd_T60 l0_5 x5_2).f0) != ((rd_T63 l1_5 x5_2).f0)) = false := bne_eq_false_iff_eq.mpr c36
           clear c36
           have H' := Aside0.mk H
           clear H
           have hnb37 := NB243_244.out
           have hnc37 := NB244_243.out
           have hcz38_0 : wr.cell? ⟨gb243, 0, none⟩ = some (.int .i64 a0_0) := (blk_cell BK243.out 0).trans rfl
           have hcz38_1 : wr.cell? ⟨gb243, 1, none⟩ = some (.int .i64 a0_1) := (blk_cell BK243.out 1).trans rfl
           have hcz38_2 : wr.cell? ⟨gb243, 2, none⟩ = some (.int .i64 a0_2) := (blk_cell BK243.out 2).trans rfl
           have hcz38_3 : wr.cell? ⟨gb243, 3, none⟩ = some (.string a0_3) := (blk_cell BK243.out 3).trans rfl
           have hcz38_4 : wr.cell? ⟨gb243, 4, none⟩ = some (.int .i64 a0_4) := (blk_cell BK243.out 4).trans rfl
           have hcz38_5 : wr.cell? ⟨gb243, 5, none⟩ = some (.slice A0_5 l0_5.length c0_5) := (blk_cell BK243.out 5).trans rfl
           have hfz38_0 := blk_frozen BK243.out 0
           have hfz38_1 := blk_frozen BK243.out 1
           have hfz38_2 := blk_frozen BK243.out 2
           have hfz38_3 := blk_frozen BK243.out 3
           have hfz38_4 := blk_frozen BK243.out 4
           have hfz38_5 := blk_frozen BK243.out 5
           have p245 : 0 ≤ (x5_2 : Int) := of_decide_eq_true (by first | (with_reducible assumption) | assumption)
           have q245 : x5_2 < (l0_5.length : Int) := of_decide_eq_true (by first | (with_reducible assumption) | assumption)
           obtain ⟨ad245, A245_1, c245_1, e245, hx245_0, hx245_1, hl245_1, hi245_1⟩ := at_T60 HR0_5.out x5_2 p245 q245
           cases e245
           replace hx245_0 := (HB.out.cell (World.block_lt_of_cell? w _ hx245_0)).trans hx245_0
           replace hx245_1 := (HB.out.cell (World.block_lt_of_cell? w _ hx245_1)).trans hx245_1
           have HR245_1 := Aside0.mk hi245_1
           have HC245_1 := Aside0.mk hl245_1
           clear hi245_1 hl245_1
           replace p245 := eq_true p245
           replace q245 := eq_true q245
           have hcz39_0 : wr.cell? ⟨gb244, 0, none⟩ = some (.int .i64 a1_0) := (blk_cell BK244.out 0).trans rfl
           have hcz39_1 : wr.cell? ⟨gb244, 1, none⟩ = some (.int .i64 a1_1) := (blk_cell BK244.out 1).trans rfl
           have hcz39_2 : wr.cell? ⟨gb244, 2, none⟩ = some (.int .i64 a1_2) := (blk_cell BK244.out 2).trans rfl
           have hcz39_3 : wr.cell? ⟨gb244, 3, none⟩ = some (.string a1_3) := (blk_cell BK244.out 3).trans rfl
           have hcz39_4 : wr.cell? ⟨gb244, 4, none⟩ = some (.int .i64 a1_4) := (blk_cell BK244.out 4).trans rfl
           have hcz39_5 : wr.cell? ⟨gb244, 5, none⟩ = some (.slice A1_5 l1_5.length c1_5) := (blk_cell BK244.out 5).trans rfl
           have hfz39_0 := blk_frozen BK244.out 0
           have hfz39_1 := blk_frozen BK244.out 1
           have hfz39_2 := blk_frozen BK244.out 2
           have hfz39_3 := blk_frozen BK244.out 3
           have hfz39_4 := blk_frozen BK244.out 4
           have hfz39_5 := blk_frozen BK244.out 5
           have p246 : 0 ≤ (x5_2 : Int) := of_decide_eq_true (by first | (with_reducible assumption) | assumption)
           have q246 : x5_2 < (l1_5.length : Int) := of_decide_eq_true (by first | (with_reducible assumption) | assumption)
           obtain ⟨ad246, A246_1, c246_1, e246, hx246_0, hx246_1, hl246_1, hi246_1⟩ := at_T63 HR1_5.out x5_2 p246 q246
           cases e246
           replace hx246_0 := (HB.out.cell (World.block_lt_of_cell? w _ hx246_0)).trans hx246_0
           replace hx246_1 := (HB.out.cell (World.block_lt_of_cell? w _ hx246_1)).trans hx246_1
           have HR246_1 := Aside0.mk hi246_1
           have HC246_1 := Aside0.mk hl246_1
           clear hi246_1 hl246_1
           replace p246 := eq_true p246
           replace q246 := eq_true q246
           have p247 : 0 ≤ (x5_2 : Int) := of_decide_eq_true (by first | (with_reducible assumption) | assumption)
           have q247 : x5_2 < (l0_5.length : Int) := of_decide_eq_true (by first | (with_reducible assumption) | assumption)
           obtain ⟨ad247, A247_1, c247_1, e247, hx247_0, hx247_1, hl247_1, hi247_1⟩ := at_T60 HR0_5.out x5_2 p247 q247
           obtain rfl : ad245 = ad247 := (by injection e247)
           replace hx247_0 := (HB.out.cell (World.block_lt_of_cell? w _ hx247_0)).trans hx247_0
           replace hx247_1 := (HB.out.cell (World.block_lt_of_cell? w _ hx247_1)).trans hx247_1
           have HR247_1 := Aside0.mk hi247_1
           have HC247_1 := Aside0.mk hl247_1
           clear hi247_1 hl247_1
           replace p247 := eq_true p247
           replace q247 := eq_true q247
           have ea_ := Option.some.inj (hx245_1.symm.trans hx247_1)
           injection ea_ with ea_ en_ ec_
           subst ea_
           subst ec_
           clear en_
           have p248 : 0 ≤ (x5_2 : Int) := of_decide_eq_true (by first | (with_reducible assumption) | assumption)
           have q248 : x5_2 < (l1_5.length : Int) := of_decide_eq_true (by first | (with_reducible assumption) | assumption)
           obtain ⟨ad248, A248_1, c248_1, e248, hx248_0, hx248_1, hl248_1, hi248_1⟩ := at_T63 HR1_5.out x5_2 p248 q248
           obtain rfl : ad246 = ad248 := (by injection e248)
           replace hx248_0 := (HB.out.cell (World.block_lt_of_cell? w _ hx248_0)).trans hx248_0
           replace hx248_1 := (HB.out.cell (World.block_lt_of_cell? w _ hx248_1)).trans hx248_1
           have HR248_1 := Aside0.mk hi248_1
           have HC248_1 := Aside0.mk hl248_1
           clear hi248_1 hl248_1
           replace p248 := eq_true p248
           replace q248 := eq_true q248
           have ea_ := Option.some.inj (hx246_1.symm.trans hx248_1)
           injection ea_ with ea_ en_ ec_
           subst ea_
           subst ec_
           clear en_
           go_wp2
           repeat (go_quiet (fail); try go_wp2)
           go_meet
           case rel => exact ⟨_, (((((rd_T60 l0_5 x5_2).f1).length : Int) != (((rd_T63 l1_5 x5_2).f1).length : Int))), (by first | rfl | (simp; done) | (simp [*]; done)), H', ⟨by have := HJ2.out; have := HK2.out; first | omega | exact Nat.le_refl _⟩, ⟨by (with_reducible repeat (first | refine blk_drewN ?_ _ | refine blk_drew ?_ | refine blk_alloc ?_ _)); exact BK243.out⟩, ⟨by (with_reducible repeat (first | refine blk_drewN ?_ _ | refine blk_drew ?_ | refine blk_alloc ?_ _)); exact BK244.out⟩, ⟨by repeat (first | (with_reducible first | exact HB.out | apply below_alloc | apply pw_below_drewN | apply below_drew1 | refine below_set ?_ GE243.out | refine below_set ?_ GE244.out) | exact HB.out)⟩⟩
          ·rw [if_neg c36] at H
           have c36b0 : (((rd_T60 l0_5 x5_2).f0) == ((rd_T63 l1_5 x5_2).f0)) = false := beq_eq_false_iff_ne.mpr c36
           have c36b1 : (((rd_T60 l0_5 x5_2).f0) != ((rd_T63 l1_5 x5_2).f0)) = true := bne_iff_ne.mpr c36
           have H' := Aside0.mk H
           clear H
           have hnb40 := NB243_244.out
           have hnc40 := NB244_243.out
           have hcz41_0 : wr.cell? ⟨gb243, 0, none⟩ = some (.int .i64 a0_0) := (blk_cell BK243.out 0).trans rfl
           have hcz41_1 : wr.cell? ⟨gb243, 1, none⟩ = some (.int .i64 a0_1) := (blk_cell BK243.out 1).trans rfl
           have hcz41_2 : wr.cell? ⟨gb243, 2, none⟩ = some (.int .i64 a0_2) := (blk_cell BK243.out 2).trans rfl
           have hcz41_3 : wr.cell? ⟨gb243, 3, none⟩ = some (.string a0_3) := (blk_cell BK243.out 3).trans rfl
           have hcz41_4 : wr.cell? ⟨gb243, 4, none⟩ = some (.int .i64 a0_4) := (blk_cell BK243.out 4).trans rfl
           have hcz41_5 : wr.cell? ⟨gb243, 5, none⟩ = some (.slice A0_5 l0_5.length c0_5) := (blk_cell BK243.out 5).trans rfl
           have hfz41_0 := blk_frozen BK243.out 0
           have hfz41_1 := blk_frozen BK243.out 1
           have hfz41_2 := blk_frozen BK243.out 2
           have hfz41_3 := blk_frozen BK243.out 3
           have hfz41_4 := blk_frozen BK243.out 4
           have hfz41_5 := blk_frozen BK243.out 5
           have p245 : 0 ≤ (x5_2 : Int) := of_decide_eq_true (by first | (with_reducible assumption) | assumption)
           have q245 : x5_2 < (l0_5.length : Int) := of_decide_eq_true (by first | (with_reducible assumption) | assumption)
           obtain ⟨ad245, A245_1, c245_1, e245, hx245_0, hx245_1, hl245_1, hi245_1⟩ := at_T60 HR0_5.out x5_2 p245 q245
           cases e245
           replace hx245_0 := (HB.out.cell (World.block_lt_of_cell? w _ hx245_0)).trans hx245_0
           replace hx245_1 := (HB.out.cell (World.block_lt_of_cell? w _ hx245_1)).trans hx245_1
           have HR245_1 := Aside0.mk hi245_1
           have HC245_1 := Aside0.mk hl245_1
           clear hi245_1 hl245_1
           replace p245 := eq_true p245
           replace q245 := eq_true q245
           have hcz42_0 : wr.cell? ⟨gb244, 0, none⟩ = some (.int .i64 a1_0) := (blk_cell BK244.out 0).trans rfl
           have hcz42_1 : wr.cell? ⟨gb244, 1, none⟩ = some (.int .i64 a1_1) := (blk_cell BK244.out 1).trans rfl
           have hcz42_2 : wr.cell? ⟨gb244, 2, none⟩ = some (.int .i64 a1_2) := (blk_cell BK244.out 2).trans rfl
           have hcz42_3 : wr.cell? ⟨gb244, 3, none⟩ = some (.string a1_3) := (blk_cell BK244.out 3).trans rfl
           have hcz42_4 : wr.cell? ⟨gb244, 4, none⟩ = some (.int .i64 a1_4) := (blk_cell BK244.out 4).trans rfl
           have hcz42_5 : wr.cell? ⟨gb244, 5, none⟩ = some (.slice A1_5 l1_5.length c1_5) := (blk_cell BK244.out 5).trans rfl
           have hfz42_0 := blk_frozen BK244.out 0
           have hfz42_1 := blk_frozen BK244.out 1
           have hfz42_2 := blk_frozen BK244.out 2
           have hfz42_3 := blk_frozen BK244.out 3
           have hfz42_4 := blk_frozen BK244.out 4
           have hfz42_5 := blk_frozen BK244.out 5
           have p246 : 0 ≤ (x5_2 : Int) := of_decide_eq_true (by first | (with_reducible assumption) | assumption)
           have q246 : x5_2 < (l1_5.length : Int) := of_decide_eq_true (by first | (with_reducible assumption) | assumption)
           obtain ⟨ad246, A246_1, c246_1, e246, hx246_0, hx246_1, hl246_1, hi246_1⟩ := at_T63 HR1_5.out x5_2 p246 q246
           cases e246
           replace hx246_0 := (HB.out.cell (World.block_lt_of_cell? w _ hx246_0)).trans hx246_0
           replace hx246_1 := (HB.out.cell (World.block_lt_of_cell? w _ hx246_1)).trans hx246_1
           have HR246_1 := Aside0.mk hi246_1
           have HC246_1 := Aside0.mk hl246_1
           clear hi246_1 hl246_1
           replace p246 := eq_true p246
           replace q246 := eq_true q246
           go_wp2
           repeat (go_quiet (fail); try go_wp2)
           go_meet
           case rel => exact ⟨_, (true), (by first | rfl | (simp; done) | (simp [*]; done)), H', ⟨by have := HJ2.out; have := HK2.out; first | omega | exact Nat.le_refl _⟩, ⟨by (with_reducible repeat (first | refine blk_drewN ?_ _ | refine blk_drew ?_ | refine blk_alloc ?_ _)); exact BK243.out⟩, ⟨by (with_reducible repeat (first | refine blk_drewN ?_ _ | refine blk_drew ?_ | refine blk_alloc ?_ _)); exact BK244.out⟩, ⟨by repeat (first | (with_reducible first | exact HB.out | apply below_alloc | apply pw_below_drewN | apply below_drew1 | refine below_set ?_ GE243.out | refine below_set ?_ GE244.out) | exact HB.out)⟩⟩
         ·rw [if_neg c35] at H
          exact absurd H (by simp)
        ·rw [if_neg c34] at H
         exact absurd H (by simp)
       case rest =>
        clear HC31
        try clear c1
        try clear c2
        try clear p2
        try clear q2
        try clear hx2
        try clear c3
        try clear c4
        try clear c6
        try clear c6b0
        try clear c6b1
        try clear c7
        try clear c7b0
        try clear c7b1
        try clear c8
        try clear c8b0
        try clear c8b1
        try clear c9
        try clear c9b0
        try clear c9b1
        try clear c10
        try clear c10b0
        try clear c10b1
        try clear c11
        try clear c12
        try clear c14
        try clear c17
        try clear c20
        try clear c23
        try clear c24
        try clear p24
        try clear q24
        try clear hx24
        try clear c26
        try clear c29
        try clear c30
        try clear c30b0
        try clear c32
        try clear c34
        try clear c34b0
        try clear c35
        try clear c35b0
        try clear c36
        try clear c36b0
        try clear c36b1
        try clear c37
        try clear c40
        try clear hcz12_0
        try clear hcz12_1
        try clear hcz12_2
        try clear hcz12_3
        try clear hcz12_4
        try clear hcz12_5
        try clear hcz13_0
        try clear hcz13_1
        try clear hcz13_2
        try clear hcz13_3
        try clear hcz13_4
        try clear hcz13_5
        try clear hcz15_0
        try clear hcz15_1
        try clear hcz15_2
        try clear hcz15_3
        try clear hcz15_4
        try clear hcz15_5
        try clear hcz16_0
        try clear hcz16_1
        try clear hcz16_2
        try clear hcz16_3
        try clear hcz16_4
        try clear hcz16_5
        try clear hcz18_0
        try clear hcz18_1
        try clear hcz18_2
        try clear hcz18_3
        try clear hcz18_4
        try clear hcz18_5
        try clear hcz19_0
        try clear hcz19_1
        try clear hcz19_2
        try clear hcz19_3
        try clear hcz19_4
        try clear hcz19_5
        try clear hcz21_0
        try clear hcz21_1
        try clear hcz21_2
        try clear hcz21_3
        try clear hcz21_4
        try clear hcz21_5
        try clear hcz22_0
        try clear hcz22_1
        try clear hcz22_2
        try clear hcz22_3
        try clear hcz22_4
        try clear hcz22_5
        try clear hcz24_0
        try clear hcz24_1
        try clear hcz24_2
        try clear hcz24_3
        try clear hcz24_4
        try clear hcz24_5
        try clear hcz25_0
        try clear hcz25_1
        try clear hcz25_2
        try clear hcz25_3
        try clear hcz25_4
        try clear hcz25_5
        try clear hcz27_0
        try clear hcz27_1
        try clear hcz27_2
        try clear hcz27_3
        try clear hcz27_4
        try clear hcz27_5
        try clear hcz28_0
        try clear hcz28_1
        try clear hcz28_2
        try clear hcz28_3
        try clear hcz28_4
        try clear hcz28_5
        try clear hcz33_0
        try clear hcz33_1
        try clear hcz33_2
        try clear hcz33_3
        try clear hcz33_4
        try clear hcz33_5
        try clear hcz38_0
        try clear hcz38_1
        try clear hcz38_2
        try clear hcz38_3
        try clear hcz38_4
        try clear hcz38_5
        try clear hcz39_0
        try clear hcz39_1
        try clear hcz39_2
        try clear hcz39_3
        try clear hcz39_4
        try clear hcz39_5
        try clear hcz41_0
        try clear hcz41_1
        try clear hcz41_2
        try clear hcz41_3
        try clear hcz41_4
        try clear hcz41_5
        try clear hcz42_0
        try clear hcz42_1
        try clear hcz42_2
        try clear hcz42_3
        try clear hcz42_4
        try clear hcz42_5
        try clear hfz12_0
        try clear hfz12_1
        try clear hfz12_2
        try clear hfz12_3
        try clear hfz12_4
        try clear hfz12_5
        try clear hfz13_0
        try clear hfz13_1
        try clear hfz13_2
        try clear hfz13_3
        try clear hfz13_4
        try clear hfz13_5
        try clear hfz15_0
        try clear hfz15_1
        try clear hfz15_2
        try clear hfz15_3
        try clear hfz15_4
        try clear hfz15_5
        try clear hfz16_0
        try clear hfz16_1
        try clear hfz16_2
        try clear hfz16_3
        try clear hfz16_4
        try clear hfz16_5
        try clear hfz18_0
        try clear hfz18_1
        try clear hfz18_2
        try clear hfz18_3
        try clear hfz18_4
        try clear hfz18_5
        try clear hfz19_0
        try clear hfz19_1
        try clear hfz19_2
        try clear hfz19_3
        try clear hfz19_4
        try clear hfz19_5
        try clear hfz21_0
        try clear hfz21_1
        try clear hfz21_2
        try clear hfz21_3
        try clear hfz21_4
        try clear hfz21_5
        try clear hfz22_0
        try clear hfz22_1
        try clear hfz22_2
        try clear hfz22_3
        try clear hfz22_4
        try clear hfz22_5
        try clear hfz24_0
        try clear hfz24_1
        try clear hfz24_2
        try clear hfz24_3
        try clear hfz24_4
        try clear hfz24_5
        try clear hfz25_0
        try clear hfz25_1
        try clear hfz25_2
        try clear hfz25_3
        try clear hfz25_4
        try clear hfz25_5
        try clear hfz27_0
        try clear hfz27_1
        try clear hfz27_2
        try clear hfz27_3
        try clear hfz27_4
        try clear hfz27_5
        try clear hfz28_0
        try clear hfz28_1
        try clear hfz28_2
        try clear hfz28_3
        try clear hfz28_4
        try clear hfz28_5
        try clear hfz33_0
        try clear hfz33_1
        try clear hfz33_2
        try clear hfz33_3
        try clear hfz33_4
        try clear hfz33_5
        try clear hfz38_0
        try clear hfz38_1
        try clear hfz38_2
        try clear hfz38_3
        try clear hfz38_4
        try clear hfz38_5
        try clear hfz39_0
        try clear hfz39_1
        try clear hfz39_2
        try clear hfz39_3
        try clear hfz39_4
        try clear hfz39_5
        try clear hfz41_0
        try clear hfz41_1
        try clear hfz41_2
        try clear hfz41_3
        try clear hfz41_4
        try clear hfz41_5
        try clear hfz42_0
        try clear hfz42_1
        try clear hfz42_2
        try clear hfz42_3
        try clear hfz42_4
        try clear hfz42_5
        try clear hx245_0
        try clear hx245_1
        try clear hx246_0
        try clear hx246_1
        try clear hx247_0
        try clear hx247_1
        try clear hx248_0
        try clear hx248_1
        try clear p2
        try clear p245
        try clear p246
        try clear p247
        try clear p248
        try clear q245
        try clear q246
        try clear q247
        try clear q248
        obtain ⟨kq, x85_30, rfl, HA, HJ30, BK243, BK244, HB⟩ := hcut
        cases kq with
        | zero => exact absurd HA.out (by simp [concordancelaw07_same.j2])
        | succ kj30 =>
         have H := HA.out
         clear HA
         simp only [concordancelaw07_same.j2] at H
         by_cases c43 : x85_30 = true
         ·subst c43
          have H1 : (some false) = some r := by rw [if_pos rfl] at H; exact H
          clear H
          have H := H1
          clear H1
          obtain rfl := Option.some.inj H
          go_wp2
          repeat (go_quiet (fail); try go_wp2)
          go_ret
          exact ⟨by first | rfl | (simp [errW_none, errW_some] <;> rfl) | (simp [*, errW_none, errW_some] <;> rfl), by repeat (first | (with_reducible first | exact HB.out | apply below_alloc | apply pw_below_drewN | apply below_drew1 | refine below_set ?_ GE243.out | refine below_set ?_ GE244.out) | exact HB.out)⟩
         ·replace c43 := Bool.eq_false_iff.mpr c43
          subst c43
          have H1 : (concordancelaw07_same.l1 kj30 x5_2 0 a0_0 a0_1 a0_2 a0_3 a0_4 l0_5 a1_0 a1_1 a1_2 a1_3 a1_4 l1_5) = some r := by rw [if_neg (show ¬ (false = true) by decide)] at H; exact H
          clear H
          have H := H1
          clear H1
          have H' := Aside0.mk H
          clear H
          go_wp2
          repeat (go_quiet (fail); try go_wp2)
          go_loopg [6] kj30 (fun kq v6 w' => ∃ (x6_4 : Int), v6 = .int .i64 x6_4 ∧ Aside0 (concordancelaw07_same.l1 kq x5_2 x6_4 a0_0 a0_1 a0_2 a0_3 a0_4 l0_5 a1_0 a1_1 a1_2 a1_3 a1_4 l1_5 = some r) ∧ Aside0 (kq ≤ kj30) ∧ Aside0 (w'.heap[gb243]? = some (.cells #[.int .i64 a0_0, .int .i64 a0_1, .int .i64 a0_2, .string a0_3, .int .i64 a0_4, (.slice A0_5 l0_5.length c0_5)] 29 (0, 0))) ∧ Aside0 (w'.heap[gb244]? = some (.cells #[.int .i64 a1_0, .int .i64 a1_1, .int .i64 a1_2, .string a1_3, .int .i64 a1_4, (.slice A1_5 l1_5.length c1_5)] 32 (0, 0))) ∧ Aside0 (Below w.heap.size w w'))
          case atStart => exact ⟨(0), (by first | rfl | (simp; done) | (simp [*]; done)), H', ⟨Nat.le_refl _⟩, ⟨by (with_reducible repeat (first | refine blk_drewN ?_ _ | refine blk_drew ?_ | refine blk_alloc ?_ _)); exact BK243.out⟩, ⟨by (with_reducible repeat (first | refine blk_drewN ?_ _ | refine blk_drew ?_ | refine blk_alloc ?_ _)); exact BK244.out⟩, ⟨by repeat (first | (with_reducible first | exact HB.out | apply below_alloc | apply pw_below_drewN | apply below_drew1 | refine below_set ?_ GE243.out | refine below_set ?_ GE244.out) | exact HB.out)⟩⟩
          case round =>
           clear H'
           try clear c1
           try clear c2
           try clear p2
           try clear q2
           try clear hx2
           try clear c3
           try clear c4
           try clear c6
           try clear c6b0
           try clear c6b1
           try clear c7
           try clear c7b0
           try clear c7b1
           try clear c8
           try clear c8b0
           try clear c8b1
           try clear c9
           try clear c9b0
           try clear c9b1
           try clear c10
           try clear c10b0
           try clear c10b1
           try clear c11
           try clear c12
           try clear c14
           try clear c17
           try clear c20
           try clear c23
           try clear c24
           try clear p24
           try clear q24
           try clear hx24
           try clear c26
           try clear c29
           try clear c30
           try clear c30b0
           try clear c32
           try clear c34
           try clear c34b0
           try clear c35
           try clear c35b0
           try clear c36
           try clear c36b0
           try clear c36b1
           try clear c37
           try clear c40
           try clear c43
           try clear hcz12_0
           try clear hcz12_1
           try clear hcz12_2
           try clear hcz12_3
           try clear hcz12_4
           try clear hcz12_5
           try clear hcz13_0
           try clear hcz13_1
           try clear hcz13_2
           try clear hcz13_3
           try clear hcz13_4
           try clear hcz13_5
           try clear hcz15_0
           try clear hcz15_1
           try clear hcz15_2
           try clear hcz15_3
           try clear hcz15_4
           try clear hcz15_5
           try clear hcz16_0
           try clear hcz16_1
           try clear hcz16_2
           try clear hcz16_3
           try clear hcz16_4
           try clear hcz16_5
           try clear hcz18_0
           try clear hcz18_1
           try clear hcz18_2
           try clear hcz18_3
           try clear hcz18_4
           try clear hcz18_5
           try clear hcz19_0
           try clear hcz19_1
           try clear hcz19_2
           try clear hcz19_3
           try clear hcz19_4
           try clear hcz19_5
           try clear hcz21_0
           try clear hcz21_1
           try clear hcz21_2
           try clear hcz21_3
           try clear hcz21_4
           try clear hcz21_5
           try clear hcz22_0
           try clear hcz22_1
           try clear hcz22_2
           try clear hcz22_3
           try clear hcz22_4
           try clear hcz22_5
           try clear hcz24_0
           try clear hcz24_1
           try clear hcz24_2
           try clear hcz24_3
           try clear hcz24_4
           try clear hcz24_5
           try clear hcz25_0
           try clear hcz25_1
           try clear hcz25_2
           try clear hcz25_3
           try clear hcz25_4
           try clear hcz25_5
           try clear hcz27_0
           try clear hcz27_1
           try clear hcz27_2
           try clear hcz27_3
           try clear hcz27_4
           try clear hcz27_5
           try clear hcz28_0
           try clear hcz28_1
           try clear hcz28_2
           try clear hcz28_3
           try clear hcz28_4
           try clear hcz28_5
           try clear hcz33_0
           try clear hcz33_1
           try clear hcz33_2
           try clear hcz33_3
           try clear hcz33_4
           try clear hcz33_5
           try clear hcz38_0
           try clear hcz38_1
           try clear hcz38_2
           try clear hcz38_3
           try clear hcz38_4
           try clear hcz38_5
           try clear hcz39_0
           try clear hcz39_1
           try clear hcz39_2
           try clear hcz39_3
           try clear hcz39_4
           try clear hcz39_5
           try clear hcz41_0
           try clear hcz41_1
           try clear hcz41_2
           try clear hcz41_3
           try clear hcz41_4
           try clear hcz41_5
           try clear hcz42_0
           try clear hcz42_1
           try clear hcz42_2
           try clear hcz42_3
           try clear hcz42_4
           try clear hcz42_5
           try clear hfz12_0
           try clear hfz12_1
           try clear hfz12_2
           try clear hfz12_3
           try clear hfz12_4
           try clear hfz12_5
           try clear hfz13_0
           try clear hfz13_1
           try clear hfz13_2
           try clear hfz13_3
           try clear hfz13_4
           try clear hfz13_5
           try clear hfz15_0
           try clear hfz15_1
           try clear hfz15_2
           try clear hfz15_3
           try clear hfz15_4
           try clear hfz15_5
           try clear hfz16_0
           try clear hfz16_1
           try clear hfz16_2
           try clear hfz16_3
           try clear hfz16_4
           try clear hfz16_5
           try clear hfz18_0
           try clear hfz18_1
           try clear hfz18_2
           try clear hfz18_3
           try clear hfz18_4
           try clear hfz18_5
           try clear hfz19_0
           try clear hfz19_1
           try clear hfz19_2
           try clear hfz19_3
           try clear hfz19_4
           try clear hfz19_5
           try clear hfz21_0
           try clear hfz21_1
           try clear hfz21_2
           try clear hfz21_3
           try clear hfz21_4
           try clear hfz21_5
           try clear hfz22_0
           try clear hfz22_1
           try clear hfz22_2
           try clear hfz22_3
           try clear hfz22_4
           try clear hfz22_5
           try clear hfz24_0
           try clear hfz24_1
           try clear hfz24_2
           try clear hfz24_3
           try clear hfz24_4
           try clear hfz24_5
           try clear hfz25_0
           try clear hfz25_1
           try clear hfz25_2
           try clear hfz25_3
           try clear hfz25_4
           try clear hfz25_5
           try clear hfz27_0
           try clear hfz27_1
           try clear hfz27_2
           try clear hfz27_3
           try clear hfz27_4
           try clear hfz27_5
           try clear hfz28_0
           try clear hfz28_1
           try clear hfz28_2
           try clear hfz28_3
           try clear hfz28_4
           try clear hfz28_5
           try clear hfz33_0
           try clear hfz33_1
           try clear hfz33_2
           try clear hfz33_3
           try clear hfz33_4
           try clear hfz33_5
           try clear hfz38_0
           try clear hfz38_1
           try clear hfz38_2
           try clear hfz38_3
           try clear hfz38_4
           try clear hfz38_5
           try clear hfz39_0
           try clear hfz39_1
           try clear hfz39_2
           try clear hfz39_3
           try clear hfz39_4
           try clear hfz39_5
           try clear hfz41_0
           try clear hfz41_1
           try clear hfz41_2
           try clear hfz41_3
           try clear hfz41_4
           try clear hfz41_5
           try clear hfz42_0
           try clear hfz42_1
           try clear hfz42_2
           try clear hfz42_3
           try clear hfz42_4
           try clear hfz42_5
           try clear hx245_0
           try clear hx245_1
           try clear hx246_0
           try clear hx246_1
           try clear hx247_0
           try clear hx247_1
           try clear hx248_0
           try clear hx248_1
           try clear p2
           try clear p24
           try clear p245
           try clear p246
           try clear p247
           try clear p248
           try clear q2
           try clear q24
           try clear q245
           try clear q246
           try clear q247
           try clear q248
           obtain ⟨x6_4, rfl, HA, HK4, BK243, BK244, HB⟩ := hrel
           cases gk with
           | zero => exact absurd HA.out (by simp [concordancelaw07_same.l1])
           | succ k4 =>
            have H := HA.out
            clear HA
            simp only [concordancelaw07_same.l1] at H
            by_cases c44 : 0 ≤ x5_2
            ·rw [if_pos c44] at H
             have c44b0 : decide (0 ≤ x5_2) = true := decide_eq_true c44
             clear c44
             by_cases c45 : x5_2 < (l1_5.length : Int)
             ·rw [if_pos c45] at H
              have c45b0 : decide (x5_2 < (l1_5.length : Int)) = true := decide_eq_true c45
              clear c45
              by_cases c46 : x6_4 < (((rd_T63 l1_5 x5_2).f1).length : Int)
              ·rw [if_pos c46] at H
               have c46b0 : decide (x6_4 < (((rd_T63 l1_5 x5_2).f1).length : Int)) = true := decide_eq_true c46
               clear c46
               by_cases c47 : x5_2 < (l0_5.length : Int)
               ·rw [if_pos c47] at H
                have c47b0 : decide (x5_2 < (l0_5.length : Int)) = true := decide_eq_true c47
                clear c47
                by_cases c48 : 0 ≤ x6_4
                ·rw [if_pos c48] at H
                 have c48b0 : decide (0 ≤ x6_4) = true := decide_eq_true c48
                 clear c48
                 by_cases c49 : x6_4 < (((rd_T60 l0_5 x5_2).f1).length : Int)
                 ·rw [if_pos c49] at H
                  have c49b0 : decide (x6_4 < (((rd_T60 l0_5 x5_2).f1).length : Int)) = true := decide_eq_true c49
                  clear c49
                  by_cases c50 : (!(((rd_T66 ((rd_T60 l0_5 x5_2).f1) x6_4).f0) == ((rd_T67 ((rd_T63 l1_5 x5_2).f1) x6_4).f0)) || (!((((rd_T66 ((rd_T60 l0_5 x5_2).f1) x6_4).f1).toList) == (((rd_T67 ((rd_T63 l1_5 x5_2).f1) x6_4).f1).toList)))) = true
                  ·rw [if_pos c50] at H
                   have c50b0 : (!(((rd_T66 ((rd_T60 l0_5 x5_2).f1) x6_4).f0) == ((rd_T67 ((rd_T63 l1_5 x5_2).f1) x6_4).f0)) || (!((((rd_T66 ((rd_T60 l0_5 x5_2).f1) x6_4).f1).toList) == (((rd_T67 ((rd_T63 l1_5 x5_2).f1) x6_4).f1).toList)))) = true := c50
                   clear c50
                   obtain rfl := Option.some.inj H
                   have hnb51 := NB244_243.out
                   have hnc51 := NB243_244.out
                   have hcz52_0 : wr.cell? ⟨gb244, 0, none⟩ = some (.int .i64 a1_0) := (blk_cell BK244.out 0).trans rfl
                   have hcz52_1 : wr.cell? ⟨gb244, 1, none⟩ = some (.int .i64 a1_1) := (blk_cell BK244.out 1).trans rfl
                   have hcz52_2 : wr.cell? ⟨gb244, 2, none⟩ = some (.int .i64 a1_2) := (blk_cell BK244.out 2).trans rfl
                   have hcz52_3 : wr.cell? ⟨gb244, 3, none⟩ = some (.string a1_3) := (blk_cell BK244.out 3).trans rfl
                   have hcz52_4 : wr.cell? ⟨gb244, 4, none⟩ = some (.int .i64 a1_4) := (blk_cell BK244.out 4).trans rfl
                   have hcz52_5 : wr.cell? ⟨gb244, 5, none⟩ = some (.slice A1_5 l1_5.length c1_5) := (blk_cell BK244.out 5).trans rfl
                   have hfz52_0 := blk_frozen BK244.out 0
                   have hfz52_1 := blk_frozen BK244.out 1
                   have hfz52_2 := blk_frozen BK244.out 2
                   have hfz52_3 := blk_frozen BK244.out 3
                   have hfz52_4 := blk_frozen BK244.out 4
                   have hfz52_5 := blk_frozen BK244.out 5
                   have p249 : 0 ≤ (x5_2 : Int) := of_decide_eq_true (by first | (with_reducible assumption) | assumption)
                   have q249 : x5_2 < (l1_5.length : Int) := of_decide_eq_true (by first | (with_reducible assumption) | assumption)
                   obtain ⟨ad249, A249_1, c249_1, e249, hx249_0, hx249_1, hl249_1, hi249_1⟩ := at_T63 HR1_5.out x5_2 p249 q249
                   cases e249
                   replace hx249_0 := (HB.out.cell (World.block_lt_of_cell? w _ hx249_0)).trans hx249_0
                   replace hx249_1 := (HB.out.cell (World.block_lt_of_cell? w _ hx249_1)).trans hx249_1
                   have HR249_1 := Aside0.mk hi249_1
                   have HC249_1 := Aside0.mk hl249_1
                   clear hi249_1 hl249_1
                   replace p249 := eq_true p249
                   replace q249 := eq_true q249
                   have hcz53_0 : wr.cell? ⟨gb243, 0, none⟩ = some (.int .i64 a0_0) := (blk_cell BK243.out 0).trans rfl
                   have hcz53_1 : wr.cell? ⟨gb243, 1, none⟩ = some (.int .i64 a0_1) := (blk_cell BK243.out 1).trans rfl
                   have hcz53_2 : wr.cell? ⟨gb243, 2, none⟩ = some (.int .i64 a0_2) := (blk_cell BK243.out 2).trans rfl
                   have hcz53_3 : wr.cell? ⟨gb243, 3, none⟩ = some (.string a0_3) := (blk_cell BK243.out 3).trans rfl
                   have hcz53_4 : wr.cell? ⟨gb243, 4, none⟩ = some (.int .i64 a0_4) := (blk_cell BK243.out 4).trans rfl
                   have hcz53_5 : wr.cell? ⟨gb243, 5, none⟩ = some (.slice A0_5 l0_5.length c0_5) := (blk_cell BK243.out 5).trans rfl
                   have hfz53_0 := blk_frozen BK243.out 0
                   have hfz53_1 := blk_frozen BK243.out 1
                   have hfz53_2 := blk_frozen BK243.out 2
                   have hfz53_3 := blk_frozen BK243.out 3
                   have hfz53_4 := blk_frozen BK243.out 4
                   have hfz53_5 := blk_frozen BK243.out 5
                   have p250 : 0 ≤ (x5_2 : Int) := of_decide_eq_true (by first | (with_reducible assumption) | assumption)
                   have q250 : x5_2 < (l0_5.length : Int) := of_decide_eq_true (by first | (with_reducible assumption) | assumption)
                   obtain ⟨ad250, A250_1, c250_1, e250, hx250_0, hx250_1, hl250_1, hi250_1⟩ := at_T60 HR0_5.out x5_2 p250 q250
                   cases e250
                   replace hx250_0 := (HB.out.cell (World.block_lt_of_cell? w _ hx250_0)).trans hx250_0
                   replace hx250_1 := (HB.out.cell (World.block_lt_of_cell? w _ hx250_1)).trans hx250_1
                   have HR250_1 := Aside0.mk hi250_1
                   have HC250_1 := Aside0.mk hl250_1
                   clear hi250_1 hl250_1
                   replace p250 := eq_true p250
                   replace q250 := eq_true q250
                   have p251 : 0 ≤ (x6_4 : Int) := of_decide_eq_true (by first | (with_reducible assumption) | assumption)
                   have q251 : x6_4 < (((rd_T60 l0_5 x5_2).f1).length : Int) := of_decide_eq_true (by first | (with_reducible assumption) | assumption)
                   obtain ⟨ad251, e251, hx251_0, hx251_1⟩ := at_T66 HR250_1.out x6_4 p251 q251
                   cases e251
                   replace hx251_0 := (HB.out.cell (World.block_lt_of_cell? w _ hx251_0)).trans hx251_0
                   replace hx251_1 := (HB.out.cell (World.block_lt_of_cell? w _ hx251_1)).trans hx251_1
                   replace p251 := eq_true p251
                   replace q251 := eq_true q251
                   have p252 : 0 ≤ (x5_2 : Int) := of_decide_eq_true (by first | (with_reducible assumption) | assumption)
                   have q252 : x5_2 < (l1_5.length : Int) := of_decide_eq_true (by first | (with_reducible assumption) | assumption)
                   obtain ⟨ad252, A252_1, c252_1, e252, hx252_0, hx252_1, hl252_1, hi252_1⟩ := at_T63 HR1_5.out x5_2 p252 q252
                   obtain rfl : ad249 = ad252 := (by injection e252)
                   replace hx252_0 := (HB.out.cell (World.block_lt_of_cell? w _ hx252_0)).trans hx252_0
                   replace hx252_1 := (HB.out.cell (World.block_lt_of_cell? w _ hx252_1)).trans hx252_1
                   have HR252_1 := Aside0.mk hi252_1
                   have HC252_1 := Aside0.mk hl252_1
                   clear hi252_1 hl252_1
                   replace p252 := eq_true p252
                   replace q252 := eq_true q252
                   have ea_ := Option.some.inj (hx249_1.symm.trans hx252_1)
                   injection ea_ with ea_ en_ ec_
                   subst ea_
                   subst ec_
                   clear en_
                   have p253 : 0 ≤ (x6_4 : Int) := of_decide_eq_true (by first | (with_reducible assumption) | assumption)
                   have q253 : x6_4 < (((rd_T63 l1_5 x5_2).f1).length : Int) := of_decide_eq_true (by first | (with_reducible assumption) | assumption)
                   obtain ⟨ad253, e253, hx253_0, hx253_1⟩ := at_T67 HR252_1.out x6_4 p253 q253
                   cases e253
                   replace hx253_0 := (HB.out.cell (World.block_lt_of_cell? w _ hx253_0)).trans hx253_0
                   replace hx253_1 := (HB.out.cell (World.block_lt_of_cell? w _ hx253_1)).trans hx253_1
                   replace p253 := eq_true p253
                   replace q253 := eq_true q253
                   go_wp2
                   repeat (go_quiet (fail); try go_wp2)
                   go_ret
                   exact ⟨by first | rfl | (simp [errW_none, errW_some] <;> rfl) | (simp [*, errW_none, errW_some] <;> rfl), by repeat (first | (with_reducible first | exact HB.out | apply below_alloc | apply pw_below_drewN | apply below_drew1 | refine below_set ?_ GE243.out | refine below_set ?_ GE244.out) | exact HB.out)⟩
                  ·rw [if_neg c50] at H
                   have c50b0 : (!(((rd_T66 ((rd_T60 l0_5 x5_2).f1) x6_4).f0) == ((rd_T67 ((rd_T63 l1_5 x5_2).f1) x6_4).f0)) || (!((((rd_T66 ((rd_T60 l0_5 x5_2).f1) x6_4).f1).toList) == (((rd_T67 ((rd_T63 l1_5 x5_2).f1) x6_4).f1).toList)))) = false := by simpa using c50
                   clear c50
                   have H' := Aside0.mk H
                   clear H
                   have hnb54 := NB244_243.out
                   have hnc54 := NB243_244.out
                   have hcz55_0 : wr.cell? ⟨gb244, 0, none⟩ = some (.int .i64 a1_0) := (blk_cell BK244.out 0).trans rfl
                   have hcz55_1 : wr.cell? ⟨gb244, 1, none⟩ = some (.int .i64 a1_1) := (blk_cell BK244.out 1).trans rfl
                   have hcz55_2 : wr.cell? ⟨gb244, 2, none⟩ = some (.int .i64 a1_2) := (blk_cell BK244.out 2).trans rfl
                   have hcz55_3 : wr.cell? ⟨gb244, 3, none⟩ = some (.string a1_3) := (blk_cell BK244.out 3).trans rfl
                   have hcz55_4 : wr.cell? ⟨gb244, 4, none⟩ = some (.int .i64 a1_4) := (blk_cell BK244.out 4).trans rfl
                   have hcz55_5 : wr.cell? ⟨gb244, 5, none⟩ = some (.slice A1_5 l1_5.length c1_5) := (blk_cell BK244.out 5).trans rfl
                   have hfz55_0 := blk_frozen BK244.out 0
                   have hfz55_1 := blk_frozen BK244.out 1
                   have hfz55_2 := blk_frozen BK244.out 2
                   have hfz55_3 := blk_frozen BK244.out 3
                   have hfz55_4 := blk_frozen BK244.out 4
                   have hfz55_5 := blk_frozen BK244.out 5
                   have p249 : 0 ≤ (x5_2 : Int) := of_decide_eq_true (by first | (with_reducible assumption) | assumption)
                   have q249 : x5_2 < (l1_5.length : Int) := of_decide_eq_true (by first | (with_reducible assumption) | assumption)
                   obtain ⟨ad249, A249_1, c249_1, e249, hx249_0, hx249_1, hl249_1, hi249_1⟩ := at_T63 HR1_5.out x5_2 p249 q249
                   cases e249
                   replace hx249_0 := (HB.out.cell (World.block_lt_of_cell? w _ hx249_0)).trans hx249_0
                   replace hx249_1 := (HB.out.cell (World.block_lt_of_cell? w _ hx249_1)).trans hx249_1
                   have HR249_1 := Aside0.mk hi249_1
                   have HC249_1 := Aside0.mk hl249_1
                   clear hi249_1 hl249_1
                   replace p249 := eq_true p249
                   replace q249 := eq_true q249
                   have hcz56_0 : wr.cell? ⟨gb243, 0, none⟩ = some (.int .i64 a0_0) := (blk_cell BK243.out 0).trans rfl
                   have hcz56_1 : wr.cell? ⟨gb243, 1, none⟩ = some (.int .i64 a0_1) := (blk_cell BK243.out 1).trans rfl
                   have hcz56_2 : wr.cell? ⟨gb243, 2, none⟩ = some (.int .i64 a0_2) := (blk_cell BK243.out 2).trans rfl
                   have hcz56_3 : wr.cell? ⟨gb243, 3, none⟩ = some (.string a0_3) := (blk_cell BK243.out 3).trans rfl
                   have hcz56_4 : wr.cell? ⟨gb243, 4, none⟩ = some (.int .i64 a0_4) := (blk_cell BK243.out 4).trans rfl
                   have hcz56_5 : wr.cell? ⟨gb243, 5, none⟩ = some (.slice A0_5 l0_5.length c0_5) := (blk_cell BK243.out 5).trans rfl
                   have hfz56_0 := blk_frozen BK243.out 0
                   have hfz56_1 := blk_frozen BK243.out 1
                   have hfz56_2 := blk_frozen BK243.out 2
                   have hfz56_3 := blk_frozen BK243.out 3
                   have hfz56_4 := blk_frozen BK243.out 4
                   have hfz56_5 := blk_frozen BK243.out 5
                   have p250 : 0 ≤ (x5_2 : Int) := of_decide_eq_true (by first | (with_reducible assumption) | assumption)
                   have q250 : x5_2 < (l0_5.length : Int) := of_decide_eq_true (by first | (with_reducible assumption) | assumption)
                   obtain ⟨ad250, A250_1, c250_1, e250, hx250_0, hx250_1, hl250_1, hi250_1⟩ := at_T60 HR0_5.out x5_2 p250 q250
                   cases e250
                   replace hx250_0 := (HB.out.cell (World.block_lt_of_cell? w _ hx250_0)).trans hx250_0
                   replace hx250_1 := (HB.out.cell (World.block_lt_of_cell? w _ hx250_1)).trans hx250_1
                   have HR250_1 := Aside0.mk hi250_1
                   have HC250_1 := Aside0.mk hl250_1
                   clear hi250_1 hl250_1
                   replace p250 := eq_true p250
                   replace q250 := eq_true q250
                   have p251 : 0 ≤ (x6_4 : Int) := of_decide_eq_true (by first | (with_reducible assumption) | assumption)
                   have q251 : x6_4 < (((rd_T60 l0_5 x5_2).f1).length : Int) := of_decide_eq_true (by first | (with_reducible assumption) | assumption)
                   obtain ⟨ad251, e251, hx251_0, hx251_1⟩ := at_T66 HR250_1.out x6_4 p251 q251
                   cases e251
                   replace hx251_0 := (HB.out.cell (World.block_lt_of_cell? w _ hx251_0)).trans hx251_0
                   replace hx251_1 := (HB.out.cell (World.block_lt_of_cell? w _ hx251_1)).trans hx251_1
                   replace p251 := eq_true p251
                   replace q251 := eq_true q251
                   have p252 : 0 ≤ (x5_2 : Int) := of_decide_eq_true (by first | (with_reducible assumption) | assumption)
                   have q252 : x5_2 < (l1_5.length : Int) := of_decide_eq_true (by first | (with_reducible assumption) | assumption)
                   obtain ⟨ad252, A252_1, c252_1, e252, hx252_0, hx252_1, hl252_1, hi252_1⟩ := at_T63 HR1_5.out x5_2 p252 q252
                   obtain rfl : ad249 = ad252 := (by injection e252)
                   replace hx252_0 := (HB.out.cell (World.block_lt_of_cell? w _ hx252_0)).trans hx252_0
                   replace hx252_1 := (HB.out.cell (World.block_lt_of_cell? w _ hx252_1)).trans hx252_1
                   have HR252_1 := Aside0.mk hi252_1
                   have HC252_1 := Aside0.mk hl252_1
                   clear hi252_1 hl252_1
                   replace p252 := eq_true p252
                   replace q252 := eq_true q252
                   have ea_ := Option.some.inj (hx249_1.symm.trans hx252_1)
                   injection ea_ with ea_ en_ ec_
                   subst ea_
                   subst ec_
                   clear en_
                   have p253 : 0 ≤ (x6_4 : Int) := of_decide_eq_true (by first | (with_reducible assumption) | assumption)
                   have q253 : x6_4 < (((rd_T63 l1_5 x5_2).f1).length : Int) := of_decide_eq_true (by first | (with_reducible assumption) | assumption)
                   obtain ⟨ad253, e253, hx253_0, hx253_1⟩ := at_T67 HR252_1.out x6_4 p253 q253
                   cases e253
                   replace hx253_0 := (HB.out.cell (World.block_lt_of_cell? w _ hx253_0)).trans hx253_0
                   replace hx253_1 := (HB.out.cell (World.block_lt_of_cell? w _ hx253_1)).trans hx253_1
                   replace p253 := eq_true p253
                   replace q253 := eq_true q253
                   go_wp2
                   repeat (go_quiet (fail); try go_wp2)
                   go_roundg k4
                   case measure => have := HJ2.out; have := HK2.out; have := HJ30.out; have := HK4.out; omega
                   case rel => exact ⟨(wrap64 (x6_4 + 1)), (by first | rfl | (simp; done) | (simp [*]; done)), H', ⟨by have := HJ2.out; have := HK2.out; have := HJ30.out; have := HK4.out; omega⟩, ⟨by (with_reducible repeat (first | refine blk_drewN ?_ _ | refine blk_drew ?_ | refine blk_alloc ?_ _)); exact BK243.out⟩, ⟨by (with_reducible repeat (first | refine blk_drewN ?_ _ | refine blk_drew ?_ | refine blk_alloc ?_ _)); exact BK244.out⟩, ⟨by repeat (first | (with_reducible first | exact HB.out | apply below_alloc | apply pw_below_drewN | apply below_drew1 | refine below_set ?_ GE243.out | refine below_set ?_ GE244.out) | exact HB.out)⟩⟩
                 ·rw [if_neg c49] at H
                  exact absurd H (by simp)
                ·rw [if_neg c48] at H
                 exact absurd H (by simp)
               ·rw [if_neg c47] at H
                exact absurd H (by simp)
              ·rw [if_neg c46] at H
               have c46b0 : decide (x6_4 < (((rd_T63 l1_5 x5_2).f1).length : Int)) = false := decide_eq_false c46
               clear c46
               have H' := Aside0.mk H
               clear H
               have hnb57 := NB244_243.out
               have hnc57 := NB243_244.out
               have hcz58_0 : wr.cell? ⟨gb244, 0, none⟩ = some (.int .i64 a1_0) := (blk_cell BK244.out 0).trans rfl
               have hcz58_1 : wr.cell? ⟨gb244, 1, none⟩ = some (.int .i64 a1_1) := (blk_cell BK244.out 1).trans rfl
               have hcz58_2 : wr.cell? ⟨gb244, 2, none⟩ = some (.int .i64 a1_2) := (blk_cell BK244.out 2).trans rfl
               have hcz58_3 : wr.cell? ⟨gb244, 3, none⟩ = some (.string a1_3) := (blk_cell BK244.out 3).trans rfl
               have hcz58_4 : wr.cell? ⟨gb244, 4, none⟩ = some (.int .i64 a1_4) := (blk_cell BK244.out 4).trans rfl
               have hcz58_5 : wr.cell? ⟨gb244, 5, none⟩ = some (.slice A1_5 l1_5.length c1_5) := (blk_cell BK244.out 5).trans rfl
               have hfz58_0 := blk_frozen BK244.out 0
               have hfz58_1 := blk_frozen BK244.out 1
               have hfz58_2 := blk_frozen BK244.out 2
               have hfz58_3 := blk_frozen BK244.out 3
               have hfz58_4 := blk_frozen BK244.out 4
               have hfz58_5 := blk_frozen BK244.out 5
               have p249 : 0 ≤ (x5_2 : Int) := of_decide_eq_true (by first | (with_reducible assumption) | assumption)
               have q249 : x5_2 < (l1_5.length : Int) := of_decide_eq_true (by first | (with_reducible assumption) | assumption)
               obtain ⟨ad249, A249_1, c249_1, e249, hx249_0, hx249_1, hl249_1, hi249_1⟩ := at_T63 HR1_5.out x5_2 p249 q249
               cases e249
               replace hx249_0 := (HB.out.cell (World.block_lt_of_cell? w _ hx249_0)).trans hx249_0
               replace hx249_1 := (HB.out.cell (World.block_lt_of_cell? w _ hx249_1)).trans hx249_1
               have HR249_1 := Aside0.mk hi249_1
               have HC249_1 := Aside0.mk hl249_1
               clear hi249_1 hl249_1
               replace p249 := eq_true p249
               replace q249 := eq_true q249
               go_wp2
               repeat (go_quiet (fail); try go_wp2)
               go_roundg k4
               case measure => have := HJ2.out; have := HK2.out; have := HJ30.out; have := HK4.out; omega
               case rel => exact ⟨(wrap64 (x5_2 + 1)), (by first | rfl | (simp; done) | (simp [*]; done)), H', ⟨by have := HJ2.out; have := HK2.out; have := HJ30.out; have := HK4.out; omega⟩, ⟨by (with_reducible repeat (first | refine blk_drewN ?_ _ | refine blk_drew ?_ | refine blk_alloc ?_ _)); exact BK243.out⟩, ⟨by (with_reducible repeat (first | refine blk_drewN ?_ _ | refine blk_drew ?_ | refine blk_alloc ?_ _)); exact BK244.out⟩, ⟨by repeat (first | (with_reducible first | exact HB.out | apply below_alloc | apply pw_below_drewN | apply below_drew1 | refine below_set ?_ GE243.out | refine below_set ?_ GE244.out) | exact HB.out)⟩⟩
             ·rw [if_neg c45] at H
              exact absurd H (by simp)
            ·rw [if_neg c44] at H
             exact absurd H (by simp)
      ·rw [if_neg c30] at H
       have c30b0 : decide (x5_2 < (l1_5.length : Int)) = false := decide_eq_false c30
       clear c30
       obtain rfl := Option.some.inj H
       have hnb59 := NB244_243.out
       have hnc59 := NB243_244.out
       have hcz60_0 : wr.cell? ⟨gb244, 0, none⟩ = some (.int .i64 a1_0) := (blk_cell BK244.out 0).trans rfl
       have hcz60_1 : wr.cell? ⟨gb244, 1, none⟩ = some (.int .i64 a1_1) := (blk_cell BK244.out 1).trans rfl
       have hcz60_2 : wr.cell? ⟨gb244, 2, none⟩ = some (.int .i64 a1_2) := (blk_cell BK244.out 2).trans rfl
       have hcz60_3 : wr.cell? ⟨gb244, 3, none⟩ = some (.string a1_3) := (blk_cell BK244.out 3).trans rfl
       have hcz60_4 : wr.cell? ⟨gb244, 4, none⟩ = some (.int .i64 a1_4) := (blk_cell BK244.out 4).trans rfl
       have hcz60_5 : wr.cell? ⟨gb244, 5, none⟩ = some (.slice A1_5 l1_5.length c1_5) := (blk_cell BK244.out 5).trans rfl
       have hfz60_0 := blk_frozen BK244.out 0
       have hfz60_1 := blk_frozen BK244.out 1
       have hfz60_2 := blk_frozen BK244.out 2
       have hfz60_3 := blk_frozen BK244.out 3
       have hfz60_4 := blk_frozen BK244.out 4
       have hfz60_5 := blk_frozen BK244.out 5
       go_wp2
       repeat (go_quiet (fail); try go_wp2)
       go_ret
       exact ⟨by first | rfl | (simp [errW_none, errW_some] <;> rfl) | (simp [*, errW_none, errW_some] <;> rfl), by repeat (first | (with_reducible first | exact HB.out | apply below_alloc | apply pw_below_drewN | apply below_drew1 | refine below_set ?_ GE243.out | refine below_set ?_ GE244.out) | exact HB.out)⟩

/-! ### concordanceref02_Put: function 24 -/
mutual
def concordanceref02_Put.j0 : Nat → Int → Int → Bool → Option (ByteArray)
 | 0, _, _, _ => none
 | k + 1, x0, x1, x16 => if x16 = true then (some (⟨#[]⟩ : ByteArray)) else (concordanceref02_Put.l0 k x0 x1 (⟨#[]⟩ : ByteArray) 0)
def concordanceref02_Put.l0 : Nat → Int → Int → ByteArray → Int → Option (ByteArray)
 | 0, _, _, _, _ => none
 | k + 1, x0, x1, x5, x6 => if x6 < x1 then ((some (([(Int.tmod x0 256) % 256] : List Int) : List Int)).bind fun y254 => (if (strOfNums y254).size + x5.size ≤ 9223372036854775807 then (concordanceref02_Put.l0 k (wrap64 (Int.tdiv x0 256)) x1 ((strOfNums y254) ++ x5) (wrap64 (x6 + 1))) else (none))) else (if x0 > 0 then (some (⟨#[]⟩ : ByteArray)) else (some x5))
end
def concordanceref02_Put.f (k : Nat) (a0 : Int) (a1 : Int) : Option (ByteArray) := if a1 < 1 then (concordanceref02_Put.j0 k a0 a1 true) else (if a1 > 7 then (concordanceref02_Put.j0 k a0 a1 true) else (concordanceref02_Put.j0 k a0 a1 (decide (a0 < 0))))
theorem concordanceref02_Put.mono_l : ∀ k, (∀ y0 y1 y2, LeO (concordanceref02_Put.j0 k y0 y1 y2) (concordanceref02_Put.j0 (k + 1) y0 y1 y2)) ∧ (∀ y0 y1 y2 y3, LeO (concordanceref02_Put.l0 k y0 y1 y2 y3) (concordanceref02_Put.l0 (k + 1) y0 y1 y2 y3))
 | 0 => ⟨fun _ _ _ r h => by simp [concordanceref02_Put.j0] at h, fun _ _ _ _ r h => by simp [concordanceref02_Put.l0] at h⟩
 | k + 1 => by
  obtain ⟨ih0, ih1⟩ := concordanceref02_Put.mono_l k
  refine ⟨?_, ?_⟩
  ·intro y0 y1 y2
   unfold concordanceref02_Put.j0
   repeat' first
   | (with_reducible exact ih0 _ _ _)
   | (with_reducible exact ih1 _ _ _ _)
   | (with_reducible exact LeO.refl _)
   | (with_reducible exact LeO.none _)
   | (with_reducible refine LeO.ite ?_ ?_)
   | (with_reducible refine LeO.bind ?_ (fun _ => ?_))
   | exact ih0 _ _ _
   | exact ih1 _ _ _ _
   | exact LeO.none _
   | refine LeO.ite ?_ ?_
   | refine LeO.bind ?_ (fun _ => ?_)
  ·intro y0 y1 y2 y3
   unfold concordanceref02_Put.l0
   repeat' first
   | (with_reducible exact ih0 _ _ _)
   | (with_reducible exact ih1 _ _ _ _)
   | (with_reducible exact LeO.refl _)
   | (with_reducible exact LeO.none _)
   | (with_reducible refine LeO.ite ?_ ?_)
   | (with_reducible refine LeO.bind ?_ (fun _ => ?_))
   | exact ih0 _ _ _
   | exact ih1 _ _ _ _
   | exact LeO.none _
   | refine LeO.ite ?_ ?_
   | refine LeO.bind ?_ (fun _ => ?_)
theorem concordanceref02_Put.mono : ∀ a0 a1 k, LeO (concordanceref02_Put.f k a0 a1) (concordanceref02_Put.f (k + 1) a0 a1) := by
 intro a0 a1 k
 obtain ⟨ih0, ih1⟩ := concordanceref02_Put.mono_l k
 unfold concordanceref02_Put.f
 repeat' first
   | (with_reducible exact ih0 _ _ _)
   | (with_reducible exact ih1 _ _ _ _)
   | (with_reducible exact LeO.refl _)
   | (with_reducible exact LeO.none _)
   | (with_reducible refine LeO.ite ?_ ?_)
   | (with_reducible refine LeO.bind ?_ (fun _ => ?_))
   | exact ih0 _ _ _
   | exact ih1 _ _ _ _
   | exact LeO.none _
   | refine LeO.ite ?_ ?_
   | refine LeO.bind ?_ (fun _ => ?_)
set_option maxHeartbeats 8000000 in
set_option maxRecDepth 100000 in
theorem concordanceref02_Put.calls (k : Nat) (a0 : Int) (a1 : Int) (r : ByteArray) (w : World) (h : concordanceref02_Put.f k a0 a1 = some r) :
  Calls Try.prog 24 #[.int .i64 a0, .int .i64 a1] w fun e w' => e = .returned (.string r) ∧ Below w.heap.size w w' := by
 have HB := Aside0.mk (Below.refl w.heap.size w)
 have H : (if a1 < 1 then (concordanceref02_Put.j0 k a0 a1 true) else (if a1 > 7 then (concordanceref02_Put.j0 k a0 a1 true) else (concordanceref02_Put.j0 k a0 a1 (decide (a0 < 0))))) = some r := h
 clear h
 have HC3 := Aside0.mk H
 clear H
 go_enter Try.func24, Try.ntmps24
 go_upto_region 1 with (fail)
 go_cut [16] (fun v16 wc => ∃ (kq : Nat) (x16_2 : Bool), v16 = .bool x16_2 ∧ Aside0 (concordanceref02_Put.j0 kq a0 a1 x16_2 = some r) ∧ Aside0 (kq ≤ k) ∧ Aside0 (Below w.heap.size w wc))
 case first =>
  have H := HC3.out
  clear HC3
  by_cases c4 : a1 < 1
  ·rw [if_pos c4] at H
   have c4b0 : decide (a1 < 1) = true := decide_eq_true c4
   clear c4
   (first | rw [c4b0] | (simp only [i64_w, i32_w]; rw [c4b0]) | skip)
   have H' := Aside0.mk H
   clear H
   go_wp2
   go_meet
   case rel => exact ⟨_, (true), (by first | rfl | (simp; done) | (simp [*]; done)), H', ⟨by first | omega | exact Nat.le_refl _⟩, ⟨by repeat (first | (with_reducible first | exact HB.out | apply below_alloc | apply pw_below_drewN | apply below_drew1) | exact HB.out)⟩⟩
  ·rw [if_neg c4] at H
   have c4b0 : decide (a1 < 1) = false := decide_eq_false c4
   clear c4
   (first | rw [c4b0] | (simp only [i64_w, i32_w]; rw [c4b0]) | skip)
   by_cases c5 : a1 > 7
   ·rw [if_pos c5] at H
    have c5b0 : decide (7 < a1) = true := decide_eq_true c5
    clear c5
    have H' := Aside0.mk H
    clear H
    go_wp2
    go_meet
    case rel => exact ⟨_, (true), (by first | rfl | (simp; done) | (simp [*]; done)), H', ⟨by first | omega | exact Nat.le_refl _⟩, ⟨by repeat (first | (with_reducible first | exact HB.out | apply below_alloc | apply pw_below_drewN | apply below_drew1) | exact HB.out)⟩⟩
   ·rw [if_neg c5] at H
    have c5b0 : decide (7 < a1) = false := decide_eq_false c5
    clear c5
    have H' := Aside0.mk H
    clear H
    go_wp2
    go_meet
    case rel => exact ⟨_, (decide (a0 < 0)), (by first | rfl | (simp; done) | (simp [*]; done)), H', ⟨by first | omega | exact Nat.le_refl _⟩, ⟨by repeat (first | (with_reducible first | exact HB.out | apply below_alloc | apply pw_below_drewN | apply below_drew1) | exact HB.out)⟩⟩
 case rest =>
  clear HC3
  try clear c2
  try clear p2
  try clear c4
  try clear c4b0
  try clear c5
  try clear c5b0
  obtain ⟨kq, x16_2, rfl, HA, HJ2, HB⟩ := hcut
  cases kq with
  | zero => exact absurd HA.out (by simp [concordanceref02_Put.j0])
  | succ kj2 =>
   have H := HA.out
   clear HA
   simp only [concordanceref02_Put.j0] at H
   by_cases c6 : x16_2 = true
   ·subst c6
    have H1 : (some (⟨#[]⟩ : ByteArray)) = some r := by rw [if_pos rfl] at H; exact H
    clear H
    have H := H1
    clear H1
    obtain rfl := Option.some.inj H
    go_wp2
    go_ret
    exact ⟨by first | rfl | (simp [errW_none, errW_some] <;> rfl) | (simp [*, errW_none, errW_some] <;> rfl), by repeat (first | (with_reducible first | exact HB.out | apply below_alloc | apply pw_below_drewN | apply below_drew1) | exact HB.out)⟩
   ·replace c6 := Bool.eq_false_iff.mpr c6
    subst c6
    have H1 : (concordanceref02_Put.l0 kj2 a0 a1 (⟨#[]⟩ : ByteArray) 0) = some r := by rw [if_neg (show ¬ (false = true) by decide)] at H; exact H
    clear H
    have H := H1
    clear H1
    have H' := Aside0.mk H
    clear H
    go_wp2
    go_loopg [0, 5, 6] kj2 (fun kq v0 v5 v6 w' => ∃ (x0_2 : Int) (x5_2 : ByteArray) (x6_2 : Int), v0 = .int .i64 x0_2 ∧ v5 = .string x5_2 ∧ v6 = .int .i64 x6_2 ∧ Aside0 (concordanceref02_Put.l0 kq x0_2 a1 x5_2 x6_2 = some r) ∧ Aside0 (kq ≤ kj2) ∧ Aside0 (Below w.heap.size w w'))
    case atStart => exact ⟨(a0), ((⟨#[]⟩ : ByteArray)), (0), (by first | rfl | (simp; done) | (simp [*]; done)), (by first | rfl | (simp; done) | (simp [*]; done)), (by first | rfl | (simp; done) | (simp [*]; done)), H', ⟨Nat.le_refl _⟩, ⟨by repeat (first | (with_reducible first | exact HB.out | apply below_alloc | apply pw_below_drewN | apply below_drew1) | exact HB.out)⟩⟩
    case round =>
     clear H'
     try clear c2
     try clear p2
     try clear c4
     try clear c4b0
     try clear c5
     try clear c5b0
     try clear c6
     try clear p2
     obtain ⟨x0_2, x5_2, x6_2, rfl, rfl, rfl, HA, HK2, HB⟩ := hrel
     cases gk with
     | zero => exact absurd HA.out (by simp [concordanceref02_Put.l0])
     | succ k2 =>
      have H := HA.out
      clear HA
      simp only [concordanceref02_Put.l0] at H
      by_cases c7 : x6_2 < a1
      ·rw [if_pos c7] at H
       have c7b0 : decide (x6_2 < a1) = true := decide_eq_true c7
       clear c7
       obtain ⟨y254, hy254⟩ : ∃ y_ : List Int, y_ = (([(Int.tmod x0_2 256) % 256] : List Int)) := ⟨_, rfl⟩
       replace H : (if (strOfNums y254).size + x5_2.size ≤ 9223372036854775807 then (concordanceref02_Put.l0 k2 (wrap64 (Int.tdiv x0_2 256)) a1 ((strOfNums y254) ++ x5_2) (wrap64 (x6_2 + 1))) else (none)) = some r := by first | (rw [hy254]; with_reducible exact H) | (have H2_ := (Option.bind_some _ _).symm.trans H; rw [hy254]; with_reducible exact H2_) | (have H2_ := (Option.bind_some _ _).symm.trans H; with_reducible exact H2_) | with_reducible exact H | (rw [hy254]; exact H) | exact H
       have Ny254 := Aside0.mk hy254
       clear hy254
       by_cases c8 : (strOfNums y254).size + x5_2.size ≤ 9223372036854775807
       ·rw [if_pos c8] at H
        have c8b0 := eq_true c8
        have c8b1 : decide ((strOfNums y254).size + x5_2.size ≤ 9223372036854775807) = true := decide_eq_true c8
        try have c8b2 : (9223372036854775807 < (strOfNums y254).size + x5_2.size) = False := eq_false (Nat.not_lt.2 c8)
        have H' := Aside0.mk H
        clear H
        go_wp2_with (first | ((with_reducible refine gate_dst (N := 25) rfl ?_); refine Kd.R_lit (Kd.int .u8) _ 5 ?hg (N := 25) ?hd (xs := ([(Int.tmod x0_2 256) % 256] : List Int)) (inner := [.int .u8 ((Int.tmod x0_2 256) % 256)]) (ok := fun _ => True) (okp := fun _ => True) ?hr ?hp (fun _ hk => hk) trivial (Below.refl _ _) (Nat.le_refl _) (by simp) ?_; (case hd => rfl); (case hg => rfl); (case hr => first | (go_simp; done) | (go_simp; rfl)); (case hp => exact (Reps.one (show Kd.M (Kd.int .u8) _ _ _ ((Int.tmod x0_2 256) % 256) [.int .u8 ((Int.tmod x0_2 256) % 256)] from rfl) (Reps.none _ _))); intro v255 w9 ho10 hb hg_ hnew_; clear hg_ hnew_; (first | rw [← Ny254.out] at ho10 | (simp only [Int.reduceToNat] at ho10; rw [← Ny254.out] at ho10)); have n0_ := Aside0.mk (Kd.R_lower ho10 (below_size (by repeat (first | (with_reducible first | exact HB.out | apply below_alloc | apply pw_below_drewN | apply below_drew1) | exact HB.out)))); have n1_ := Aside0.mk (below_step (by repeat (first | (with_reducible first | exact HB.out | apply below_alloc | apply pw_below_drewN | apply below_drew1) | exact HB.out)) hb); clear HB; have HO256 := n0_; have HB := n1_; clear n0_ n1_; clear hb ho10; have hcv11 := own_string (P := Try.prog) Try.underlying69 Try.underlying5 Try.underlying9 (Kd.own_of_R HO256.out)))
        go_roundg k2
        case measure => have := HJ2.out; have := HK2.out; omega
        case rel => exact ⟨(wrap64 (Int.tdiv x0_2 256)), ((strOfNums y254) ++ x5_2), (wrap64 (x6_2 + 1)), (by first | rfl | (simp; done) | (simp [*]; done)), (by first | rfl | (simp; done) | (simp [*]; done)), (by first | rfl | (simp; done) | (simp [*]; done)), H', ⟨by have := HJ2.out; have := HK2.out; omega⟩, ⟨by repeat (first | (with_reducible first | exact HB.out | apply below_alloc | apply pw_below_drewN | apply below_drew1) | exact HB.out)⟩⟩
       ·rw [if_neg c8] at H
        exact absurd H (by simp)
      ·rw [if_neg c7] at H
       have c7b0 : decide (x6_2 < a1) = false := decide_eq_false c7
       clear c7
       by_cases c12 : x0_2 > 0
       ·rw [if_pos c12] at H
        have c12b0 : decide (0 < x0_2) = true := decide_eq_true c12
        clear c12
        obtain rfl := Option.some.inj H
        go_wp2
        go_ret
        exact ⟨by first | rfl | (simp [errW_none, errW_some] <;> rfl) | (simp [*, errW_none, errW_some] <;> rfl), by repeat (first | (with_reducible first | exact HB.out | apply below_alloc | apply pw_below_drewN | apply below_drew1) | exact HB.out)⟩
       ·rw [if_neg c12] at H
        have c12b0 : decide (0 < x0_2) = false := decide_eq_false c12
        clear c12
        obtain rfl := Option.some.inj H
        go_wp2
        go_ret
        exact ⟨by first | rfl | (simp [errW_none, errW_some] <;> rfl) | (simp [*, errW_none, errW_some] <;> rfl), by repeat (first | (with_reducible first | exact HB.out | apply below_alloc | apply pw_below_drewN | apply below_drew1) | exact HB.out)⟩

-- GIVEN: function 26 (concordanceref06_Put)

-- GIVEN: function 10 (concordanceref07_Put)

-- GIVEN: function 16 (concordanceref07_Join)

/-! ### record_within: function 33 -/
def record_within.f (a0 : Int) (a1 : Int) : Option (Bool) := if a0 ≥ 0 then (some (decide (a0 ≤ a1))) else (some false)
set_option maxHeartbeats 8000000 in
set_option maxRecDepth 100000 in
theorem record_within.calls (a0 : Int) (a1 : Int) (r : Bool) (w : World) (h : record_within.f a0 a1 = some r) :
  Calls Try.prog 33 #[.int .i64 a0, .int .i64 a1] w fun e w' => e = .returned (.bool r) ∧ Drawn0 w w' := by
 have H : (if a0 ≥ 0 then (some (decide (a0 ≤ a1))) else (some false)) = some r := h
 clear h
 by_cases c3 : a0 ≥ 0
 ·rw [if_pos c3] at H
  have c3b0 : decide (0 ≤ a0) = true := decide_eq_true c3
  clear c3
  obtain rfl := Option.some.inj H
  go_enter Try.func33, Try.ntmps33
  go_wp2
  go_ret
  exact ⟨by first | rfl | (simp; done) | (simp [*]; done), by repeat (first | exact Drawn0.refl _ | apply Drawn0.step)⟩
 ·rw [if_neg c3] at H
  have c3b0 : decide (0 ≤ a0) = false := decide_eq_false c3
  clear c3
  obtain rfl := Option.some.inj H
  go_enter Try.func33, Try.ntmps33
  go_wp2
  go_ret
  exact ⟨by first | rfl | (simp; done) | (simp [*]; done), by repeat (first | exact Drawn0.refl _ | apply Drawn0.step)⟩

-- NOT PRINTED: function 43 (abi_NoEscape)

-- NOT PRINTED: function 36 (strings_Builder_copyCheck)

-- NOT PRINTED: function 19 (strings_Builder_WriteString)

-- GIVEN: function 20 (sum_Put)

-- NOT PRINTED: function 23 (strings_Builder_String)

-- GIVEN: function 21 (patch_Put)

-- NOT PRINTED: function 42 (record_Changed_42)

-- GIVEN: function 34 (record_Changed_34)

-- NOT PRINTED: function 22 (strings_Builder_Len)

-- GIVEN: function 9 (record_Put)

-- GIVEN: function 14 (record_Join)

-- GIVEN: function 8 (concordancelaw07_made)

-- NOT PRINTED: function 6 (concordancelaw07_RecordApart)

end Go.Proofs.Yteehchhmonlkkaa.GP
