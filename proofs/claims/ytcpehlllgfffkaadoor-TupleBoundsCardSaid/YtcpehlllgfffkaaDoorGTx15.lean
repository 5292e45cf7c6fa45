-- Written by a program of this session (wip/pv.py, which turns the kit's print.py in a scratch copy): see NOTES.md.
import Derived.Test.YtcpehlllgfffkaaDoorGTx0
import Derived.Test.YtcpehlllgfffkaaDoorGTx4
import Derived.Test.YtcpehlllgfffkaaDoorGTx5
import Derived.Test.YtcpehlllgfffkaaDoorGTx7
import Derived.Test.YtcpehlllgfffkaaDoorGTx8
import Derived.Test.YtcpehlllgfffkaaDoorGTx10
import Derived.Test.YtcpehlllgfffkaaDoorGTx12
import Derived.Test.YtcpehlllgfffkaaDoorTItoa
namespace Go.Proofs.YtcpehlllgfffkaaDoor.GT
open Go.RowKit Go.Proofs.YtcpehlllgfffkaaDoorW.PrintWords Go.Proofs.YtcpehlllgfffkaaDoorW.PrintLast Go.Proofs.YtcpehlllgfffkaaDoorW.PrintMore
theorem binOp_geq_str (t : TypeId) (x y : ByteArray) : Go.binOp .geq t (.string x) (.string y) = pure (.bool (!Op.bytesLess x.toList y.toList)) := rfl
attribute [local go_sem] binOp_geq_str max2_int min2_int max_two min_two max_three min_three max_four min_four   -- for this text's walks alone
set_option linter.unusedVariables false
set_option linter.unusedSimpArgs false

/-! ### concordancelaw19_TupleBounds: function 6 -/
mutual
def concordancelaw19_TupleBounds.j0 : Nat → ByteArray → ByteArray → Int → Int → Int → Int → ByteArray → Int → Bool → ByteArray → Int → Bool → ByteArray → Int → Bool → ByteArray → Int → Bool → Option (Bool)
 | 0, _, _, _, _, _, _, _, _, _, _, _, _, _, _, _, _, _, _ => none
 | k + 1, x11, x12, x13, x15, x323000, x323001, x333000, x333001, x333002, x342000, x342001, x342002, x350000, x350001, x350002, x351000, x351001, x351002 => if x13 = x15 then ((tuple_Show.g x350000 x350001 x350002).bind fun t358 => ((concordanceref19_Show.f k x351000 x351001 x351002).bind fun t359 => (concordancelaw19_TupleBounds.j1 k x11 x12 x15 (t358.toList != t359.toList) x323000 x323001 x333000 x333001 x333002 x342000 x342001 x342002 x350000 x350001 x350002 x351000 x351001 x351002))) else (concordancelaw19_TupleBounds.j1 k x11 x12 x15 true x323000 x323001 x333000 x333001 x333002 x342000 x342001 x342002 x350000 x350001 x350002 x351000 x351001 x351002)
def concordancelaw19_TupleBounds.j1 : Nat → ByteArray → ByteArray → Int → Bool → Int → Int → ByteArray → Int → Bool → ByteArray → Int → Bool → ByteArray → Int → Bool → ByteArray → Int → Bool → Option (Bool)
 | 0, _, _, _, _, _, _, _, _, _, _, _, _, _, _, _, _, _, _ => none
 | k + 1, x11, x12, x15, x75, x323000, x323001, x333000, x333001, x333002, x342000, x342001, x342002, x350000, x350001, x350002, x351000, x351001, x351002 => if x75 = true then (none) else ((tuple_Entry.f k x350000 x350001 x350002 (wrap64 (1 + (Go.bits .and .i64 x323000 1023)))).bind fun bt360 => (if x15 = 0 then (concordancelaw19_TupleBounds.j2 k x11 x12 bt360.1 (bt360.2 != 0) x323000 x323001 x333000 x333001 x333002 x342000 x342001 x342002 x350000 x350001 x350002 x351000 x351001 x351002) else (concordancelaw19_TupleBounds.j2 k x11 x12 bt360.1 true x323000 x323001 x333000 x333001 x333002 x342000 x342001 x342002 x350000 x350001 x350002 x351000 x351001 x351002)))
def concordancelaw19_TupleBounds.j2 : Nat → ByteArray → ByteArray → ByteArray → Bool → Int → Int → ByteArray → Int → Bool → ByteArray → Int → Bool → ByteArray → Int → Bool → ByteArray → Int → Bool → Option (Bool)
 | 0, _, _, _, _, _, _, _, _, _, _, _, _, _, _, _, _, _, _ => none
 | k + 1, x11, x12, x16, x90, x323000, x323001, x333000, x333001, x333002, x342000, x342001, x342002, x350000, x350001, x350002, x351000, x351001, x351002 => if x90 = true then (some true) else ((concordanceref01_Compare.f k x351000 x351001 x351002 x333000 x333001 x333002).bind fun t362 => (if t362 ≥ 0 then ((concordanceref01_Compare.f k x351000 x351001 x351002 x342000 x342001 x342002).bind fun t363 => (if ((Op.bytesLess x16.toList x11.toList) = true) then (if (false != (decide (t363 ≤ 0))) = true then (none) else ((tuple_Entry.f k x350000 x350001 x350002 (wrap64 (1 + (Go.bits .and .i64 x323001 1023)))).bind fun bt364 => (some ((Op.bytesLess x16.toList bt364.1.toList) == (decide ((Go.bits .and .i64 x323000 1023) < (Go.bits .and .i64 x323001 1023))))))) else (if ((Op.bytesLess x16.toList x12.toList) != (decide (t363 ≤ 0))) = true then (none) else ((tuple_Entry.f k x350000 x350001 x350002 (wrap64 (1 + (Go.bits .and .i64 x323001 1023)))).bind fun bt366 => (some ((Op.bytesLess x16.toList bt366.1.toList) == (decide ((Go.bits .and .i64 x323000 1023) < (Go.bits .and .i64 x323001 1023))))))))) else (if ((Op.bytesLess x16.toList x11.toList) = true) then (if (false != false) = true then (none) else ((tuple_Entry.f k x350000 x350001 x350002 (wrap64 (1 + (Go.bits .and .i64 x323001 1023)))).bind fun bt368 => (some ((Op.bytesLess x16.toList bt368.1.toList) == (decide ((Go.bits .and .i64 x323000 1023) < (Go.bits .and .i64 x323001 1023))))))) else (if ((Op.bytesLess x16.toList x12.toList) != false) = true then (none) else ((tuple_Entry.f k x350000 x350001 x350002 (wrap64 (1 + (Go.bits .and .i64 x323001 1023)))).bind fun bt370 => (some ((Op.bytesLess x16.toList bt370.1.toList) == (decide ((Go.bits .and .i64 x323000 1023) < (Go.bits .and .i64 x323001 1023))))))))))
end
def concordancelaw19_TupleBounds.f (k : Nat) (l0 : List (S23)) (a1_0 : Int) (a1_1 : Int) : Option (Bool) := (concordancelaw19_speaks.f k).bind fun t323 => (if t323 = true then (if (l0.length : Int) < 3 then (some true) else (if 0 < (l0.length : Int) then ((concordancelaw19_one.f ((rd_T23 l0 0).f0) ((rd_T23 l0 0).f1) ((rd_T23 l0 0).f2)).bind fun bt325 => (if 1 < (l0.length : Int) then ((concordancelaw19_one.f ((rd_T23 l0 1).f0) ((rd_T23 l0 1).f1) ((rd_T23 l0 1).f2)).bind fun bt334 => (if 2 < (l0.length : Int) then ((concordancelaw19_one.f ((rd_T23 l0 2).f0) ((rd_T23 l0 2).f1) ((rd_T23 l0 2).f2)).bind fun bt343 => ((tuple_Bounds.f k bt325.1 bt325.2.1 bt325.2.2.1 bt334.1 bt334.2.1 bt334.2.2.1).bind fun bt351 => ((concordanceref01_One.f k bt325.2.2.2.1 bt325.2.2.2.2.1 bt325.2.2.2.2.2).bind fun bt354 => (if bt354.2 = 0 then ((concordanceref01_One.f k bt334.2.2.2.1 bt334.2.2.2.2.1 bt334.2.2.2.2.2).bind fun bt356 => (concordancelaw19_TupleBounds.j0 k bt351.1 bt351.2.1 bt351.2.2 bt356.2 a1_0 a1_1 bt325.2.2.2.1 bt325.2.2.2.2.1 bt325.2.2.2.2.2 bt334.2.2.2.1 bt334.2.2.2.2.1 bt334.2.2.2.2.2 bt343.1 bt343.2.1 bt343.2.2.1 bt343.2.2.2.1 bt343.2.2.2.2.1 bt343.2.2.2.2.2)) else (concordancelaw19_TupleBounds.j0 k bt351.1 bt351.2.1 bt351.2.2 bt354.2 a1_0 a1_1 bt325.2.2.2.1 bt325.2.2.2.2.1 bt325.2.2.2.2.2 bt334.2.2.2.1 bt334.2.2.2.2.1 bt334.2.2.2.2.2 bt343.1 bt343.2.1 bt343.2.2.1 bt343.2.2.2.1 bt343.2.2.2.2.1 bt343.2.2.2.2.2))))) else (none))) else (none))) else (none))) else (none))
theorem concordancelaw19_TupleBounds.mono_l : ∀ k, (∀ y0 y1 y2 y3 y4 y5 y6 y7 y8 y9 y10 y11 y12 y13 y14 y15 y16 y17, LeO (concordancelaw19_TupleBounds.j0 k y0 y1 y2 y3 y4 y5 y6 y7 y8 y9 y10 y11 y12 y13 y14 y15 y16 y17) (concordancelaw19_TupleBounds.j0 (k + 1) y0 y1 y2 y3 y4 y5 y6 y7 y8 y9 y10 y11 y12 y13 y14 y15 y16 y17)) ∧ (∀ y0 y1 y2 y3 y4 y5 y6 y7 y8 y9 y10 y11 y12 y13 y14 y15 y16 y17, LeO (concordancelaw19_TupleBounds.j1 k y0 y1 y2 y3 y4 y5 y6 y7 y8 y9 y10 y11 y12 y13 y14 y15 y16 y17) (concordancelaw19_TupleBounds.j1 (k + 1) y0 y1 y2 y3 y4 y5 y6 y7 y8 y9 y10 y11 y12 y13 y14 y15 y16 y17)) ∧ (∀ y0 y1 y2 y3 y4 y5 y6 y7 y8 y9 y10 y11 y12 y13 y14 y15 y16 y17, LeO (concordancelaw19_TupleBounds.j2 k y0 y1 y2 y3 y4 y5 y6 y7 y8 y9 y10 y11 y12 y13 y14 y15 y16 y17) (concordancelaw19_TupleBounds.j2 (k + 1) y0 y1 y2 y3 y4 y5 y6 y7 y8 y9 y10 y11 y12 y13 y14 y15 y16 y17))
 | 0 => ⟨fun _ _ _ _ _ _ _ _ _ _ _ _ _ _ _ _ _ _ r h => by simp [concordancelaw19_TupleBounds.j0] at h, fun _ _ _ _ _ _ _ _ _ _ _ _ _ _ _ _ _ _ r h => by simp [concordancelaw19_TupleBounds.j1] at h, fun _ _ _ _ _ _ _ _ _ _ _ _ _ _ _ _ _ _ r h => by simp [concordancelaw19_TupleBounds.j2] at h⟩
 | k + 1 => by
  obtain ⟨ih0, ih1, ih2⟩ := concordancelaw19_TupleBounds.mono_l k
  refine ⟨?_, ?_, ?_⟩
  ·intro y0 y1 y2 y3 y4 y5 y6 y7 y8 y9 y10 y11 y12 y13 y14 y15 y16 y17
   unfold concordancelaw19_TupleBounds.j0
   repeat' first
   | (with_reducible exact ih0 _ _ _ _ _ _ _ _ _ _ _ _ _ _ _ _ _ _)
   | (with_reducible exact ih1 _ _ _ _ _ _ _ _ _ _ _ _ _ _ _ _ _ _)
   | (with_reducible exact ih2 _ _ _ _ _ _ _ _ _ _ _ _ _ _ _ _ _ _)
   | (with_reducible exact concordancelaw19_speaks.mono _)
   | (with_reducible exact concordanceref01_Compare.mono _ _ _ _ _ _ _)
   | (with_reducible exact concordanceref01_One.mono _ _ _ _)
   | (with_reducible exact concordanceref19_Show.mono _ _ _ _)
   | (with_reducible exact tuple_Bounds.mono _ _ _ _ _ _ _)
   | (with_reducible exact tuple_Entry.mono _ _ _ _ _)
   | (with_reducible exact LeO.refl _)
   | (with_reducible exact LeO.none _)
   | (with_reducible refine LeO.ite ?_ ?_)
   | (with_reducible refine LeO.bind ?_ (fun _ => ?_))
   | exact ih0 _ _ _ _ _ _ _ _ _ _ _ _ _ _ _ _ _ _
   | exact ih1 _ _ _ _ _ _ _ _ _ _ _ _ _ _ _ _ _ _
   | exact ih2 _ _ _ _ _ _ _ _ _ _ _ _ _ _ _ _ _ _
   | exact concordancelaw19_speaks.mono _
   | exact concordanceref01_Compare.mono _ _ _ _ _ _ _
   | exact concordanceref01_One.mono _ _ _ _
   | exact concordanceref19_Show.mono _ _ _ _
   | exact tuple_Bounds.mono _ _ _ _ _ _ _
   | exact tuple_Entry.mono _ _ _ _ _
   | exact LeO.none _
   | refine LeO.ite ?_ ?_
   | refine LeO.bind ?_ (fun _ => ?_)
  ·intro y0 y1 y2 y3 y4 y5 y6 y7 y8 y9 y10 y11 y12 y13 y14 y15 y16 y17
   unfold concordancelaw19_TupleBounds.j1
   repeat' first
   | (with_reducible exact ih0 _ _ _ _ _ _ _ _ _ _ _ _ _ _ _ _ _ _)
   | (with_reducible exact ih1 _ _ _ _ _ _ _ _ _ _ _ _ _ _ _ _ _ _)
   | (with_reducible exact ih2 _ _ _ _ _ _ _ _ _ _ _ _ _ _ _ _ _ _)
   | (with_reducible exact concordancelaw19_speaks.mono _)
   | (with_reducible exact concordanceref01_Compare.mono _ _ _ _ _ _ _)
   | (with_reducible exact concordanceref01_One.mono _ _ _ _)
   | (with_reducible exact concordanceref19_Show.mono _ _ _ _)
   | (with_reducible exact tuple_Bounds.mono _ _ _ _ _ _ _)
   | (with_reducible exact tuple_Entry.mono _ _ _ _ _)
   | (with_reducible exact LeO.refl _)
   | (with_reducible exact LeO.none _)
   | (with_reducible refine LeO.ite ?_ ?_)
   | (with_reducible refine LeO.bind ?_ (fun _ => ?_))
   | exact ih0 _ _ _ _ _ _ _ _ _ _ _ _ _ _ _ _ _ _
   | exact ih1 _ _ _ _ _ _ _ _ _ _ _ _ _ _ _ _ _ _
   | exact ih2 _ _ _ _ _ _ _ _ _ _ _ _ _ _ _ _ _ _
   | exact concordancelaw19_speaks.mono _
   | exact concordanceref01_Compare.mono _ _ _ _ _ _ _
   | exact concordanceref01_One.mono _ _ _ _
   | exact concordanceref19_Show.mono _ _ _ _
   | exact tuple_Bounds.mono _ _ _ _ _ _ _
   | exact tuple_Entry.mono _ _ _ _ _
   | exact LeO.none _
   | refine LeO.ite ?_ ?_
   | refine LeO.bind ?_ (fun _ => ?_)
  ·intro y0 y1 y2 y3 y4 y5 y6 y7 y8 y9 y10 y11 y12 y13 y14 y15 y16 y17
   unfold concordancelaw19_TupleBounds.j2
   repeat' first
   | (with_reducible exact ih0 _ _ _ _ _ _ _ _ _ _ _ _ _ _ _ _ _ _)
   | (with_reducible exact ih1 _ _ _ _ _ _ _ _ _ _ _ _ _ _ _ _ _ _)
   | (with_reducible exact ih2 _ _ _ _ _ _ _ _ _ _ _ _ _ _ _ _ _ _)
   | (with_reducible exact concordancelaw19_speaks.mono _)
   | (with_reducible exact concordanceref01_Compare.mono _ _ _ _ _ _ _)
   | (with_reducible exact concordanceref01_One.mono _ _ _ _)
   | (with_reducible exact concordanceref19_Show.mono _ _ _ _)
   | (with_reducible exact tuple_Bounds.mono _ _ _ _ _ _ _)
   | (with_reducible exact tuple_Entry.mono _ _ _ _ _)
   | (with_reducible exact LeO.refl _)
   | (with_reducible exact LeO.none _)
   | (with_reducible refine LeO.ite ?_ ?_)
   | (with_reducible refine LeO.bind ?_ (fun _ => ?_))
   | exact ih0 _ _ _ _ _ _ _ _ _ _ _ _ _ _ _ _ _ _
   | exact ih1 _ _ _ _ _ _ _ _ _ _ _ _ _ _ _ _ _ _
   | exact ih2 _ _ _ _ _ _ _ _ _ _ _ _ _ _ _ _ _ _
   | exact concordancelaw19_speaks.mono _
   | exact concordanceref01_Compare.mono _ _ _ _ _ _ _
   | exact concordanceref01_One.mono _ _ _ _
   | exact concordanceref19_Show.mono _ _ _ _
   | exact tuple_Bounds.mono _ _ _ _ _ _ _
   | exact tuple_Entry.mono _ _ _ _ _
   | exact LeO.none _
   | refine LeO.ite ?_ ?_
   | refine LeO.bind ?_ (fun _ => ?_)
theorem concordancelaw19_TupleBounds.mono : ∀ a0 a1 a2 k, LeO (concordancelaw19_TupleBounds.f k a0 a1 a2) (concordancelaw19_TupleBounds.f (k + 1) a0 a1 a2) := by
 intro a0 a1 a2 k
 obtain ⟨ih0, ih1, ih2⟩ := concordancelaw19_TupleBounds.mono_l k
 unfold concordancelaw19_TupleBounds.f
 repeat' first
   | (with_reducible exact ih0 _ _ _ _ _ _ _ _ _ _ _ _ _ _ _ _ _ _)
   | (with_reducible exact ih1 _ _ _ _ _ _ _ _ _ _ _ _ _ _ _ _ _ _)
   | (with_reducible exact ih2 _ _ _ _ _ _ _ _ _ _ _ _ _ _ _ _ _ _)
   | (with_reducible exact concordancelaw19_speaks.mono _)
   | (with_reducible exact concordanceref01_Compare.mono _ _ _ _ _ _ _)
   | (with_reducible exact concordanceref01_One.mono _ _ _ _)
   | (with_reducible exact concordanceref19_Show.mono _ _ _ _)
   | (with_reducible exact tuple_Bounds.mono _ _ _ _ _ _ _)
   | (with_reducible exact tuple_Entry.mono _ _ _ _ _)
   | (with_reducible exact LeO.refl _)
   | (with_reducible exact LeO.none _)
   | (with_reducible refine LeO.ite ?_ ?_)
   | (with_reducible refine LeO.bind ?_ (fun _ => ?_))
   | exact ih0 _ _ _ _ _ _ _ _ _ _ _ _ _ _ _ _ _ _
   | exact ih1 _ _ _ _ _ _ _ _ _ _ _ _ _ _ _ _ _ _
   | exact ih2 _ _ _ _ _ _ _ _ _ _ _ _ _ _ _ _ _ _
   | exact concordancelaw19_speaks.mono _
   | exact concordanceref01_Compare.mono _ _ _ _ _ _ _
   | exact concordanceref01_One.mono _ _ _ _
   | exact concordanceref19_Show.mono _ _ _ _
   | exact tuple_Bounds.mono _ _ _ _ _ _ _
   | exact tuple_Entry.mono _ _ _ _ _
   | exact LeO.none _
   | refine LeO.ite ?_ ?_
   | refine LeO.bind ?_ (fun _ => ?_)
def concordancelaw19_TupleBounds.T12 : Bool × List (List Nat × List Nat) := (true, [([], []), ([], []), ([0, 1], [0, 1]), ([2], [2]), ([3], [3]), ([4, 3, 3], [3, 4]), ([3], [3]), ([6, 5, 3], [3, 6]), ([5, 7, 3], [3, 5, 7]), ([3, 8], [3, 8])])
def concordancelaw19_TupleBounds.B12 : List Nat := [0, 0, 3, 7, 15, 31, 15, 127, 255, 511]
theorem concordancelaw19_TupleBounds.tab12 : rtab .any (opsOf Tryd.f6 12) = concordancelaw19_TupleBounds.T12 := by kernel_rfl
theorem concordancelaw19_TupleBounds.bits12 : waitsOk concordancelaw19_TupleBounds.T12.2 concordancelaw19_TupleBounds.B12 = true := by kernel_rfl
set_option maxHeartbeats 8000000 in
set_option maxRecDepth 100000 in
theorem concordancelaw19_TupleBounds.calls (k : Nat) (A0 : Option Addr) (c0 : Nat) (l0 : List (S23)) (a1_0 : Int) (a1_1 : Int) (r : Bool) (w : World) (hT : Tab w) (hr0 : Kd.C k23 w A0 l0.length l0) (hc0 : l0.length ≤ c0) (h : concordancelaw19_TupleBounds.f k l0 a1_0 a1_1 = some r) :
  Calls Tryd.prog 6 #[.slice A0 l0.length c0, .agg #[.int .i64 a1_0, .int .i64 a1_1]] w fun e w' => e = .returned (.bool r) ∧ Below w.heap.size w w' := by
 have HTab := Aside0.mk hT
 clear hT
 have hu50 := Tryd.underlying50
 have hu23 := Tryd.underlying23
 have hu25 := Tryd.underlying25
 have hu26 := Tryd.underlying26
 have HR0 := Aside0.mk hr0
 have HC0 := Aside0.mk hc0
 clear hr0 hc0
 have HB := Aside0.mk (Below.refl w.heap.size w)
 have H : ((concordancelaw19_speaks.f k).bind fun t323 => (if t323 = true then (if (l0.length : Int) < 3 then (some true) else (if 0 < (l0.length : Int) then ((concordancelaw19_one.f ((rd_T23 l0 0).f0) ((rd_T23 l0 0).f1) ((rd_T23 l0 0).f2)).bind fun bt325 => (if 1 < (l0.length : Int) then ((concordancelaw19_one.f ((rd_T23 l0 1).f0) ((rd_T23 l0 1).f1) ((rd_T23 l0 1).f2)).bind fun bt334 => (if 2 < (l0.length : Int) then ((concordancelaw19_one.f ((rd_T23 l0 2).f0) ((rd_T23 l0 2).f1) ((rd_T23 l0 2).f2)).bind fun bt343 => ((tuple_Bounds.f k bt325.1 bt325.2.1 bt325.2.2.1 bt334.1 bt334.2.1 bt334.2.2.1).bind fun bt351 => ((concordanceref01_One.f k bt325.2.2.2.1 bt325.2.2.2.2.1 bt325.2.2.2.2.2).bind fun bt354 => (if bt354.2 = 0 then ((concordanceref01_One.f k bt334.2.2.2.1 bt334.2.2.2.2.1 bt334.2.2.2.2.2).bind fun bt356 => (concordancelaw19_TupleBounds.j0 k bt351.1 bt351.2.1 bt351.2.2 bt356.2 a1_0 a1_1 bt325.2.2.2.1 bt325.2.2.2.2.1 bt325.2.2.2.2.2 bt334.2.2.2.1 bt334.2.2.2.2.1 bt334.2.2.2.2.2 bt343.1 bt343.2.1 bt343.2.2.1 bt343.2.2.2.1 bt343.2.2.2.2.1 bt343.2.2.2.2.2)) else (concordancelaw19_TupleBounds.j0 k bt351.1 bt351.2.1 bt351.2.2 bt354.2 a1_0 a1_1 bt325.2.2.2.1 bt325.2.2.2.2.1 bt325.2.2.2.2.2 bt334.2.2.2.1 bt334.2.2.2.2.1 bt334.2.2.2.2.2 bt343.1 bt343.2.1 bt343.2.2.1 bt343.2.2.2.1 bt343.2.2.2.2.1 bt343.2.2.2.2.2))))) else (none))) else (none))) else (none))) else (none))) = some r := h
 clear h
 replace H := Option.bind_eq_some_iff.mp H
 obtain ⟨t323, A30, H⟩ := H
 replace H : (if t323 = true then (if (l0.length : Int) < 3 then (some true) else (if 0 < (l0.length : Int) then ((concordancelaw19_one.f ((rd_T23 l0 0).f0) ((rd_T23 l0 0).f1) ((rd_T23 l0 0).f2)).bind fun bt325 => (if 1 < (l0.length : Int) then ((concordancelaw19_one.f ((rd_T23 l0 1).f0) ((rd_T23 l0 1).f1) ((rd_T23 l0 1).f2)).bind fun bt334 => (if 2 < (l0.length : Int) then ((concordancelaw19_one.f ((rd_T23 l0 2).f0) ((rd_T23 l0 2).f1) ((rd_T23 l0 2).f2)).bind fun bt343 => ((tuple_Bounds.f k bt325.1 bt325.2.1 bt325.2.2.1 bt334.1 bt334.2.1 bt334.2.2.1).bind fun bt351 => ((concordanceref01_One.f k bt325.2.2.2.1 bt325.2.2.2.2.1 bt325.2.2.2.2.2).bind fun bt354 => (if bt354.2 = 0 then ((concordanceref01_One.f k bt334.2.2.2.1 bt334.2.2.2.2.1 bt334.2.2.2.2.2).bind fun bt356 => (concordancelaw19_TupleBounds.j0 k bt351.1 bt351.2.1 bt351.2.2 bt356.2 a1_0 a1_1 bt325.2.2.2.1 bt325.2.2.2.2.1 bt325.2.2.2.2.2 bt334.2.2.2.1 bt334.2.2.2.2.1 bt334.2.2.2.2.2 bt343.1 bt343.2.1 bt343.2.2.1 bt343.2.2.2.1 bt343.2.2.2.2.1 bt343.2.2.2.2.2)) else (concordancelaw19_TupleBounds.j0 k bt351.1 bt351.2.1 bt351.2.2 bt354.2 a1_0 a1_1 bt325.2.2.2.1 bt325.2.2.2.2.1 bt325.2.2.2.2.2 bt334.2.2.2.1 bt334.2.2.2.2.1 bt334.2.2.2.2.2 bt343.1 bt343.2.1 bt343.2.2.1 bt343.2.2.2.1 bt343.2.2.2.2.1 bt343.2.2.2.2.2))))) else (none))) else (none))) else (none))) else (none)) = some r := H
 have A3 := Aside0.mk A30
 clear A30
 by_cases c4 : t323 = true
 ·subst c4
  have H1 : (if (l0.length : Int) < 3 then (some true) else (if 0 < (l0.length : Int) then ((concordancelaw19_one.f ((rd_T23 l0 0).f0) ((rd_T23 l0 0).f1) ((rd_T23 l0 0).f2)).bind fun bt325 => (if 1 < (l0.length : Int) then ((concordancelaw19_one.f ((rd_T23 l0 1).f0) ((rd_T23 l0 1).f1) ((rd_T23 l0 1).f2)).bind fun bt334 => (if 2 < (l0.length : Int) then ((concordancelaw19_one.f ((rd_T23 l0 2).f0) ((rd_T23 l0 2).f1) ((rd_T23 l0 2).f2)).bind fun bt343 => ((tuple_Bounds.f k bt325.1 bt325.2.1 bt325.2.2.1 bt334.1 bt334.2.1 bt334.2.2.1).bind fun bt351 => ((concordanceref01_One.f k bt325.2.2.2.1 bt325.2.2.2.2.1 bt325.2.2.2.2.2).bind fun bt354 => (if bt354.2 = 0 then ((concordanceref01_One.f k bt334.2.2.2.1 bt334.2.2.2.2.1 bt334.2.2.2.2.2).bind fun bt356 => (concordancelaw19_TupleBounds.j0 k bt351.1 bt351.2.1 bt351.2.2 bt356.2 a1_0 a1_1 bt325.2.2.2.1 bt325.2.2.2.2.1 bt325.2.2.2.2.2 bt334.2.2.2.1 bt334.2.2.2.2.1 bt334.2.2.2.2.2 bt343.1 bt343.2.1 bt343.2.2.1 bt343.2.2.2.1 bt343.2.2.2.2.1 bt343.2.2.2.2.2)) else (concordancelaw19_TupleBounds.j0 k bt351.1 bt351.2.1 bt351.2.2 bt354.2 a1_0 a1_1 bt325.2.2.2.1 bt325.2.2.2.2.1 bt325.2.2.2.2.2 bt334.2.2.2.1 bt334.2.2.2.2.1 bt334.2.2.2.2.2 bt343.1 bt343.2.1 bt343.2.2.1 bt343.2.2.2.1 bt343.2.2.2.2.1 bt343.2.2.2.2.2))))) else (none))) else (none))) else (none))) = some r := by rw [if_pos rfl] at H; exact H
  clear H
  have H := H1
  clear H1
  by_cases c5 : (l0.length : Int) < 3
  ·rw [if_pos c5] at H
   have c5b0 : decide ((l0.length : Int) < 3) = true := decide_eq_true c5
   have c5b1 : decide (l0.length < 3) = true := decide_eq_true (by omega)
   clear c5
   obtain rfl := Option.some.inj H
   go_enter Tryd.func6, Tryd.ntmps6
   go_wp2_with (first | ((with_reducible refine gate_dst (N := 3) rfl ?_); refine box_event ?hg (N := 3) ?hd (cs := #[.int .i64 a1_0, .int .i64 a1_1]) (t := 50) ?hr ?_; (case hd => rfl); (case hg => rfl); (case hr => first | (go_simp; done) | (go_simp; rfl)); intro gb322 hg w6 hbox hb; have n0_ := Aside0.mk (below_step (by repeat (first | (with_reducible first | exact HB.out | apply below_alloc | apply pw_below_drewN | apply below_drew1) | exact HB.out)) hb); have n1_ := Aside0.mk (hbox); have n2_ := Aside0.mk ((by rw [hg]; exact (below_size (by repeat (first | (with_reducible first | exact HB.out | apply below_alloc | apply pw_below_drewN | apply below_drew1) | exact HB.out))) : w.heap.size ≤ gb322)); have n3_ := Aside0.mk ((by rw [hg]; exact (below_size (by repeat (first | (with_reducible first | exact HB.out | apply below_alloc | apply pw_below_drewN | apply below_drew1) | exact HB.out))) : w.heap.size ≤ gb322)); clear HB; have HB := n0_; have BK322 := n1_; have GW322 := n2_; have GE322 := n3_; clear n0_ n1_ n2_ n3_; clear hb hbox hg) | ((with_reducible refine gate_callee (f := 8) rfl ?_); refine goesL_ (some 21) rfl rfl Tryd.func8 (by kernel_rfl) rfl #[] rfl (by (try simp only [List.map_toArray, List.map_cons, List.map_nil]); first | done | rfl | (simp only [List.length_drop, List.length_take]; rfl)) ?_; (with_reducible refine (concordancelaw19_speaks.calls k  true _ A3.out).mono ?_); rintro e w7 ⟨rfl, hb⟩; refine ⟨_, rfl, ?_⟩; have n0_ := Aside0.mk (blk_below (g := gb322) (o := .cells #[.int .i64 a1_0, .int .i64 a1_1] 50 (0, 0)) (by (with_reducible repeat (first | refine blk_drewN ?_ _ | refine blk_drew ?_ | refine blk_alloc ?_ _)); exact BK322.out) hb); have n1_ := Aside0.mk (below_step (by repeat (first | (with_reducible first | exact HB.out | apply below_alloc | apply pw_below_drewN | apply below_drew1 | refine below_set ?_ GE322.out) | exact HB.out)) hb); clear BK322; clear HB; have BK322 := n0_; have HB := n1_; clear n0_ n1_; (try clear hb); (try clear hb2); (try clear hk); (try clear hi)))
   go_ret
   exact ⟨by first | rfl | (simp [errW_none, errW_some] <;> rfl) | (simp [*, errW_none, errW_some] <;> rfl), by repeat (first | (with_reducible first | exact HB.out | apply below_alloc | apply pw_below_drewN | apply below_drew1 | refine below_set ?_ GE322.out) | exact HB.out)⟩
  ·rw [if_neg c5] at H
   have c5b0 : decide ((l0.length : Int) < 3) = false := decide_eq_false c5
   have c5b1 : decide (l0.length < 3) = false := decide_eq_false (by omega)
   clear c5
   by_cases c8 : 0 < (l0.length : Int)
   ·rw [if_pos c8] at H
    have c8b0 : decide (0 < (l0.length : Int)) = true := decide_eq_true c8
    have c8b1 : decide (0 < l0.length) = true := decide_eq_true (by omega)
    clear c8
    replace H := Option.bind_eq_some_iff.mp H
    obtain ⟨⟨t325, t326, t327, t328, t329, t330⟩, A90, H⟩ := H
    replace H : (if 1 < (l0.length : Int) then ((concordancelaw19_one.f ((rd_T23 l0 1).f0) ((rd_T23 l0 1).f1) ((rd_T23 l0 1).f2)).bind fun bt334 => (if 2 < (l0.length : Int) then ((concordancelaw19_one.f ((rd_T23 l0 2).f0) ((rd_T23 l0 2).f1) ((rd_T23 l0 2).f2)).bind fun bt343 => ((tuple_Bounds.f k t325 t326 t327 bt334.1 bt334.2.1 bt334.2.2.1).bind fun bt351 => ((concordanceref01_One.f k t328 t329 t330).bind fun bt354 => (if bt354.2 = 0 then ((concordanceref01_One.f k bt334.2.2.2.1 bt334.2.2.2.2.1 bt334.2.2.2.2.2).bind fun bt356 => (concordancelaw19_TupleBounds.j0 k bt351.1 bt351.2.1 bt351.2.2 bt356.2 a1_0 a1_1 t328 t329 t330 bt334.2.2.2.1 bt334.2.2.2.2.1 bt334.2.2.2.2.2 bt343.1 bt343.2.1 bt343.2.2.1 bt343.2.2.2.1 bt343.2.2.2.2.1 bt343.2.2.2.2.2)) else (concordancelaw19_TupleBounds.j0 k bt351.1 bt351.2.1 bt351.2.2 bt354.2 a1_0 a1_1 t328 t329 t330 bt334.2.2.2.1 bt334.2.2.2.2.1 bt334.2.2.2.2.2 bt343.1 bt343.2.1 bt343.2.2.1 bt343.2.2.2.1 bt343.2.2.2.2.1 bt343.2.2.2.2.2))))) else (none))) else (none)) = some r := H
    have A9 := Aside0.mk A90
    clear A90
    by_cases c10 : 1 < (l0.length : Int)
    ·rw [if_pos c10] at H
     have c10b0 : decide (1 < (l0.length : Int)) = true := decide_eq_true c10
     have c10b1 : decide (1 < l0.length) = true := decide_eq_true (by omega)
     clear c10
     replace H := Option.bind_eq_some_iff.mp H
     obtain ⟨⟨t334, t335, t336, t337, t338, t339⟩, A110, H⟩ := H
     replace H : (if 2 < (l0.length : Int) then ((concordancelaw19_one.f ((rd_T23 l0 2).f0) ((rd_T23 l0 2).f1) ((rd_T23 l0 2).f2)).bind fun bt343 => ((tuple_Bounds.f k t325 t326 t327 t334 t335 t336).bind fun bt351 => ((concordanceref01_One.f k t328 t329 t330).bind fun bt354 => (if bt354.2 = 0 then ((concordanceref01_One.f k t337 t338 t339).bind fun bt356 => (concordancelaw19_TupleBounds.j0 k bt351.1 bt351.2.1 bt351.2.2 bt356.2 a1_0 a1_1 t328 t329 t330 t337 t338 t339 bt343.1 bt343.2.1 bt343.2.2.1 bt343.2.2.2.1 bt343.2.2.2.2.1 bt343.2.2.2.2.2)) else (concordancelaw19_TupleBounds.j0 k bt351.1 bt351.2.1 bt351.2.2 bt354.2 a1_0 a1_1 t328 t329 t330 t337 t338 t339 bt343.1 bt343.2.1 bt343.2.2.1 bt343.2.2.2.1 bt343.2.2.2.2.1 bt343.2.2.2.2.2))))) else (none)) = some r := H
     have A11 := Aside0.mk A110
     clear A110
     by_cases c12 : 2 < (l0.length : Int)
     ·rw [if_pos c12] at H
      have c12b0 : decide (2 < (l0.length : Int)) = true := decide_eq_true c12
      have c12b1 : decide (2 < l0.length) = true := decide_eq_true (by omega)
      clear c12
      replace H := Option.bind_eq_some_iff.mp H
      obtain ⟨⟨t343, t344, t345, t346, t347, t348⟩, A130, H⟩ := H
      replace H : ((tuple_Bounds.f k t325 t326 t327 t334 t335 t336).bind fun bt351 => ((concordanceref01_One.f k t328 t329 t330).bind fun bt354 => (if bt354.2 = 0 then ((concordanceref01_One.f k t337 t338 t339).bind fun bt356 => (concordancelaw19_TupleBounds.j0 k bt351.1 bt351.2.1 bt351.2.2 bt356.2 a1_0 a1_1 t328 t329 t330 t337 t338 t339 t343 t344 t345 t346 t347 t348)) else (concordancelaw19_TupleBounds.j0 k bt351.1 bt351.2.1 bt351.2.2 bt354.2 a1_0 a1_1 t328 t329 t330 t337 t338 t339 t343 t344 t345 t346 t347 t348)))) = some r := H
      have A13 := Aside0.mk A130
      clear A130
      replace H := Option.bind_eq_some_iff.mp H
      obtain ⟨⟨t351, t352, t353⟩, A140, H⟩ := H
      replace H : ((concordanceref01_One.f k t328 t329 t330).bind fun bt354 => (if bt354.2 = 0 then ((concordanceref01_One.f k t337 t338 t339).bind fun bt356 => (concordancelaw19_TupleBounds.j0 k t351 t352 t353 bt356.2 a1_0 a1_1 t328 t329 t330 t337 t338 t339 t343 t344 t345 t346 t347 t348)) else (concordancelaw19_TupleBounds.j0 k t351 t352 t353 bt354.2 a1_0 a1_1 t328 t329 t330 t337 t338 t339 t343 t344 t345 t346 t347 t348))) = some r := H
      have A14 := Aside0.mk A140
      clear A140
      replace H := Option.bind_eq_some_iff.mp H
      obtain ⟨⟨t354, t355⟩, A150, H⟩ := H
      replace H : (if t355 = 0 then ((concordanceref01_One.f k t337 t338 t339).bind fun bt356 => (concordancelaw19_TupleBounds.j0 k t351 t352 t353 bt356.2 a1_0 a1_1 t328 t329 t330 t337 t338 t339 t343 t344 t345 t346 t347 t348)) else (concordancelaw19_TupleBounds.j0 k t351 t352 t353 t355 a1_0 a1_1 t328 t329 t330 t337 t338 t339 t343 t344 t345 t346 t347 t348)) = some r := H
      have A15 := Aside0.mk A150
      clear A150
      have HC16 := Aside0.mk H
      clear H
      go_enter Tryd.func6, Tryd.ntmps6
      go_upto_if 60 with (first | ((with_reducible refine gate_dst (N := 3) rfl ?_); refine box_event ?hg (N := 3) ?hd (cs := #[.int .i64 a1_0, .int .i64 a1_1]) (t := 50) ?hr ?_; (case hd => rfl); (case hg => rfl); (case hr => first | (go_simp; done) | (go_simp; rfl)); intro gb322 hg w17 hbox hb; have n0_ := Aside0.mk (below_step (by repeat (first | (with_reducible first | exact HB.out | apply below_alloc | apply pw_below_drewN | apply below_drew1) | exact HB.out)) hb); have n1_ := Aside0.mk (hbox); have n2_ := Aside0.mk ((by rw [hg]; exact (below_size (by repeat (first | (with_reducible first | exact HB.out | apply below_alloc | apply pw_below_drewN | apply below_drew1) | exact HB.out))) : w.heap.size ≤ gb322)); have n3_ := Aside0.mk ((by rw [hg]; exact (below_size (by repeat (first | (with_reducible first | exact HB.out | apply below_alloc | apply pw_below_drewN | apply below_drew1) | exact HB.out))) : w.heap.size ≤ gb322)); clear HB; have HB := n0_; have BK322 := n1_; have GW322 := n2_; have GE322 := n3_; clear n0_ n1_ n2_ n3_; clear hb hbox hg) | ((with_reducible refine gate_callee (f := 8) rfl ?_); refine goesL_ (some 21) rfl rfl Tryd.func8 (by kernel_rfl) rfl #[] rfl (by (try simp only [List.map_toArray, List.map_cons, List.map_nil]); first | done | rfl | (simp only [List.length_drop, List.length_take]; rfl)) ?_; (with_reducible refine (concordancelaw19_speaks.calls k  true _ A3.out).mono ?_); rintro e w18 ⟨rfl, hb⟩; refine ⟨_, rfl, ?_⟩; have n0_ := Aside0.mk (blk_below (g := gb322) (o := .cells #[.int .i64 a1_0, .int .i64 a1_1] 50 (0, 0)) (by (with_reducible repeat (first | refine blk_drewN ?_ _ | refine blk_drew ?_ | refine blk_alloc ?_ _)); exact BK322.out) hb); have n1_ := Aside0.mk (below_step (by repeat (first | (with_reducible first | exact HB.out | apply below_alloc | apply pw_below_drewN | apply below_drew1 | refine below_set ?_ GE322.out) | exact HB.out)) hb); clear BK322; clear HB; have BK322 := n0_; have HB := n1_; clear n0_ n1_; (try clear hb); (try clear hb2); (try clear hk); (try clear hi); have p324 : 0 ≤ (0 : Int) := (by omega); have q324 : 0 < (l0.length : Int) := of_decide_eq_true (by first | (with_reducible assumption) | assumption); obtain ⟨ad324, e324, hx324_0, hx324_1, hx324_2⟩ := at_T23 HR0.out 0 p324 q324; cases e324; have qi324 : (0 < l0.length) = True := eq_true (by omega); (try rw [show ((0 : Int)).toNat = 0 from rfl] at hx324_0); (try rw [show 0 * 3 = 0 from rfl] at hx324_0); (try rw [Addr.add_zero'] at hx324_0); (try rw [show ((0 : Int)).toNat = 0 from rfl] at hx324_1); (try rw [show 0 * 3 = 0 from rfl] at hx324_1); (try rw [Addr.add_zero'] at hx324_1); (try rw [show ((0 : Int)).toNat = 0 from rfl] at hx324_2); (try rw [show 0 * 3 = 0 from rfl] at hx324_2); (try rw [Addr.add_zero'] at hx324_2); replace hx324_0 := (HB.out.cell (World.block_lt_of_cell? w _ hx324_0)).trans hx324_0; replace hx324_1 := (HB.out.cell (World.block_lt_of_cell? w _ hx324_1)).trans hx324_1; replace hx324_2 := (HB.out.cell (World.block_lt_of_cell? w _ hx324_2)).trans hx324_2; replace p324 := eq_true p324; replace q324 := eq_true q324) | ((with_reducible refine gate_callee (f := 9) rfl ?_); refine goesL_ (some 30) rfl rfl Tryd.func9 (by kernel_rfl) rfl #[.agg #[.string ((rd_T23 l0 0).f0), .int .i64 ((rd_T23 l0 0).f1), .bool ((rd_T23 l0 0).f2)]] rfl (by (try simp only [List.map_toArray, List.map_cons, List.map_nil]); first | done | rfl | (simp only [List.length_drop, List.length_take]; rfl)) ?_; (with_reducible refine (concordancelaw19_one.calls ((rd_T23 l0 0).f0) ((rd_T23 l0 0).f1) ((rd_T23 l0 0).f2) t325 t326 t327 t328 t329 t330 _ A9.out).mono ?_); rintro e w19 ⟨rfl, hb⟩; refine ⟨_, rfl, ?_⟩; have n0_ := Aside0.mk (blk_below (g := gb322) (o := .cells #[.int .i64 a1_0, .int .i64 a1_1] 50 (0, 0)) (by (with_reducible repeat (first | refine blk_drewN ?_ _ | refine blk_drew ?_ | refine blk_alloc ?_ _)); exact BK322.out) hb); have n1_ := Aside0.mk (below_step (by repeat (first | (with_reducible first | exact HB.out | apply below_alloc | apply pw_below_drewN | apply below_drew1 | refine below_set ?_ GE322.out) | exact HB.out)) hb); clear BK322; clear HB; have BK322 := n0_; have HB := n1_; clear n0_ n1_; (try clear hb); (try clear hb2); (try clear hk); (try clear hi)) | ((with_reducible refine gate_dst (N := 5) rfl ?_); refine box_event ?hg (N := 5) ?hd (cs := #[.string (⟨#[]⟩ : ByteArray), .int .i64 0, .bool false]) (t := 25) ?hr ?_; (case hd => rfl); (case hg => rfl); (case hr => first | (go_simp; done) | (go_simp; rfl)); intro gb331 hg w20 hbox hb; have n0_ := Aside0.mk (blk_below (g := gb322) (o := .cells #[.int .i64 a1_0, .int .i64 a1_1] 50 (0, 0)) (by (with_reducible repeat (first | refine blk_drewN ?_ _ | refine blk_drew ?_ | refine blk_alloc ?_ _)); exact BK322.out) hb); have n1_ := Aside0.mk (below_step (by repeat (first | (with_reducible first | exact HB.out | apply below_alloc | apply pw_below_drewN | apply below_drew1 | refine below_set ?_ GE322.out) | exact HB.out)) hb); have n2_ := Aside0.mk (hbox); have n3_ := Aside0.mk ((by rw [hg]; exact (below_size (by repeat (first | (with_reducible first | exact HB.out | apply below_alloc | apply pw_below_drewN | apply below_drew1 | refine below_set ?_ GE322.out) | exact HB.out))) : w.heap.size ≤ gb331)); have n4_ := Aside0.mk ((by rw [hg]; exact (below_size (by repeat (first | (with_reducible first | exact HB.out | apply below_alloc | apply pw_below_drewN | apply below_drew1 | refine below_set ?_ GE322.out) | exact HB.out))) : w.heap.size ≤ gb331)); have n5_ := Aside0.mk ((by rw [hg]; exact Nat.ne_of_lt (blk_lt (g := gb322) (o := .cells #[.int .i64 a1_0, .int .i64 a1_1] 50 (0, 0)) (by (with_reducible repeat (first | refine blk_drewN ?_ _ | refine blk_drew ?_ | refine blk_alloc ?_ _)); exact BK322.out)) : gb322 ≠ gb331)); have n6_ := Aside0.mk ((by rw [hg]; exact Nat.ne_of_gt (blk_lt (g := gb322) (o := .cells #[.int .i64 a1_0, .int .i64 a1_1] 50 (0, 0)) (by (with_reducible repeat (first | refine blk_drewN ?_ _ | refine blk_drew ?_ | refine blk_alloc ?_ _)); exact BK322.out)) : gb331 ≠ gb322)); clear BK322; clear HB; have BK322 := n0_; have HB := n1_; have BK331 := n2_; have GW331 := n3_; have GE331 := n4_; have NB322_331 := n5_; have NB331_322 := n6_; clear n0_ n1_ n2_ n3_ n4_ n5_ n6_; clear hb hbox hg) | ((with_reducible refine gate_dst (N := 6) rfl ?_); refine box_event ?hg (N := 6) ?hd (cs := #[.string (⟨#[]⟩ : ByteArray), .int .i64 0, .bool false]) (t := 26) ?hr ?_; (case hd => rfl); (case hg => rfl); (case hr => first | (go_simp; done) | (go_simp; rfl)); intro gb332 hg w21 hbox hb; have n0_ := Aside0.mk (blk_below (g := gb322) (o := .cells #[.int .i64 a1_0, .int .i64 a1_1] 50 (0, 0)) (by (with_reducible repeat (first | refine blk_drewN ?_ _ | refine blk_drew ?_ | refine blk_alloc ?_ _)); exact BK322.out) hb); have n1_ := Aside0.mk (blk_below (g := gb331) (o := .cells #[.string (⟨#[]⟩ : ByteArray), .int .i64 0, .bool false] 25 (0, 0)) (by (with_reducible repeat (first | refine blk_drewN ?_ _ | refine blk_drew ?_ | refine blk_alloc ?_ _)); exact BK331.out) hb); have n2_ := Aside0.mk (below_step (by repeat (first | (with_reducible first | exact HB.out | apply below_alloc | apply pw_below_drewN | apply below_drew1 | refine below_set ?_ GE322.out | refine below_set ?_ GE331.out) | exact HB.out)) hb); have n3_ := Aside0.mk (hbox); have n4_ := Aside0.mk ((by rw [hg]; exact (below_size (by repeat (first | (with_reducible first | exact HB.out | apply below_alloc | apply pw_below_drewN | apply below_drew1 | refine below_set ?_ GE322.out | refine below_set ?_ GE331.out) | exact HB.out))) : w.heap.size ≤ gb332)); have n5_ := Aside0.mk ((by rw [hg]; exact (below_size (by repeat (first | (with_reducible first | exact HB.out | apply below_alloc | apply pw_below_drewN | apply below_drew1 | refine below_set ?_ GE322.out | refine below_set ?_ GE331.out) | exact HB.out))) : w.heap.size ≤ gb332)); have n6_ := Aside0.mk ((by rw [hg]; exact Nat.ne_of_lt (blk_lt (g := gb322) (o := .cells #[.int .i64 a1_0, .int .i64 a1_1] 50 (0, 0)) (by (with_reducible repeat (first | refine blk_drewN ?_ _ | refine blk_drew ?_ | refine blk_alloc ?_ _)); exact BK322.out)) : gb322 ≠ gb332)); have n7_ := Aside0.mk ((by rw [hg]; exact Nat.ne_of_gt (blk_lt (g := gb322) (o := .cells #[.int .i64 a1_0, .int .i64 a1_1] 50 (0, 0)) (by (with_reducible repeat (first | refine blk_drewN ?_ _ | refine blk_drew ?_ | refine blk_alloc ?_ _)); exact BK322.out)) : gb332 ≠ gb322)); have n8_ := Aside0.mk ((by rw [hg]; exact Nat.ne_of_lt (blk_lt (g := gb331) (o := .cells #[.string (⟨#[]⟩ : ByteArray), .int .i64 0, .bool false] 25 (0, 0)) (by (with_reducible repeat (first | refine blk_drewN ?_ _ | refine blk_drew ?_ | refine blk_alloc ?_ _)); exact BK331.out)) : gb331 ≠ gb332)); have n9_ := Aside0.mk ((by rw [hg]; exact Nat.ne_of_gt (blk_lt (g := gb331) (o := .cells #[.string (⟨#[]⟩ : ByteArray), .int .i64 0, .bool false] 25 (0, 0)) (by (with_reducible repeat (first | refine blk_drewN ?_ _ | refine blk_drew ?_ | refine blk_alloc ?_ _)); exact BK331.out)) : gb332 ≠ gb331)); clear BK322; clear BK331; clear HB; have BK322 := n0_; have BK331 := n1_; have HB := n2_; have BK332 := n3_; have GW332 := n4_; have GE332 := n5_; have NB322_332 := n6_; have NB332_322 := n7_; have NB331_332 := n8_; have NB332_331 := n9_; clear n0_ n1_ n2_ n3_ n4_ n5_ n6_ n7_ n8_ n9_; clear hb hbox hg; have hnb22 := NB331_322.out; have hnc22 := NB322_331.out; have hnb23 := NB331_332.out; have hnc23 := NB332_331.out; have hcz24_0 : w21.cell? ⟨gb331, 0, none⟩ = some (.string (⟨#[]⟩ : ByteArray)) := (blk_cell BK331.out 0).trans rfl; have hcz24_1 : w21.cell? ⟨gb331, 1, none⟩ = some (.int .i64 0) := (blk_cell BK331.out 1).trans rfl; have hcz24_2 : w21.cell? ⟨gb331, 2, none⟩ = some (.bool false) := (blk_cell BK331.out 2).trans rfl; have hfz24_0 := blk_frozen BK331.out 0; have hfz24_1 := blk_frozen BK331.out 1; have hfz24_2 := blk_frozen BK331.out 2; have hnb25 := NB332_322.out; have hnc25 := NB322_332.out; have hcz26_0 : w21.cell? ⟨gb332, 0, none⟩ = some (.string (⟨#[]⟩ : ByteArray)) := (blk_cell BK332.out 0).trans rfl; have hcz26_1 : w21.cell? ⟨gb332, 1, none⟩ = some (.int .i64 0) := (blk_cell BK332.out 1).trans rfl; have hcz26_2 : w21.cell? ⟨gb332, 2, none⟩ = some (.bool false) := (blk_cell BK332.out 2).trans rfl; have hfz26_0 := blk_frozen BK332.out 0; have hfz26_1 := blk_frozen BK332.out 1; have hfz26_2 := blk_frozen BK332.out 2; have p333 : 0 ≤ (1 : Int) := (by omega); have q333 : 1 < (l0.length : Int) := of_decide_eq_true (by first | (with_reducible assumption) | assumption); obtain ⟨ad333, e333, hx333_0, hx333_1, hx333_2⟩ := at_T23 HR0.out 1 p333 q333; obtain rfl : ad324 = ad333 := (by injection e333); (try simp only [show (1 : Int).toNat = 1 from rfl, Nat.reduceMul, Nat.reduceEqDiff, Go.Addr.add, ↓reduceIte] at hx333_0); (try simp only [show (1 : Int).toNat = 1 from rfl, Nat.reduceMul, Nat.reduceEqDiff, Go.Addr.add, ↓reduceIte] at hx333_1); (try simp only [show (1 : Int).toNat = 1 from rfl, Nat.reduceMul, Nat.reduceEqDiff, Go.Addr.add, ↓reduceIte] at hx333_2); have qi333 : (1 < l0.length) = True := eq_true (by omega); (try rw [show ((1 : Int)).toNat = 1 from rfl] at hx333_0); (try rw [show 1 * 3 = 3 from rfl] at hx333_0); (try rw [show ((1 : Int)).toNat = 1 from rfl] at hx333_1); (try rw [show 1 * 3 = 3 from rfl] at hx333_1); (try rw [show ((1 : Int)).toNat = 1 from rfl] at hx333_2); (try rw [show 1 * 3 = 3 from rfl] at hx333_2); have hn333_0 : ad324.block ≠ gb331 := Nat.ne_of_lt (Nat.lt_of_lt_of_le (by have := World.block_lt_of_cell? _ _ hx333_0; first | rwa [add_block] at this | exact this) GW331.out); have hn333_1 : ad324.block ≠ gb331 := Nat.ne_of_lt (Nat.lt_of_lt_of_le (by have := World.block_lt_of_cell? _ _ hx333_0; first | rwa [add_block] at this | exact this) GW331.out); have hn333_2 : ad324.block ≠ gb331 := Nat.ne_of_lt (Nat.lt_of_lt_of_le (by have := World.block_lt_of_cell? _ _ hx333_0; first | rwa [add_block] at this | exact this) GW331.out); have hn333_3 : ad324.block ≠ gb332 := Nat.ne_of_lt (Nat.lt_of_lt_of_le (by have := World.block_lt_of_cell? _ _ hx333_0; first | rwa [add_block] at this | exact this) GW332.out); have hn333_4 : ad324.block ≠ gb332 := Nat.ne_of_lt (Nat.lt_of_lt_of_le (by have := World.block_lt_of_cell? _ _ hx333_0; first | rwa [add_block] at this | exact this) GW332.out); have hn333_5 : ad324.block ≠ gb332 := Nat.ne_of_lt (Nat.lt_of_lt_of_le (by have := World.block_lt_of_cell? _ _ hx333_0; first | rwa [add_block] at this | exact this) GW332.out); replace hx333_0 := (HB.out.cell (World.block_lt_of_cell? w _ hx333_0)).trans hx333_0; replace hx333_1 := (HB.out.cell (World.block_lt_of_cell? w _ hx333_1)).trans hx333_1; replace hx333_2 := (HB.out.cell (World.block_lt_of_cell? w _ hx333_2)).trans hx333_2; replace hx333_0 := (cell_far (p := ⟨gb331, 0, none⟩) (by first | (rw [add_block]; exact hn333_0) | (show (Addr.add _ _).block ≠ _; rw [add_block]; exact hn333_0) | exact hn333_0) (.string t325)).trans hx333_0; replace hx333_1 := (cell_far (p := ⟨gb331, 0, none⟩) (by first | (rw [add_block]; exact hn333_0) | (show (Addr.add _ _).block ≠ _; rw [add_block]; exact hn333_0) | exact hn333_0) (.string t325)).trans hx333_1; replace hx333_2 := (cell_far (p := ⟨gb331, 0, none⟩) (by first | (rw [add_block]; exact hn333_0) | (show (Addr.add _ _).block ≠ _; rw [add_block]; exact hn333_0) | exact hn333_0) (.string t325)).trans hx333_2; replace hx333_0 := (cell_far (p := ⟨gb331, 1, none⟩) (by first | (rw [add_block]; exact hn333_1) | (show (Addr.add _ _).block ≠ _; rw [add_block]; exact hn333_1) | exact hn333_1) (.int .i64 t326)).trans hx333_0; replace hx333_1 := (cell_far (p := ⟨gb331, 1, none⟩) (by first | (rw [add_block]; exact hn333_1) | (show (Addr.add _ _).block ≠ _; rw [add_block]; exact hn333_1) | exact hn333_1) (.int .i64 t326)).trans hx333_1; replace hx333_2 := (cell_far (p := ⟨gb331, 1, none⟩) (by first | (rw [add_block]; exact hn333_1) | (show (Addr.add _ _).block ≠ _; rw [add_block]; exact hn333_1) | exact hn333_1) (.int .i64 t326)).trans hx333_2; replace hx333_0 := (cell_far (p := ⟨gb331, 2, none⟩) (by first | (rw [add_block]; exact hn333_2) | (show (Addr.add _ _).block ≠ _; rw [add_block]; exact hn333_2) | exact hn333_2) (.bool t327)).trans hx333_0; replace hx333_1 := (cell_far (p := ⟨gb331, 2, none⟩) (by first | (rw [add_block]; exact hn333_2) | (show (Addr.add _ _).block ≠ _; rw [add_block]; exact hn333_2) | exact hn333_2) (.bool t327)).trans hx333_1; replace hx333_2 := (cell_far (p := ⟨gb331, 2, none⟩) (by first | (rw [add_block]; exact hn333_2) | (show (Addr.add _ _).block ≠ _; rw [add_block]; exact hn333_2) | exact hn333_2) (.bool t327)).trans hx333_2; replace hx333_0 := (cell_far (p := ⟨gb332, 0, none⟩) (by first | (rw [add_block]; exact hn333_3) | (show (Addr.add _ _).block ≠ _; rw [add_block]; exact hn333_3) | exact hn333_3) (.string t328)).trans hx333_0; replace hx333_1 := (cell_far (p := ⟨gb332, 0, none⟩) (by first | (rw [add_block]; exact hn333_3) | (show (Addr.add _ _).block ≠ _; rw [add_block]; exact hn333_3) | exact hn333_3) (.string t328)).trans hx333_1; replace hx333_2 := (cell_far (p := ⟨gb332, 0, none⟩) (by first | (rw [add_block]; exact hn333_3) | (show (Addr.add _ _).block ≠ _; rw [add_block]; exact hn333_3) | exact hn333_3) (.string t328)).trans hx333_2; replace hx333_0 := (cell_far (p := ⟨gb332, 1, none⟩) (by first | (rw [add_block]; exact hn333_4) | (show (Addr.add _ _).block ≠ _; rw [add_block]; exact hn333_4) | exact hn333_4) (.int .i64 t329)).trans hx333_0; replace hx333_1 := (cell_far (p := ⟨gb332, 1, none⟩) (by first | (rw [add_block]; exact hn333_4) | (show (Addr.add _ _).block ≠ _; rw [add_block]; exact hn333_4) | exact hn333_4) (.int .i64 t329)).trans hx333_1; replace hx333_2 := (cell_far (p := ⟨gb332, 1, none⟩) (by first | (rw [add_block]; exact hn333_4) | (show (Addr.add _ _).block ≠ _; rw [add_block]; exact hn333_4) | exact hn333_4) (.int .i64 t329)).trans hx333_2; replace hx333_0 := (cell_far (p := ⟨gb332, 2, none⟩) (by first | (rw [add_block]; exact hn333_5) | (show (Addr.add _ _).block ≠ _; rw [add_block]; exact hn333_5) | exact hn333_5) (.bool t330)).trans hx333_0; replace hx333_1 := (cell_far (p := ⟨gb332, 2, none⟩) (by first | (rw [add_block]; exact hn333_5) | (show (Addr.add _ _).block ≠ _; rw [add_block]; exact hn333_5) | exact hn333_5) (.bool t330)).trans hx333_1; replace hx333_2 := (cell_far (p := ⟨gb332, 2, none⟩) (by first | (rw [add_block]; exact hn333_5) | (show (Addr.add _ _).block ≠ _; rw [add_block]; exact hn333_5) | exact hn333_5) (.bool t330)).trans hx333_2; clear hn333_0; clear hn333_1; clear hn333_2; clear hn333_3; clear hn333_4; clear hn333_5; replace p333 := eq_true p333; replace q333 := eq_true q333) | ((with_reducible refine gate_callee (f := 9) rfl ?_); refine goesL_ (some 37) rfl rfl Tryd.func9 (by kernel_rfl) rfl #[.agg #[.string ((rd_T23 l0 1).f0), .int .i64 ((rd_T23 l0 1).f1), .bool ((rd_T23 l0 1).f2)]] rfl (by (try simp only [List.map_toArray, List.map_cons, List.map_nil]); first | done | rfl | (simp only [List.length_drop, List.length_take]; rfl)) ?_; (with_reducible refine (concordancelaw19_one.calls ((rd_T23 l0 1).f0) ((rd_T23 l0 1).f1) ((rd_T23 l0 1).f2) t334 t335 t336 t337 t338 t339 _ A11.out).mono ?_); rintro e w27 ⟨rfl, hb⟩; refine ⟨_, rfl, ?_⟩; have n0_ := Aside0.mk (blk_below (g := gb322) (o := .cells #[.int .i64 a1_0, .int .i64 a1_1] 50 (0, 0)) (by (with_reducible repeat (first | refine blk_drewN ?_ _ | refine blk_drew ?_ | refine blk_alloc ?_ _)); refine blk_far ?_ NB322_332.out _; (with_reducible repeat (first | refine blk_drewN ?_ _ | refine blk_drew ?_ | refine blk_alloc ?_ _)); refine blk_far ?_ NB322_332.out _; (with_reducible repeat (first | refine blk_drewN ?_ _ | refine blk_drew ?_ | refine blk_alloc ?_ _)); refine blk_far ?_ NB322_332.out _; (with_reducible repeat (first | refine blk_drewN ?_ _ | refine blk_drew ?_ | refine blk_alloc ?_ _)); refine blk_far ?_ NB322_331.out _; (with_reducible repeat (first | refine blk_drewN ?_ _ | refine blk_drew ?_ | refine blk_alloc ?_ _)); refine blk_far ?_ NB322_331.out _; (with_reducible repeat (first | refine blk_drewN ?_ _ | refine blk_drew ?_ | refine blk_alloc ?_ _)); refine blk_far ?_ NB322_331.out _; (with_reducible repeat (first | refine blk_drewN ?_ _ | refine blk_drew ?_ | refine blk_alloc ?_ _)); exact BK322.out) hb); have n1_ := Aside0.mk (blk_below (g := gb331) (o := .cells #[.string t325, .int .i64 t326, .bool t327] 25 (0, 0)) (by (with_reducible repeat (first | refine blk_drewN ?_ _ | refine blk_drew ?_ | refine blk_alloc ?_ _)); refine blk_far ?_ NB331_332.out _; (with_reducible repeat (first | refine blk_drewN ?_ _ | refine blk_drew ?_ | refine blk_alloc ?_ _)); refine blk_far ?_ NB331_332.out _; (with_reducible repeat (first | refine blk_drewN ?_ _ | refine blk_drew ?_ | refine blk_alloc ?_ _)); refine blk_far ?_ NB331_332.out _; (with_reducible repeat (first | refine blk_drewN ?_ _ | refine blk_drew ?_ | refine blk_alloc ?_ _)); refine blk_put (cs := #[.string t325, .int .i64 t326, .bool false]) ?_ 2 _ rfl; (with_reducible repeat (first | refine blk_drewN ?_ _ | refine blk_drew ?_ | refine blk_alloc ?_ _)); refine blk_put (cs := #[.string t325, .int .i64 0, .bool false]) ?_ 1 _ rfl; (with_reducible repeat (first | refine blk_drewN ?_ _ | refine blk_drew ?_ | refine blk_alloc ?_ _)); refine blk_put (cs := #[.string (⟨#[]⟩ : ByteArray), .int .i64 0, .bool false]) ?_ 0 _ rfl; (with_reducible repeat (first | refine blk_drewN ?_ _ | refine blk_drew ?_ | refine blk_alloc ?_ _)); exact BK331.out) hb); have n2_ := Aside0.mk (blk_below (g := gb332) (o := .cells #[.string t328, .int .i64 t329, .bool t330] 26 (0, 0)) (by (with_reducible repeat (first | refine blk_drewN ?_ _ | refine blk_drew ?_ | refine blk_alloc ?_ _)); refine blk_put (cs := #[.string t328, .int .i64 t329, .bool false]) ?_ 2 _ rfl; (with_reducible repeat (first | refine blk_drewN ?_ _ | refine blk_drew ?_ | refine blk_alloc ?_ _)); refine blk_put (cs := #[.string t328, .int .i64 0, .bool false]) ?_ 1 _ rfl; (with_reducible repeat (first | refine blk_drewN ?_ _ | refine blk_drew ?_ | refine blk_alloc ?_ _)); refine blk_put (cs := #[.string (⟨#[]⟩ : ByteArray), .int .i64 0, .bool false]) ?_ 0 _ rfl; (with_reducible repeat (first | refine blk_drewN ?_ _ | refine blk_drew ?_ | refine blk_alloc ?_ _)); refine blk_far ?_ NB332_331.out _; (with_reducible repeat (first | refine blk_drewN ?_ _ | refine blk_drew ?_ | refine blk_alloc ?_ _)); refine blk_far ?_ NB332_331.out _; (with_reducible repeat (first | refine blk_drewN ?_ _ | refine blk_drew ?_ | refine blk_alloc ?_ _)); refine blk_far ?_ NB332_331.out _; (with_reducible repeat (first | refine blk_drewN ?_ _ | refine blk_drew ?_ | refine blk_alloc ?_ _)); exact BK332.out) hb); have n3_ := Aside0.mk (below_step (by repeat (first | (with_reducible first | exact HB.out | apply below_alloc | apply pw_below_drewN | apply below_drew1 | refine below_set ?_ GE322.out | refine below_set ?_ GE331.out | refine below_set ?_ GE332.out) | exact HB.out)) hb); clear BK322; clear BK331; clear BK332; clear HB; have BK322 := n0_; have BK331 := n1_; have BK332 := n2_; have HB := n3_; clear n0_ n1_ n2_ n3_; (try clear hb); (try clear hb2); (try clear hk); (try clear hi)) | ((with_reducible refine gate_dst (N := 7) rfl ?_); refine box_event ?hg (N := 7) ?hd (cs := #[.string (⟨#[]⟩ : ByteArray), .int .i64 0, .bool false]) (t := 25) ?hr ?_; (case hd => rfl); (case hg => rfl); (case hr => first | (go_simp; done) | (go_simp; rfl)); intro gb340 hg w28 hbox hb; have n0_ := Aside0.mk (blk_below (g := gb322) (o := .cells #[.int .i64 a1_0, .int .i64 a1_1] 50 (0, 0)) (by (with_reducible repeat (first | refine blk_drewN ?_ _ | refine blk_drew ?_ | refine blk_alloc ?_ _)); exact BK322.out) hb); have n1_ := Aside0.mk (blk_below (g := gb331) (o := .cells #[.string t325, .int .i64 t326, .bool t327] 25 (0, 0)) (by (with_reducible repeat (first | refine blk_drewN ?_ _ | refine blk_drew ?_ | refine blk_alloc ?_ _)); exact BK331.out) hb); have n2_ := Aside0.mk (blk_below (g := gb332) (o := .cells #[.string t328, .int .i64 t329, .bool t330] 26 (0, 0)) (by (with_reducible repeat (first | refine blk_drewN ?_ _ | refine blk_drew ?_ | refine blk_alloc ?_ _)); exact BK332.out) hb); have n3_ := Aside0.mk (below_step (by repeat (first | (with_reducible first | exact HB.out | apply below_alloc | apply pw_below_drewN | apply below_drew1 | refine below_set ?_ GE322.out | refine below_set ?_ GE331.out | refine below_set ?_ GE332.out) | exact HB.out)) hb); have n4_ := Aside0.mk (hbox); have n5_ := Aside0.mk ((by rw [hg]; exact (below_size (by repeat (first | (with_reducible first | exact HB.out | apply below_alloc | apply pw_below_drewN | apply below_drew1 | refine below_set ?_ GE322.out | refine below_set ?_ GE331.out | refine below_set ?_ GE332.out) | exact HB.out))) : w.heap.size ≤ gb340)); have n6_ := Aside0.mk ((by rw [hg]; exact (below_size (by repeat (first | (with_reducible first | exact HB.out | apply below_alloc | apply pw_below_drewN | apply below_drew1 | refine below_set ?_ GE322.out | refine below_set ?_ GE331.out | refine below_set ?_ GE332.out) | exact HB.out))) : w.heap.size ≤ gb340)); have n7_ := Aside0.mk ((by rw [hg]; exact Nat.ne_of_lt (blk_lt (g := gb322) (o := .cells #[.int .i64 a1_0, .int .i64 a1_1] 50 (0, 0)) (by (with_reducible repeat (first | refine blk_drewN ?_ _ | refine blk_drew ?_ | refine blk_alloc ?_ _)); exact BK322.out)) : gb322 ≠ gb340)); have n8_ := Aside0.mk ((by rw [hg]; exact Nat.ne_of_gt (blk_lt (g := gb322) (o := .cells #[.int .i64 a1_0, .int .i64 a1_1] 50 (0, 0)) (by (with_reducible repeat (first | refine blk_drewN ?_ _ | refine blk_drew ?_ | refine blk_alloc ?_ _)); exact BK322.out)) : gb340 ≠ gb322)); have n9_ := Aside0.mk ((by rw [hg]; exact Nat.ne_of_lt (blk_lt (g := gb331) (o := .cells #[.string t325, .int .i64 t326, .bool t327] 25 (0, 0)) (by (with_reducible repeat (first | refine blk_drewN ?_ _ | refine blk_drew ?_ | refine blk_alloc ?_ _)); exact BK331.out)) : gb331 ≠ gb340)); have n10_ := Aside0.mk ((by rw [hg]; exact Nat.ne_of_gt (blk_lt (g := gb331) (o := .cells #[.string t325, .int .i64 t326, .bool t327] 25 (0, 0)) (by (with_reducible repeat (first | refine blk_drewN ?_ _ | refine blk_drew ?_ | refine blk_alloc ?_ _)); exact BK331.out)) : gb340 ≠ gb331)); have n11_ := Aside0.mk ((by rw [hg]; exact Nat.ne_of_lt (blk_lt (g := gb332) (o := .cells #[.string t328, .int .i64 t329, .bool t330] 26 (0, 0)) (by (with_reducible repeat (first | refine blk_drewN ?_ _ | refine blk_drew ?_ | refine blk_alloc ?_ _)); exact BK332.out)) : gb332 ≠ gb340)); have n12_ := Aside0.mk ((by rw [hg]; exact Nat.ne_of_gt (blk_lt (g := gb332) (o := .cells #[.string t328, .int .i64 t329, .bool t330] 26 (0, 0)) (by (with_reducible repeat (first | refine blk_drewN ?_ _ | refine blk_drew ?_ | refine blk_alloc ?_ _)); exact BK332.out)) : gb340 ≠ gb332)); clear BK322; clear BK331; clear BK332; clear HB; have BK322 := n0_; have BK331 := n1_; have BK332 := n2_; have HB := n3_; have BK340 := n4_; have GW340 := n5_; have GE340 := n6_; have NB322_340 := n7_; have NB340_322 := n8_; have NB331_340 := n9_; have NB340_331 := n10_; have NB332_340 := n11_; have NB340_332 := n12_; clear n0_ n1_ n2_ n3_ n4_ n5_ n6_ n7_ n8_ n9_ n10_ n11_ n12_; clear hb hbox hg) | ((with_reducible refine gate_dst (N := 8) rfl ?_); refine box_event ?hg (N := 8) ?hd (cs := #[.string (⟨#[]⟩ : ByteArray), .int .i64 0, .bool false]) (t := 26) ?hr ?_; (case hd => rfl); (case hg => rfl); (case hr => first | (go_simp; done) | (go_simp; rfl)); intro gb341 hg w29 hbox hb; have n0_ := Aside0.mk (blk_below (g := gb322) (o := .cells #[.int .i64 a1_0, .int .i64 a1_1] 50 (0, 0)) (by (with_reducible repeat (first | refine blk_drewN ?_ _ | refine blk_drew ?_ | refine blk_alloc ?_ _)); exact BK322.out) hb); have n1_ := Aside0.mk (blk_below (g := gb331) (o := .cells #[.string t325, .int .i64 t326, .bool t327] 25 (0, 0)) (by (with_reducible repeat (first | refine blk_drewN ?_ _ | refine blk_drew ?_ | refine blk_alloc ?_ _)); exact BK331.out) hb); have n2_ := Aside0.mk (blk_below (g := gb332) (o := .cells #[.string t328, .int .i64 t329, .bool t330] 26 (0, 0)) (by (with_reducible repeat (first | refine blk_drewN ?_ _ | refine blk_drew ?_ | refine blk_alloc ?_ _)); exact BK332.out) hb); have n3_ := Aside0.mk (blk_below (g := gb340) (o := .cells #[.string (⟨#[]⟩ : ByteArray), .int .i64 0, .bool false] 25 (0, 0)) (by (with_reducible repeat (first | refine blk_drewN ?_ _ | refine blk_drew ?_ | refine blk_alloc ?_ _)); exact BK340.out) hb); have n4_ := Aside0.mk (below_step (by repeat (first | (with_reducible first | exact HB.out | apply below_alloc | apply pw_below_drewN | apply below_drew1 | refine below_set ?_ GE322.out | refine below_set ?_ GE331.out | refine below_set ?_ GE332.out | refine below_set ?_ GE340.out) | exact HB.out)) hb); have n5_ := Aside0.mk (hbox); have n6_ := Aside0.mk ((by rw [hg]; exact (below_size (by repeat (first | (with_reducible first | exact HB.out | apply below_alloc | apply pw_below_drewN | apply below_drew1 | refine below_set ?_ GE322.out | refine below_set ?_ GE331.out | refine below_set ?_ GE332.out | refine below_set ?_ GE340.out) | exact HB.out))) : w.heap.size ≤ gb341)); have n7_ := Aside0.mk ((by rw [hg]; exact (below_size (by repeat (first | (with_reducible first | exact HB.out | apply below_alloc | apply pw_below_drewN | apply below_drew1 | refine below_set ?_ GE322.out | refine below_set ?_ GE331.out | refine below_set ?_ GE332.out | refine below_set ?_ GE340.out) | exact HB.out))) : w.heap.size ≤ gb341)); have n8_ := Aside0.mk ((by rw [hg]; exact Nat.ne_of_lt (blk_lt (g := gb322) (o := .cells #[.int .i64 a1_0, .int .i64 a1_1] 50 (0, 0)) (by (with_reducible repeat (first | refine blk_drewN ?_ _ | refine blk_drew ?_ | refine blk_alloc ?_ _)); exact BK322.out)) : gb322 ≠ gb341)); have n9_ := Aside0.mk ((by rw [hg]; exact Nat.ne_of_gt (blk_lt (g := gb322) (o := .cells #[.int .i64 a1_0, .int .i64 a1_1] 50 (0, 0)) (by (with_reducible repeat (first | refine blk_drewN ?_ _ | refine blk_drew ?_ | refine blk_alloc ?_ _)); exact BK322.out)) : gb341 ≠ gb322)); have n10_ := Aside0.mk ((by rw [hg]; exact Nat.ne_of_lt (blk_lt (g := gb331) (o := .cells #[.string t325, .int .i64 t326, .bool t327] 25 (0, 0)) (by (with_reducible repeat (first | refine blk_drewN ?_ _ | refine blk_drew ?_ | refine blk_alloc ?_ _)); exact BK331.out)) : gb331 ≠ gb341)); have n11_ := Aside0.mk ((by rw [hg]; exact Nat.ne_of_gt (blk_lt (g := gb331) (o := .cells #[.string t325, .int .i64 t326, .bool t327] 25 (0, 0)) (by (with_reducible repeat (first | refine blk_drewN ?_ _ | refine blk_drew ?_ | refine blk_alloc ?_ _)); exact BK331.out)) : gb341 ≠ gb331)); have n12_ := Aside0.mk ((by rw [hg]; exact Nat.ne_of_lt (blk_lt (g := gb332) (o := .cells #[.string t328, .int .i64 t329, .bool t330] 26 (0, 0)) (by (with_reducible repeat (first | refine blk_drewN ?_ _ | refine blk_drew ?_ | refine blk_alloc ?_ _)); exact BK332.out)) : gb332 ≠ gb341)); have n13_ := Aside0.mk ((by rw [hg]; exact Nat.ne_of_gt (blk_lt (g := gb332) (o := .cells #[.string t328, .int .i64 t329, .bool t330] 26 (0, 0)) (by (with_reducible repeat (first | refine blk_drewN ?_ _ | refine blk_drew ?_ | refine blk_alloc ?_ _)); exact BK332.out)) : gb341 ≠ gb332)); have n14_ := Aside0.mk ((by rw [hg]; exact Nat.ne_of_lt (blk_lt (g := gb340) (o := .cells #[.string (⟨#[]⟩ : ByteArray), .int .i64 0, .bool false] 25 (0, 0)) (by (with_reducible repeat (first | refine blk_drewN ?_ _ | refine blk_drew ?_ | refine blk_alloc ?_ _)); exact BK340.out)) : gb340 ≠ gb341)); have n15_ := Aside0.mk ((by rw [hg]; exact Nat.ne_of_gt (blk_lt (g := gb340) (o := .cells #[.string (⟨#[]⟩ : ByteArray), .int .i64 0, .bool false] 25 (0, 0)) (by (with_reducible repeat (first | refine blk_drewN ?_ _ | refine blk_drew ?_ | refine blk_alloc ?_ _)); exact BK340.out)) : gb341 ≠ gb340)); clear BK322; clear BK331; clear BK332; clear BK340; clear HB; have BK322 := n0_; have BK331 := n1_; have BK332 := n2_; have BK340 := n3_; have HB := n4_; have BK341 := n5_; have GW341 := n6_; have GE341 := n7_; have NB322_341 := n8_; have NB341_322 := n9_; have NB331_341 := n10_; have NB341_331 := n11_; have NB332_341 := n12_; have NB341_332 := n13_; have NB340_341 := n14_; have NB341_340 := n15_; clear n0_ n1_ n2_ n3_ n4_ n5_ n6_ n7_ n8_ n9_ n10_ n11_ n12_ n13_ n14_ n15_; clear hb hbox hg; have hnb30 := NB340_322.out; have hnc30 := NB322_340.out; have hnb31 := NB340_331.out; have hnc31 := NB331_340.out; have hnb32 := NB340_332.out; have hnc32 := NB332_340.out; have hnb33 := NB340_341.out; have hnc33 := NB341_340.out; have hcz34_0 : w29.cell? ⟨gb340, 0, none⟩ = some (.string (⟨#[]⟩ : ByteArray)) := (blk_cell BK340.out 0).trans rfl; have hcz34_1 : w29.cell? ⟨gb340, 1, none⟩ = some (.int .i64 0) := (blk_cell BK340.out 1).trans rfl; have hcz34_2 : w29.cell? ⟨gb340, 2, none⟩ = some (.bool false) := (blk_cell BK340.out 2).trans rfl; have hfz34_0 := blk_frozen BK340.out 0; have hfz34_1 := blk_frozen BK340.out 1; have hfz34_2 := blk_frozen BK340.out 2; have hnb35 := NB341_322.out; have hnc35 := NB322_341.out; have hnb36 := NB341_331.out; have hnc36 := NB331_341.out; have hnb37 := NB341_332.out; have hnc37 := NB332_341.out; have hcz38_0 : w29.cell? ⟨gb341, 0, none⟩ = some (.string (⟨#[]⟩ : ByteArray)) := (blk_cell BK341.out 0).trans rfl; have hcz38_1 : w29.cell? ⟨gb341, 1, none⟩ = some (.int .i64 0) := (blk_cell BK341.out 1).trans rfl; have hcz38_2 : w29.cell? ⟨gb341, 2, none⟩ = some (.bool false) := (blk_cell BK341.out 2).trans rfl; have hfz38_0 := blk_frozen BK341.out 0; have hfz38_1 := blk_frozen BK341.out 1; have hfz38_2 := blk_frozen BK341.out 2; have p342 : 0 ≤ (2 : Int) := (by omega); have q342 : 2 < (l0.length : Int) := of_decide_eq_true (by first | (with_reducible assumption) | assumption); obtain ⟨ad342, e342, hx342_0, hx342_1, hx342_2⟩ := at_T23 HR0.out 2 p342 q342; obtain rfl : ad324 = ad342 := (by injection e342); (try simp only [show (2 : Int).toNat = 2 from rfl, Nat.reduceMul, Nat.reduceEqDiff, Go.Addr.add, ↓reduceIte] at hx342_0); (try simp only [show (2 : Int).toNat = 2 from rfl, Nat.reduceMul, Nat.reduceEqDiff, Go.Addr.add, ↓reduceIte] at hx342_1); (try simp only [show (2 : Int).toNat = 2 from rfl, Nat.reduceMul, Nat.reduceEqDiff, Go.Addr.add, ↓reduceIte] at hx342_2); have qi342 : (2 < l0.length) = True := eq_true (by omega); (try rw [show ((2 : Int)).toNat = 2 from rfl] at hx342_0); (try rw [show 2 * 3 = 6 from rfl] at hx342_0); (try rw [show ((2 : Int)).toNat = 2 from rfl] at hx342_1); (try rw [show 2 * 3 = 6 from rfl] at hx342_1); (try rw [show ((2 : Int)).toNat = 2 from rfl] at hx342_2); (try rw [show 2 * 3 = 6 from rfl] at hx342_2); have hn342_0 : ad324.block ≠ gb340 := Nat.ne_of_lt (Nat.lt_of_lt_of_le (by have := World.block_lt_of_cell? _ _ hx342_0; first | rwa [add_block] at this | exact this) GW340.out); have hn342_1 : ad324.block ≠ gb340 := Nat.ne_of_lt (Nat.lt_of_lt_of_le (by have := World.block_lt_of_cell? _ _ hx342_0; first | rwa [add_block] at this | exact this) GW340.out); have hn342_2 : ad324.block ≠ gb340 := Nat.ne_of_lt (Nat.lt_of_lt_of_le (by have := World.block_lt_of_cell? _ _ hx342_0; first | rwa [add_block] at this | exact this) GW340.out); have hn342_3 : ad324.block ≠ gb341 := Nat.ne_of_lt (Nat.lt_of_lt_of_le (by have := World.block_lt_of_cell? _ _ hx342_0; first | rwa [add_block] at this | exact this) GW341.out); have hn342_4 : ad324.block ≠ gb341 := Nat.ne_of_lt (Nat.lt_of_lt_of_le (by have := World.block_lt_of_cell? _ _ hx342_0; first | rwa [add_block] at this | exact this) GW341.out); have hn342_5 : ad324.block ≠ gb341 := Nat.ne_of_lt (Nat.lt_of_lt_of_le (by have := World.block_lt_of_cell? _ _ hx342_0; first | rwa [add_block] at this | exact this) GW341.out); replace hx342_0 := (HB.out.cell (World.block_lt_of_cell? w _ hx342_0)).trans hx342_0; replace hx342_1 := (HB.out.cell (World.block_lt_of_cell? w _ hx342_1)).trans hx342_1; replace hx342_2 := (HB.out.cell (World.block_lt_of_cell? w _ hx342_2)).trans hx342_2; replace hx342_0 := (cell_far (p := ⟨gb340, 0, none⟩) (by first | (rw [add_block]; exact hn342_0) | (show (Addr.add _ _).block ≠ _; rw [add_block]; exact hn342_0) | exact hn342_0) (.string t334)).trans hx342_0; replace hx342_1 := (cell_far (p := ⟨gb340, 0, none⟩) (by first | (rw [add_block]; exact hn342_0) | (show (Addr.add _ _).block ≠ _; rw [add_block]; exact hn342_0) | exact hn342_0) (.string t334)).trans hx342_1; replace hx342_2 := (cell_far (p := ⟨gb340, 0, none⟩) (by first | (rw [add_block]; exact hn342_0) | (show (Addr.add _ _).block ≠ _; rw [add_block]; exact hn342_0) | exact hn342_0) (.string t334)).trans hx342_2; replace hx342_0 := (cell_far (p := ⟨gb340, 1, none⟩) (by first | (rw [add_block]; exact hn342_1) | (show (Addr.add _ _).block ≠ _; rw [add_block]; exact hn342_1) | exact hn342_1) (.int .i64 t335)).trans hx342_0; replace hx342_1 := (cell_far (p := ⟨gb340, 1, none⟩) (by first | (rw [add_block]; exact hn342_1) | (show (Addr.add _ _).block ≠ _; rw [add_block]; exact hn342_1) | exact hn342_1) (.int .i64 t335)).trans hx342_1; replace hx342_2 := (cell_far (p := ⟨gb340, 1, none⟩) (by first | (rw [add_block]; exact hn342_1) | (show (Addr.add _ _).block ≠ _; rw [add_block]; exact hn342_1) | exact hn342_1) (.int .i64 t335)).trans hx342_2; replace hx342_0 := (cell_far (p := ⟨gb340, 2, none⟩) (by first | (rw [add_block]; exact hn342_2) | (show (Addr.add _ _).block ≠ _; rw [add_block]; exact hn342_2) | exact hn342_2) (.bool t336)).trans hx342_0; replace hx342_1 := (cell_far (p := ⟨gb340, 2, none⟩) (by first | (rw [add_block]; exact hn342_2) | (show (Addr.add _ _).block ≠ _; rw [add_block]; exact hn342_2) | exact hn342_2) (.bool t336)).trans hx342_1; replace hx342_2 := (cell_far (p := ⟨gb340, 2, none⟩) (by first | (rw [add_block]; exact hn342_2) | (show (Addr.add _ _).block ≠ _; rw [add_block]; exact hn342_2) | exact hn342_2) (.bool t336)).trans hx342_2; replace hx342_0 := (cell_far (p := ⟨gb341, 0, none⟩) (by first | (rw [add_block]; exact hn342_3) | (show (Addr.add _ _).block ≠ _; rw [add_block]; exact hn342_3) | exact hn342_3) (.string t337)).trans hx342_0; replace hx342_1 := (cell_far (p := ⟨gb341, 0, none⟩) (by first | (rw [add_block]; exact hn342_3) | (show (Addr.add _ _).block ≠ _; rw [add_block]; exact hn342_3) | exact hn342_3) (.string t337)).trans hx342_1; replace hx342_2 := (cell_far (p := ⟨gb341, 0, none⟩) (by first | (rw [add_block]; exact hn342_3) | (show (Addr.add _ _).block ≠ _; rw [add_block]; exact hn342_3) | exact hn342_3) (.string t337)).trans hx342_2; replace hx342_0 := (cell_far (p := ⟨gb341, 1, none⟩) (by first | (rw [add_block]; exact hn342_4) | (show (Addr.add _ _).block ≠ _; rw [add_block]; exact hn342_4) | exact hn342_4) (.int .i64 t338)).trans hx342_0; replace hx342_1 := (cell_far (p := ⟨gb341, 1, none⟩) (by first | (rw [add_block]; exact hn342_4) | (show (Addr.add _ _).block ≠ _; rw [add_block]; exact hn342_4) | exact hn342_4) (.int .i64 t338)).trans hx342_1; replace hx342_2 := (cell_far (p := ⟨gb341, 1, none⟩) (by first | (rw [add_block]; exact hn342_4) | (show (Addr.add _ _).block ≠ _; rw [add_block]; exact hn342_4) | exact hn342_4) (.int .i64 t338)).trans hx342_2; replace hx342_0 := (cell_far (p := ⟨gb341, 2, none⟩) (by first | (rw [add_block]; exact hn342_5) | (show (Addr.add _ _).block ≠ _; rw [add_block]; exact hn342_5) | exact hn342_5) (.bool t339)).trans hx342_0; replace hx342_1 := (cell_far (p := ⟨gb341, 2, none⟩) (by first | (rw [add_block]; exact hn342_5) | (show (Addr.add _ _).block ≠ _; rw [add_block]; exact hn342_5) | exact hn342_5) (.bool t339)).trans hx342_1; replace hx342_2 := (cell_far (p := ⟨gb341, 2, none⟩) (by first | (rw [add_block]; exact hn342_5) | (show (Addr.add _ _).block ≠ _; rw [add_block]; exact hn342_5) | exact hn342_5) (.bool t339)).trans hx342_2; clear hn342_0; clear hn342_1; clear hn342_2; clear hn342_3; clear hn342_4; clear hn342_5; replace p342 := eq_true p342; replace q342 := eq_true q342) | ((with_reducible refine gate_callee (f := 9) rfl ?_); refine goesL_ (some 44) rfl rfl Tryd.func9 (by kernel_rfl) rfl #[.agg #[.string ((rd_T23 l0 2).f0), .int .i64 ((rd_T23 l0 2).f1), .bool ((rd_T23 l0 2).f2)]] rfl (by (try simp only [List.map_toArray, List.map_cons, List.map_nil]); first | done | rfl | (simp only [List.length_drop, List.length_take]; rfl)) ?_; (with_reducible refine (concordancelaw19_one.calls ((rd_T23 l0 2).f0) ((rd_T23 l0 2).f1) ((rd_T23 l0 2).f2) t343 t344 t345 t346 t347 t348 _ A13.out).mono ?_); rintro e w39 ⟨rfl, hb⟩; refine ⟨_, rfl, ?_⟩; have n0_ := Aside0.mk (blk_below (g := gb322) (o := .cells #[.int .i64 a1_0, .int .i64 a1_1] 50 (0, 0)) (by (with_reducible repeat (first | refine blk_drewN ?_ _ | refine blk_drew ?_ | refine blk_alloc ?_ _)); refine blk_far ?_ NB322_341.out _; (with_reducible repeat (first | refine blk_drewN ?_ _ | refine blk_drew ?_ | refine blk_alloc ?_ _)); refine blk_far ?_ NB322_341.out _; (with_reducible repeat (first | refine blk_drewN ?_ _ | refine blk_drew ?_ | refine blk_alloc ?_ _)); refine blk_far ?_ NB322_341.out _; (with_reducible repeat (first | refine blk_drewN ?_ _ | refine blk_drew ?_ | refine blk_alloc ?_ _)); refine blk_far ?_ NB322_340.out _; (with_reducible repeat (first | refine blk_drewN ?_ _ | refine blk_drew ?_ | refine blk_alloc ?_ _)); refine blk_far ?_ NB322_340.out _; (with_reducible repeat (first | refine blk_drewN ?_ _ | refine blk_drew ?_ | refine blk_alloc ?_ _)); refine blk_far ?_ NB322_340.out _; (with_reducible repeat (first | refine blk_drewN ?_ _ | refine blk_drew ?_ | refine blk_alloc ?_ _)); exact BK322.out) hb); have n1_ := Aside0.mk (blk_below (g := gb331) (o := .cells #[.string t325, .int .i64 t326, .bool t327] 25 (0, 0)) (by (with_reducible repeat (first | refine blk_drewN ?_ _ | refine blk_drew ?_ | refine blk_alloc ?_ _)); refine blk_far ?_ NB331_341.out _; (with_reducible repeat (first | refine blk_drewN ?_ _ | refine blk_drew ?_ | refine blk_alloc ?_ _)); refine blk_far ?_ NB331_341.out _; (with_reducible repeat (first | refine blk_drewN ?_ _ | refine blk_drew ?_ | refine blk_alloc ?_ _)); refine blk_far ?_ NB331_341.out _; (with_reducible repeat (first | refine blk_drewN ?_ _ | refine blk_drew ?_ | refine blk_alloc ?_ _)); refine blk_far ?_ NB331_340.out _; (with_reducible repeat (first | refine blk_drewN ?_ _ | refine blk_drew ?_ | refine blk_alloc ?_ _)); refine blk_far ?_ NB331_340.out _; (with_reducible repeat (first | refine blk_drewN ?_ _ | refine blk_drew ?_ | refine blk_alloc ?_ _)); refine blk_far ?_ NB331_340.out _; (with_reducible repeat (first | refine blk_drewN ?_ _ | refine blk_drew ?_ | refine blk_alloc ?_ _)); exact BK331.out) hb); have n2_ := Aside0.mk (blk_below (g := gb332) (o := .cells #[.string t328, .int .i64 t329, .bool t330] 26 (0, 0)) (by (with_reducible repeat (first | refine blk_drewN ?_ _ | refine blk_drew ?_ | refine blk_alloc ?_ _)); refine blk_far ?_ NB332_341.out _; (with_reducible repeat (first | refine blk_drewN ?_ _ | refine blk_drew ?_ | refine blk_alloc ?_ _)); refine blk_far ?_ NB332_341.out _; (with_reducible repeat (first | refine blk_drewN ?_ _ | refine blk_drew ?_ | refine blk_alloc ?_ _)); refine blk_far ?_ NB332_341.out _; (with_reducible repeat (first | refine blk_drewN ?_ _ | refine blk_drew ?_ | refine blk_alloc ?_ _)); refine blk_far ?_ NB332_340.out _; (with_reducible repeat (first | refine blk_drewN ?_ _ | refine blk_drew ?_ | refine blk_alloc ?_ _)); refine blk_far ?_ NB332_340.out _; (with_reducible repeat (first | refine blk_drewN ?_ _ | refine blk_drew ?_ | refine blk_alloc ?_ _)); refine blk_far ?_ NB332_340.out _; (with_reducible repeat (first | refine blk_drewN ?_ _ | refine blk_drew ?_ | refine blk_alloc ?_ _)); exact BK332.out) hb); have n3_ := Aside0.mk (blk_below (g := gb340) (o := .cells #[.string t334, .int .i64 t335, .bool t336] 25 (0, 0)) (by (with_reducible repeat (first | refine blk_drewN ?_ _ | refine blk_drew ?_ | refine blk_alloc ?_ _)); refine blk_far ?_ NB340_341.out _; (with_reducible repeat (first | refine blk_drewN ?_ _ | refine blk_drew ?_ | refine blk_alloc ?_ _)); refine blk_far ?_ NB340_341.out _; (with_reducible repeat (first | refine blk_drewN ?_ _ | refine blk_drew ?_ | refine blk_alloc ?_ _)); refine blk_far ?_ NB340_341.out _; (with_reducible repeat (first | refine blk_drewN ?_ _ | refine blk_drew ?_ | refine blk_alloc ?_ _)); refine blk_put (cs := #[.string t334, .int .i64 t335, .bool false]) ?_ 2 _ rfl; (with_reducible repeat (first | refine blk_drewN ?_ _ | refine blk_drew ?_ | refine blk_alloc ?_ _)); refine blk_put (cs := #[.string t334, .int .i64 0, .bool false]) ?_ 1 _ rfl; (with_reducible repeat (first | refine blk_drewN ?_ _ | refine blk_drew ?_ | refine blk_alloc ?_ _)); refine blk_put (cs := #[.string (⟨#[]⟩ : ByteArray), .int .i64 0, .bool false]) ?_ 0 _ rfl; (with_reducible repeat (first | refine blk_drewN ?_ _ | refine blk_drew ?_ | refine blk_alloc ?_ _)); exact BK340.out) hb); have n4_ := Aside0.mk (blk_below (g := gb341) (o := .cells #[.string t337, .int .i64 t338, .bool t339] 26 (0, 0)) (by (with_reducible repeat (first | refine blk_drewN ?_ _ | refine blk_drew ?_ | refine blk_alloc ?_ _)); refine blk_put (cs := #[.string t337, .int .i64 t338, .bool false]) ?_ 2 _ rfl; (with_reducible repeat (first | refine blk_drewN ?_ _ | refine blk_drew ?_ | refine blk_alloc ?_ _)); refine blk_put (cs := #[.string t337, .int .i64 0, .bool false]) ?_ 1 _ rfl; (with_reducible repeat (first | refine blk_drewN ?_ _ | refine blk_drew ?_ | refine blk_alloc ?_ _)); refine blk_put (cs := #[.string (⟨#[]⟩ : ByteArray), .int .i64 0, .bool false]) ?_ 0 _ rfl; (with_reducible repeat (first | refine blk_drewN ?_ _ | refine blk_drew ?_ | refine blk_alloc ?_ _)); refine blk_far ?_ NB341_340.out _; (with_reducible repeat (first | refine blk_drewN ?_ _ | refine blk_drew ?_ | refine blk_alloc ?_ _)); refine blk_far ?_ NB341_340.out _; (with_reducible repeat (first | refine blk_drewN ?_ _ | refine blk_drew ?_ | refine blk_alloc ?_ _)); refine blk_far ?_ NB341_340.out _; (with_reducible repeat (first | refine blk_drewN ?_ _ | refine blk_drew ?_ | refine blk_alloc ?_ _)); exact BK341.out) hb); have n5_ := Aside0.mk (below_step (by repeat (first | (with_reducible first | exact HB.out | apply below_alloc | apply pw_below_drewN | apply below_drew1 | refine below_set ?_ GE322.out | refine below_set ?_ GE331.out | refine below_set ?_ GE332.out | refine below_set ?_ GE340.out | refine below_set ?_ GE341.out) | exact HB.out)) hb); clear BK322; clear BK331; clear BK332; clear BK340; clear BK341; clear HB; have BK322 := n0_; have BK331 := n1_; have BK332 := n2_; have BK340 := n3_; have BK341 := n4_; have HB := n5_; clear n0_ n1_ n2_ n3_ n4_ n5_; (try clear hb); (try clear hb2); (try clear hk); (try clear hi)) | ((with_reducible refine gate_dst (N := 9) rfl ?_); refine box_event ?hg (N := 9) ?hd (cs := #[.string (⟨#[]⟩ : ByteArray), .int .i64 0, .bool false]) (t := 25) ?hr ?_; (case hd => rfl); (case hg => rfl); (case hr => first | (go_simp; done) | (go_simp; rfl)); intro gb349 hg w40 hbox hb; have n0_ := Aside0.mk (blk_below (g := gb322) (o := .cells #[.int .i64 a1_0, .int .i64 a1_1] 50 (0, 0)) (by (with_reducible repeat (first | refine blk_drewN ?_ _ | refine blk_drew ?_ | refine blk_alloc ?_ _)); exact BK322.out) hb); have n1_ := Aside0.mk (blk_below (g := gb331) (o := .cells #[.string t325, .int .i64 t326, .bool t327] 25 (0, 0)) (by (with_reducible repeat (first | refine blk_drewN ?_ _ | refine blk_drew ?_ | refine blk_alloc ?_ _)); exact BK331.out) hb); have n2_ := Aside0.mk (blk_below (g := gb332) (o := .cells #[.string t328, .int .i64 t329, .bool t330] 26 (0, 0)) (by (with_reducible repeat (first | refine blk_drewN ?_ _ | refine blk_drew ?_ | refine blk_alloc ?_ _)); exact BK332.out) hb); have n3_ := Aside0.mk (blk_below (g := gb340) (o := .cells #[.string t334, .int .i64 t335, .bool t336] 25 (0, 0)) (by (with_reducible repeat (first | refine blk_drewN ?_ _ | refine blk_drew ?_ | refine blk_alloc ?_ _)); exact BK340.out) hb); have n4_ := Aside0.mk (blk_below (g := gb341) (o := .cells #[.string t337, .int .i64 t338, .bool t339] 26 (0, 0)) (by (with_reducible repeat (first | refine blk_drewN ?_ _ | refine blk_drew ?_ | refine blk_alloc ?_ _)); exact BK341.out) hb); have n5_ := Aside0.mk (below_step (by repeat (first | (with_reducible first | exact HB.out | apply below_alloc | apply pw_below_drewN | apply below_drew1 | refine below_set ?_ GE322.out | refine below_set ?_ GE331.out | refine below_set ?_ GE332.out | refine below_set ?_ GE340.out | refine below_set ?_ GE341.out) | exact HB.out)) hb); have n6_ := Aside0.mk (hbox); have n7_ := Aside0.mk ((by rw [hg]; exact (below_size (by repeat (first | (with_reducible first | exact HB.out | apply below_alloc | apply pw_below_drewN | apply below_drew1 | refine below_set ?_ GE322.out | refine below_set ?_ GE331.out | refine below_set ?_ GE332.out | refine below_set ?_ GE340.out | refine below_set ?_ GE341.out) | exact HB.out))) : w.heap.size ≤ gb349)); have n8_ := Aside0.mk ((by rw [hg]; exact (below_size (by repeat (first | (with_reducible first | exact HB.out | apply below_alloc | apply pw_below_drewN | apply below_drew1 | refine below_set ?_ GE322.out | refine below_set ?_ GE331.out | refine below_set ?_ GE332.out | refine below_set ?_ GE340.out | refine below_set ?_ GE341.out) | exact HB.out))) : w.heap.size ≤ gb349)); have n9_ := Aside0.mk ((by rw [hg]; exact Nat.ne_of_lt (blk_lt (g := gb322) (o := .cells #[.int .i64 a1_0, .int .i64 a1_1] 50 (0, 0)) (by (with_reducible repeat (first | refine blk_drewN ?_ _ | refine blk_drew ?_ | refine blk_alloc ?_ _)); exact BK322.out)) : gb322 ≠ gb349)); have n10_ := Aside0.mk ((by rw [hg]; exact Nat.ne_of_gt (blk_lt (g := gb322) (o := .cells #[.int .i64 a1_0, .int .i64 a1_1] 50 (0, 0)) (by (with_reducible repeat (first | refine blk_drewN ?_ _ | refine blk_drew ?_ | refine blk_alloc ?_ _)); exact BK322.out)) : gb349 ≠ gb322)); have n11_ := Aside0.mk ((by rw [hg]; exact Nat.ne_of_lt (blk_lt (g := gb331) (o := .cells #[.string t325, .int .i64 t326, .bool t327] 25 (0, 0)) (by (with_reducible repeat (first | refine blk_drewN ?_ _ | refine blk_drew ?_ | refine blk_alloc ?_ _)); exact BK331.out)) : gb331 ≠ gb349)); have n12_ := Aside0.mk ((by rw [hg]; exact Nat.ne_of_gt (blk_lt (g := gb331) (o := .cells #[.string t325, .int .i64 t326, .bool t327] 25 (0, 0)) (by (with_reducible repeat (first | refine blk_drewN ?_ _ | refine blk_drew ?_ | refine blk_alloc ?_ _)); exact BK331.out)) : gb349 ≠ gb331)); have n13_ := Aside0.mk ((by rw [hg]; exact Nat.ne_of_lt (blk_lt (g := gb332) (o := .cells #[.string t328, .int .i64 t329, .bool t330] 26 (0, 0)) (by (with_reducible repeat (first | refine blk_drewN ?_ _ | refine blk_drew ?_ | refine blk_alloc ?_ _)); exact BK332.out)) : gb332 ≠ gb349)); have n14_ := Aside0.mk ((by rw [hg]; exact Nat.ne_of_gt (blk_lt (g := gb332) (o := .cells #[.string t328, .int .i64 t329, .bool t330] 26 (0, 0)) (by (with_reducible repeat (first | refine blk_drewN ?_ _ | refine blk_drew ?_ | refine blk_alloc ?_ _)); exact BK332.out)) : gb349 ≠ gb332)); have n15_ := Aside0.mk ((by rw [hg]; exact Nat.ne_of_lt (blk_lt (g := gb340) (o := .cells #[.string t334, .int .i64 t335, .bool t336] 25 (0, 0)) (by (with_reducible repeat (first | refine blk_drewN ?_ _ | refine blk_drew ?_ | refine blk_alloc ?_ _)); exact BK340.out)) : gb340 ≠ gb349)); have n16_ := Aside0.mk ((by rw [hg]; exact Nat.ne_of_gt (blk_lt (g := gb340) (o := .cells #[.string t334, .int .i64 t335, .bool t336] 25 (0, 0)) (by (with_reducible repeat (first | refine blk_drewN ?_ _ | refine blk_drew ?_ | refine blk_alloc ?_ _)); exact BK340.out)) : gb349 ≠ gb340)); have n17_ := Aside0.mk ((by rw [hg]; exact Nat.ne_of_lt (blk_lt (g := gb341) (o := .cells #[.string t337, .int .i64 t338, .bool t339] 26 (0, 0)) (by (with_reducible repeat (first | refine blk_drewN ?_ _ | refine blk_drew ?_ | refine blk_alloc ?_ _)); exact BK341.out)) : gb341 ≠ gb349)); have n18_ := Aside0.mk ((by rw [hg]; exact Nat.ne_of_gt (blk_lt (g := gb341) (o := .cells #[.string t337, .int .i64 t338, .bool t339] 26 (0, 0)) (by (with_reducible repeat (first | refine blk_drewN ?_ _ | refine blk_drew ?_ | refine blk_alloc ?_ _)); exact BK341.out)) : gb349 ≠ gb341)); clear BK322; clear BK331; clear BK332; clear BK340; clear BK341; clear HB; have BK322 := n0_; have BK331 := n1_; have BK332 := n2_; have BK340 := n3_; have BK341 := n4_; have HB := n5_; have BK349 := n6_; have GW349 := n7_; have GE349 := n8_; have NB322_349 := n9_; have NB349_322 := n10_; have NB331_349 := n11_; have NB349_331 := n12_; have NB332_349 := n13_; have NB349_332 := n14_; have NB340_349 := n15_; have NB349_340 := n16_; have NB341_349 := n17_; have NB349_341 := n18_; clear n0_ n1_ n2_ n3_ n4_ n5_ n6_ n7_ n8_ n9_ n10_ n11_ n12_ n13_ n14_ n15_ n16_ n17_ n18_; clear hb hbox hg) | ((with_reducible refine gate_dst (N := 10) rfl ?_); refine box_event ?hg (N := 10) ?hd (cs := #[.string (⟨#[]⟩ : ByteArray), .int .i64 0, .bool false]) (t := 26) ?hr ?_; (case hd => rfl); (case hg => rfl); (case hr => first | (go_simp; done) | (go_simp; rfl)); intro gb350 hg w41 hbox hb; have n0_ := Aside0.mk (blk_below (g := gb322) (o := .cells #[.int .i64 a1_0, .int .i64 a1_1] 50 (0, 0)) (by (with_reducible repeat (first | refine blk_drewN ?_ _ | refine blk_drew ?_ | refine blk_alloc ?_ _)); exact BK322.out) hb); have n1_ := Aside0.mk (blk_below (g := gb331) (o := .cells #[.string t325, .int .i64 t326, .bool t327] 25 (0, 0)) (by (with_reducible repeat (first | refine blk_drewN ?_ _ | refine blk_drew ?_ | refine blk_alloc ?_ _)); exact BK331.out) hb); have n2_ := Aside0.mk (blk_below (g := gb332) (o := .cells #[.string t328, .int .i64 t329, .bool t330] 26 (0, 0)) (by (with_reducible repeat (first | refine blk_drewN ?_ _ | refine blk_drew ?_ | refine blk_alloc ?_ _)); exact BK332.out) hb); have n3_ := Aside0.mk (blk_below (g := gb340) (o := .cells #[.string t334, .int .i64 t335, .bool t336] 25 (0, 0)) (by (with_reducible repeat (first | refine blk_drewN ?_ _ | refine blk_drew ?_ | refine blk_alloc ?_ _)); exact BK340.out) hb); have n4_ := Aside0.mk (blk_below (g := gb341) (o := .cells #[.string t337, .int .i64 t338, .bool t339] 26 (0, 0)) (by (with_reducible repeat (first | refine blk_drewN ?_ _ | refine blk_drew ?_ | refine blk_alloc ?_ _)); exact BK341.out) hb); have n5_ := Aside0.mk (blk_below (g := gb349) (o := .cells #[.string (⟨#[]⟩ : ByteArray), .int .i64 0, .bool false] 25 (0, 0)) (by (with_reducible repeat (first | refine blk_drewN ?_ _ | refine blk_drew ?_ | refine blk_alloc ?_ _)); exact BK349.out) hb); have n6_ := Aside0.mk (below_step (by repeat (first | (with_reducible first | exact HB.out | apply below_alloc | apply pw_below_drewN | apply below_drew1 | refine below_set ?_ GE322.out | refine below_set ?_ GE331.out | refine below_set ?_ GE332.out | refine below_set ?_ GE340.out | refine below_set ?_ GE341.out | refine below_set ?_ GE349.out) | exact HB.out)) hb); have n7_ := Aside0.mk (hbox); have n8_ := Aside0.mk ((by rw [hg]; exact (below_size (by repeat (first | (with_reducible first | exact HB.out | apply below_alloc | apply pw_below_drewN | apply below_drew1 | refine below_set ?_ GE322.out | refine below_set ?_ GE331.out | refine below_set ?_ GE332.out | refine below_set ?_ GE340.out | refine below_set ?_ GE341.out | refine below_set ?_ GE349.out) | exact HB.out))) : w.heap.size ≤ gb350)); have n9_ := Aside0.mk ((by rw [hg]; exact (below_size (by repeat (first | (with_reducible first | exact HB.out | apply below_alloc | apply pw_below_drewN | apply below_drew1 | refine below_set ?_ GE322.out | refine below_set ?_ GE331.out | refine below_set ?_ GE332.out | refine below_set ?_ GE340.out | refine below_set ?_ GE341.out | refine below_set ?_ GE349.out) | exact HB.out))) : w.heap.size ≤ gb350)); have n10_ := Aside0.mk ((by rw [hg]; exact Nat.ne_of_lt (blk_lt (g := gb322) (o := .cells #[.int .i64 a1_0, .int .i64 a1_1] 50 (0, 0)) (by (with_reducible repeat (first | refine blk_drewN ?_ _ | refine blk_drew ?_ | refine blk_alloc ?_ _)); exact BK322.out)) : gb322 ≠ gb350)); have n11_ := Aside0.mk ((by rw [hg]; exact Nat.ne_of_gt (blk_lt (g := gb322) (o := .cells #[.int .i64 a1_0, .int .i64 a1_1] 50 (0, 0)) (by (with_reducible repeat (first | refine blk_drewN ?_ _ | refine blk_drew ?_ | refine blk_alloc ?_ _)); exact BK322.out)) : gb350 ≠ gb322)); have n12_ := Aside0.mk ((by rw [hg]; exact Nat.ne_of_lt (blk_lt (g := gb331) (o := .cells #[.string t325, .int .i64 t326, .bool t327] 25 (0, 0)) (by (with_reducible repeat (first | refine blk_drewN ?_ _ | refine blk_drew ?_ | refine blk_alloc ?_ _)); exact BK331.out)) : gb331 ≠ gb350)); have n13_ := Aside0.mk ((by rw [hg]; exact Nat.ne_of_gt (blk_lt (g := gb331) (o := .cells #[.string t325, .int .i64 t326, .bool t327] 25 (0, 0)) (by (with_reducible repeat (first | refine blk_drewN ?_ _ | refine blk_drew ?_ | refine blk_alloc ?_ _)); exact BK331.out)) : gb350 ≠ gb331)); have n14_ := Aside0.mk ((by rw [hg]; exact Nat.ne_of_lt (blk_lt (g := gb332) (o := .cells #[.string t328, .int .i64 t329, .bool t330] 26 (0, 0)) (by (with_reducible repeat (first | refine blk_drewN ?_ _ | refine blk_drew ?_ | refine blk_alloc ?_ _)); exact BK332.out)) : gb332 ≠ gb350)); have n15_ := Aside0.mk ((by rw [hg]; exact Nat.ne_of_gt (blk_lt (g := gb332) (o := .cells #[.string t328, .int .i64 t329, .bool t330] 26 (0, 0)) (by (with_reducible repeat (first | refine blk_drewN ?_ _ | refine blk_drew ?_ | refine blk_alloc ?_ _)); exact BK332.out)) : gb350 ≠ gb332)); have n16_ := Aside0.mk ((by rw [hg]; exact Nat.ne_of_lt (blk_lt (g := gb340) (o := .cells #[.string t334, .int .i64 t335, .bool t336] 25 (0, 0)) (by (with_reducible repeat (first | refine blk_drewN ?_ _ | refine blk_drew ?_ | refine blk_alloc ?_ _)); exact BK340.out)) : gb340 ≠ gb350)); have n17_ := Aside0.mk ((by rw [hg]; exact Nat.ne_of_gt (blk_lt (g := gb340) (o := .cells #[.string t334, .int .i64 t335, .bool t336] 25 (0, 0)) (by (with_reducible repeat (first | refine blk_drewN ?_ _ | refine blk_drew ?_ | refine blk_alloc ?_ _)); exact BK340.out)) : gb350 ≠ gb340)); have n18_ := Aside0.mk ((by rw [hg]; exact Nat.ne_of_lt (blk_lt (g := gb341) (o := .cells #[.string t337, .int .i64 t338, .bool t339] 26 (0, 0)) (by (with_reducible repeat (first | refine blk_drewN ?_ _ | refine blk_drew ?_ | refine blk_alloc ?_ _)); exact BK341.out)) : gb341 ≠ gb350)); have n19_ := Aside0.mk ((by rw [hg]; exact Nat.ne_of_gt (blk_lt (g := gb341) (o := .cells #[.string t337, .int .i64 t338, .bool t339] 26 (0, 0)) (by (with_reducible repeat (first | refine blk_drewN ?_ _ | refine blk_drew ?_ | refine blk_alloc ?_ _)); exact BK341.out)) : gb350 ≠ gb341)); have n20_ := Aside0.mk ((by rw [hg]; exact Nat.ne_of_lt (blk_lt (g := gb349) (o := .cells #[.string (⟨#[]⟩ : ByteArray), .int .i64 0, .bool false] 25 (0, 0)) (by (with_reducible repeat (first | refine blk_drewN ?_ _ | refine blk_drew ?_ | refine blk_alloc ?_ _)); exact BK349.out)) : gb349 ≠ gb350)); have n21_ := Aside0.mk ((by rw [hg]; exact Nat.ne_of_gt (blk_lt (g := gb349) (o := .cells #[.string (⟨#[]⟩ : ByteArray), .int .i64 0, .bool false] 25 (0, 0)) (by (with_reducible repeat (first | refine blk_drewN ?_ _ | refine blk_drew ?_ | refine blk_alloc ?_ _)); exact BK349.out)) : gb350 ≠ gb349)); clear BK322; clear BK331; clear BK332; clear BK340; clear BK341; clear BK349; clear HB; have BK322 := n0_; have BK331 := n1_; have BK332 := n2_; have BK340 := n3_; have BK341 := n4_; have BK349 := n5_; have HB := n6_; have BK350 := n7_; have GW350 := n8_; have GE350 := n9_; have NB322_350 := n10_; have NB350_322 := n11_; have NB331_350 := n12_; have NB350_331 := n13_; have NB332_350 := n14_; have NB350_332 := n15_; have NB340_350 := n16_; have NB350_340 := n17_; have NB341_350 := n18_; have NB350_341 := n19_; have NB349_350 := n20_; have NB350_349 := n21_; clear n0_ n1_ n2_ n3_ n4_ n5_ n6_ n7_ n8_ n9_ n10_ n11_ n12_ n13_ n14_ n15_ n16_ n17_ n18_ n19_ n20_ n21_; clear hb hbox hg; have hnb42 := NB349_322.out; have hnc42 := NB322_349.out; have hnb43 := NB349_331.out; have hnc43 := NB331_349.out; have hnb44 := NB349_332.out; have hnc44 := NB332_349.out; have hnb45 := NB349_340.out; have hnc45 := NB340_349.out; have hnb46 := NB349_341.out; have hnc46 := NB341_349.out; have hnb47 := NB349_350.out; have hnc47 := NB350_349.out; have hcz48_0 : w41.cell? ⟨gb349, 0, none⟩ = some (.string (⟨#[]⟩ : ByteArray)) := (blk_cell BK349.out 0).trans rfl; have hcz48_1 : w41.cell? ⟨gb349, 1, none⟩ = some (.int .i64 0) := (blk_cell BK349.out 1).trans rfl; have hcz48_2 : w41.cell? ⟨gb349, 2, none⟩ = some (.bool false) := (blk_cell BK349.out 2).trans rfl; have hfz48_0 := blk_frozen BK349.out 0; have hfz48_1 := blk_frozen BK349.out 1; have hfz48_2 := blk_frozen BK349.out 2; have hnb49 := NB350_322.out; have hnc49 := NB322_350.out; have hnb50 := NB350_331.out; have hnc50 := NB331_350.out; have hnb51 := NB350_332.out; have hnc51 := NB332_350.out; have hnb52 := NB350_340.out; have hnc52 := NB340_350.out; have hnb53 := NB350_341.out; have hnc53 := NB341_350.out; have hcz54_0 : w41.cell? ⟨gb350, 0, none⟩ = some (.string (⟨#[]⟩ : ByteArray)) := (blk_cell BK350.out 0).trans rfl; have hcz54_1 : w41.cell? ⟨gb350, 1, none⟩ = some (.int .i64 0) := (blk_cell BK350.out 1).trans rfl; have hcz54_2 : w41.cell? ⟨gb350, 2, none⟩ = some (.bool false) := (blk_cell BK350.out 2).trans rfl; have hfz54_0 := blk_frozen BK350.out 0; have hfz54_1 := blk_frozen BK350.out 1; have hfz54_2 := blk_frozen BK350.out 2; have hcz55_0 : w41.cell? ⟨gb331, 0, none⟩ = some (.string t325) := (blk_cell BK331.out 0).trans rfl; have hcz55_1 : w41.cell? ⟨gb331, 1, none⟩ = some (.int .i64 t326) := (blk_cell BK331.out 1).trans rfl; have hcz55_2 : w41.cell? ⟨gb331, 2, none⟩ = some (.bool t327) := (blk_cell BK331.out 2).trans rfl; have hfz55_0 := blk_frozen BK331.out 0; have hfz55_1 := blk_frozen BK331.out 1; have hfz55_2 := blk_frozen BK331.out 2; have hcz56_0 : w41.cell? ⟨gb340, 0, none⟩ = some (.string t334) := (blk_cell BK340.out 0).trans rfl; have hcz56_1 : w41.cell? ⟨gb340, 1, none⟩ = some (.int .i64 t335) := (blk_cell BK340.out 1).trans rfl; have hcz56_2 : w41.cell? ⟨gb340, 2, none⟩ = some (.bool t336) := (blk_cell BK340.out 2).trans rfl; have hfz56_0 := blk_frozen BK340.out 0; have hfz56_1 := blk_frozen BK340.out 1; have hfz56_2 := blk_frozen BK340.out 2) | ((with_reducible refine gate_callee (f := 18) rfl ?_); refine goesL_ (some 50) rfl rfl Tryd.func18 (by kernel_rfl) rfl #[.agg #[.string t325, .int .i64 t326, .bool t327], .agg #[.string t334, .int .i64 t335, .bool t336]] rfl (by (try simp only [List.map_toArray, List.map_cons, List.map_nil]); first | done | rfl | (simp only [List.length_drop, List.length_take]; rfl)) ?_; (with_reducible refine (tuple_Bounds.calls k t325 t326 t327 t334 t335 t336 t351 t352 t353 _ A14.out).mono ?_); rintro e w57 ⟨rfl, hb⟩; refine ⟨_, rfl, ?_⟩; have n0_ := Aside0.mk (blk_below (g := gb322) (o := .cells #[.int .i64 a1_0, .int .i64 a1_1] 50 (0, 0)) (by (with_reducible repeat (first | refine blk_drewN ?_ _ | refine blk_drew ?_ | refine blk_alloc ?_ _)); refine blk_far ?_ NB322_350.out _; (with_reducible repeat (first | refine blk_drewN ?_ _ | refine blk_drew ?_ | refine blk_alloc ?_ _)); refine blk_far ?_ NB322_350.out _; (with_reducible repeat (first | refine blk_drewN ?_ _ | refine blk_drew ?_ | refine blk_alloc ?_ _)); refine blk_far ?_ NB322_350.out _; (with_reducible repeat (first | refine blk_drewN ?_ _ | refine blk_drew ?_ | refine blk_alloc ?_ _)); refine blk_far ?_ NB322_349.out _; (with_reducible repeat (first | refine blk_drewN ?_ _ | refine blk_drew ?_ | refine blk_alloc ?_ _)); refine blk_far ?_ NB322_349.out _; (with_reducible repeat (first | refine blk_drewN ?_ _ | refine blk_drew ?_ | refine blk_alloc ?_ _)); refine blk_far ?_ NB322_349.out _; (with_reducible repeat (first | refine blk_drewN ?_ _ | refine blk_drew ?_ | refine blk_alloc ?_ _)); exact BK322.out) hb); have n1_ := Aside0.mk (blk_below (g := gb331) (o := .cells #[.string t325, .int .i64 t326, .bool t327] 25 (0, 0)) (by (with_reducible repeat (first | refine blk_drewN ?_ _ | refine blk_drew ?_ | refine blk_alloc ?_ _)); refine blk_far ?_ NB331_350.out _; (with_reducible repeat (first | refine blk_drewN ?_ _ | refine blk_drew ?_ | refine blk_alloc ?_ _)); refine blk_far ?_ NB331_350.out _; (with_reducible repeat (first | refine blk_drewN ?_ _ | refine blk_drew ?_ | refine blk_alloc ?_ _)); refine blk_far ?_ NB331_350.out _; (with_reducible repeat (first | refine blk_drewN ?_ _ | refine blk_drew ?_ | refine blk_alloc ?_ _)); refine blk_far ?_ NB331_349.out _; (with_reducible repeat (first | refine blk_drewN ?_ _ | refine blk_drew ?_ | refine blk_alloc ?_ _)); refine blk_far ?_ NB331_349.out _; (with_reducible repeat (first | refine blk_drewN ?_ _ | refine blk_drew ?_ | refine blk_alloc ?_ _)); refine blk_far ?_ NB331_349.out _; (with_reducible repeat (first | refine blk_drewN ?_ _ | refine blk_drew ?_ | refine blk_alloc ?_ _)); exact BK331.out) hb); have n2_ := Aside0.mk (blk_below (g := gb332) (o := .cells #[.string t328, .int .i64 t329, .bool t330] 26 (0, 0)) (by (with_reducible repeat (first | refine blk_drewN ?_ _ | refine blk_drew ?_ | refine blk_alloc ?_ _)); refine blk_far ?_ NB332_350.out _; (with_reducible repeat (first | refine blk_drewN ?_ _ | refine blk_drew ?_ | refine blk_alloc ?_ _)); refine blk_far ?_ NB332_350.out _; (with_reducible repeat (first | refine blk_drewN ?_ _ | refine blk_drew ?_ | refine blk_alloc ?_ _)); refine blk_far ?_ NB332_350.out _; (with_reducible repeat (first | refine blk_drewN ?_ _ | refine blk_drew ?_ | refine blk_alloc ?_ _)); refine blk_far ?_ NB332_349.out _; (with_reducible repeat (first | refine blk_drewN ?_ _ | refine blk_drew ?_ | refine blk_alloc ?_ _)); refine blk_far ?_ NB332_349.out _; (with_reducible repeat (first | refine blk_drewN ?_ _ | refine blk_drew ?_ | refine blk_alloc ?_ _)); refine blk_far ?_ NB332_349.out _; (with_reducible repeat (first | refine blk_drewN ?_ _ | refine blk_drew ?_ | refine blk_alloc ?_ _)); exact BK332.out) hb); have n3_ := Aside0.mk (blk_below (g := gb340) (o := .cells #[.string t334, .int .i64 t335, .bool t336] 25 (0, 0)) (by (with_reducible repeat (first | refine blk_drewN ?_ _ | refine blk_drew ?_ | refine blk_alloc ?_ _)); refine blk_far ?_ NB340_350.out _; (with_reducible repeat (first | refine blk_drewN ?_ _ | refine blk_drew ?_ | refine blk_alloc ?_ _)); refine blk_far ?_ NB340_350.out _; (with_reducible repeat (first | refine blk_drewN ?_ _ | refine blk_drew ?_ | refine blk_alloc ?_ _)); refine blk_far ?_ NB340_350.out _; (with_reducible repeat (first | refine blk_drewN ?_ _ | refine blk_drew ?_ | refine blk_alloc ?_ _)); refine blk_far ?_ NB340_349.out _; (with_reducible repeat (first | refine blk_drewN ?_ _ | refine blk_drew ?_ | refine blk_alloc ?_ _)); refine blk_far ?_ NB340_349.out _; (with_reducible repeat (first | refine blk_drewN ?_ _ | refine blk_drew ?_ | refine blk_alloc ?_ _)); refine blk_far ?_ NB340_349.out _; (with_reducible repeat (first | refine blk_drewN ?_ _ | refine blk_drew ?_ | refine blk_alloc ?_ _)); exact BK340.out) hb); have n4_ := Aside0.mk (blk_below (g := gb341) (o := .cells #[.string t337, .int .i64 t338, .bool t339] 26 (0, 0)) (by (with_reducible repeat (first | refine blk_drewN ?_ _ | refine blk_drew ?_ | refine blk_alloc ?_ _)); refine blk_far ?_ NB341_350.out _; (with_reducible repeat (first | refine blk_drewN ?_ _ | refine blk_drew ?_ | refine blk_alloc ?_ _)); refine blk_far ?_ NB341_350.out _; (with_reducible repeat (first | refine blk_drewN ?_ _ | refine blk_drew ?_ | refine blk_alloc ?_ _)); refine blk_far ?_ NB341_350.out _; (with_reducible repeat (first | refine blk_drewN ?_ _ | refine blk_drew ?_ | refine blk_alloc ?_ _)); refine blk_far ?_ NB341_349.out _; (with_reducible repeat (first | refine blk_drewN ?_ _ | refine blk_drew ?_ | refine blk_alloc ?_ _)); refine blk_far ?_ NB341_349.out _; (with_reducible repeat (first | refine blk_drewN ?_ _ | refine blk_drew ?_ | refine blk_alloc ?_ _)); refine blk_far ?_ NB341_349.out _; (with_reducible repeat (first | refine blk_drewN ?_ _ | refine blk_drew ?_ | refine blk_alloc ?_ _)); exact BK341.out) hb); have n5_ := Aside0.mk (blk_below (g := gb349) (o := .cells #[.string t343, .int .i64 t344, .bool t345] 25 (0, 0)) (by (with_reducible repeat (first | refine blk_drewN ?_ _ | refine blk_drew ?_ | refine blk_alloc ?_ _)); refine blk_far ?_ NB349_350.out _; (with_reducible repeat (first | refine blk_drewN ?_ _ | refine blk_drew ?_ | refine blk_alloc ?_ _)); refine blk_far ?_ NB349_350.out _; (with_reducible repeat (first | refine blk_drewN ?_ _ | refine blk_drew ?_ | refine blk_alloc ?_ _)); refine blk_far ?_ NB349_350.out _; (with_reducible repeat (first | refine blk_drewN ?_ _ | refine blk_drew ?_ | refine blk_alloc ?_ _)); refine blk_put (cs := #[.string t343, .int .i64 t344, .bool false]) ?_ 2 _ rfl; (with_reducible repeat (first | refine blk_drewN ?_ _ | refine blk_drew ?_ | refine blk_alloc ?_ _)); refine blk_put (cs := #[.string t343, .int .i64 0, .bool false]) ?_ 1 _ rfl; (with_reducible repeat (first | refine blk_drewN ?_ _ | refine blk_drew ?_ | refine blk_alloc ?_ _)); refine blk_put (cs := #[.string (⟨#[]⟩ : ByteArray), .int .i64 0, .bool false]) ?_ 0 _ rfl; (with_reducible repeat (first | refine blk_drewN ?_ _ | refine blk_drew ?_ | refine blk_alloc ?_ _)); exact BK349.out) hb); have n6_ := Aside0.mk (blk_below (g := gb350) (o := .cells #[.string t346, .int .i64 t347, .bool t348] 26 (0, 0)) (by (with_reducible repeat (first | refine blk_drewN ?_ _ | refine blk_drew ?_ | refine blk_alloc ?_ _)); refine blk_put (cs := #[.string t346, .int .i64 t347, .bool false]) ?_ 2 _ rfl; (with_reducible repeat (first | refine blk_drewN ?_ _ | refine blk_drew ?_ | refine blk_alloc ?_ _)); refine blk_put (cs := #[.string t346, .int .i64 0, .bool false]) ?_ 1 _ rfl; (with_reducible repeat (first | refine blk_drewN ?_ _ | refine blk_drew ?_ | refine blk_alloc ?_ _)); refine blk_put (cs := #[.string (⟨#[]⟩ : ByteArray), .int .i64 0, .bool false]) ?_ 0 _ rfl; (with_reducible repeat (first | refine blk_drewN ?_ _ | refine blk_drew ?_ | refine blk_alloc ?_ _)); refine blk_far ?_ NB350_349.out _; (with_reducible repeat (first | refine blk_drewN ?_ _ | refine blk_drew ?_ | refine blk_alloc ?_ _)); refine blk_far ?_ NB350_349.out _; (with_reducible repeat (first | refine blk_drewN ?_ _ | refine blk_drew ?_ | refine blk_alloc ?_ _)); refine blk_far ?_ NB350_349.out _; (with_reducible repeat (first | refine blk_drewN ?_ _ | refine blk_drew ?_ | refine blk_alloc ?_ _)); exact BK350.out) hb); have n7_ := Aside0.mk (below_step (by repeat (first | (with_reducible first | exact HB.out | apply below_alloc | apply pw_below_drewN | apply below_drew1 | refine below_set ?_ GE322.out | refine below_set ?_ GE331.out | refine below_set ?_ GE332.out | refine below_set ?_ GE340.out | refine below_set ?_ GE341.out | refine below_set ?_ GE349.out | refine below_set ?_ GE350.out) | exact HB.out)) hb); clear BK322; clear BK331; clear BK332; clear BK340; clear BK341; clear BK349; clear BK350; clear HB; have BK322 := n0_; have BK331 := n1_; have BK332 := n2_; have BK340 := n3_; have BK341 := n4_; have BK349 := n5_; have BK350 := n6_; have HB := n7_; clear n0_ n1_ n2_ n3_ n4_ n5_ n6_ n7_; (try clear hb); (try clear hb2); (try clear hk); (try clear hi); have hcz58_0 : w57.cell? ⟨gb332, 0, none⟩ = some (.string t328) := (blk_cell BK332.out 0).trans rfl; have hcz58_1 : w57.cell? ⟨gb332, 1, none⟩ = some (.int .i64 t329) := (blk_cell BK332.out 1).trans rfl; have hcz58_2 : w57.cell? ⟨gb332, 2, none⟩ = some (.bool t330) := (blk_cell BK332.out 2).trans rfl; have hfz58_0 := blk_frozen BK332.out 0; have hfz58_1 := blk_frozen BK332.out 1; have hfz58_2 := blk_frozen BK332.out 2) | ((with_reducible refine gate_callee (f := 19) rfl ?_); refine goesL_ (some 56) rfl rfl Tryd.func19 (by kernel_rfl) rfl #[.agg #[.string t328, .int .i64 t329, .bool t330]] rfl (by (try simp only [List.map_toArray, List.map_cons, List.map_nil]); first | done | rfl | (simp only [List.length_drop, List.length_take]; rfl)) ?_; (with_reducible refine (concordanceref01_One.calls k t328 t329 t330 t354 t355 _ A15.out).mono ?_); rintro e w59 ⟨rfl, hb⟩; refine ⟨_, rfl, ?_⟩; have n0_ := Aside0.mk (blk_below (g := gb322) (o := .cells #[.int .i64 a1_0, .int .i64 a1_1] 50 (0, 0)) (by (with_reducible repeat (first | refine blk_drewN ?_ _ | refine blk_drew ?_ | refine blk_alloc ?_ _)); exact BK322.out) hb); have n1_ := Aside0.mk (blk_below (g := gb331) (o := .cells #[.string t325, .int .i64 t326, .bool t327] 25 (0, 0)) (by (with_reducible repeat (first | refine blk_drewN ?_ _ | refine blk_drew ?_ | refine blk_alloc ?_ _)); exact BK331.out) hb); have n2_ := Aside0.mk (blk_below (g := gb332) (o := .cells #[.string t328, .int .i64 t329, .bool t330] 26 (0, 0)) (by (with_reducible repeat (first | refine blk_drewN ?_ _ | refine blk_drew ?_ | refine blk_alloc ?_ _)); exact BK332.out) hb); have n3_ := Aside0.mk (blk_below (g := gb340) (o := .cells #[.string t334, .int .i64 t335, .bool t336] 25 (0, 0)) (by (with_reducible repeat (first | refine blk_drewN ?_ _ | refine blk_drew ?_ | refine blk_alloc ?_ _)); exact BK340.out) hb); have n4_ := Aside0.mk (blk_below (g := gb341) (o := .cells #[.string t337, .int .i64 t338, .bool t339] 26 (0, 0)) (by (with_reducible repeat (first | refine blk_drewN ?_ _ | refine blk_drew ?_ | refine blk_alloc ?_ _)); exact BK341.out) hb); have n5_ := Aside0.mk (blk_below (g := gb349) (o := .cells #[.string t343, .int .i64 t344, .bool t345] 25 (0, 0)) (by (with_reducible repeat (first | refine blk_drewN ?_ _ | refine blk_drew ?_ | refine blk_alloc ?_ _)); exact BK349.out) hb); have n6_ := Aside0.mk (blk_below (g := gb350) (o := .cells #[.string t346, .int .i64 t347, .bool t348] 26 (0, 0)) (by (with_reducible repeat (first | refine blk_drewN ?_ _ | refine blk_drew ?_ | refine blk_alloc ?_ _)); exact BK350.out) hb); have n7_ := Aside0.mk (below_step (by repeat (first | (with_reducible first | exact HB.out | apply below_alloc | apply pw_below_drewN | apply below_drew1 | refine below_set ?_ GE322.out | refine below_set ?_ GE331.out | refine below_set ?_ GE332.out | refine below_set ?_ GE340.out | refine below_set ?_ GE341.out | refine below_set ?_ GE349.out | refine below_set ?_ GE350.out) | exact HB.out)) hb); clear BK322; clear BK331; clear BK332; clear BK340; clear BK341; clear BK349; clear BK350; clear HB; have BK322 := n0_; have BK331 := n1_; have BK332 := n2_; have BK340 := n3_; have BK341 := n4_; have BK349 := n5_; have BK350 := n6_; have HB := n7_; clear n0_ n1_ n2_ n3_ n4_ n5_ n6_ n7_; (try clear hb); (try clear hb2); (try clear hk); (try clear hi)))
      (try simp only [Act.put, List.setIfInBounds_toArray, List.set_cons_zero, List.set_cons_succ])
      go_cut [15] (fun v15 wc => ∃ (kq : Nat) (x15_15 : Int), v15 = .int .i64 x15_15 ∧ Aside0 (concordancelaw19_TupleBounds.j0 kq t351 t352 t353 x15_15 a1_0 a1_1 t328 t329 t330 t337 t338 t339 t343 t344 t345 t346 t347 t348 = some r) ∧ Aside0 (kq ≤ k) ∧ Aside0 (wc.heap[gb322]? = some (.cells #[.int .i64 a1_0, .int .i64 a1_1] 50 (0, 0))) ∧ Aside0 (wc.heap[gb331]? = some (.cells #[.string t325, .int .i64 t326, .bool t327] 25 (0, 0))) ∧ Aside0 (wc.heap[gb332]? = some (.cells #[.string t328, .int .i64 t329, .bool t330] 26 (0, 0))) ∧ Aside0 (wc.heap[gb340]? = some (.cells #[.string t334, .int .i64 t335, .bool t336] 25 (0, 0))) ∧ Aside0 (wc.heap[gb341]? = some (.cells #[.string t337, .int .i64 t338, .bool t339] 26 (0, 0))) ∧ Aside0 (wc.heap[gb349]? = some (.cells #[.string t343, .int .i64 t344, .bool t345] 25 (0, 0))) ∧ Aside0 (wc.heap[gb350]? = some (.cells #[.string t346, .int .i64 t347, .bool t348] 26 (0, 0))) ∧ Aside0 (Below w.heap.size w wc))
      case first =>
       have H := HC16.out
       clear HC16
       by_cases c60 : t355 = 0
       ·rw [if_pos c60] at H
        have c60b0 : (t355 == 0) = true := beq_iff_eq.mpr c60
        have c60b1 : (t355 != 0) = false := bne_eq_false_iff_eq.mpr c60
        clear c60
        (first | rw [c60b0] | (simp only [i64_w, i32_w]; rw [c60b0]) | skip)
        replace H := Option.bind_eq_some_iff.mp H
        obtain ⟨⟨t356, t357⟩, A610, H⟩ := H
        replace H : (concordancelaw19_TupleBounds.j0 k t351 t352 t353 t357 a1_0 a1_1 t328 t329 t330 t337 t338 t339 t343 t344 t345 t346 t347 t348) = some r := H
        have A61 := Aside0.mk A610
        clear A610
        have H' := Aside0.mk H
        clear H
        have hnb62 := NB341_322.out
        have hnc62 := NB322_341.out
        have hnb63 := NB341_331.out
        have hnc63 := NB331_341.out
        have hnb64 := NB341_332.out
        have hnc64 := NB332_341.out
        have hnb65 := NB341_340.out
        have hnc65 := NB340_341.out
        have hnb66 := NB341_349.out
        have hnc66 := NB349_341.out
        have hnb67 := NB341_350.out
        have hnc67 := NB350_341.out
        have hcz68_0 : w59.cell? ⟨gb341, 0, none⟩ = some (.string t337) := (blk_cell BK341.out 0).trans rfl
        have hcz68_1 : w59.cell? ⟨gb341, 1, none⟩ = some (.int .i64 t338) := (blk_cell BK341.out 1).trans rfl
        have hcz68_2 : w59.cell? ⟨gb341, 2, none⟩ = some (.bool t339) := (blk_cell BK341.out 2).trans rfl
        have hfz68_0 := blk_frozen BK341.out 0
        have hfz68_1 := blk_frozen BK341.out 1
        have hfz68_2 := blk_frozen BK341.out 2
        go_wp2_with (first | ((with_reducible refine gate_callee (f := 19) rfl ?_); refine goesL_ (some 63) rfl rfl Tryd.func19 (by kernel_rfl) rfl #[.agg #[.string t337, .int .i64 t338, .bool t339]] rfl (by (try simp only [List.map_toArray, List.map_cons, List.map_nil]); first | done | rfl | (simp only [List.length_drop, List.length_take]; rfl)) ?_; (with_reducible refine (concordanceref01_One.calls k t337 t338 t339 t356 t357 _ A61.out).mono ?_); rintro e w69 ⟨rfl, hb⟩; refine ⟨_, rfl, ?_⟩; have n0_ := Aside0.mk (blk_below (g := gb322) (o := .cells #[.int .i64 a1_0, .int .i64 a1_1] 50 (0, 0)) (by (with_reducible repeat (first | refine blk_drewN ?_ _ | refine blk_drew ?_ | refine blk_alloc ?_ _)); exact BK322.out) hb); have n1_ := Aside0.mk (blk_below (g := gb331) (o := .cells #[.string t325, .int .i64 t326, .bool t327] 25 (0, 0)) (by (with_reducible repeat (first | refine blk_drewN ?_ _ | refine blk_drew ?_ | refine blk_alloc ?_ _)); exact BK331.out) hb); have n2_ := Aside0.mk (blk_below (g := gb332) (o := .cells #[.string t328, .int .i64 t329, .bool t330] 26 (0, 0)) (by (with_reducible repeat (first | refine blk_drewN ?_ _ | refine blk_drew ?_ | refine blk_alloc ?_ _)); exact BK332.out) hb); have n3_ := Aside0.mk (blk_below (g := gb340) (o := .cells #[.string t334, .int .i64 t335, .bool t336] 25 (0, 0)) (by (with_reducible repeat (first | refine blk_drewN ?_ _ | refine blk_drew ?_ | refine blk_alloc ?_ _)); exact BK340.out) hb); have n4_ := Aside0.mk (blk_below (g := gb341) (o := .cells #[.string t337, .int .i64 t338, .bool t339] 26 (0, 0)) (by (with_reducible repeat (first | refine blk_drewN ?_ _ | refine blk_drew ?_ | refine blk_alloc ?_ _)); exact BK341.out) hb); have n5_ := Aside0.mk (blk_below (g := gb349) (o := .cells #[.string t343, .int .i64 t344, .bool t345] 25 (0, 0)) (by (with_reducible repeat (first | refine blk_drewN ?_ _ | refine blk_drew ?_ | refine blk_alloc ?_ _)); exact BK349.out) hb); have n6_ := Aside0.mk (blk_below (g := gb350) (o := .cells #[.string t346, .int .i64 t347, .bool t348] 26 (0, 0)) (by (with_reducible repeat (first | refine blk_drewN ?_ _ | refine blk_drew ?_ | refine blk_alloc ?_ _)); exact BK350.out) hb); have n7_ := Aside0.mk (below_step (by repeat (first | (with_reducible first | exact HB.out | apply below_alloc | apply pw_below_drewN | apply below_drew1 | refine below_set ?_ GE322.out | refine below_set ?_ GE331.out | refine below_set ?_ GE332.out | refine below_set ?_ GE340.out | refine below_set ?_ GE341.out | refine below_set ?_ GE349.out | refine below_set ?_ GE350.out) | exact HB.out)) hb); clear BK322; clear BK331; clear BK332; clear BK340; clear BK341; clear BK349; clear BK350; clear HB; have BK322 := n0_; have BK331 := n1_; have BK332 := n2_; have BK340 := n3_; have BK341 := n4_; have BK349 := n5_; have BK350 := n6_; have HB := n7_; clear n0_ n1_ n2_ n3_ n4_ n5_ n6_ n7_; (try clear hb); (try clear hb2); (try clear hk); (try clear hi)))
        go_meet
        case rel => exact ⟨_, (t357), (by first | rfl | (simp; done) | (simp [*]; done)), H', ⟨by first | omega | exact Nat.le_refl _⟩, ⟨by (with_reducible repeat (first | refine blk_drewN ?_ _ | refine blk_drew ?_ | refine blk_alloc ?_ _)); exact BK322.out⟩, ⟨by (with_reducible repeat (first | refine blk_drewN ?_ _ | refine blk_drew ?_ | refine blk_alloc ?_ _)); exact BK331.out⟩, ⟨by (with_reducible repeat (first | refine blk_drewN ?_ _ | refine blk_drew ?_ | refine blk_alloc ?_ _)); exact BK332.out⟩, ⟨by (with_reducible repeat (first | refine blk_drewN ?_ _ | refine blk_drew ?_ | refine blk_alloc ?_ _)); exact BK340.out⟩, ⟨by (with_reducible repeat (first | refine blk_drewN ?_ _ | refine blk_drew ?_ | refine blk_alloc ?_ _)); exact BK341.out⟩, ⟨by (with_reducible repeat (first | refine blk_drewN ?_ _ | refine blk_drew ?_ | refine blk_alloc ?_ _)); exact BK349.out⟩, ⟨by (with_reducible repeat (first | refine blk_drewN ?_ _ | refine blk_drew ?_ | refine blk_alloc ?_ _)); exact BK350.out⟩, ⟨by repeat (first | (with_reducible first | exact HB.out | apply below_alloc | apply pw_below_drewN | apply below_drew1 | refine below_set ?_ GE322.out | refine below_set ?_ GE331.out | refine below_set ?_ GE332.out | refine below_set ?_ GE340.out | refine below_set ?_ GE341.out | refine below_set ?_ GE349.out | refine below_set ?_ GE350.out) | exact HB.out)⟩⟩
       ·rw [if_neg c60] at H
        have c60b0 : (t355 == 0) = false := beq_eq_false_iff_ne.mpr c60
        have c60b1 : (t355 != 0) = true := bne_iff_ne.mpr c60
        (first | rw [c60b0] | (simp only [i64_w, i32_w]; rw [c60b0]) | skip)
        have H' := Aside0.mk H
        clear H
        go_wp2
        go_meet
        case rel => exact ⟨_, (t355), (by first | rfl | (simp; done) | (simp [*]; done)), H', ⟨by first | omega | exact Nat.le_refl _⟩, ⟨by (with_reducible repeat (first | refine blk_drewN ?_ _ | refine blk_drew ?_ | refine blk_alloc ?_ _)); exact BK322.out⟩, ⟨by (with_reducible repeat (first | refine blk_drewN ?_ _ | refine blk_drew ?_ | refine blk_alloc ?_ _)); exact BK331.out⟩, ⟨by (with_reducible repeat (first | refine blk_drewN ?_ _ | refine blk_drew ?_ | refine blk_alloc ?_ _)); exact BK332.out⟩, ⟨by (with_reducible repeat (first | refine blk_drewN ?_ _ | refine blk_drew ?_ | refine blk_alloc ?_ _)); exact BK340.out⟩, ⟨by (with_reducible repeat (first | refine blk_drewN ?_ _ | refine blk_drew ?_ | refine blk_alloc ?_ _)); exact BK341.out⟩, ⟨by (with_reducible repeat (first | refine blk_drewN ?_ _ | refine blk_drew ?_ | refine blk_alloc ?_ _)); exact BK349.out⟩, ⟨by (with_reducible repeat (first | refine blk_drewN ?_ _ | refine blk_drew ?_ | refine blk_alloc ?_ _)); exact BK350.out⟩, ⟨by repeat (first | (with_reducible first | exact HB.out | apply below_alloc | apply pw_below_drewN | apply below_drew1 | refine below_set ?_ GE322.out | refine below_set ?_ GE331.out | refine below_set ?_ GE332.out | refine below_set ?_ GE340.out | refine below_set ?_ GE341.out | refine below_set ?_ GE349.out | refine below_set ?_ GE350.out) | exact HB.out)⟩⟩
      case rest =>
       clear HC16
       try clear c1
       try clear c2
       try clear p2
       try clear c3
       try clear p3
       try clear q3
       try clear hx3
       try clear qi3
       try clear c4
       try clear c5
       try clear c5b0
       try clear c5b1
       try clear c6
       try clear c8
       try clear c8b0
       try clear c8b1
       try clear c9
       try clear c10
       try clear c10b0
       try clear c10b1
       try clear c12
       try clear c12b0
       try clear c12b1
       try clear c18
       try clear c19
       try clear c22
       try clear c23
       try clear c25
       try clear c30
       try clear c31
       try clear c32
       try clear p32
       try clear q32
       try clear hx32
       try clear qi32
       try clear c33
       try clear p33
       try clear q33
       try clear hx33
       try clear qi33
       try clear p34
       try clear q34
       try clear hx34
       try clear qi34
       try clear c35
       try clear c36
       try clear c37
       try clear c42
       try clear c43
       try clear c44
       try clear c45
       try clear c46
       try clear c47
       try clear c49
       try clear c50
       try clear c51
       try clear c52
       try clear c53
       try clear c60
       try clear c60b0
       try clear c60b1
       try clear c62
       try clear c63
       try clear c64
       try clear c65
       try clear c66
       try clear c67
       try clear hcz24_0
       try clear hcz24_1
       try clear hcz24_2
       try clear hcz26_0
       try clear hcz26_1
       try clear hcz26_2
       try clear hcz34_0
       try clear hcz34_1
       try clear hcz34_2
       try clear hcz38_0
       try clear hcz38_1
       try clear hcz38_2
       try clear hcz48_0
       try clear hcz48_1
       try clear hcz48_2
       try clear hcz54_0
       try clear hcz54_1
       try clear hcz54_2
       try clear hcz55_0
       try clear hcz55_1
       try clear hcz55_2
       try clear hcz56_0
       try clear hcz56_1
       try clear hcz56_2
       try clear hcz58_0
       try clear hcz58_1
       try clear hcz58_2
       try clear hcz68_0
       try clear hcz68_1
       try clear hcz68_2
       try clear hfz24_0
       try clear hfz24_1
       try clear hfz24_2
       try clear hfz26_0
       try clear hfz26_1
       try clear hfz26_2
       try clear hfz34_0
       try clear hfz34_1
       try clear hfz34_2
       try clear hfz38_0
       try clear hfz38_1
       try clear hfz38_2
       try clear hfz48_0
       try clear hfz48_1
       try clear hfz48_2
       try clear hfz54_0
       try clear hfz54_1
       try clear hfz54_2
       try clear hfz55_0
       try clear hfz55_1
       try clear hfz55_2
       try clear hfz56_0
       try clear hfz56_1
       try clear hfz56_2
       try clear hfz58_0
       try clear hfz58_1
       try clear hfz58_2
       try clear hfz68_0
       try clear hfz68_1
       try clear hfz68_2
       try clear hx324_0
       try clear hx324_1
       try clear hx324_2
       try clear hx333_0
       try clear hx333_1
       try clear hx333_2
       try clear hx342_0
       try clear hx342_1
       try clear hx342_2
       try clear p324
       try clear p333
       try clear p342
       try clear q324
       try clear q333
       try clear q342
       obtain ⟨kq, x15_15, rfl, HA, HJ15, BK322, BK331, BK332, BK340, BK341, BK349, BK350, HB⟩ := hcut
       cases kq with
       | zero => exact absurd HA.out (by simp [concordancelaw19_TupleBounds.j0])
       | succ kj15 =>
        have H := HA.out
        clear HA
        simp only [concordancelaw19_TupleBounds.j0] at H
        have HC70 := Aside0.mk H
        clear H
        go_upto_region 12 with (fail)
        go_cut [75] (fun v75 wc => ∃ (kq : Nat) (x75_69 : Bool), v75 = .bool x75_69 ∧ Aside0 (concordancelaw19_TupleBounds.j1 kq t351 t352 x15_15 x75_69 a1_0 a1_1 t328 t329 t330 t337 t338 t339 t343 t344 t345 t346 t347 t348 = some r) ∧ Aside0 (kq ≤ kj15) ∧ Aside0 (wc.heap[gb322]? = some (.cells #[.int .i64 a1_0, .int .i64 a1_1] 50 (0, 0))) ∧ Aside0 (wc.heap[gb331]? = some (.cells #[.string t325, .int .i64 t326, .bool t327] 25 (0, 0))) ∧ Aside0 (wc.heap[gb332]? = some (.cells #[.string t328, .int .i64 t329, .bool t330] 26 (0, 0))) ∧ Aside0 (wc.heap[gb340]? = some (.cells #[.string t334, .int .i64 t335, .bool t336] 25 (0, 0))) ∧ Aside0 (wc.heap[gb341]? = some (.cells #[.string t337, .int .i64 t338, .bool t339] 26 (0, 0))) ∧ Aside0 (wc.heap[gb349]? = some (.cells #[.string t343, .int .i64 t344, .bool t345] 25 (0, 0))) ∧ Aside0 (wc.heap[gb350]? = some (.cells #[.string t346, .int .i64 t347, .bool t348] 26 (0, 0))) ∧ Aside0 (Below w.heap.size w wc))
        case first =>
         have H := HC70.out
         clear HC70
         by_cases c71 : t353 = x15_15
         ·rw [if_pos c71] at H
          have c71b0 : (t353 == x15_15) = true := beq_iff_eq.mpr c71
          have c71b1 : (t353 != x15_15) = false := bne_eq_false_iff_eq.mpr c71
          clear c71
          (first | rw [c71b0] | (simp only [i64_w, i32_w]; rw [c71b0]) | skip)
          replace H := Option.bind_eq_some_iff.mp H
          obtain ⟨t358, A720, H⟩ := H
          replace H : ((concordanceref19_Show.f kj15 t346 t347 t348).bind fun t359 => (concordancelaw19_TupleBounds.j1 kj15 t351 t352 x15_15 (t358.toList != t359.toList) a1_0 a1_1 t328 t329 t330 t337 t338 t339 t343 t344 t345 t346 t347 t348)) = some r := H
          have A72 := Aside0.mk A720
          clear A720
          replace H := Option.bind_eq_some_iff.mp H
          obtain ⟨t359, A730, H⟩ := H
          replace H : (concordancelaw19_TupleBounds.j1 kj15 t351 t352 x15_15 (t358.toList != t359.toList) a1_0 a1_1 t328 t329 t330 t337 t338 t339 t343 t344 t345 t346 t347 t348) = some r := H
          have A73 := Aside0.mk A730
          clear A730
          have H' := Aside0.mk H
          clear H
          try go_wp2
          have n0_ := Aside0.mk (blk_drew BK322.out)
          have n1_ := Aside0.mk (blk_drew BK331.out)
          have n2_ := Aside0.mk (blk_drew BK332.out)
          have n3_ := Aside0.mk (blk_drew BK340.out)
          have n4_ := Aside0.mk (blk_drew BK341.out)
          have n5_ := Aside0.mk (blk_drew BK349.out)
          have n6_ := Aside0.mk (blk_drew BK350.out)
          have n7_ := Aside0.mk (below_drew1 HB.out)
          clear BK322
          clear BK331
          clear BK332
          clear BK340
          clear BK341
          clear BK349
          clear BK350
          clear HB
          have BK322 := n0_
          have BK331 := n1_
          have BK332 := n2_
          have BK340 := n3_
          have BK341 := n4_
          have BK349 := n5_
          have BK350 := n6_
          have HB := n7_
          clear n0_ n1_ n2_ n3_ n4_ n5_ n6_ n7_
          refine start_ (n := 10) (S := fun w' => w'.cell? ⟨gb349, 0, none⟩ = some (.string t343) ∧ w'.cell? ⟨gb349, 1, none⟩ = some (.int .i64 t344) ∧ w'.cell? ⟨gb349, 2, none⟩ = some (.bool t345) ∧ w'.cell? ⟨gb350, 0, none⟩ = some (.string t346) ∧ w'.cell? ⟨gb350, 1, none⟩ = some (.int .i64 t347) ∧ w'.cell? ⟨gb350, 2, none⟩ = some (.bool t348)) (ds := []) #[false, false, false, false, false, false, false, false, false, false] (by kernel_rfl) rfl rfl ⟨(blk_cell BK349.out 0).trans rfl, (blk_cell BK349.out 1).trans rfl, (blk_cell BK349.out 2).trans rfl, (blk_cell BK350.out 0).trans rfl, (blk_cell BK350.out 1).trans rfl, (blk_cell BK350.out 2).trans rfl⟩ (fun hHeld => ?_); refine with_tabW concordancelaw19_TupleBounds.tab12 concordancelaw19_TupleBounds.bits12 (fun HT_ HW_ => ?_)
          generalize wc.drew = w74 at BK322 BK331 BK332 BK340 BK341 BK349 BK350 HB hHeld ⊢
          refine pure_ (i := 0) (N := some 66) (v := ?_) (a' := ?_) #[true, false, false, false, false, false, false, false, false, false] rfl rfl (any_of HT_.out (by kernel_rfl)) (fun _ _ _ h => h) (Or.inl ⟨by rfl, ?_⟩) ?_ ?_
          rotate_left
          ·intro w'
           go_simp
           with_reducible rfl
          rotate_left
          ·simp only [Act.put, List.setIfInBounds_toArray, List.set_cons_zero, List.set_cons_succ, i64_w, i32_w]
           rfl
          refine pure_ (i := 1) (N := some 67) (v := ?_) (a' := ?_) #[true, true, false, false, false, false, false, false, false, false] rfl rfl (any_of HT_.out (by kernel_rfl)) (fun _ _ _ h => h) (Or.inl ⟨by rfl, ?_⟩) ?_ ?_
          rotate_left
          ·intro w'
           go_simp
           with_reducible rfl
          rotate_left
          ·simp only [Act.put, List.setIfInBounds_toArray, List.set_cons_zero, List.set_cons_succ, i64_w, i32_w]
           rfl
          refine pure_ (i := 2) (N := some 68) (v := ?_) (a' := ?_) #[true, true, true, false, false, false, false, false, false, false] rfl rfl (any_of HT_.out (by kernel_rfl)) (fun _ _ _ h => h) (Or.inl ⟨by rfl, ?_⟩) ?_ ?_
          rotate_left
          ·intro w'
           go_simp
           with_reducible rfl
          rotate_left
          ·simp only [Act.put, List.setIfInBounds_toArray, List.set_cons_zero, List.set_cons_succ, i64_w, i32_w]
           rfl
          refine pure_ (i := 3) (N := some 69) (v := ?_) (a' := ?_) #[true, true, true, true, false, false, false, false, false, false] rfl rfl (any_of HT_.out (by kernel_rfl)) (fun _ _ _ h => h) (Or.inl ⟨by rfl, ?_⟩) ?_ ?_
          rotate_left
          ·intro w'
           go_simp
           with_reducible rfl
          rotate_left
          ·simp only [Act.put, List.setIfInBounds_toArray, List.set_cons_zero, List.set_cons_succ, i64_w, i32_w]
           rfl
          refine take_ (i := 4) (N := some 70) (v := ?_) (a' := ?_) #[true, true, true, true, true, false, false, false, false, false] rfl rfl (take_ofW HT_.out HW_.out (by kernel_rfl)) (fun _ _ _ h => h) (Or.inl ⟨by rfl, ?_⟩) hHeld ?_ ?_
          rotate_left
          ·rintro w' ⟨s0, s1, s2, s3, s4, s5⟩
           go_simp
           with_reducible rfl
          rotate_left
          ·simp only [Act.put, List.setIfInBounds_toArray, List.set_cons_zero, List.set_cons_succ, i64_w, i32_w]
           rfl
          refine take_ (i := 6) (N := some 72) (v := ?_) (a' := ?_) #[true, true, true, true, true, false, true, false, false, false] rfl rfl (take_ofW HT_.out HW_.out (by kernel_rfl)) (fun _ _ _ h => h) (Or.inl ⟨by rfl, ?_⟩) hHeld ?_ ?_
          rotate_left
          ·rintro w' ⟨s0, s1, s2, s3, s4, s5⟩
           go_simp
           with_reducible rfl
          rotate_left
          ·simp only [Act.put, List.setIfInBounds_toArray, List.set_cons_zero, List.set_cons_succ, i64_w, i32_w]
           rfl
          refine one_ (i := 5) (N := some 71) #[true, true, true, true, true, true, true, false, false, false] rfl rfl (one_of HT_.out (by kernel_rfl)) (by decide) (fun K hK => ?_)
          refine goes_ Tryd.func10 (by kernel_rfl) rfl #[.agg #[.string t343, .int .i64 t344, .bool t345]] (by rfl) rfl rfl (by (try simp only [List.map_toArray, List.map_cons, List.map_nil]); first | done | rfl | (simp only [List.length_drop, List.length_take]; rfl)) ?_
          with_reducible refine (tuple_Show.callsG t343 t344 t345 t358 _ (HTab.out.below (by repeat (first | (with_reducible first | exact HB.out | apply below_alloc | apply pw_below_drewN | apply below_drew1 | refine below_set ?_ GE322.out | refine below_set ?_ GE331.out | refine below_set ?_ GE332.out | refine below_set ?_ GE340.out | refine below_set ?_ GE341.out | refine below_set ?_ GE349.out | refine below_set ?_ GE350.out) | exact HB.out))) A72.out).mono ?_
          rintro e w75 ⟨rfl, hb⟩
          refine ⟨_, rfl, ?_⟩
          have n0_ := Aside0.mk (blk_below (g := gb322) (o := .cells #[.int .i64 a1_0, .int .i64 a1_1] 50 (0, 0)) (by (with_reducible repeat (first | refine blk_drewN ?_ _ | refine blk_drew ?_ | refine blk_alloc ?_ _)); exact BK322.out) hb)
          have n1_ := Aside0.mk (blk_below (g := gb331) (o := .cells #[.string t325, .int .i64 t326, .bool t327] 25 (0, 0)) (by (with_reducible repeat (first | refine blk_drewN ?_ _ | refine blk_drew ?_ | refine blk_alloc ?_ _)); exact BK331.out) hb)
          have n2_ := Aside0.mk (blk_below (g := gb332) (o := .cells #[.string t328, .int .i64 t329, .bool t330] 26 (0, 0)) (by (with_reducible repeat (first | refine blk_drewN ?_ _ | refine blk_drew ?_ | refine blk_alloc ?_ _)); exact BK332.out) hb)
          have n3_ := Aside0.mk (blk_below (g := gb340) (o := .cells #[.string t334, .int .i64 t335, .bool t336] 25 (0, 0)) (by (with_reducible repeat (first | refine blk_drewN ?_ _ | refine blk_drew ?_ | refine blk_alloc ?_ _)); exact BK340.out) hb)
          have n4_ := Aside0.mk (blk_below (g := gb341) (o := .cells #[.string t337, .int .i64 t338, .bool t339] 26 (0, 0)) (by (with_reducible repeat (first | refine blk_drewN ?_ _ | refine blk_drew ?_ | refine blk_alloc ?_ _)); exact BK341.out) hb)
          have n5_ := Aside0.mk (blk_below (g := gb349) (o := .cells #[.string t343, .int .i64 t344, .bool t345] 25 (0, 0)) (by (with_reducible repeat (first | refine blk_drewN ?_ _ | refine blk_drew ?_ | refine blk_alloc ?_ _)); exact BK349.out) hb)
          have n6_ := Aside0.mk (blk_below (g := gb350) (o := .cells #[.string t346, .int .i64 t347, .bool t348] 26 (0, 0)) (by (with_reducible repeat (first | refine blk_drewN ?_ _ | refine blk_drew ?_ | refine blk_alloc ?_ _)); exact BK350.out) hb)
          have n7_ := Aside0.mk (below_step (by repeat (first | (with_reducible first | exact HB.out | apply below_alloc | apply pw_below_drewN | apply below_drew1 | refine below_set ?_ GE322.out | refine below_set ?_ GE331.out | refine below_set ?_ GE332.out | refine below_set ?_ GE340.out | refine below_set ?_ GE341.out | refine below_set ?_ GE349.out | refine below_set ?_ GE350.out) | exact HB.out)) hb)
          clear BK322
          clear BK331
          clear BK332
          clear BK340
          clear BK341
          clear BK349
          clear BK350
          clear HB
          have BK322 := n0_
          have BK331 := n1_
          have BK332 := n2_
          have BK340 := n3_
          have BK341 := n4_
          have BK349 := n5_
          have BK350 := n6_
          have HB := n7_
          clear n0_ n1_ n2_ n3_ n4_ n5_ n6_ n7_
          (try clear hb)
          (try clear hb2)
          (try clear hk)
          (try clear hi)
          refine hK.out _ _ ⟨(blk_cell BK349.out 0).trans rfl, (blk_cell BK349.out 1).trans rfl, (blk_cell BK349.out 2).trans rfl, (blk_cell BK350.out 0).trans rfl, (blk_cell BK350.out 1).trans rfl, (blk_cell BK350.out 2).trans rfl⟩ (fun hHeld => ?_)
          clear hK K
          refine norm_ (a' := ?_) ?_ ?_
          rotate_left
          ·show Act.put _ (some 71) _ = _
           simp only [Act.put, List.setIfInBounds_toArray, List.set_cons_zero, List.set_cons_succ, i64_w, i32_w]
           rfl
          refine one_ (i := 7) (N := some 73) #[true, true, true, true, true, true, true, true, false, false] rfl rfl (one_of HT_.out (by kernel_rfl)) (by decide) (fun K hK => ?_)
          refine goes_ Tryd.func20 (by kernel_rfl) rfl #[.agg #[.string t346, .int .i64 t347, .bool t348]] (by rfl) rfl rfl (by (try simp only [List.map_toArray, List.map_cons, List.map_nil]); first | done | rfl | (simp only [List.length_drop, List.length_take]; rfl)) ?_
          with_reducible refine (concordanceref19_Show.calls kj15 t346 t347 t348 t359 _ A73.out).mono ?_
          rintro e w76 ⟨rfl, hb⟩
          refine ⟨_, rfl, ?_⟩
          have n0_ := Aside0.mk (blk_below (g := gb322) (o := .cells #[.int .i64 a1_0, .int .i64 a1_1] 50 (0, 0)) (by (with_reducible repeat (first | refine blk_drewN ?_ _ | refine blk_drew ?_ | refine blk_alloc ?_ _)); exact BK322.out) hb)
          have n1_ := Aside0.mk (blk_below (g := gb331) (o := .cells #[.string t325, .int .i64 t326, .bool t327] 25 (0, 0)) (by (with_reducible repeat (first | refine blk_drewN ?_ _ | refine blk_drew ?_ | refine blk_alloc ?_ _)); exact BK331.out) hb)
          have n2_ := Aside0.mk (blk_below (g := gb332) (o := .cells #[.string t328, .int .i64 t329, .bool t330] 26 (0, 0)) (by (with_reducible repeat (first | refine blk_drewN ?_ _ | refine blk_drew ?_ | refine blk_alloc ?_ _)); exact BK332.out) hb)
          have n3_ := Aside0.mk (blk_below (g := gb340) (o := .cells #[.string t334, .int .i64 t335, .bool t336] 25 (0, 0)) (by (with_reducible repeat (first | refine blk_drewN ?_ _ | refine blk_drew ?_ | refine blk_alloc ?_ _)); exact BK340.out) hb)
          have n4_ := Aside0.mk (blk_below (g := gb341) (o := .cells #[.string t337, .int .i64 t338, .bool t339] 26 (0, 0)) (by (with_reducible repeat (first | refine blk_drewN ?_ _ | refine blk_drew ?_ | refine blk_alloc ?_ _)); exact BK341.out) hb)
          have n5_ := Aside0.mk (blk_below (g := gb349) (o := .cells #[.string t343, .int .i64 t344, .bool t345] 25 (0, 0)) (by (with_reducible repeat (first | refine blk_drewN ?_ _ | refine blk_drew ?_ | refine blk_alloc ?_ _)); exact BK349.out) hb)
          have n6_ := Aside0.mk (blk_below (g := gb350) (o := .cells #[.string t346, .int .i64 t347, .bool t348] 26 (0, 0)) (by (with_reducible repeat (first | refine blk_drewN ?_ _ | refine blk_drew ?_ | refine blk_alloc ?_ _)); exact BK350.out) hb)
          have n7_ := Aside0.mk (below_step (by repeat (first | (with_reducible first | exact HB.out | apply below_alloc | apply pw_below_drewN | apply below_drew1 | refine below_set ?_ GE322.out | refine below_set ?_ GE331.out | refine below_set ?_ GE332.out | refine below_set ?_ GE340.out | refine below_set ?_ GE341.out | refine below_set ?_ GE349.out | refine below_set ?_ GE350.out) | exact HB.out)) hb)
          clear BK322
          clear BK331
          clear BK332
          clear BK340
          clear BK341
          clear BK349
          clear BK350
          clear HB
          have BK322 := n0_
          have BK331 := n1_
          have BK332 := n2_
          have BK340 := n3_
          have BK341 := n4_
          have BK349 := n5_
          have BK350 := n6_
          have HB := n7_
          clear n0_ n1_ n2_ n3_ n4_ n5_ n6_ n7_
          (try clear hb)
          (try clear hb2)
          (try clear hk)
          (try clear hi)
          refine hK.out _ _ ⟨(blk_cell BK349.out 0).trans rfl, (blk_cell BK349.out 1).trans rfl, (blk_cell BK349.out 2).trans rfl, (blk_cell BK350.out 0).trans rfl, (blk_cell BK350.out 1).trans rfl, (blk_cell BK350.out 2).trans rfl⟩ (fun hHeld => ?_)
          clear hK K
          refine norm_ (a' := ?_) ?_ ?_
          rotate_left
          ·show Act.put _ (some 73) _ = _
           simp only [Act.put, List.setIfInBounds_toArray, List.set_cons_zero, List.set_cons_succ, i64_w, i32_w]
           rfl
          refine pure_ (i := 8) (N := some 74) (v := ?_) (a' := ?_) #[true, true, true, true, true, true, true, true, true, false] rfl rfl (any_of HT_.out (by kernel_rfl)) (fun _ _ _ h => h) (Or.inl ⟨by rfl, ?_⟩) ?_ ?_
          rotate_left
          ·intro w'
           go_simp
           with_reducible rfl
          rotate_left
          ·simp only [Act.put, List.setIfInBounds_toArray, List.set_cons_zero, List.set_cons_succ, i64_w, i32_w]
           rfl
          refine pure_ (i := 9) (N := some 75) (v := ?_) (a' := ?_) #[true, true, true, true, true, true, true, true, true, true] rfl rfl (any_of HT_.out (by kernel_rfl)) (fun _ _ _ h => h) (Or.inl ⟨by rfl, ?_⟩) ?_ ?_
          rotate_left
          ·intro w'
           go_simp
           with_reducible rfl
          rotate_left
          ·simp only [Act.put, List.setIfInBounds_toArray, List.set_cons_zero, List.set_cons_succ, i64_w, i32_w]
           rfl
          refine done_ (done_of HT_.out (by kernel_rfl)) ?_
          try go_wp2
          go_meet
          case rel => exact ⟨_, ((t358.toList != t359.toList)), (by first | rfl | (simp; done) | (simp [*]; done)), H', ⟨by have := HJ15.out; first | omega | exact Nat.le_refl _⟩, ⟨by (with_reducible repeat (first | refine blk_drewN ?_ _ | refine blk_drew ?_ | refine blk_alloc ?_ _)); exact BK322.out⟩, ⟨by (with_reducible repeat (first | refine blk_drewN ?_ _ | refine blk_drew ?_ | refine blk_alloc ?_ _)); exact BK331.out⟩, ⟨by (with_reducible repeat (first | refine blk_drewN ?_ _ | refine blk_drew ?_ | refine blk_alloc ?_ _)); exact BK332.out⟩, ⟨by (with_reducible repeat (first | refine blk_drewN ?_ _ | refine blk_drew ?_ | refine blk_alloc ?_ _)); exact BK340.out⟩, ⟨by (with_reducible repeat (first | refine blk_drewN ?_ _ | refine blk_drew ?_ | refine blk_alloc ?_ _)); exact BK341.out⟩, ⟨by (with_reducible repeat (first | refine blk_drewN ?_ _ | refine blk_drew ?_ | refine blk_alloc ?_ _)); exact BK349.out⟩, ⟨by (with_reducible repeat (first | refine blk_drewN ?_ _ | refine blk_drew ?_ | refine blk_alloc ?_ _)); exact BK350.out⟩, ⟨by repeat (first | (with_reducible first | exact HB.out | apply below_alloc | apply pw_below_drewN | apply below_drew1 | refine below_set ?_ GE322.out | refine below_set ?_ GE331.out | refine below_set ?_ GE332.out | refine below_set ?_ GE340.out | refine below_set ?_ GE341.out | refine below_set ?_ GE349.out | refine below_set ?_ GE350.out) | exact HB.out)⟩⟩
         ·rw [if_neg c71] at H
          have c71b0 : (t353 == x15_15) = false := beq_eq_false_iff_ne.mpr c71
          have c71b1 : (t353 != x15_15) = true := bne_iff_ne.mpr c71
          (first | rw [c71b0] | (simp only [i64_w, i32_w]; rw [c71b0]) | skip)
          have H' := Aside0.mk H
          clear H
          try go_wp2
          have n0_ := Aside0.mk (blk_drew BK322.out)
          have n1_ := Aside0.mk (blk_drew BK331.out)
          have n2_ := Aside0.mk (blk_drew BK332.out)
          have n3_ := Aside0.mk (blk_drew BK340.out)
          have n4_ := Aside0.mk (blk_drew BK341.out)
          have n5_ := Aside0.mk (blk_drew BK349.out)
          have n6_ := Aside0.mk (blk_drew BK350.out)
          have n7_ := Aside0.mk (below_drew1 HB.out)
          clear BK322
          clear BK331
          clear BK332
          clear BK340
          clear BK341
          clear BK349
          clear BK350
          clear HB
          have BK322 := n0_
          have BK331 := n1_
          have BK332 := n2_
          have BK340 := n3_
          have BK341 := n4_
          have BK349 := n5_
          have BK350 := n6_
          have HB := n7_
          clear n0_ n1_ n2_ n3_ n4_ n5_ n6_ n7_
          refine start_ (n := 10) (S := fun w' => True) (ds := []) #[false, false, false, false, false, false, false, false, false, false] (by kernel_rfl) rfl rfl trivial (fun hHeld => ?_); refine with_tabW concordancelaw19_TupleBounds.tab12 concordancelaw19_TupleBounds.bits12 (fun HT_ HW_ => ?_)
          generalize wc.drew = w77 at BK322 BK331 BK332 BK340 BK341 BK349 BK350 HB hHeld ⊢
          refine pure_ (i := 0) (N := some 66) (v := ?_) (a' := ?_) #[true, false, false, false, false, false, false, false, false, false] rfl rfl (any_of HT_.out (by kernel_rfl)) (fun _ _ _ h => h) (Or.inl ⟨by rfl, ?_⟩) ?_ ?_
          rotate_left
          ·intro w'
           go_simp
           with_reducible rfl
          rotate_left
          ·simp only [Act.put, List.setIfInBounds_toArray, List.set_cons_zero, List.set_cons_succ, i64_w, i32_w]
           rfl
          refine pure_ (i := 1) (N := some 67) (v := ?_) (a' := ?_) #[true, true, false, false, false, false, false, false, false, false] rfl rfl (any_of HT_.out (by kernel_rfl)) (fun _ _ _ h => h) (Or.inl ⟨by rfl, ?_⟩) ?_ ?_
          rotate_left
          ·intro w'
           go_simp
           with_reducible rfl
          rotate_left
          ·simp only [Act.put, List.setIfInBounds_toArray, List.set_cons_zero, List.set_cons_succ, i64_w, i32_w]
           rfl
          refine pure_ (i := 2) (N := some 68) (v := ?_) (a' := ?_) #[true, true, true, false, false, false, false, false, false, false] rfl rfl (any_of HT_.out (by kernel_rfl)) (fun _ _ _ h => h) (Or.inl ⟨by rfl, ?_⟩) ?_ ?_
          rotate_left
          ·intro w'
           go_simp
           with_reducible rfl
          rotate_left
          ·simp only [Act.put, List.setIfInBounds_toArray, List.set_cons_zero, List.set_cons_succ, i64_w, i32_w]
           rfl
          refine pure_ (i := 3) (N := some 69) (v := ?_) (a' := ?_) #[true, true, true, true, false, false, false, false, false, false] rfl rfl (any_of HT_.out (by kernel_rfl)) (fun _ _ _ h => h) (Or.inl ⟨by rfl, ?_⟩) ?_ ?_
          rotate_left
          ·intro w'
           go_simp
           with_reducible rfl
          rotate_left
          ·simp only [Act.put, List.setIfInBounds_toArray, List.set_cons_zero, List.set_cons_succ, i64_w, i32_w]
           rfl
          refine pure_ (i := 4) (N := some 70) (v := undef) (a' := ?_) #[true, true, true, true, true, false, false, false, false, false] rfl rfl (any_of HT_.out (by kernel_rfl)) (fun _ _ _ h => h) (Or.inr ⟨by rfl, rfl⟩) ?_ ?_
          rotate_left
          ·simp only [Act.put, List.setIfInBounds_toArray, List.set_cons_zero, List.set_cons_succ, i64_w, i32_w]
           rfl
          refine pure_ (i := 5) (N := some 71) (v := undef) (a' := ?_) #[true, true, true, true, true, true, false, false, false, false] rfl rfl (any_of HT_.out (by kernel_rfl)) (fun _ _ _ h => h) (Or.inr ⟨by rfl, rfl⟩) ?_ ?_
          rotate_left
          ·simp only [Act.put, List.setIfInBounds_toArray, List.set_cons_zero, List.set_cons_succ, i64_w, i32_w]
           rfl
          refine pure_ (i := 6) (N := some 72) (v := undef) (a' := ?_) #[true, true, true, true, true, true, true, false, false, false] rfl rfl (any_of HT_.out (by kernel_rfl)) (fun _ _ _ h => h) (Or.inr ⟨by rfl, rfl⟩) ?_ ?_
          rotate_left
          ·simp only [Act.put, List.setIfInBounds_toArray, List.set_cons_zero, List.set_cons_succ, i64_w, i32_w]
           rfl
          refine pure_ (i := 7) (N := some 73) (v := undef) (a' := ?_) #[true, true, true, true, true, true, true, true, false, false] rfl rfl (any_of HT_.out (by kernel_rfl)) (fun _ _ _ h => h) (Or.inr ⟨by rfl, rfl⟩) ?_ ?_
          rotate_left
          ·simp only [Act.put, List.setIfInBounds_toArray, List.set_cons_zero, List.set_cons_succ, i64_w, i32_w]
           rfl
          refine pure_ (i := 8) (N := some 74) (v := undef) (a' := ?_) #[true, true, true, true, true, true, true, true, true, false] rfl rfl (any_of HT_.out (by kernel_rfl)) (fun _ _ _ h => h) (Or.inr ⟨by rfl, rfl⟩) ?_ ?_
          rotate_left
          ·simp only [Act.put, List.setIfInBounds_toArray, List.set_cons_zero, List.set_cons_succ, i64_w, i32_w]
           rfl
          refine pure_ (i := 9) (N := some 75) (v := ?_) (a' := ?_) #[true, true, true, true, true, true, true, true, true, true] rfl rfl (any_of HT_.out (by kernel_rfl)) (fun _ _ _ h => h) (Or.inl ⟨by rfl, ?_⟩) ?_ ?_
          rotate_left
          ·intro w'
           go_simp
           with_reducible rfl
          rotate_left
          ·simp only [Act.put, List.setIfInBounds_toArray, List.set_cons_zero, List.set_cons_succ, i64_w, i32_w]
           rfl
          refine done_ (done_of HT_.out (by kernel_rfl)) ?_
          try go_wp2
          go_meet
          case rel => exact ⟨_, (true), (by first | rfl | (simp; done) | (simp [*]; done)), H', ⟨by have := HJ15.out; first | omega | exact Nat.le_refl _⟩, ⟨by (with_reducible repeat (first | refine blk_drewN ?_ _ | refine blk_drew ?_ | refine blk_alloc ?_ _)); exact BK322.out⟩, ⟨by (with_reducible repeat (first | refine blk_drewN ?_ _ | refine blk_drew ?_ | refine blk_alloc ?_ _)); exact BK331.out⟩, ⟨by (with_reducible repeat (first | refine blk_drewN ?_ _ | refine blk_drew ?_ | refine blk_alloc ?_ _)); exact BK332.out⟩, ⟨by (with_reducible repeat (first | refine blk_drewN ?_ _ | refine blk_drew ?_ | refine blk_alloc ?_ _)); exact BK340.out⟩, ⟨by (with_reducible repeat (first | refine blk_drewN ?_ _ | refine blk_drew ?_ | refine blk_alloc ?_ _)); exact BK341.out⟩, ⟨by (with_reducible repeat (first | refine blk_drewN ?_ _ | refine blk_drew ?_ | refine blk_alloc ?_ _)); exact BK349.out⟩, ⟨by (with_reducible repeat (first | refine blk_drewN ?_ _ | refine blk_drew ?_ | refine blk_alloc ?_ _)); exact BK350.out⟩, ⟨by repeat (first | (with_reducible first | exact HB.out | apply below_alloc | apply pw_below_drewN | apply below_drew1 | refine below_set ?_ GE322.out | refine below_set ?_ GE331.out | refine below_set ?_ GE332.out | refine below_set ?_ GE340.out | refine below_set ?_ GE341.out | refine below_set ?_ GE349.out | refine below_set ?_ GE350.out) | exact HB.out)⟩⟩
        case rest =>
         clear HC70
         try clear c1
         try clear c2
         try clear p2
         try clear c3
         try clear p3
         try clear q3
         try clear hx3
         try clear qi3
         try clear c4
         try clear c5
         try clear c5b0
         try clear c5b1
         try clear c6
         try clear c7
         try clear c8
         try clear c8b0
         try clear c8b1
         try clear c9
         try clear c10
         try clear c10b0
         try clear c10b1
         try clear c12
         try clear c12b0
         try clear c12b1
         try clear c18
         try clear c19
         try clear c20
         try clear c22
         try clear c23
         try clear c25
         try clear c30
         try clear c31
         try clear c32
         try clear p32
         try clear q32
         try clear hx32
         try clear qi32
         try clear c33
         try clear p33
         try clear q33
         try clear hx33
         try clear qi33
         try clear p34
         try clear q34
         try clear hx34
         try clear qi34
         try clear c35
         try clear c36
         try clear c37
         try clear c42
         try clear c43
         try clear c44
         try clear c45
         try clear c46
         try clear c47
         try clear c49
         try clear c50
         try clear c51
         try clear c52
         try clear c53
         try clear c60
         try clear c60b0
         try clear c60b1
         try clear c62
         try clear c63
         try clear c64
         try clear c65
         try clear c66
         try clear c67
         try clear c71
         try clear c71b0
         try clear c71b1
         try clear hcz24_0
         try clear hcz24_1
         try clear hcz24_2
         try clear hcz26_0
         try clear hcz26_1
         try clear hcz26_2
         try clear hcz34_0
         try clear hcz34_1
         try clear hcz34_2
         try clear hcz38_0
         try clear hcz38_1
         try clear hcz38_2
         try clear hcz48_0
         try clear hcz48_1
         try clear hcz48_2
         try clear hcz54_0
         try clear hcz54_1
         try clear hcz54_2
         try clear hcz55_0
         try clear hcz55_1
         try clear hcz55_2
         try clear hcz56_0
         try clear hcz56_1
         try clear hcz56_2
         try clear hcz58_0
         try clear hcz58_1
         try clear hcz58_2
         try clear hcz68_0
         try clear hcz68_1
         try clear hcz68_2
         try clear hfz24_0
         try clear hfz24_1
         try clear hfz24_2
         try clear hfz26_0
         try clear hfz26_1
         try clear hfz26_2
         try clear hfz34_0
         try clear hfz34_1
         try clear hfz34_2
         try clear hfz38_0
         try clear hfz38_1
         try clear hfz38_2
         try clear hfz48_0
         try clear hfz48_1
         try clear hfz48_2
         try clear hfz54_0
         try clear hfz54_1
         try clear hfz54_2
         try clear hfz55_0
         try clear hfz55_1
         try clear hfz55_2
         try clear hfz56_0
         try clear hfz56_1
         try clear hfz56_2
         try clear hfz58_0
         try clear hfz58_1
         try clear hfz58_2
         try clear hfz68_0
         try clear hfz68_1
         try clear hfz68_2
         try clear hx324_0
         try clear hx324_1
         try clear hx324_2
         try clear hx333_0
         try clear hx333_1
         try clear hx333_2
         try clear hx342_0
         try clear hx342_1
         try clear hx342_2
         try clear p2
         try clear p3
         try clear p32
         try clear p324
         try clear p33
         try clear p333
         try clear p34
         try clear p342
         try clear q3
         try clear q32
         try clear q324
         try clear q33
         try clear q333
         try clear q34
         try clear q342
         obtain ⟨kq, x75_69, rfl, HA, HJ69, BK322, BK331, BK332, BK340, BK341, BK349, BK350, HB⟩ := hcut
         cases kq with
         | zero => exact absurd HA.out (by simp [concordancelaw19_TupleBounds.j1])
         | succ kj69 =>
          have H := HA.out
          clear HA
          simp only [concordancelaw19_TupleBounds.j1] at H
          by_cases c78 : x75_69 = true
          ·subst c78
           have H1 : (none) = some r := by rw [if_pos rfl] at H; exact H
           clear H
           have H := H1
           clear H1
           exact absurd H (by simp)
          ·replace c78 := Bool.eq_false_iff.mpr c78
           subst c78
           have H1 : ((tuple_Entry.f kj69 t343 t344 t345 (wrap64 (1 + (Go.bits .and .i64 a1_0 1023)))).bind fun bt360 => (if x15_15 = 0 then (concordancelaw19_TupleBounds.j2 kj69 t351 t352 bt360.1 (bt360.2 != 0) a1_0 a1_1 t328 t329 t330 t337 t338 t339 t343 t344 t345 t346 t347 t348) else (concordancelaw19_TupleBounds.j2 kj69 t351 t352 bt360.1 true a1_0 a1_1 t328 t329 t330 t337 t338 t339 t343 t344 t345 t346 t347 t348))) = some r := by rw [if_neg (show ¬ (false = true) by decide)] at H; exact H
           clear H
           have H := H1
           clear H1
           replace H := Option.bind_eq_some_iff.mp H
           obtain ⟨⟨t360, t361⟩, A790, H⟩ := H
           replace H : (if x15_15 = 0 then (concordancelaw19_TupleBounds.j2 kj69 t351 t352 t360 (t361 != 0) a1_0 a1_1 t328 t329 t330 t337 t338 t339 t343 t344 t345 t346 t347 t348) else (concordancelaw19_TupleBounds.j2 kj69 t351 t352 t360 true a1_0 a1_1 t328 t329 t330 t337 t338 t339 t343 t344 t345 t346 t347 t348)) = some r := H
           have A79 := Aside0.mk A790
           clear A790
           have HC80 := Aside0.mk H
           clear H
           have hnb81 := NB349_322.out
           have hnc81 := NB322_349.out
           have hnb82 := NB349_331.out
           have hnc82 := NB331_349.out
           have hnb83 := NB349_332.out
           have hnc83 := NB332_349.out
           have hnb84 := NB349_340.out
           have hnc84 := NB340_349.out
           have hnb85 := NB349_341.out
           have hnc85 := NB341_349.out
           have hnb86 := NB349_350.out
           have hnc86 := NB350_349.out
           have hcz87_0 : wc.cell? ⟨gb349, 0, none⟩ = some (.string t343) := (blk_cell BK349.out 0).trans rfl
           have hcz87_1 : wc.cell? ⟨gb349, 1, none⟩ = some (.int .i64 t344) := (blk_cell BK349.out 1).trans rfl
           have hcz87_2 : wc.cell? ⟨gb349, 2, none⟩ = some (.bool t345) := (blk_cell BK349.out 2).trans rfl
           have hfz87_0 := blk_frozen BK349.out 0
           have hfz87_1 := blk_frozen BK349.out 1
           have hfz87_2 := blk_frozen BK349.out 2
           have hnb88 := NB322_331.out
           have hnc88 := NB331_322.out
           have hnb89 := NB322_332.out
           have hnc89 := NB332_322.out
           have hnb90 := NB322_340.out
           have hnc90 := NB340_322.out
           have hnb91 := NB322_341.out
           have hnc91 := NB341_322.out
           have hnb92 := NB322_350.out
           have hnc92 := NB350_322.out
           have hcz93_0 : wc.cell? ⟨gb322, 0, none⟩ = some (.int .i64 a1_0) := (blk_cell BK322.out 0).trans rfl
           have hcz93_1 : wc.cell? ⟨gb322, 1, none⟩ = some (.int .i64 a1_1) := (blk_cell BK322.out 1).trans rfl
           have hfz93_0 := blk_frozen BK322.out 0
           have hfz93_1 := blk_frozen BK322.out 1
           go_upto_region 15 with (first | ((with_reducible refine gate_callee (f := 12) rfl ?_); refine goesL_ (some 82) rfl rfl Tryd.func12 (by kernel_rfl) rfl #[.agg #[.string t343, .int .i64 t344, .bool t345], .int .i64 (wrap64 (1 + (Go.bits .and .i64 a1_0 1023)))] rfl (by (try simp only [List.map_toArray, List.map_cons, List.map_nil]); first | done | rfl | (simp only [List.length_drop, List.length_take]; rfl)) ?_; (with_reducible refine (tuple_Entry.calls kj69 t343 t344 t345 (wrap64 (1 + (Go.bits .and .i64 a1_0 1023))) t360 t361 _ A79.out).mono ?_); rintro e w94 ⟨rfl, hb⟩; refine ⟨_, rfl, ?_⟩; have n0_ := Aside0.mk (blk_below (g := gb322) (o := .cells #[.int .i64 a1_0, .int .i64 a1_1] 50 (0, 0)) (by (with_reducible repeat (first | refine blk_drewN ?_ _ | refine blk_drew ?_ | refine blk_alloc ?_ _)); exact BK322.out) hb); have n1_ := Aside0.mk (blk_below (g := gb331) (o := .cells #[.string t325, .int .i64 t326, .bool t327] 25 (0, 0)) (by (with_reducible repeat (first | refine blk_drewN ?_ _ | refine blk_drew ?_ | refine blk_alloc ?_ _)); exact BK331.out) hb); have n2_ := Aside0.mk (blk_below (g := gb332) (o := .cells #[.string t328, .int .i64 t329, .bool t330] 26 (0, 0)) (by (with_reducible repeat (first | refine blk_drewN ?_ _ | refine blk_drew ?_ | refine blk_alloc ?_ _)); exact BK332.out) hb); have n3_ := Aside0.mk (blk_below (g := gb340) (o := .cells #[.string t334, .int .i64 t335, .bool t336] 25 (0, 0)) (by (with_reducible repeat (first | refine blk_drewN ?_ _ | refine blk_drew ?_ | refine blk_alloc ?_ _)); exact BK340.out) hb); have n4_ := Aside0.mk (blk_below (g := gb341) (o := .cells #[.string t337, .int .i64 t338, .bool t339] 26 (0, 0)) (by (with_reducible repeat (first | refine blk_drewN ?_ _ | refine blk_drew ?_ | refine blk_alloc ?_ _)); exact BK341.out) hb); have n5_ := Aside0.mk (blk_below (g := gb349) (o := .cells #[.string t343, .int .i64 t344, .bool t345] 25 (0, 0)) (by (with_reducible repeat (first | refine blk_drewN ?_ _ | refine blk_drew ?_ | refine blk_alloc ?_ _)); exact BK349.out) hb); have n6_ := Aside0.mk (blk_below (g := gb350) (o := .cells #[.string t346, .int .i64 t347, .bool t348] 26 (0, 0)) (by (with_reducible repeat (first | refine blk_drewN ?_ _ | refine blk_drew ?_ | refine blk_alloc ?_ _)); exact BK350.out) hb); have n7_ := Aside0.mk (below_step (by repeat (first | (with_reducible first | exact HB.out | apply below_alloc | apply pw_below_drewN | apply below_drew1 | refine below_set ?_ GE322.out | refine below_set ?_ GE331.out | refine below_set ?_ GE332.out | refine below_set ?_ GE340.out | refine below_set ?_ GE341.out | refine below_set ?_ GE349.out | refine below_set ?_ GE350.out) | exact HB.out)) hb); clear BK322; clear BK331; clear BK332; clear BK340; clear BK341; clear BK349; clear BK350; clear HB; have BK322 := n0_; have BK331 := n1_; have BK332 := n2_; have BK340 := n3_; have BK341 := n4_; have BK349 := n5_; have BK350 := n6_; have HB := n7_; clear n0_ n1_ n2_ n3_ n4_ n5_ n6_ n7_; (try clear hb); (try clear hb2); (try clear hk); (try clear hi)))
           (try simp only [Act.put, List.setIfInBounds_toArray, List.set_cons_zero, List.set_cons_succ])
           go_cut [90] (fun v90 wc => ∃ (kq : Nat) (x90_79 : Bool), v90 = .bool x90_79 ∧ Aside0 (concordancelaw19_TupleBounds.j2 kq t351 t352 t360 x90_79 a1_0 a1_1 t328 t329 t330 t337 t338 t339 t343 t344 t345 t346 t347 t348 = some r) ∧ Aside0 (kq ≤ kj69) ∧ Aside0 (wc.heap[gb322]? = some (.cells #[.int .i64 a1_0, .int .i64 a1_1] 50 (0, 0))) ∧ Aside0 (wc.heap[gb331]? = some (.cells #[.string t325, .int .i64 t326, .bool t327] 25 (0, 0))) ∧ Aside0 (wc.heap[gb332]? = some (.cells #[.string t328, .int .i64 t329, .bool t330] 26 (0, 0))) ∧ Aside0 (wc.heap[gb340]? = some (.cells #[.string t334, .int .i64 t335, .bool t336] 25 (0, 0))) ∧ Aside0 (wc.heap[gb341]? = some (.cells #[.string t337, .int .i64 t338, .bool t339] 26 (0, 0))) ∧ Aside0 (wc.heap[gb349]? = some (.cells #[.string t343, .int .i64 t344, .bool t345] 25 (0, 0))) ∧ Aside0 (wc.heap[gb350]? = some (.cells #[.string t346, .int .i64 t347, .bool t348] 26 (0, 0))) ∧ Aside0 (Below w.heap.size w wc))
           case first =>
            have H := HC80.out
            clear HC80
            by_cases c95 : x15_15 = 0
            ·rw [if_pos c95] at H
             have c95b0 : (x15_15 == 0) = true := beq_iff_eq.mpr c95
             have c95b1 : (x15_15 != 0) = false := bne_eq_false_iff_eq.mpr c95
             clear c95
             (first | rw [c95b0] | (simp only [i64_w, i32_w]; rw [c95b0]) | skip)
             have H' := Aside0.mk H
             clear H
             go_wp2
             go_meet
             case rel => exact ⟨_, ((t361 != 0)), (by first | rfl | (simp; done) | (simp [*]; done)), H', ⟨by have := HJ15.out; have := HJ69.out; first | omega | exact Nat.le_refl _⟩, ⟨by (with_reducible repeat (first | refine blk_drewN ?_ _ | refine blk_drew ?_ | refine blk_alloc ?_ _)); exact BK322.out⟩, ⟨by (with_reducible repeat (first | refine blk_drewN ?_ _ | refine blk_drew ?_ | refine blk_alloc ?_ _)); exact BK331.out⟩, ⟨by (with_reducible repeat (first | refine blk_drewN ?_ _ | refine blk_drew ?_ | refine blk_alloc ?_ _)); exact BK332.out⟩, ⟨by (with_reducible repeat (first | refine blk_drewN ?_ _ | refine blk_drew ?_ | refine blk_alloc ?_ _)); exact BK340.out⟩, ⟨by (with_reducible repeat (first | refine blk_drewN ?_ _ | refine blk_drew ?_ | refine blk_alloc ?_ _)); exact BK341.out⟩, ⟨by (with_reducible repeat (first | refine blk_drewN ?_ _ | refine blk_drew ?_ | refine blk_alloc ?_ _)); exact BK349.out⟩, ⟨by (with_reducible repeat (first | refine blk_drewN ?_ _ | refine blk_drew ?_ | refine blk_alloc ?_ _)); exact BK350.out⟩, ⟨by repeat (first | (with_reducible first | exact HB.out | apply below_alloc | apply pw_below_drewN | apply below_drew1 | refine below_set ?_ GE322.out | refine below_set ?_ GE331.out | refine below_set ?_ GE332.out | refine below_set ?_ GE340.out | refine below_set ?_ GE341.out | refine below_set ?_ GE349.out | refine below_set ?_ GE350.out) | exact HB.out)⟩⟩
            ·rw [if_neg c95] at H
             have c95b0 : (x15_15 == 0) = false := beq_eq_false_iff_ne.mpr c95
             have c95b1 : (x15_15 != 0) = true := bne_iff_ne.mpr c95
             (first | rw [c95b0] | (simp only [i64_w, i32_w]; rw [c95b0]) | skip)
             have H' := Aside0.mk H
             clear H
             go_wp2
             go_meet
             case rel => exact ⟨_, (true), (by first | rfl | (simp; done) | (simp [*]; done)), H', ⟨by have := HJ15.out; have := HJ69.out; first | omega | exact Nat.le_refl _⟩, ⟨by (with_reducible repeat (first | refine blk_drewN ?_ _ | refine blk_drew ?_ | refine blk_alloc ?_ _)); exact BK322.out⟩, ⟨by (with_reducible repeat (first | refine blk_drewN ?_ _ | refine blk_drew ?_ | refine blk_alloc ?_ _)); exact BK331.out⟩, ⟨by (with_reducible repeat (first | refine blk_drewN ?_ _ | refine blk_drew ?_ | refine blk_alloc ?_ _)); exact BK332.out⟩, ⟨by (with_reducible repeat (first | refine blk_drewN ?_ _ | refine blk_drew ?_ | refine blk_alloc ?_ _)); exact BK340.out⟩, ⟨by (with_reducible repeat (first | refine blk_drewN ?_ _ | refine blk_drew ?_ | refine blk_alloc ?_ _)); exact BK341.out⟩, ⟨by (with_reducible repeat (first | refine blk_drewN ?_ _ | refine blk_drew ?_ | refine blk_alloc ?_ _)); exact BK349.out⟩, ⟨by (with_reducible repeat (first | refine blk_drewN ?_ _ | refine blk_drew ?_ | refine blk_alloc ?_ _)); exact BK350.out⟩, ⟨by repeat (first | (with_reducible first | exact HB.out | apply below_alloc | apply pw_below_drewN | apply below_drew1 | refine below_set ?_ GE322.out | refine below_set ?_ GE331.out | refine below_set ?_ GE332.out | refine below_set ?_ GE340.out | refine below_set ?_ GE341.out | refine below_set ?_ GE349.out | refine below_set ?_ GE350.out) | exact HB.out)⟩⟩
           case rest =>
            clear HC80
            try clear c1
            try clear c2
            try clear p2
            try clear c3
            try clear p3
            try clear q3
            try clear hx3
            try clear qi3
            try clear c4
            try clear c5
            try clear c5b0
            try clear c5b1
            try clear c6
            try clear p6
            try clear c7
            try clear c8
            try clear c8b0
            try clear c8b1
            try clear c9
            try clear c10
            try clear c10b0
            try clear c10b1
            try clear c12
            try clear c12b0
            try clear c12b1
            try clear c18
            try clear c19
            try clear c20
            try clear c22
            try clear c23
            try clear c25
            try clear c30
            try clear c31
            try clear c32
            try clear p32
            try clear q32
            try clear hx32
            try clear qi32
            try clear c33
            try clear p33
            try clear q33
            try clear hx33
            try clear qi33
            try clear p34
            try clear q34
            try clear hx34
            try clear qi34
            try clear c35
            try clear c36
            try clear c37
            try clear c42
            try clear c43
            try clear c44
            try clear c45
            try clear c46
            try clear c47
            try clear c49
            try clear c50
            try clear c51
            try clear c52
            try clear c53
            try clear c60
            try clear c60b0
            try clear c60b1
            try clear c62
            try clear c63
            try clear c64
            try clear p64
            try clear c65
            try clear c66
            try clear c67
            try clear c71
            try clear c71b0
            try clear c71b1
            try clear c78
            try clear c81
            try clear c82
            try clear c83
            try clear c84
            try clear c85
            try clear c86
            try clear c88
            try clear c89
            try clear c90
            try clear c91
            try clear c92
            try clear c95
            try clear c95b0
            try clear c95b1
            try clear hcz24_0
            try clear hcz24_1
            try clear hcz24_2
            try clear hcz26_0
            try clear hcz26_1
            try clear hcz26_2
            try clear hcz34_0
            try clear hcz34_1
            try clear hcz34_2
            try clear hcz38_0
            try clear hcz38_1
            try clear hcz38_2
            try clear hcz48_0
            try clear hcz48_1
            try clear hcz48_2
            try clear hcz54_0
            try clear hcz54_1
            try clear hcz54_2
            try clear hcz55_0
            try clear hcz55_1
            try clear hcz55_2
            try clear hcz56_0
            try clear hcz56_1
            try clear hcz56_2
            try clear hcz58_0
            try clear hcz58_1
            try clear hcz58_2
            try clear hcz68_0
            try clear hcz68_1
            try clear hcz68_2
            try clear hcz87_0
            try clear hcz87_1
            try clear hcz87_2
            try clear hcz93_0
            try clear hcz93_1
            try clear hfz24_0
            try clear hfz24_1
            try clear hfz24_2
            try clear hfz26_0
            try clear hfz26_1
            try clear hfz26_2
            try clear hfz34_0
            try clear hfz34_1
            try clear hfz34_2
            try clear hfz38_0
            try clear hfz38_1
            try clear hfz38_2
            try clear hfz48_0
            try clear hfz48_1
            try clear hfz48_2
            try clear hfz54_0
            try clear hfz54_1
            try clear hfz54_2
            try clear hfz55_0
            try clear hfz55_1
            try clear hfz55_2
            try clear hfz56_0
            try clear hfz56_1
            try clear hfz56_2
            try clear hfz58_0
            try clear hfz58_1
            try clear hfz58_2
            try clear hfz68_0
            try clear hfz68_1
            try clear hfz68_2
            try clear hfz87_0
            try clear hfz87_1
            try clear hfz87_2
            try clear hfz93_0
            try clear hfz93_1
            try clear hx324_0
            try clear hx324_1
            try clear hx324_2
            try clear hx333_0
            try clear hx333_1
            try clear hx333_2
            try clear hx342_0
            try clear hx342_1
            try clear hx342_2
            try clear p2
            try clear p3
            try clear p32
            try clear p324
            try clear p33
            try clear p333
            try clear p34
            try clear p342
            try clear q3
            try clear q32
            try clear q324
            try clear q33
            try clear q333
            try clear q34
            try clear q342
            obtain ⟨kq, x90_79, rfl, HA, HJ79, BK322, BK331, BK332, BK340, BK341, BK349, BK350, HB⟩ := hcut
            cases kq with
            | zero => exact absurd HA.out (by simp [concordancelaw19_TupleBounds.j2])
            | succ kj79 =>
             have H := HA.out
             clear HA
             simp only [concordancelaw19_TupleBounds.j2] at H
             by_cases c96 : x90_79 = true
             ·subst c96
              have H1 : (some true) = some r := by rw [if_pos rfl] at H; exact H
              clear H
              have H := H1
              clear H1
              obtain rfl := Option.some.inj H
              go_wp2
              go_ret
              exact ⟨by first | rfl | (simp [errW_none, errW_some] <;> rfl) | (simp [*, errW_none, errW_some] <;> rfl), by repeat (first | (with_reducible first | exact HB.out | apply below_alloc | apply pw_below_drewN | apply below_drew1 | refine below_set ?_ GE322.out | refine below_set ?_ GE331.out | refine below_set ?_ GE332.out | refine below_set ?_ GE340.out | refine below_set ?_ GE341.out | refine below_set ?_ GE349.out | refine below_set ?_ GE350.out) | exact HB.out)⟩
             ·replace c96 := Bool.eq_false_iff.mpr c96
              subst c96
              have H1 : ((concordanceref01_Compare.f kj79 t346 t347 t348 t328 t329 t330).bind fun t362 => (if t362 ≥ 0 then ((concordanceref01_Compare.f kj79 t346 t347 t348 t337 t338 t339).bind fun t363 => (if ((Op.bytesLess t360.toList t351.toList) = true) then (if (false != (decide (t363 ≤ 0))) = true then (none) else ((tuple_Entry.f kj79 t343 t344 t345 (wrap64 (1 + (Go.bits .and .i64 a1_1 1023)))).bind fun bt364 => (some ((Op.bytesLess t360.toList bt364.1.toList) == (decide ((Go.bits .and .i64 a1_0 1023) < (Go.bits .and .i64 a1_1 1023))))))) else (if ((Op.bytesLess t360.toList t352.toList) != (decide (t363 ≤ 0))) = true then (none) else ((tuple_Entry.f kj79 t343 t344 t345 (wrap64 (1 + (Go.bits .and .i64 a1_1 1023)))).bind fun bt366 => (some ((Op.bytesLess t360.toList bt366.1.toList) == (decide ((Go.bits .and .i64 a1_0 1023) < (Go.bits .and .i64 a1_1 1023))))))))) else (if ((Op.bytesLess t360.toList t351.toList) = true) then (if (false != false) = true then (none) else ((tuple_Entry.f kj79 t343 t344 t345 (wrap64 (1 + (Go.bits .and .i64 a1_1 1023)))).bind fun bt368 => (some ((Op.bytesLess t360.toList bt368.1.toList) == (decide ((Go.bits .and .i64 a1_0 1023) < (Go.bits .and .i64 a1_1 1023))))))) else (if ((Op.bytesLess t360.toList t352.toList) != false) = true then (none) else ((tuple_Entry.f kj79 t343 t344 t345 (wrap64 (1 + (Go.bits .and .i64 a1_1 1023)))).bind fun bt370 => (some ((Op.bytesLess t360.toList bt370.1.toList) == (decide ((Go.bits .and .i64 a1_0 1023) < (Go.bits .and .i64 a1_1 1023)))))))))) = some r := by rw [if_neg (show ¬ (false = true) by decide)] at H; exact H
              clear H
              have H := H1
              clear H1
              replace H := Option.bind_eq_some_iff.mp H
              obtain ⟨t362, A970, H⟩ := H
              replace H : (if t362 ≥ 0 then ((concordanceref01_Compare.f kj79 t346 t347 t348 t337 t338 t339).bind fun t363 => (if ((Op.bytesLess t360.toList t351.toList) = true) then (if (false != (decide (t363 ≤ 0))) = true then (none) else ((tuple_Entry.f kj79 t343 t344 t345 (wrap64 (1 + (Go.bits .and .i64 a1_1 1023)))).bind fun bt364 => (some ((Op.bytesLess t360.toList bt364.1.toList) == (decide ((Go.bits .and .i64 a1_0 1023) < (Go.bits .and .i64 a1_1 1023))))))) else (if ((Op.bytesLess t360.toList t352.toList) != (decide (t363 ≤ 0))) = true then (none) else ((tuple_Entry.f kj79 t343 t344 t345 (wrap64 (1 + (Go.bits .and .i64 a1_1 1023)))).bind fun bt366 => (some ((Op.bytesLess t360.toList bt366.1.toList) == (decide ((Go.bits .and .i64 a1_0 1023) < (Go.bits .and .i64 a1_1 1023))))))))) else (if ((Op.bytesLess t360.toList t351.toList) = true) then (if (false != false) = true then (none) else ((tuple_Entry.f kj79 t343 t344 t345 (wrap64 (1 + (Go.bits .and .i64 a1_1 1023)))).bind fun bt368 => (some ((Op.bytesLess t360.toList bt368.1.toList) == (decide ((Go.bits .and .i64 a1_0 1023) < (Go.bits .and .i64 a1_1 1023))))))) else (if ((Op.bytesLess t360.toList t352.toList) != false) = true then (none) else ((tuple_Entry.f kj79 t343 t344 t345 (wrap64 (1 + (Go.bits .and .i64 a1_1 1023)))).bind fun bt370 => (some ((Op.bytesLess t360.toList bt370.1.toList) == (decide ((Go.bits .and .i64 a1_0 1023) < (Go.bits .and .i64 a1_1 1023))))))))) = some r := H
              have A97 := Aside0.mk A970
              clear A970
              by_cases c98 : t362 ≥ 0
              ·rw [if_pos c98] at H
               have c98b0 : decide (0 ≤ t362) = true := decide_eq_true c98
               clear c98
               replace H := Option.bind_eq_some_iff.mp H
               obtain ⟨t363, A990, H⟩ := H
               replace H : (if ((Op.bytesLess t360.toList t351.toList) = true) then (if (false != (decide (t363 ≤ 0))) = true then (none) else ((tuple_Entry.f kj79 t343 t344 t345 (wrap64 (1 + (Go.bits .and .i64 a1_1 1023)))).bind fun bt364 => (some ((Op.bytesLess t360.toList bt364.1.toList) == (decide ((Go.bits .and .i64 a1_0 1023) < (Go.bits .and .i64 a1_1 1023))))))) else (if ((Op.bytesLess t360.toList t352.toList) != (decide (t363 ≤ 0))) = true then (none) else ((tuple_Entry.f kj79 t343 t344 t345 (wrap64 (1 + (Go.bits .and .i64 a1_1 1023)))).bind fun bt366 => (some ((Op.bytesLess t360.toList bt366.1.toList) == (decide ((Go.bits .and .i64 a1_0 1023) < (Go.bits .and .i64 a1_1 1023)))))))) = some r := H
               have A99 := Aside0.mk A990
               clear A990
               by_cases c100 : ((Op.bytesLess t360.toList t351.toList) = true)
               ·rw [if_pos c100] at H
                have c100b0 : (Op.bytesLess t360.toList t351.toList) = true := c100
                have c100b3 : (!(Op.bytesLess t360.toList t351.toList)) = false := by rw [c100b0]; rfl
                clear c100
                by_cases c101 : (false != (decide (t363 ≤ 0))) = true
                ·rw [if_pos c101] at H
                 exact absurd H (by simp)
                ·rw [if_neg c101] at H
                 have c101b0 : (false != (decide (t363 ≤ 0))) = false := by simpa using c101
                 (try (have c101b1 : decide (false = (decide (t363 ≤ 0))) = true := by simpa using c101))
                 (try (have c101b2 : (false == (decide (t363 ≤ 0))) = true := by simpa using c101))
                 clear c101
                 replace H := Option.bind_eq_some_iff.mp H
                 obtain ⟨⟨t364, t365⟩, A1020, H⟩ := H
                 replace H : (some ((Op.bytesLess t360.toList t364.toList) == (decide ((Go.bits .and .i64 a1_0 1023) < (Go.bits .and .i64 a1_1 1023))))) = some r := H
                 have A102 := Aside0.mk A1020
                 clear A1020
                 obtain rfl := Option.some.inj H
                 have hnb103 := NB350_322.out
                 have hnc103 := NB322_350.out
                 have hnb104 := NB350_331.out
                 have hnc104 := NB331_350.out
                 have hnb105 := NB350_332.out
                 have hnc105 := NB332_350.out
                 have hnb106 := NB350_340.out
                 have hnc106 := NB340_350.out
                 have hnb107 := NB350_341.out
                 have hnc107 := NB341_350.out
                 have hnb108 := NB350_349.out
                 have hnc108 := NB349_350.out
                 have hcz109_0 : wc.cell? ⟨gb350, 0, none⟩ = some (.string t346) := (blk_cell BK350.out 0).trans rfl
                 have hcz109_1 : wc.cell? ⟨gb350, 1, none⟩ = some (.int .i64 t347) := (blk_cell BK350.out 1).trans rfl
                 have hcz109_2 : wc.cell? ⟨gb350, 2, none⟩ = some (.bool t348) := (blk_cell BK350.out 2).trans rfl
                 have hfz109_0 := blk_frozen BK350.out 0
                 have hfz109_1 := blk_frozen BK350.out 1
                 have hfz109_2 := blk_frozen BK350.out 2
                 have hnb110 := NB332_322.out
                 have hnc110 := NB322_332.out
                 have hnb111 := NB332_331.out
                 have hnc111 := NB331_332.out
                 have hnb112 := NB332_340.out
                 have hnc112 := NB340_332.out
                 have hnb113 := NB332_341.out
                 have hnc113 := NB341_332.out
                 have hnb114 := NB332_349.out
                 have hnc114 := NB349_332.out
                 have hcz115_0 : wc.cell? ⟨gb332, 0, none⟩ = some (.string t328) := (blk_cell BK332.out 0).trans rfl
                 have hcz115_1 : wc.cell? ⟨gb332, 1, none⟩ = some (.int .i64 t329) := (blk_cell BK332.out 1).trans rfl
                 have hcz115_2 : wc.cell? ⟨gb332, 2, none⟩ = some (.bool t330) := (blk_cell BK332.out 2).trans rfl
                 have hfz115_0 := blk_frozen BK332.out 0
                 have hfz115_1 := blk_frozen BK332.out 1
                 have hfz115_2 := blk_frozen BK332.out 2
                 go_wp2_with (first | ((with_reducible refine gate_callee (f := 21) rfl ?_); refine goesL_ (some 93) rfl rfl Tryd.func21 (by kernel_rfl) rfl #[.agg #[.string t346, .int .i64 t347, .bool t348], .agg #[.string t328, .int .i64 t329, .bool t330]] rfl (by (try simp only [List.map_toArray, List.map_cons, List.map_nil]); first | done | rfl | (simp only [List.length_drop, List.length_take]; rfl)) ?_; (with_reducible refine (concordanceref01_Compare.calls kj79 t346 t347 t348 t328 t329 t330 t362 _ A97.out).mono ?_); rintro e w116 ⟨rfl, hb⟩; refine ⟨_, rfl, ?_⟩; have n0_ := Aside0.mk (blk_below (g := gb322) (o := .cells #[.int .i64 a1_0, .int .i64 a1_1] 50 (0, 0)) (by (with_reducible repeat (first | refine blk_drewN ?_ _ | refine blk_drew ?_ | refine blk_alloc ?_ _)); exact BK322.out) hb); have n1_ := Aside0.mk (blk_below (g := gb331) (o := .cells #[.string t325, .int .i64 t326, .bool t327] 25 (0, 0)) (by (with_reducible repeat (first | refine blk_drewN ?_ _ | refine blk_drew ?_ | refine blk_alloc ?_ _)); exact BK331.out) hb); have n2_ := Aside0.mk (blk_below (g := gb332) (o := .cells #[.string t328, .int .i64 t329, .bool t330] 26 (0, 0)) (by (with_reducible repeat (first | refine blk_drewN ?_ _ | refine blk_drew ?_ | refine blk_alloc ?_ _)); exact BK332.out) hb); have n3_ := Aside0.mk (blk_below (g := gb340) (o := .cells #[.string t334, .int .i64 t335, .bool t336] 25 (0, 0)) (by (with_reducible repeat (first | refine blk_drewN ?_ _ | refine blk_drew ?_ | refine blk_alloc ?_ _)); exact BK340.out) hb); have n4_ := Aside0.mk (blk_below (g := gb341) (o := .cells #[.string t337, .int .i64 t338, .bool t339] 26 (0, 0)) (by (with_reducible repeat (first | refine blk_drewN ?_ _ | refine blk_drew ?_ | refine blk_alloc ?_ _)); exact BK341.out) hb); have n5_ := Aside0.mk (blk_below (g := gb349) (o := .cells #[.string t343, .int .i64 t344, .bool t345] 25 (0, 0)) (by (with_reducible repeat (first | refine blk_drewN ?_ _ | refine blk_drew ?_ | refine blk_alloc ?_ _)); exact BK349.out) hb); have n6_ := Aside0.mk (blk_below (g := gb350) (o := .cells #[.string t346, .int .i64 t347, .bool t348] 26 (0, 0)) (by (with_reducible repeat (first | refine blk_drewN ?_ _ | refine blk_drew ?_ | refine blk_alloc ?_ _)); exact BK350.out) hb); have n7_ := Aside0.mk (below_step (by repeat (first | (with_reducible first | exact HB.out | apply below_alloc | apply pw_below_drewN | apply below_drew1 | refine below_set ?_ GE322.out | refine below_set ?_ GE331.out | refine below_set ?_ GE332.out | refine below_set ?_ GE340.out | refine below_set ?_ GE341.out | refine below_set ?_ GE349.out | refine below_set ?_ GE350.out) | exact HB.out)) hb); clear BK322; clear BK331; clear BK332; clear BK340; clear BK341; clear BK349; clear BK350; clear HB; have BK322 := n0_; have BK331 := n1_; have BK332 := n2_; have BK340 := n3_; have BK341 := n4_; have BK349 := n5_; have BK350 := n6_; have HB := n7_; clear n0_ n1_ n2_ n3_ n4_ n5_ n6_ n7_; (try clear hb); (try clear hb2); (try clear hk); (try clear hi); have hcz117_0 : w116.cell? ⟨gb350, 0, none⟩ = some (.string t346) := (blk_cell BK350.out 0).trans rfl; have hcz117_1 : w116.cell? ⟨gb350, 1, none⟩ = some (.int .i64 t347) := (blk_cell BK350.out 1).trans rfl; have hcz117_2 : w116.cell? ⟨gb350, 2, none⟩ = some (.bool t348) := (blk_cell BK350.out 2).trans rfl; have hfz117_0 := blk_frozen BK350.out 0; have hfz117_1 := blk_frozen BK350.out 1; have hfz117_2 := blk_frozen BK350.out 2; have hnb118 := NB341_322.out; have hnc118 := NB322_341.out; have hnb119 := NB341_331.out; have hnc119 := NB331_341.out; have hnb120 := NB341_340.out; have hnc120 := NB340_341.out; have hnb121 := NB341_349.out; have hnc121 := NB349_341.out; have hcz122_0 : w116.cell? ⟨gb341, 0, none⟩ = some (.string t337) := (blk_cell BK341.out 0).trans rfl; have hcz122_1 : w116.cell? ⟨gb341, 1, none⟩ = some (.int .i64 t338) := (blk_cell BK341.out 1).trans rfl; have hcz122_2 : w116.cell? ⟨gb341, 2, none⟩ = some (.bool t339) := (blk_cell BK341.out 2).trans rfl; have hfz122_0 := blk_frozen BK341.out 0; have hfz122_1 := blk_frozen BK341.out 1; have hfz122_2 := blk_frozen BK341.out 2) | (go_at_call 21; (with_reducible refine (concordanceref01_Compare.calls kj79 t346 t347 t348 t337 t338 t339 t363 _ A99.out).mono ?_); rintro e w123 ⟨rfl, hb⟩; have n0_ := Aside0.mk (blk_below (g := gb322) (o := .cells #[.int .i64 a1_0, .int .i64 a1_1] 50 (0, 0)) (by (with_reducible repeat (first | refine blk_drewN ?_ _ | refine blk_drew ?_ | refine blk_alloc ?_ _)); exact BK322.out) hb); have n1_ := Aside0.mk (blk_below (g := gb331) (o := .cells #[.string t325, .int .i64 t326, .bool t327] 25 (0, 0)) (by (with_reducible repeat (first | refine blk_drewN ?_ _ | refine blk_drew ?_ | refine blk_alloc ?_ _)); exact BK331.out) hb); have n2_ := Aside0.mk (blk_below (g := gb332) (o := .cells #[.string t328, .int .i64 t329, .bool t330] 26 (0, 0)) (by (with_reducible repeat (first | refine blk_drewN ?_ _ | refine blk_drew ?_ | refine blk_alloc ?_ _)); exact BK332.out) hb); have n3_ := Aside0.mk (blk_below (g := gb340) (o := .cells #[.string t334, .int .i64 t335, .bool t336] 25 (0, 0)) (by (with_reducible repeat (first | refine blk_drewN ?_ _ | refine blk_drew ?_ | refine blk_alloc ?_ _)); exact BK340.out) hb); have n4_ := Aside0.mk (blk_below (g := gb341) (o := .cells #[.string t337, .int .i64 t338, .bool t339] 26 (0, 0)) (by (with_reducible repeat (first | refine blk_drewN ?_ _ | refine blk_drew ?_ | refine blk_alloc ?_ _)); exact BK341.out) hb); have n5_ := Aside0.mk (blk_below (g := gb349) (o := .cells #[.string t343, .int .i64 t344, .bool t345] 25 (0, 0)) (by (with_reducible repeat (first | refine blk_drewN ?_ _ | refine blk_drew ?_ | refine blk_alloc ?_ _)); exact BK349.out) hb); have n6_ := Aside0.mk (blk_below (g := gb350) (o := .cells #[.string t346, .int .i64 t347, .bool t348] 26 (0, 0)) (by (with_reducible repeat (first | refine blk_drewN ?_ _ | refine blk_drew ?_ | refine blk_alloc ?_ _)); exact BK350.out) hb); have n7_ := Aside0.mk (below_step (by repeat (first | (with_reducible first | exact HB.out | apply below_alloc | apply pw_below_drewN | apply below_drew1 | refine below_set ?_ GE322.out | refine below_set ?_ GE331.out | refine below_set ?_ GE332.out | refine below_set ?_ GE340.out | refine below_set ?_ GE341.out | refine below_set ?_ GE349.out | refine below_set ?_ GE350.out) | exact HB.out)) hb); clear BK322; clear BK331; clear BK332; clear BK340; clear BK341; clear BK349; clear BK350; clear HB; have BK322 := n0_; have BK331 := n1_; have BK332 := n2_; have BK340 := n3_; have BK341 := n4_; have BK349 := n5_; have BK350 := n6_; have HB := n7_; clear n0_ n1_ n2_ n3_ n4_ n5_ n6_ n7_; (try clear hb); (try clear hb2); (try clear hk); (try clear hi); have hnb124 := NB349_322.out; have hnc124 := NB322_349.out; have hnb125 := NB349_331.out; have hnc125 := NB331_349.out; have hnb126 := NB349_340.out; have hnc126 := NB340_349.out; have hcz127_0 : w123.cell? ⟨gb349, 0, none⟩ = some (.string t343) := (blk_cell BK349.out 0).trans rfl; have hcz127_1 : w123.cell? ⟨gb349, 1, none⟩ = some (.int .i64 t344) := (blk_cell BK349.out 1).trans rfl; have hcz127_2 : w123.cell? ⟨gb349, 2, none⟩ = some (.bool t345) := (blk_cell BK349.out 2).trans rfl; have hfz127_0 := blk_frozen BK349.out 0; have hfz127_1 := blk_frozen BK349.out 1; have hfz127_2 := blk_frozen BK349.out 2; have hnb128 := NB322_331.out; have hnc128 := NB331_322.out; have hnb129 := NB322_340.out; have hnc129 := NB340_322.out; have hcz130_0 : w123.cell? ⟨gb322, 0, none⟩ = some (.int .i64 a1_0) := (blk_cell BK322.out 0).trans rfl; have hcz130_1 : w123.cell? ⟨gb322, 1, none⟩ = some (.int .i64 a1_1) := (blk_cell BK322.out 1).trans rfl; have hfz130_0 := blk_frozen BK322.out 0; have hfz130_1 := blk_frozen BK322.out 1) | ((with_reducible refine gate_callee (f := 12) rfl ?_); refine goesL_ (some 117) rfl rfl Tryd.func12 (by kernel_rfl) rfl #[.agg #[.string t343, .int .i64 t344, .bool t345], .int .i64 (wrap64 (1 + (Go.bits .and .i64 a1_1 1023)))] rfl (by (try simp only [List.map_toArray, List.map_cons, List.map_nil]); first | done | rfl | (simp only [List.length_drop, List.length_take]; rfl)) ?_; (with_reducible refine (tuple_Entry.calls kj79 t343 t344 t345 (wrap64 (1 + (Go.bits .and .i64 a1_1 1023))) t364 t365 _ A102.out).mono ?_); rintro e w131 ⟨rfl, hb⟩; refine ⟨_, rfl, ?_⟩; have n0_ := Aside0.mk (blk_below (g := gb322) (o := .cells #[.int .i64 a1_0, .int .i64 a1_1] 50 (0, 0)) (by (with_reducible repeat (first | refine blk_drewN ?_ _ | refine blk_drew ?_ | refine blk_alloc ?_ _)); exact BK322.out) hb); have n1_ := Aside0.mk (blk_below (g := gb331) (o := .cells #[.string t325, .int .i64 t326, .bool t327] 25 (0, 0)) (by (with_reducible repeat (first | refine blk_drewN ?_ _ | refine blk_drew ?_ | refine blk_alloc ?_ _)); exact BK331.out) hb); have n2_ := Aside0.mk (blk_below (g := gb332) (o := .cells #[.string t328, .int .i64 t329, .bool t330] 26 (0, 0)) (by (with_reducible repeat (first | refine blk_drewN ?_ _ | refine blk_drew ?_ | refine blk_alloc ?_ _)); exact BK332.out) hb); have n3_ := Aside0.mk (blk_below (g := gb340) (o := .cells #[.string t334, .int .i64 t335, .bool t336] 25 (0, 0)) (by (with_reducible repeat (first | refine blk_drewN ?_ _ | refine blk_drew ?_ | refine blk_alloc ?_ _)); exact BK340.out) hb); have n4_ := Aside0.mk (blk_below (g := gb341) (o := .cells #[.string t337, .int .i64 t338, .bool t339] 26 (0, 0)) (by (with_reducible repeat (first | refine blk_drewN ?_ _ | refine blk_drew ?_ | refine blk_alloc ?_ _)); exact BK341.out) hb); have n5_ := Aside0.mk (blk_below (g := gb349) (o := .cells #[.string t343, .int .i64 t344, .bool t345] 25 (0, 0)) (by (with_reducible repeat (first | refine blk_drewN ?_ _ | refine blk_drew ?_ | refine blk_alloc ?_ _)); exact BK349.out) hb); have n6_ := Aside0.mk (blk_below (g := gb350) (o := .cells #[.string t346, .int .i64 t347, .bool t348] 26 (0, 0)) (by (with_reducible repeat (first | refine blk_drewN ?_ _ | refine blk_drew ?_ | refine blk_alloc ?_ _)); exact BK350.out) hb); have n7_ := Aside0.mk (below_step (by repeat (first | (with_reducible first | exact HB.out | apply below_alloc | apply pw_below_drewN | apply below_drew1 | refine below_set ?_ GE322.out | refine below_set ?_ GE331.out | refine below_set ?_ GE332.out | refine below_set ?_ GE340.out | refine below_set ?_ GE341.out | refine below_set ?_ GE349.out | refine below_set ?_ GE350.out) | exact HB.out)) hb); clear BK322; clear BK331; clear BK332; clear BK340; clear BK341; clear BK349; clear BK350; clear HB; have BK322 := n0_; have BK331 := n1_; have BK332 := n2_; have BK340 := n3_; have BK341 := n4_; have BK349 := n5_; have BK350 := n6_; have HB := n7_; clear n0_ n1_ n2_ n3_ n4_ n5_ n6_ n7_; (try clear hb); (try clear hb2); (try clear hk); (try clear hi); have hcz132_0 : w131.cell? ⟨gb322, 0, none⟩ = some (.int .i64 a1_0) := (blk_cell BK322.out 0).trans rfl; have hcz132_1 : w131.cell? ⟨gb322, 1, none⟩ = some (.int .i64 a1_1) := (blk_cell BK322.out 1).trans rfl; have hfz132_0 := blk_frozen BK322.out 0; have hfz132_1 := blk_frozen BK322.out 1))
                 go_ret
                 exact ⟨by first | rfl | (simp [errW_none, errW_some] <;> rfl) | (simp [*, errW_none, errW_some] <;> rfl), by repeat (first | (with_reducible first | exact HB.out | apply below_alloc | apply pw_below_drewN | apply below_drew1 | refine below_set ?_ GE322.out | refine below_set ?_ GE331.out | refine below_set ?_ GE332.out | refine below_set ?_ GE340.out | refine below_set ?_ GE341.out | refine below_set ?_ GE349.out | refine below_set ?_ GE350.out) | exact HB.out)⟩
               ·rw [if_neg c100] at H
                have c100b0 : (Op.bytesLess t360.toList t351.toList) = false := by simpa using c100
                have c100b3 : (!(Op.bytesLess t360.toList t351.toList)) = true := by rw [c100b0]; rfl
                clear c100
                by_cases c133 : ((Op.bytesLess t360.toList t352.toList) != (decide (t363 ≤ 0))) = true
                ·rw [if_pos c133] at H
                 exact absurd H (by simp)
                ·rw [if_neg c133] at H
                 have c133b0 : ((Op.bytesLess t360.toList t352.toList) != (decide (t363 ≤ 0))) = false := by simpa using c133
                 (try (have c133b1 : decide ((Op.bytesLess t360.toList t352.toList) = (decide (t363 ≤ 0))) = true := by simpa using c133))
                 (try (have c133b2 : ((Op.bytesLess t360.toList t352.toList) == (decide (t363 ≤ 0))) = true := by simpa using c133))
                 clear c133
                 replace H := Option.bind_eq_some_iff.mp H
                 obtain ⟨⟨t366, t367⟩, A1340, H⟩ := H
                 replace H : (some ((Op.bytesLess t360.toList t366.toList) == (decide ((Go.bits .and .i64 a1_0 1023) < (Go.bits .and .i64 a1_1 1023))))) = some r := H
                 have A134 := Aside0.mk A1340
                 clear A1340
                 obtain rfl := Option.some.inj H
                 have hnb135 := NB350_322.out
                 have hnc135 := NB322_350.out
                 have hnb136 := NB350_331.out
                 have hnc136 := NB331_350.out
                 have hnb137 := NB350_332.out
                 have hnc137 := NB332_350.out
                 have hnb138 := NB350_340.out
                 have hnc138 := NB340_350.out
                 have hnb139 := NB350_341.out
                 have hnc139 := NB341_350.out
                 have hnb140 := NB350_349.out
                 have hnc140 := NB349_350.out
                 have hcz141_0 : wc.cell? ⟨gb350, 0, none⟩ = some (.string t346) := (blk_cell BK350.out 0).trans rfl
                 have hcz141_1 : wc.cell? ⟨gb350, 1, none⟩ = some (.int .i64 t347) := (blk_cell BK350.out 1).trans rfl
                 have hcz141_2 : wc.cell? ⟨gb350, 2, none⟩ = some (.bool t348) := (blk_cell BK350.out 2).trans rfl
                 have hfz141_0 := blk_frozen BK350.out 0
                 have hfz141_1 := blk_frozen BK350.out 1
                 have hfz141_2 := blk_frozen BK350.out 2
                 have hnb142 := NB332_322.out
                 have hnc142 := NB322_332.out
                 have hnb143 := NB332_331.out
                 have hnc143 := NB331_332.out
                 have hnb144 := NB332_340.out
                 have hnc144 := NB340_332.out
                 have hnb145 := NB332_341.out
                 have hnc145 := NB341_332.out
                 have hnb146 := NB332_349.out
                 have hnc146 := NB349_332.out
                 have hcz147_0 : wc.cell? ⟨gb332, 0, none⟩ = some (.string t328) := (blk_cell BK332.out 0).trans rfl
                 have hcz147_1 : wc.cell? ⟨gb332, 1, none⟩ = some (.int .i64 t329) := (blk_cell BK332.out 1).trans rfl
                 have hcz147_2 : wc.cell? ⟨gb332, 2, none⟩ = some (.bool t330) := (blk_cell BK332.out 2).trans rfl
                 have hfz147_0 := blk_frozen BK332.out 0
                 have hfz147_1 := blk_frozen BK332.out 1
                 have hfz147_2 := blk_frozen BK332.out 2
                 go_wp2_with (first | ((with_reducible refine gate_callee (f := 21) rfl ?_); refine goesL_ (some 93) rfl rfl Tryd.func21 (by kernel_rfl) rfl #[.agg #[.string t346, .int .i64 t347, .bool t348], .agg #[.string t328, .int .i64 t329, .bool t330]] rfl (by (try simp only [List.map_toArray, List.map_cons, List.map_nil]); first | done | rfl | (simp only [List.length_drop, List.length_take]; rfl)) ?_; (with_reducible refine (concordanceref01_Compare.calls kj79 t346 t347 t348 t328 t329 t330 t362 _ A97.out).mono ?_); rintro e w148 ⟨rfl, hb⟩; refine ⟨_, rfl, ?_⟩; have n0_ := Aside0.mk (blk_below (g := gb322) (o := .cells #[.int .i64 a1_0, .int .i64 a1_1] 50 (0, 0)) (by (with_reducible repeat (first | refine blk_drewN ?_ _ | refine blk_drew ?_ | refine blk_alloc ?_ _)); exact BK322.out) hb); have n1_ := Aside0.mk (blk_below (g := gb331) (o := .cells #[.string t325, .int .i64 t326, .bool t327] 25 (0, 0)) (by (with_reducible repeat (first | refine blk_drewN ?_ _ | refine blk_drew ?_ | refine blk_alloc ?_ _)); exact BK331.out) hb); have n2_ := Aside0.mk (blk_below (g := gb332) (o := .cells #[.string t328, .int .i64 t329, .bool t330] 26 (0, 0)) (by (with_reducible repeat (first | refine blk_drewN ?_ _ | refine blk_drew ?_ | refine blk_alloc ?_ _)); exact BK332.out) hb); have n3_ := Aside0.mk (blk_below (g := gb340) (o := .cells #[.string t334, .int .i64 t335, .bool t336] 25 (0, 0)) (by (with_reducible repeat (first | refine blk_drewN ?_ _ | refine blk_drew ?_ | refine blk_alloc ?_ _)); exact BK340.out) hb); have n4_ := Aside0.mk (blk_below (g := gb341) (o := .cells #[.string t337, .int .i64 t338, .bool t339] 26 (0, 0)) (by (with_reducible repeat (first | refine blk_drewN ?_ _ | refine blk_drew ?_ | refine blk_alloc ?_ _)); exact BK341.out) hb); have n5_ := Aside0.mk (blk_below (g := gb349) (o := .cells #[.string t343, .int .i64 t344, .bool t345] 25 (0, 0)) (by (with_reducible repeat (first | refine blk_drewN ?_ _ | refine blk_drew ?_ | refine blk_alloc ?_ _)); exact BK349.out) hb); have n6_ := Aside0.mk (blk_below (g := gb350) (o := .cells #[.string t346, .int .i64 t347, .bool t348] 26 (0, 0)) (by (with_reducible repeat (first | refine blk_drewN ?_ _ | refine blk_drew ?_ | refine blk_alloc ?_ _)); exact BK350.out) hb); have n7_ := Aside0.mk (below_step (by repeat (first | (with_reducible first | exact HB.out | apply below_alloc | apply pw_below_drewN | apply below_drew1 | refine below_set ?_ GE322.out | refine below_set ?_ GE331.out | refine below_set ?_ GE332.out | refine below_set ?_ GE340.out | refine below_set ?_ GE341.out | refine below_set ?_ GE349.out | refine below_set ?_ GE350.out) | exact HB.out)) hb); clear BK322; clear BK331; clear BK332; clear BK340; clear BK341; clear BK349; clear BK350; clear HB; have BK322 := n0_; have BK331 := n1_; have BK332 := n2_; have BK340 := n3_; have BK341 := n4_; have BK349 := n5_; have BK350 := n6_; have HB := n7_; clear n0_ n1_ n2_ n3_ n4_ n5_ n6_ n7_; (try clear hb); (try clear hb2); (try clear hk); (try clear hi); have hcz149_0 : w148.cell? ⟨gb350, 0, none⟩ = some (.string t346) := (blk_cell BK350.out 0).trans rfl; have hcz149_1 : w148.cell? ⟨gb350, 1, none⟩ = some (.int .i64 t347) := (blk_cell BK350.out 1).trans rfl; have hcz149_2 : w148.cell? ⟨gb350, 2, none⟩ = some (.bool t348) := (blk_cell BK350.out 2).trans rfl; have hfz149_0 := blk_frozen BK350.out 0; have hfz149_1 := blk_frozen BK350.out 1; have hfz149_2 := blk_frozen BK350.out 2; have hnb150 := NB341_322.out; have hnc150 := NB322_341.out; have hnb151 := NB341_331.out; have hnc151 := NB331_341.out; have hnb152 := NB341_340.out; have hnc152 := NB340_341.out; have hnb153 := NB341_349.out; have hnc153 := NB349_341.out; have hcz154_0 : w148.cell? ⟨gb341, 0, none⟩ = some (.string t337) := (blk_cell BK341.out 0).trans rfl; have hcz154_1 : w148.cell? ⟨gb341, 1, none⟩ = some (.int .i64 t338) := (blk_cell BK341.out 1).trans rfl; have hcz154_2 : w148.cell? ⟨gb341, 2, none⟩ = some (.bool t339) := (blk_cell BK341.out 2).trans rfl; have hfz154_0 := blk_frozen BK341.out 0; have hfz154_1 := blk_frozen BK341.out 1; have hfz154_2 := blk_frozen BK341.out 2) | (go_at_call 21; (with_reducible refine (concordanceref01_Compare.calls kj79 t346 t347 t348 t337 t338 t339 t363 _ A99.out).mono ?_); rintro e w155 ⟨rfl, hb⟩; have n0_ := Aside0.mk (blk_below (g := gb322) (o := .cells #[.int .i64 a1_0, .int .i64 a1_1] 50 (0, 0)) (by (with_reducible repeat (first | refine blk_drewN ?_ _ | refine blk_drew ?_ | refine blk_alloc ?_ _)); exact BK322.out) hb); have n1_ := Aside0.mk (blk_below (g := gb331) (o := .cells #[.string t325, .int .i64 t326, .bool t327] 25 (0, 0)) (by (with_reducible repeat (first | refine blk_drewN ?_ _ | refine blk_drew ?_ | refine blk_alloc ?_ _)); exact BK331.out) hb); have n2_ := Aside0.mk (blk_below (g := gb332) (o := .cells #[.string t328, .int .i64 t329, .bool t330] 26 (0, 0)) (by (with_reducible repeat (first | refine blk_drewN ?_ _ | refine blk_drew ?_ | refine blk_alloc ?_ _)); exact BK332.out) hb); have n3_ := Aside0.mk (blk_below (g := gb340) (o := .cells #[.string t334, .int .i64 t335, .bool t336] 25 (0, 0)) (by (with_reducible repeat (first | refine blk_drewN ?_ _ | refine blk_drew ?_ | refine blk_alloc ?_ _)); exact BK340.out) hb); have n4_ := Aside0.mk (blk_below (g := gb341) (o := .cells #[.string t337, .int .i64 t338, .bool t339] 26 (0, 0)) (by (with_reducible repeat (first | refine blk_drewN ?_ _ | refine blk_drew ?_ | refine blk_alloc ?_ _)); exact BK341.out) hb); have n5_ := Aside0.mk (blk_below (g := gb349) (o := .cells #[.string t343, .int .i64 t344, .bool t345] 25 (0, 0)) (by (with_reducible repeat (first | refine blk_drewN ?_ _ | refine blk_drew ?_ | refine blk_alloc ?_ _)); exact BK349.out) hb); have n6_ := Aside0.mk (blk_below (g := gb350) (o := .cells #[.string t346, .int .i64 t347, .bool t348] 26 (0, 0)) (by (with_reducible repeat (first | refine blk_drewN ?_ _ | refine blk_drew ?_ | refine blk_alloc ?_ _)); exact BK350.out) hb); have n7_ := Aside0.mk (below_step (by repeat (first | (with_reducible first | exact HB.out | apply below_alloc | apply pw_below_drewN | apply below_drew1 | refine below_set ?_ GE322.out | refine below_set ?_ GE331.out | refine below_set ?_ GE332.out | refine below_set ?_ GE340.out | refine below_set ?_ GE341.out | refine below_set ?_ GE349.out | refine below_set ?_ GE350.out) | exact HB.out)) hb); clear BK322; clear BK331; clear BK332; clear BK340; clear BK341; clear BK349; clear BK350; clear HB; have BK322 := n0_; have BK331 := n1_; have BK332 := n2_; have BK340 := n3_; have BK341 := n4_; have BK349 := n5_; have BK350 := n6_; have HB := n7_; clear n0_ n1_ n2_ n3_ n4_ n5_ n6_ n7_; (try clear hb); (try clear hb2); (try clear hk); (try clear hi); have hnb156 := NB349_322.out; have hnc156 := NB322_349.out; have hnb157 := NB349_331.out; have hnc157 := NB331_349.out; have hnb158 := NB349_340.out; have hnc158 := NB340_349.out; have hcz159_0 : w155.cell? ⟨gb349, 0, none⟩ = some (.string t343) := (blk_cell BK349.out 0).trans rfl; have hcz159_1 : w155.cell? ⟨gb349, 1, none⟩ = some (.int .i64 t344) := (blk_cell BK349.out 1).trans rfl; have hcz159_2 : w155.cell? ⟨gb349, 2, none⟩ = some (.bool t345) := (blk_cell BK349.out 2).trans rfl; have hfz159_0 := blk_frozen BK349.out 0; have hfz159_1 := blk_frozen BK349.out 1; have hfz159_2 := blk_frozen BK349.out 2; have hnb160 := NB322_331.out; have hnc160 := NB331_322.out; have hnb161 := NB322_340.out; have hnc161 := NB340_322.out; have hcz162_0 : w155.cell? ⟨gb322, 0, none⟩ = some (.int .i64 a1_0) := (blk_cell BK322.out 0).trans rfl; have hcz162_1 : w155.cell? ⟨gb322, 1, none⟩ = some (.int .i64 a1_1) := (blk_cell BK322.out 1).trans rfl; have hfz162_0 := blk_frozen BK322.out 0; have hfz162_1 := blk_frozen BK322.out 1) | ((with_reducible refine gate_callee (f := 12) rfl ?_); refine goesL_ (some 117) rfl rfl Tryd.func12 (by kernel_rfl) rfl #[.agg #[.string t343, .int .i64 t344, .bool t345], .int .i64 (wrap64 (1 + (Go.bits .and .i64 a1_1 1023)))] rfl (by (try simp only [List.map_toArray, List.map_cons, List.map_nil]); first | done | rfl | (simp only [List.length_drop, List.length_take]; rfl)) ?_; (with_reducible refine (tuple_Entry.calls kj79 t343 t344 t345 (wrap64 (1 + (Go.bits .and .i64 a1_1 1023))) t366 t367 _ A134.out).mono ?_); rintro e w163 ⟨rfl, hb⟩; refine ⟨_, rfl, ?_⟩; have n0_ := Aside0.mk (blk_below (g := gb322) (o := .cells #[.int .i64 a1_0, .int .i64 a1_1] 50 (0, 0)) (by (with_reducible repeat (first | refine blk_drewN ?_ _ | refine blk_drew ?_ | refine blk_alloc ?_ _)); exact BK322.out) hb); have n1_ := Aside0.mk (blk_below (g := gb331) (o := .cells #[.string t325, .int .i64 t326, .bool t327] 25 (0, 0)) (by (with_reducible repeat (first | refine blk_drewN ?_ _ | refine blk_drew ?_ | refine blk_alloc ?_ _)); exact BK331.out) hb); have n2_ := Aside0.mk (blk_below (g := gb332) (o := .cells #[.string t328, .int .i64 t329, .bool t330] 26 (0, 0)) (by (with_reducible repeat (first | refine blk_drewN ?_ _ | refine blk_drew ?_ | refine blk_alloc ?_ _)); exact BK332.out) hb); have n3_ := Aside0.mk (blk_below (g := gb340) (o := .cells #[.string t334, .int .i64 t335, .bool t336] 25 (0, 0)) (by (with_reducible repeat (first | refine blk_drewN ?_ _ | refine blk_drew ?_ | refine blk_alloc ?_ _)); exact BK340.out) hb); have n4_ := Aside0.mk (blk_below (g := gb341) (o := .cells #[.string t337, .int .i64 t338, .bool t339] 26 (0, 0)) (by (with_reducible repeat (first | refine blk_drewN ?_ _ | refine blk_drew ?_ | refine blk_alloc ?_ _)); exact BK341.out) hb); have n5_ := Aside0.mk (blk_below (g := gb349) (o := .cells #[.string t343, .int .i64 t344, .bool t345] 25 (0, 0)) (by (with_reducible repeat (first | refine blk_drewN ?_ _ | refine blk_drew ?_ | refine blk_alloc ?_ _)); exact BK349.out) hb); have n6_ := Aside0.mk (blk_below (g := gb350) (o := .cells #[.string t346, .int .i64 t347, .bool t348] 26 (0, 0)) (by (with_reducible repeat (first | refine blk_drewN ?_ _ | refine blk_drew ?_ | refine blk_alloc ?_ _)); exact BK350.out) hb); have n7_ := Aside0.mk (below_step (by repeat (first | (with_reducible first | exact HB.out | apply below_alloc | apply pw_below_drewN | apply below_drew1 | refine below_set ?_ GE322.out | refine below_set ?_ GE331.out | refine below_set ?_ GE332.out | refine below_set ?_ GE340.out | refine below_set ?_ GE341.out | refine below_set ?_ GE349.out | refine below_set ?_ GE350.out) | exact HB.out)) hb); clear BK322; clear BK331; clear BK332; clear BK340; clear BK341; clear BK349; clear BK350; clear HB; have BK322 := n0_; have BK331 := n1_; have BK332 := n2_; have BK340 := n3_; have BK341 := n4_; have BK349 := n5_; have BK350 := n6_; have HB := n7_; clear n0_ n1_ n2_ n3_ n4_ n5_ n6_ n7_; (try clear hb); (try clear hb2); (try clear hk); (try clear hi); have hcz164_0 : w163.cell? ⟨gb322, 0, none⟩ = some (.int .i64 a1_0) := (blk_cell BK322.out 0).trans rfl; have hcz164_1 : w163.cell? ⟨gb322, 1, none⟩ = some (.int .i64 a1_1) := (blk_cell BK322.out 1).trans rfl; have hfz164_0 := blk_frozen BK322.out 0; have hfz164_1 := blk_frozen BK322.out 1))
                 go_ret
                 exact ⟨by first | rfl | (simp [errW_none, errW_some] <;> rfl) | (simp [*, errW_none, errW_some] <;> rfl), by repeat (first | (with_reducible first | exact HB.out | apply below_alloc | apply pw_below_drewN | apply below_drew1 | refine below_set ?_ GE322.out | refine below_set ?_ GE331.out | refine below_set ?_ GE332.out | refine below_set ?_ GE340.out | refine below_set ?_ GE341.out | refine below_set ?_ GE349.out | refine below_set ?_ GE350.out) | exact HB.out)⟩
              ·rw [if_neg c98] at H
               have c98b0 : decide (0 ≤ t362) = false := decide_eq_false c98
               clear c98
               by_cases c165 : ((Op.bytesLess t360.toList t351.toList) = true)
               ·rw [if_pos c165] at H
                have c165b0 : (Op.bytesLess t360.toList t351.toList) = true := c165
                have c165b3 : (!(Op.bytesLess t360.toList t351.toList)) = false := by rw [c165b0]; rfl
                clear c165
                by_cases c166 : (false != false) = true
                ·rw [if_pos c166] at H
                 exact absurd H (by simp)
                ·rw [if_neg c166] at H
                 have c166b0 : (false != false) = false := by first | (simp; done) | simpa using c166
                 (try (have c166b1 : decide (false = false) = true := by first | (simp; done) | simpa using c166))
                 (try (have c166b2 : (false == false) = true := by first | (simp; done) | simpa using c166))
                 clear c166
                 replace H := Option.bind_eq_some_iff.mp H
                 obtain ⟨⟨t368, t369⟩, A1670, H⟩ := H
                 replace H : (some ((Op.bytesLess t360.toList t368.toList) == (decide ((Go.bits .and .i64 a1_0 1023) < (Go.bits .and .i64 a1_1 1023))))) = some r := H
                 have A167 := Aside0.mk A1670
                 clear A1670
                 obtain rfl := Option.some.inj H
                 have hnb168 := NB350_322.out
                 have hnc168 := NB322_350.out
                 have hnb169 := NB350_331.out
                 have hnc169 := NB331_350.out
                 have hnb170 := NB350_332.out
                 have hnc170 := NB332_350.out
                 have hnb171 := NB350_340.out
                 have hnc171 := NB340_350.out
                 have hnb172 := NB350_341.out
                 have hnc172 := NB341_350.out
                 have hnb173 := NB350_349.out
                 have hnc173 := NB349_350.out
                 have hcz174_0 : wc.cell? ⟨gb350, 0, none⟩ = some (.string t346) := (blk_cell BK350.out 0).trans rfl
                 have hcz174_1 : wc.cell? ⟨gb350, 1, none⟩ = some (.int .i64 t347) := (blk_cell BK350.out 1).trans rfl
                 have hcz174_2 : wc.cell? ⟨gb350, 2, none⟩ = some (.bool t348) := (blk_cell BK350.out 2).trans rfl
                 have hfz174_0 := blk_frozen BK350.out 0
                 have hfz174_1 := blk_frozen BK350.out 1
                 have hfz174_2 := blk_frozen BK350.out 2
                 have hnb175 := NB332_322.out
                 have hnc175 := NB322_332.out
                 have hnb176 := NB332_331.out
                 have hnc176 := NB331_332.out
                 have hnb177 := NB332_340.out
                 have hnc177 := NB340_332.out
                 have hnb178 := NB332_341.out
                 have hnc178 := NB341_332.out
                 have hnb179 := NB332_349.out
                 have hnc179 := NB349_332.out
                 have hcz180_0 : wc.cell? ⟨gb332, 0, none⟩ = some (.string t328) := (blk_cell BK332.out 0).trans rfl
                 have hcz180_1 : wc.cell? ⟨gb332, 1, none⟩ = some (.int .i64 t329) := (blk_cell BK332.out 1).trans rfl
                 have hcz180_2 : wc.cell? ⟨gb332, 2, none⟩ = some (.bool t330) := (blk_cell BK332.out 2).trans rfl
                 have hfz180_0 := blk_frozen BK332.out 0
                 have hfz180_1 := blk_frozen BK332.out 1
                 have hfz180_2 := blk_frozen BK332.out 2
                 go_wp2_with (first | ((with_reducible refine gate_callee (f := 21) rfl ?_); refine goesL_ (some 93) rfl rfl Tryd.func21 (by kernel_rfl) rfl #[.agg #[.string t346, .int .i64 t347, .bool t348], .agg #[.string t328, .int .i64 t329, .bool t330]] rfl (by (try simp only [List.map_toArray, List.map_cons, List.map_nil]); first | done | rfl | (simp only [List.length_drop, List.length_take]; rfl)) ?_; (with_reducible refine (concordanceref01_Compare.calls kj79 t346 t347 t348 t328 t329 t330 t362 _ A97.out).mono ?_); rintro e w181 ⟨rfl, hb⟩; refine ⟨_, rfl, ?_⟩; have n0_ := Aside0.mk (blk_below (g := gb322) (o := .cells #[.int .i64 a1_0, .int .i64 a1_1] 50 (0, 0)) (by (with_reducible repeat (first | refine blk_drewN ?_ _ | refine blk_drew ?_ | refine blk_alloc ?_ _)); exact BK322.out) hb); have n1_ := Aside0.mk (blk_below (g := gb331) (o := .cells #[.string t325, .int .i64 t326, .bool t327] 25 (0, 0)) (by (with_reducible repeat (first | refine blk_drewN ?_ _ | refine blk_drew ?_ | refine blk_alloc ?_ _)); exact BK331.out) hb); have n2_ := Aside0.mk (blk_below (g := gb332) (o := .cells #[.string t328, .int .i64 t329, .bool t330] 26 (0, 0)) (by (with_reducible repeat (first | refine blk_drewN ?_ _ | refine blk_drew ?_ | refine blk_alloc ?_ _)); exact BK332.out) hb); have n3_ := Aside0.mk (blk_below (g := gb340) (o := .cells #[.string t334, .int .i64 t335, .bool t336] 25 (0, 0)) (by (with_reducible repeat (first | refine blk_drewN ?_ _ | refine blk_drew ?_ | refine blk_alloc ?_ _)); exact BK340.out) hb); have n4_ := Aside0.mk (blk_below (g := gb341) (o := .cells #[.string t337, .int .i64 t338, .bool t339] 26 (0, 0)) (by (with_reducible repeat (first | refine blk_drewN ?_ _ | refine blk_drew ?_ | refine blk_alloc ?_ _)); exact BK341.out) hb); have n5_ := Aside0.mk (blk_below (g := gb349) (o := .cells #[.string t343, .int .i64 t344, .bool t345] 25 (0, 0)) (by (with_reducible repeat (first | refine blk_drewN ?_ _ | refine blk_drew ?_ | refine blk_alloc ?_ _)); exact BK349.out) hb); have n6_ := Aside0.mk (blk_below (g := gb350) (o := .cells #[.string t346, .int .i64 t347, .bool t348] 26 (0, 0)) (by (with_reducible repeat (first | refine blk_drewN ?_ _ | refine blk_drew ?_ | refine blk_alloc ?_ _)); exact BK350.out) hb); have n7_ := Aside0.mk (below_step (by repeat (first | (with_reducible first | exact HB.out | apply below_alloc | apply pw_below_drewN | apply below_drew1 | refine below_set ?_ GE322.out | refine below_set ?_ GE331.out | refine below_set ?_ GE332.out | refine below_set ?_ GE340.out | refine below_set ?_ GE341.out | refine below_set ?_ GE349.out | refine below_set ?_ GE350.out) | exact HB.out)) hb); clear BK322; clear BK331; clear BK332; clear BK340; clear BK341; clear BK349; clear BK350; clear HB; have BK322 := n0_; have BK331 := n1_; have BK332 := n2_; have BK340 := n3_; have BK341 := n4_; have BK349 := n5_; have BK350 := n6_; have HB := n7_; clear n0_ n1_ n2_ n3_ n4_ n5_ n6_ n7_; (try clear hb); (try clear hb2); (try clear hk); (try clear hi); have hnb182 := NB349_322.out; have hnc182 := NB322_349.out; have hnb183 := NB349_331.out; have hnc183 := NB331_349.out; have hnb184 := NB349_340.out; have hnc184 := NB340_349.out; have hnb185 := NB349_341.out; have hnc185 := NB341_349.out; have hcz186_0 : w181.cell? ⟨gb349, 0, none⟩ = some (.string t343) := (blk_cell BK349.out 0).trans rfl; have hcz186_1 : w181.cell? ⟨gb349, 1, none⟩ = some (.int .i64 t344) := (blk_cell BK349.out 1).trans rfl; have hcz186_2 : w181.cell? ⟨gb349, 2, none⟩ = some (.bool t345) := (blk_cell BK349.out 2).trans rfl; have hfz186_0 := blk_frozen BK349.out 0; have hfz186_1 := blk_frozen BK349.out 1; have hfz186_2 := blk_frozen BK349.out 2; have hnb187 := NB322_331.out; have hnc187 := NB331_322.out; have hnb188 := NB322_340.out; have hnc188 := NB340_322.out; have hnb189 := NB322_341.out; have hnc189 := NB341_322.out; have hcz190_0 : w181.cell? ⟨gb322, 0, none⟩ = some (.int .i64 a1_0) := (blk_cell BK322.out 0).trans rfl; have hcz190_1 : w181.cell? ⟨gb322, 1, none⟩ = some (.int .i64 a1_1) := (blk_cell BK322.out 1).trans rfl; have hfz190_0 := blk_frozen BK322.out 0; have hfz190_1 := blk_frozen BK322.out 1) | ((with_reducible refine gate_callee (f := 12) rfl ?_); refine goesL_ (some 117) rfl rfl Tryd.func12 (by kernel_rfl) rfl #[.agg #[.string t343, .int .i64 t344, .bool t345], .int .i64 (wrap64 (1 + (Go.bits .and .i64 a1_1 1023)))] rfl (by (try simp only [List.map_toArray, List.map_cons, List.map_nil]); first | done | rfl | (simp only [List.length_drop, List.length_take]; rfl)) ?_; (with_reducible refine (tuple_Entry.calls kj79 t343 t344 t345 (wrap64 (1 + (Go.bits .and .i64 a1_1 1023))) t368 t369 _ A167.out).mono ?_); rintro e w191 ⟨rfl, hb⟩; refine ⟨_, rfl, ?_⟩; have n0_ := Aside0.mk (blk_below (g := gb322) (o := .cells #[.int .i64 a1_0, .int .i64 a1_1] 50 (0, 0)) (by (with_reducible repeat (first | refine blk_drewN ?_ _ | refine blk_drew ?_ | refine blk_alloc ?_ _)); exact BK322.out) hb); have n1_ := Aside0.mk (blk_below (g := gb331) (o := .cells #[.string t325, .int .i64 t326, .bool t327] 25 (0, 0)) (by (with_reducible repeat (first | refine blk_drewN ?_ _ | refine blk_drew ?_ | refine blk_alloc ?_ _)); exact BK331.out) hb); have n2_ := Aside0.mk (blk_below (g := gb332) (o := .cells #[.string t328, .int .i64 t329, .bool t330] 26 (0, 0)) (by (with_reducible repeat (first | refine blk_drewN ?_ _ | refine blk_drew ?_ | refine blk_alloc ?_ _)); exact BK332.out) hb); have n3_ := Aside0.mk (blk_below (g := gb340) (o := .cells #[.string t334, .int .i64 t335, .bool t336] 25 (0, 0)) (by (with_reducible repeat (first | refine blk_drewN ?_ _ | refine blk_drew ?_ | refine blk_alloc ?_ _)); exact BK340.out) hb); have n4_ := Aside0.mk (blk_below (g := gb341) (o := .cells #[.string t337, .int .i64 t338, .bool t339] 26 (0, 0)) (by (with_reducible repeat (first | refine blk_drewN ?_ _ | refine blk_drew ?_ | refine blk_alloc ?_ _)); exact BK341.out) hb); have n5_ := Aside0.mk (blk_below (g := gb349) (o := .cells #[.string t343, .int .i64 t344, .bool t345] 25 (0, 0)) (by (with_reducible repeat (first | refine blk_drewN ?_ _ | refine blk_drew ?_ | refine blk_alloc ?_ _)); exact BK349.out) hb); have n6_ := Aside0.mk (blk_below (g := gb350) (o := .cells #[.string t346, .int .i64 t347, .bool t348] 26 (0, 0)) (by (with_reducible repeat (first | refine blk_drewN ?_ _ | refine blk_drew ?_ | refine blk_alloc ?_ _)); exact BK350.out) hb); have n7_ := Aside0.mk (below_step (by repeat (first | (with_reducible first | exact HB.out | apply below_alloc | apply pw_below_drewN | apply below_drew1 | refine below_set ?_ GE322.out | refine below_set ?_ GE331.out | refine below_set ?_ GE332.out | refine below_set ?_ GE340.out | refine below_set ?_ GE341.out | refine below_set ?_ GE349.out | refine below_set ?_ GE350.out) | exact HB.out)) hb); clear BK322; clear BK331; clear BK332; clear BK340; clear BK341; clear BK349; clear BK350; clear HB; have BK322 := n0_; have BK331 := n1_; have BK332 := n2_; have BK340 := n3_; have BK341 := n4_; have BK349 := n5_; have BK350 := n6_; have HB := n7_; clear n0_ n1_ n2_ n3_ n4_ n5_ n6_ n7_; (try clear hb); (try clear hb2); (try clear hk); (try clear hi); have hcz192_0 : w191.cell? ⟨gb322, 0, none⟩ = some (.int .i64 a1_0) := (blk_cell BK322.out 0).trans rfl; have hcz192_1 : w191.cell? ⟨gb322, 1, none⟩ = some (.int .i64 a1_1) := (blk_cell BK322.out 1).trans rfl; have hfz192_0 := blk_frozen BK322.out 0; have hfz192_1 := blk_frozen BK322.out 1))
                 go_ret
                 exact ⟨by first | rfl | (simp [errW_none, errW_some] <;> rfl) | (simp [*, errW_none, errW_some] <;> rfl), by repeat (first | (with_reducible first | exact HB.out | apply below_alloc | apply pw_below_drewN | apply below_drew1 | refine below_set ?_ GE322.out | refine below_set ?_ GE331.out | refine below_set ?_ GE332.out | refine below_set ?_ GE340.out | refine below_set ?_ GE341.out | refine below_set ?_ GE349.out | refine below_set ?_ GE350.out) | exact HB.out)⟩
               ·rw [if_neg c165] at H
                have c165b0 : (Op.bytesLess t360.toList t351.toList) = false := by simpa using c165
                have c165b3 : (!(Op.bytesLess t360.toList t351.toList)) = true := by rw [c165b0]; rfl
                clear c165
                by_cases c193 : ((Op.bytesLess t360.toList t352.toList) != false) = true
                ·rw [if_pos c193] at H
                 exact absurd H (by simp)
                ·rw [if_neg c193] at H
                 have c193b0 : ((Op.bytesLess t360.toList t352.toList) != false) = false := by simpa using c193
                 (try (have c193b1 : decide ((Op.bytesLess t360.toList t352.toList) = false) = true := by simpa using c193))
                 (try (have c193b2 : ((Op.bytesLess t360.toList t352.toList) == false) = true := by simpa using c193))
                 clear c193
                 replace H := Option.bind_eq_some_iff.mp H
                 obtain ⟨⟨t370, t371⟩, A1940, H⟩ := H
                 replace H : (some ((Op.bytesLess t360.toList t370.toList) == (decide ((Go.bits .and .i64 a1_0 1023) < (Go.bits .and .i64 a1_1 1023))))) = some r := H
                 have A194 := Aside0.mk A1940
                 clear A1940
                 obtain rfl := Option.some.inj H
                 have hnb195 := NB350_322.out
                 have hnc195 := NB322_350.out
                 have hnb196 := NB350_331.out
                 have hnc196 := NB331_350.out
                 have hnb197 := NB350_332.out
                 have hnc197 := NB332_350.out
                 have hnb198 := NB350_340.out
                 have hnc198 := NB340_350.out
                 have hnb199 := NB350_341.out
                 have hnc199 := NB341_350.out
                 have hnb200 := NB350_349.out
                 have hnc200 := NB349_350.out
                 have hcz201_0 : wc.cell? ⟨gb350, 0, none⟩ = some (.string t346) := (blk_cell BK350.out 0).trans rfl
                 have hcz201_1 : wc.cell? ⟨gb350, 1, none⟩ = some (.int .i64 t347) := (blk_cell BK350.out 1).trans rfl
                 have hcz201_2 : wc.cell? ⟨gb350, 2, none⟩ = some (.bool t348) := (blk_cell BK350.out 2).trans rfl
                 have hfz201_0 := blk_frozen BK350.out 0
                 have hfz201_1 := blk_frozen BK350.out 1
                 have hfz201_2 := blk_frozen BK350.out 2
                 have hnb202 := NB332_322.out
                 have hnc202 := NB322_332.out
                 have hnb203 := NB332_331.out
                 have hnc203 := NB331_332.out
                 have hnb204 := NB332_340.out
                 have hnc204 := NB340_332.out
                 have hnb205 := NB332_341.out
                 have hnc205 := NB341_332.out
                 have hnb206 := NB332_349.out
                 have hnc206 := NB349_332.out
                 have hcz207_0 : wc.cell? ⟨gb332, 0, none⟩ = some (.string t328) := (blk_cell BK332.out 0).trans rfl
                 have hcz207_1 : wc.cell? ⟨gb332, 1, none⟩ = some (.int .i64 t329) := (blk_cell BK332.out 1).trans rfl
                 have hcz207_2 : wc.cell? ⟨gb332, 2, none⟩ = some (.bool t330) := (blk_cell BK332.out 2).trans rfl
                 have hfz207_0 := blk_frozen BK332.out 0
                 have hfz207_1 := blk_frozen BK332.out 1
                 have hfz207_2 := blk_frozen BK332.out 2
                 go_wp2_with (first | ((with_reducible refine gate_callee (f := 21) rfl ?_); refine goesL_ (some 93) rfl rfl Tryd.func21 (by kernel_rfl) rfl #[.agg #[.string t346, .int .i64 t347, .bool t348], .agg #[.string t328, .int .i64 t329, .bool t330]] rfl (by (try simp only [List.map_toArray, List.map_cons, List.map_nil]); first | done | rfl | (simp only [List.length_drop, List.length_take]; rfl)) ?_; (with_reducible refine (concordanceref01_Compare.calls kj79 t346 t347 t348 t328 t329 t330 t362 _ A97.out).mono ?_); rintro e w208 ⟨rfl, hb⟩; refine ⟨_, rfl, ?_⟩; have n0_ := Aside0.mk (blk_below (g := gb322) (o := .cells #[.int .i64 a1_0, .int .i64 a1_1] 50 (0, 0)) (by (with_reducible repeat (first | refine blk_drewN ?_ _ | refine blk_drew ?_ | refine blk_alloc ?_ _)); exact BK322.out) hb); have n1_ := Aside0.mk (blk_below (g := gb331) (o := .cells #[.string t325, .int .i64 t326, .bool t327] 25 (0, 0)) (by (with_reducible repeat (first | refine blk_drewN ?_ _ | refine blk_drew ?_ | refine blk_alloc ?_ _)); exact BK331.out) hb); have n2_ := Aside0.mk (blk_below (g := gb332) (o := .cells #[.string t328, .int .i64 t329, .bool t330] 26 (0, 0)) (by (with_reducible repeat (first | refine blk_drewN ?_ _ | refine blk_drew ?_ | refine blk_alloc ?_ _)); exact BK332.out) hb); have n3_ := Aside0.mk (blk_below (g := gb340) (o := .cells #[.string t334, .int .i64 t335, .bool t336] 25 (0, 0)) (by (with_reducible repeat (first | refine blk_drewN ?_ _ | refine blk_drew ?_ | refine blk_alloc ?_ _)); exact BK340.out) hb); have n4_ := Aside0.mk (blk_below (g := gb341) (o := .cells #[.string t337, .int .i64 t338, .bool t339] 26 (0, 0)) (by (with_reducible repeat (first | refine blk_drewN ?_ _ | refine blk_drew ?_ | refine blk_alloc ?_ _)); exact BK341.out) hb); have n5_ := Aside0.mk (blk_below (g := gb349) (o := .cells #[.string t343, .int .i64 t344, .bool t345] 25 (0, 0)) (by (with_reducible repeat (first | refine blk_drewN ?_ _ | refine blk_drew ?_ | refine blk_alloc ?_ _)); exact BK349.out) hb); have n6_ := Aside0.mk (blk_below (g := gb350) (o := .cells #[.string t346, .int .i64 t347, .bool t348] 26 (0, 0)) (by (with_reducible repeat (first | refine blk_drewN ?_ _ | refine blk_drew ?_ | refine blk_alloc ?_ _)); exact BK350.out) hb); have n7_ := Aside0.mk (below_step (by repeat (first | (with_reducible first | exact HB.out | apply below_alloc | apply pw_below_drewN | apply below_drew1 | refine below_set ?_ GE322.out | refine below_set ?_ GE331.out | refine below_set ?_ GE332.out | refine below_set ?_ GE340.out | refine below_set ?_ GE341.out | refine below_set ?_ GE349.out | refine below_set ?_ GE350.out) | exact HB.out)) hb); clear BK322; clear BK331; clear BK332; clear BK340; clear BK341; clear BK349; clear BK350; clear HB; have BK322 := n0_; have BK331 := n1_; have BK332 := n2_; have BK340 := n3_; have BK341 := n4_; have BK349 := n5_; have BK350 := n6_; have HB := n7_; clear n0_ n1_ n2_ n3_ n4_ n5_ n6_ n7_; (try clear hb); (try clear hb2); (try clear hk); (try clear hi); have hnb209 := NB349_322.out; have hnc209 := NB322_349.out; have hnb210 := NB349_331.out; have hnc210 := NB331_349.out; have hnb211 := NB349_340.out; have hnc211 := NB340_349.out; have hnb212 := NB349_341.out; have hnc212 := NB341_349.out; have hcz213_0 : w208.cell? ⟨gb349, 0, none⟩ = some (.string t343) := (blk_cell BK349.out 0).trans rfl; have hcz213_1 : w208.cell? ⟨gb349, 1, none⟩ = some (.int .i64 t344) := (blk_cell BK349.out 1).trans rfl; have hcz213_2 : w208.cell? ⟨gb349, 2, none⟩ = some (.bool t345) := (blk_cell BK349.out 2).trans rfl; have hfz213_0 := blk_frozen BK349.out 0; have hfz213_1 := blk_frozen BK349.out 1; have hfz213_2 := blk_frozen BK349.out 2; have hnb214 := NB322_331.out; have hnc214 := NB331_322.out; have hnb215 := NB322_340.out; have hnc215 := NB340_322.out; have hnb216 := NB322_341.out; have hnc216 := NB341_322.out; have hcz217_0 : w208.cell? ⟨gb322, 0, none⟩ = some (.int .i64 a1_0) := (blk_cell BK322.out 0).trans rfl; have hcz217_1 : w208.cell? ⟨gb322, 1, none⟩ = some (.int .i64 a1_1) := (blk_cell BK322.out 1).trans rfl; have hfz217_0 := blk_frozen BK322.out 0; have hfz217_1 := blk_frozen BK322.out 1) | ((with_reducible refine gate_callee (f := 12) rfl ?_); refine goesL_ (some 117) rfl rfl Tryd.func12 (by kernel_rfl) rfl #[.agg #[.string t343, .int .i64 t344, .bool t345], .int .i64 (wrap64 (1 + (Go.bits .and .i64 a1_1 1023)))] rfl (by (try simp only [List.map_toArray, List.map_cons, List.map_nil]); first | done | rfl | (simp only [List.length_drop, List.length_take]; rfl)) ?_; (with_reducible refine (tuple_Entry.calls kj79 t343 t344 t345 (wrap64 (1 + (Go.bits .and .i64 a1_1 1023))) t370 t371 _ A194.out).mono ?_); rintro e w218 ⟨rfl, hb⟩; refine ⟨_, rfl, ?_⟩; have n0_ := Aside0.mk (blk_below (g := gb322) (o := .cells #[.int .i64 a1_0, .int .i64 a1_1] 50 (0, 0)) (by (with_reducible repeat (first | refine blk_drewN ?_ _ | refine blk_drew ?_ | refine blk_alloc ?_ _)); exact BK322.out) hb); have n1_ := Aside0.mk (blk_below (g := gb331) (o := .cells #[.string t325, .int .i64 t326, .bool t327] 25 (0, 0)) (by (with_reducible repeat (first | refine blk_drewN ?_ _ | refine blk_drew ?_ | refine blk_alloc ?_ _)); exact BK331.out) hb); have n2_ := Aside0.mk (blk_below (g := gb332) (o := .cells #[.string t328, .int .i64 t329, .bool t330] 26 (0, 0)) (by (with_reducible repeat (first | refine blk_drewN ?_ _ | refine blk_drew ?_ | refine blk_alloc ?_ _)); exact BK332.out) hb); have n3_ := Aside0.mk (blk_below (g := gb340) (o := .cells #[.string t334, .int .i64 t335, .bool t336] 25 (0, 0)) (by (with_reducible repeat (first | refine blk_drewN ?_ _ | refine blk_drew ?_ | refine blk_alloc ?_ _)); exact BK340.out) hb); have n4_ := Aside0.mk (blk_below (g := gb341) (o := .cells #[.string t337, .int .i64 t338, .bool t339] 26 (0, 0)) (by (with_reducible repeat (first | refine blk_drewN ?_ _ | refine blk_drew ?_ | refine blk_alloc ?_ _)); exact BK341.out) hb); have n5_ := Aside0.mk (blk_below (g := gb349) (o := .cells #[.string t343, .int .i64 t344, .bool t345] 25 (0, 0)) (by (with_reducible repeat (first | refine blk_drewN ?_ _ | refine blk_drew ?_ | refine blk_alloc ?_ _)); exact BK349.out) hb); have n6_ := Aside0.mk (blk_below (g := gb350) (o := .cells #[.string t346, .int .i64 t347, .bool t348] 26 (0, 0)) (by (with_reducible repeat (first | refine blk_drewN ?_ _ | refine blk_drew ?_ | refine blk_alloc ?_ _)); exact BK350.out) hb); have n7_ := Aside0.mk (below_step (by repeat (first | (with_reducible first | exact HB.out | apply below_alloc | apply pw_below_drewN | apply below_drew1 | refine below_set ?_ GE322.out | refine below_set ?_ GE331.out | refine below_set ?_ GE332.out | refine below_set ?_ GE340.out | refine below_set ?_ GE341.out | refine below_set ?_ GE349.out | refine below_set ?_ GE350.out) | exact HB.out)) hb); clear BK322; clear BK331; clear BK332; clear BK340; clear BK341; clear BK349; clear BK350; clear HB; have BK322 := n0_; have BK331 := n1_; have BK332 := n2_; have BK340 := n3_; have BK341 := n4_; have BK349 := n5_; have BK350 := n6_; have HB := n7_; clear n0_ n1_ n2_ n3_ n4_ n5_ n6_ n7_; (try clear hb); (try clear hb2); (try clear hk); (try clear hi); have hcz219_0 : w218.cell? ⟨gb322, 0, none⟩ = some (.int .i64 a1_0) := (blk_cell BK322.out 0).trans rfl; have hcz219_1 : w218.cell? ⟨gb322, 1, none⟩ = some (.int .i64 a1_1) := (blk_cell BK322.out 1).trans rfl; have hfz219_0 := blk_frozen BK322.out 0; have hfz219_1 := blk_frozen BK322.out 1))
                 go_ret
                 exact ⟨by first | rfl | (simp [errW_none, errW_some] <;> rfl) | (simp [*, errW_none, errW_some] <;> rfl), by repeat (first | (with_reducible first | exact HB.out | apply below_alloc | apply pw_below_drewN | apply below_drew1 | refine below_set ?_ GE322.out | refine below_set ?_ GE331.out | refine below_set ?_ GE332.out | refine below_set ?_ GE340.out | refine below_set ?_ GE341.out | refine below_set ?_ GE349.out | refine below_set ?_ GE350.out) | exact HB.out)⟩
     ·rw [if_neg c12] at H
      exact absurd H (by simp)
    ·rw [if_neg c10] at H
     exact absurd H (by simp)
   ·rw [if_neg c8] at H
    exact absurd H (by simp)
 ·replace c4 := Bool.eq_false_iff.mpr c4
  subst c4
  have H1 : (none) = some r := by rw [if_neg (show ¬ (false = true) by decide)] at H; exact H
  clear H
  have H := H1
  clear H1
  exact absurd H (by simp)

end Go.Proofs.YtcpehlllgfffkaaDoor.GT
