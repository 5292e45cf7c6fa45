-- Written by a program of this session (wip/pv.py, which turns the kit's print.py in a scratch copy): see NOTES.md.
import Derived.Test.YtcpehlllgfffkaaDoorGTx0
import Derived.Test.YtcpehlllgfffkaaDoorGTx1
import Derived.Test.YtcpehlllgfffkaaDoorGTx6
import Derived.Test.YtcpehlllgfffkaaDoorGTx7
import Derived.Test.YtcpehlllgfffkaaDoorGTx8
import Derived.Test.YtcpehlllgfffkaaDoorGTx12
import Derived.Test.YtcpehlllgfffkaaDoorTGood
namespace Go.Proofs.YtcpehlllgfffkaaDoor.GT
open Go.RowKit Go.Proofs.YtcpehlllgfffkaaDoorW.PrintWords Go.Proofs.YtcpehlllgfffkaaDoorW.PrintLast Go.Proofs.YtcpehlllgfffkaaDoorW.PrintMore
attribute [local go_sem] max2_int min2_int max_two min_two max_three min_three max_four min_four   -- for this text's walks alone
set_option linter.unusedVariables false
set_option linter.unusedSimpArgs false

attribute [local go_sem high] eqA25
/-! ### concordancelaw19_TupleRows: function 7 -/
mutual
def concordancelaw19_TupleRows.l0 : Nat → List (S63) → List (S25) → List (S26) → List (S65) → List (S66) → Int → Option (Bool)
 | 0, _, _, _, _, _, _ => none
 | k + 1, x0, x5, x6, x7, x8, x9 => if x9 < (x0.length : Int) then (concordancelaw19_TupleRows.j1 k x0 x5 x6 x7 x8 x9 (decide (x9 < 8))) else (concordancelaw19_TupleRows.j1 k x0 x5 x6 x7 x8 x9 false)
def concordancelaw19_TupleRows.j1 : Nat → List (S63) → List (S25) → List (S26) → List (S65) → List (S66) → Int → Bool → Option (Bool)
 | 0, _, _, _, _, _, _, _ => none
 | k + 1, x0, x5, x6, x7, x8, x9, x32 => if x32 = true then (if 0 ≤ x9 then (if x9 < (x0.length : Int) then (if 0 ≤ (mn (((rd_T63 x0 x9).f0).size : Int) 20) then (if (mn (((rd_T63 x0 x9).f0).size : Int) 20) ≤ (((rd_T63 x0 x9).f0).size : Int) then ((tuple_Name.f k (((rd_T63 x0 x9).f0).extract 0 ((mn (((rd_T63 x0 x9).f0).size : Int) 20) : Int).toNat)).bind fun t351 => ((concordanceref19_Name.f k (((rd_T63 x0 x9).f0).extract 0 ((mn (((rd_T63 x0 x9).f0).size : Int) 20) : Int).toNat)).bind fun t352 => (if (t351 != t352) = true then (none) else ((some (([(⟨((rd_T63 x0 x9).f0).extract 0 ((mn (((rd_T63 x0 x9).f0).size : Int) 20) : Int).toNat, (rd_T63 x0 x9).f1⟩ : S65)] : List (S65)) : List (S65))).bind fun y353 => (if x7.length + y353.length < 5864062014805 then ((some (([(⟨((rd_T63 x0 x9).f0).extract 0 ((mn (((rd_T63 x0 x9).f0).size : Int) 20) : Int).toNat, (rd_T63 x0 x9).f1⟩ : S66)] : List (S66)) : List (S66))).bind fun y359 => (if x8.length + y359.length < 5864062014805 then (concordancelaw19_TupleRows.l0 k x0 x5 x6 (x7 ++ y353) (x8 ++ y359) (wrap64 (x9 + 1))) else (none))) else (none)))))) else (none)) else (none)) else (none)) else (none)) else ((tuple_Good.f x7).bind fun t365 => ((concordanceref19_Good.f k x8).bind fun t366 => (if (t365 != t366) = true then (concordancelaw19_TupleRows.j2 k x5 x6 true) else ((tuple_Fits.f k x7 x5).bind fun t367 => ((concordanceref19_Fits.f k x8 x6).bind fun t368 => (concordancelaw19_TupleRows.j2 k x5 x6 (t367 != t368)))))))
def concordancelaw19_TupleRows.j2 : Nat → List (S25) → List (S26) → Bool → Option (Bool)
 | 0, _, _, _ => none
 | k + 1, x5, x6, x82 => if x82 = true then (none) else ((tuple_Put.f k x5).bind fun bt369 => ((concordanceref19_Put.f k x6).bind fun bt371 => (if bt369.1.toList = bt371.1.toList then (concordancelaw19_TupleRows.j3 k x5 bt369.1 bt371.2 (bt369.2 != bt371.2)) else (concordancelaw19_TupleRows.j3 k x5 bt369.1 bt371.2 true))))
def concordancelaw19_TupleRows.j3 : Nat → List (S25) → ByteArray → Int → Bool → Option (Bool)
 | 0, _, _, _, _ => none
 | k + 1, x5, x11, x14, x100 => if x100 = true then (none) else ((tuple_Get.f k x11).bind fun bt373 => (if x14 = 0 then (if bt373.2 = 0 then (concordancelaw19_TupleRows.j4 k x5 bt373.1 ((bt373.1.length : Int) != (x5.length : Int))) else (concordancelaw19_TupleRows.j4 k x5 bt373.1 true)) else (some true)))
def concordancelaw19_TupleRows.j4 : Nat → List (S25) → List (S25) → Bool → Option (Bool)
 | 0, _, _, _ => none
 | k + 1, x5, x15, x116 => if x116 = true then (none) else (concordancelaw19_TupleRows.l1 k x5 x15 0)
def concordancelaw19_TupleRows.l1 : Nat → List (S25) → List (S25) → Int → Option (Bool)
 | 0, _, _, _ => none
 | k + 1, x5, x15, x17 => if x17 < (x5.length : Int) then (if 0 ≤ x17 then (if x17 < (x15.length : Int) then (if (!((((rd_T25 x15 x17).f0).toList) == (((rd_T25 x5 x17).f0).toList)) || (!(((rd_T25 x15 x17).f1) == ((rd_T25 x5 x17).f1)) || (!(((rd_T25 x15 x17).f2) == ((rd_T25 x5 x17).f2))))) = true then (none) else (concordancelaw19_TupleRows.l1 k x5 x15 (wrap64 (x17 + 1)))) else (none)) else (none)) else (some true)
end
def concordancelaw19_TupleRows.f (k : Nat) (l0 : List (S63)) (l1 : List (S23)) : Option (Bool) := (concordancelaw19_speaks.f k).bind fun t340 => (if t340 = true then ((concordancelaw19_both.f k l1).bind fun bt341 => (concordancelaw19_TupleRows.l0 k l0 bt341.1 bt341.2 ([] : List (S65)) ([] : List (S66)) 0)) else (none))
theorem concordancelaw19_TupleRows.mono_l : ∀ k, (∀ y0 y1 y2 y3 y4 y5, LeO (concordancelaw19_TupleRows.l0 k y0 y1 y2 y3 y4 y5) (concordancelaw19_TupleRows.l0 (k + 1) y0 y1 y2 y3 y4 y5)) ∧ (∀ y0 y1 y2 y3 y4 y5 y6, LeO (concordancelaw19_TupleRows.j1 k y0 y1 y2 y3 y4 y5 y6) (concordancelaw19_TupleRows.j1 (k + 1) y0 y1 y2 y3 y4 y5 y6)) ∧ (∀ y0 y1 y2, LeO (concordancelaw19_TupleRows.j2 k y0 y1 y2) (concordancelaw19_TupleRows.j2 (k + 1) y0 y1 y2)) ∧ (∀ y0 y1 y2 y3, LeO (concordancelaw19_TupleRows.j3 k y0 y1 y2 y3) (concordancelaw19_TupleRows.j3 (k + 1) y0 y1 y2 y3)) ∧ (∀ y0 y1 y2, LeO (concordancelaw19_TupleRows.j4 k y0 y1 y2) (concordancelaw19_TupleRows.j4 (k + 1) y0 y1 y2)) ∧ (∀ y0 y1 y2, LeO (concordancelaw19_TupleRows.l1 k y0 y1 y2) (concordancelaw19_TupleRows.l1 (k + 1) y0 y1 y2))
 | 0 => ⟨fun _ _ _ _ _ _ r h => by simp [concordancelaw19_TupleRows.l0] at h, fun _ _ _ _ _ _ _ r h => by simp [concordancelaw19_TupleRows.j1] at h, fun _ _ _ r h => by simp [concordancelaw19_TupleRows.j2] at h, fun _ _ _ _ r h => by simp [concordancelaw19_TupleRows.j3] at h, fun _ _ _ r h => by simp [concordancelaw19_TupleRows.j4] at h, fun _ _ _ r h => by simp [concordancelaw19_TupleRows.l1] at h⟩
 | k + 1 => by
  obtain ⟨ih0, ih1, ih2, ih3, ih4, ih5⟩ := concordancelaw19_TupleRows.mono_l k
  refine ⟨?_, ?_, ?_, ?_, ?_, ?_⟩
  ·intro y0 y1 y2 y3 y4 y5
   unfold concordancelaw19_TupleRows.l0
   repeat' first
   | (with_reducible exact ih0 _ _ _ _ _ _)
   | (with_reducible exact ih1 _ _ _ _ _ _ _)
   | (with_reducible exact ih2 _ _ _)
   | (with_reducible exact ih3 _ _ _ _)
   | (with_reducible exact ih4 _ _ _)
   | (with_reducible exact ih5 _ _ _)
   | (with_reducible exact concordancelaw19_both.mono _ _)
   | (with_reducible exact concordancelaw19_speaks.mono _)
   | (with_reducible exact concordanceref19_Fits.mono _ _ _)
   | (with_reducible exact concordanceref19_Good.mono _ _)
   | (with_reducible exact concordanceref19_Name.mono _ _)
   | (with_reducible exact concordanceref19_Put.mono _ _)
   | (with_reducible exact tuple_Fits.mono _ _ _)
   | (with_reducible exact tuple_Get.mono _ _)
   | (with_reducible exact tuple_Name.mono _ _)
   | (with_reducible exact tuple_Put.mono _ _)
   | (with_reducible exact LeO.refl _)
   | (with_reducible exact LeO.none _)
   | (with_reducible refine LeO.ite ?_ ?_)
   | (with_reducible refine LeO.bind ?_ (fun _ => ?_))
   | exact ih0 _ _ _ _ _ _
   | exact ih1 _ _ _ _ _ _ _
   | exact ih2 _ _ _
   | exact ih3 _ _ _ _
   | exact ih4 _ _ _
   | exact ih5 _ _ _
   | exact concordancelaw19_both.mono _ _
   | exact concordancelaw19_speaks.mono _
   | exact concordanceref19_Fits.mono _ _ _
   | exact concordanceref19_Good.mono _ _
   | exact concordanceref19_Name.mono _ _
   | exact concordanceref19_Put.mono _ _
   | exact tuple_Fits.mono _ _ _
   | exact tuple_Get.mono _ _
   | exact tuple_Name.mono _ _
   | exact tuple_Put.mono _ _
   | exact LeO.none _
   | refine LeO.ite ?_ ?_
   | refine LeO.bind ?_ (fun _ => ?_)
  ·intro y0 y1 y2 y3 y4 y5 y6
   unfold concordancelaw19_TupleRows.j1
   repeat' first
   | (with_reducible exact ih0 _ _ _ _ _ _)
   | (with_reducible exact ih1 _ _ _ _ _ _ _)
   | (with_reducible exact ih2 _ _ _)
   | (with_reducible exact ih3 _ _ _ _)
   | (with_reducible exact ih4 _ _ _)
   | (with_reducible exact ih5 _ _ _)
   | (with_reducible exact concordancelaw19_both.mono _ _)
   | (with_reducible exact concordancelaw19_speaks.mono _)
   | (with_reducible exact concordanceref19_Fits.mono _ _ _)
   | (with_reducible exact concordanceref19_Good.mono _ _)
   | (with_reducible exact concordanceref19_Name.mono _ _)
   | (with_reducible exact concordanceref19_Put.mono _ _)
   | (with_reducible exact tuple_Fits.mono _ _ _)
   | (with_reducible exact tuple_Get.mono _ _)
   | (with_reducible exact tuple_Name.mono _ _)
   | (with_reducible exact tuple_Put.mono _ _)
   | (with_reducible exact LeO.refl _)
   | (with_reducible exact LeO.none _)
   | (with_reducible refine LeO.ite ?_ ?_)
   | (with_reducible refine LeO.bind ?_ (fun _ => ?_))
   | exact ih0 _ _ _ _ _ _
   | exact ih1 _ _ _ _ _ _ _
   | exact ih2 _ _ _
   | exact ih3 _ _ _ _
   | exact ih4 _ _ _
   | exact ih5 _ _ _
   | exact concordancelaw19_both.mono _ _
   | exact concordancelaw19_speaks.mono _
   | exact concordanceref19_Fits.mono _ _ _
   | exact concordanceref19_Good.mono _ _
   | exact concordanceref19_Name.mono _ _
   | exact concordanceref19_Put.mono _ _
   | exact tuple_Fits.mono _ _ _
   | exact tuple_Get.mono _ _
   | exact tuple_Name.mono _ _
   | exact tuple_Put.mono _ _
   | exact LeO.none _
   | refine LeO.ite ?_ ?_
   | refine LeO.bind ?_ (fun _ => ?_)
  ·intro y0 y1 y2
   unfold concordancelaw19_TupleRows.j2
   repeat' first
   | (with_reducible exact ih0 _ _ _ _ _ _)
   | (with_reducible exact ih1 _ _ _ _ _ _ _)
   | (with_reducible exact ih2 _ _ _)
   | (with_reducible exact ih3 _ _ _ _)
   | (with_reducible exact ih4 _ _ _)
   | (with_reducible exact ih5 _ _ _)
   | (with_reducible exact concordancelaw19_both.mono _ _)
   | (with_reducible exact concordancelaw19_speaks.mono _)
   | (with_reducible exact concordanceref19_Fits.mono _ _ _)
   | (with_reducible exact concordanceref19_Good.mono _ _)
   | (with_reducible exact concordanceref19_Name.mono _ _)
   | (with_reducible exact concordanceref19_Put.mono _ _)
   | (with_reducible exact tuple_Fits.mono _ _ _)
   | (with_reducible exact tuple_Get.mono _ _)
   | (with_reducible exact tuple_Name.mono _ _)
   | (with_reducible exact tuple_Put.mono _ _)
   | (with_reducible exact LeO.refl _)
   | (with_reducible exact LeO.none _)
   | (with_reducible refine LeO.ite ?_ ?_)
   | (with_reducible refine LeO.bind ?_ (fun _ => ?_))
   | exact ih0 _ _ _ _ _ _
   | exact ih1 _ _ _ _ _ _ _
   | exact ih2 _ _ _
   | exact ih3 _ _ _ _
   | exact ih4 _ _ _
   | exact ih5 _ _ _
   | exact concordancelaw19_both.mono _ _
   | exact concordancelaw19_speaks.mono _
   | exact concordanceref19_Fits.mono _ _ _
   | exact concordanceref19_Good.mono _ _
   | exact concordanceref19_Name.mono _ _
   | exact concordanceref19_Put.mono _ _
   | exact tuple_Fits.mono _ _ _
   | exact tuple_Get.mono _ _
   | exact tuple_Name.mono _ _
   | exact tuple_Put.mono _ _
   | exact LeO.none _
   | refine LeO.ite ?_ ?_
   | refine LeO.bind ?_ (fun _ => ?_)
  ·intro y0 y1 y2 y3
   unfold concordancelaw19_TupleRows.j3
   repeat' first
   | (with_reducible exact ih0 _ _ _ _ _ _)
   | (with_reducible exact ih1 _ _ _ _ _ _ _)
   | (with_reducible exact ih2 _ _ _)
   | (with_reducible exact ih3 _ _ _ _)
   | (with_reducible exact ih4 _ _ _)
   | (with_reducible exact ih5 _ _ _)
   | (with_reducible exact concordancelaw19_both.mono _ _)
   | (with_reducible exact concordancelaw19_speaks.mono _)
   | (with_reducible exact concordanceref19_Fits.mono _ _ _)
   | (with_reducible exact concordanceref19_Good.mono _ _)
   | (with_reducible exact concordanceref19_Name.mono _ _)
   | (with_reducible exact concordanceref19_Put.mono _ _)
   | (with_reducible exact tuple_Fits.mono _ _ _)
   | (with_reducible exact tuple_Get.mono _ _)
   | (with_reducible exact tuple_Name.mono _ _)
   | (with_reducible exact tuple_Put.mono _ _)
   | (with_reducible exact LeO.refl _)
   | (with_reducible exact LeO.none _)
   | (with_reducible refine LeO.ite ?_ ?_)
   | (with_reducible refine LeO.bind ?_ (fun _ => ?_))
   | exact ih0 _ _ _ _ _ _
   | exact ih1 _ _ _ _ _ _ _
   | exact ih2 _ _ _
   | exact ih3 _ _ _ _
   | exact ih4 _ _ _
   | exact ih5 _ _ _
   | exact concordancelaw19_both.mono _ _
   | exact concordancelaw19_speaks.mono _
   | exact concordanceref19_Fits.mono _ _ _
   | exact concordanceref19_Good.mono _ _
   | exact concordanceref19_Name.mono _ _
   | exact concordanceref19_Put.mono _ _
   | exact tuple_Fits.mono _ _ _
   | exact tuple_Get.mono _ _
   | exact tuple_Name.mono _ _
   | exact tuple_Put.mono _ _
   | exact LeO.none _
   | refine LeO.ite ?_ ?_
   | refine LeO.bind ?_ (fun _ => ?_)
  ·intro y0 y1 y2
   unfold concordancelaw19_TupleRows.j4
   repeat' first
   | (with_reducible exact ih0 _ _ _ _ _ _)
   | (with_reducible exact ih1 _ _ _ _ _ _ _)
   | (with_reducible exact ih2 _ _ _)
   | (with_reducible exact ih3 _ _ _ _)
   | (with_reducible exact ih4 _ _ _)
   | (with_reducible exact ih5 _ _ _)
   | (with_reducible exact concordancelaw19_both.mono _ _)
   | (with_reducible exact concordancelaw19_speaks.mono _)
   | (with_reducible exact concordanceref19_Fits.mono _ _ _)
   | (with_reducible exact concordanceref19_Good.mono _ _)
   | (with_reducible exact concordanceref19_Name.mono _ _)
   | (with_reducible exact concordanceref19_Put.mono _ _)
   | (with_reducible exact tuple_Fits.mono _ _ _)
   | (with_reducible exact tuple_Get.mono _ _)
   | (with_reducible exact tuple_Name.mono _ _)
   | (with_reducible exact tuple_Put.mono _ _)
   | (with_reducible exact LeO.refl _)
   | (with_reducible exact LeO.none _)
   | (with_reducible refine LeO.ite ?_ ?_)
   | (with_reducible refine LeO.bind ?_ (fun _ => ?_))
   | exact ih0 _ _ _ _ _ _
   | exact ih1 _ _ _ _ _ _ _
   | exact ih2 _ _ _
   | exact ih3 _ _ _ _
   | exact ih4 _ _ _
   | exact ih5 _ _ _
   | exact concordancelaw19_both.mono _ _
   | exact concordancelaw19_speaks.mono _
   | exact concordanceref19_Fits.mono _ _ _
   | exact concordanceref19_Good.mono _ _
   | exact concordanceref19_Name.mono _ _
   | exact concordanceref19_Put.mono _ _
   | exact tuple_Fits.mono _ _ _
   | exact tuple_Get.mono _ _
   | exact tuple_Name.mono _ _
   | exact tuple_Put.mono _ _
   | exact LeO.none _
   | refine LeO.ite ?_ ?_
   | refine LeO.bind ?_ (fun _ => ?_)
  ·intro y0 y1 y2
   unfold concordancelaw19_TupleRows.l1
   repeat' first
   | (with_reducible exact ih0 _ _ _ _ _ _)
   | (with_reducible exact ih1 _ _ _ _ _ _ _)
   | (with_reducible exact ih2 _ _ _)
   | (with_reducible exact ih3 _ _ _ _)
   | (with_reducible exact ih4 _ _ _)
   | (with_reducible exact ih5 _ _ _)
   | (with_reducible exact concordancelaw19_both.mono _ _)
   | (with_reducible exact concordancelaw19_speaks.mono _)
   | (with_reducible exact concordanceref19_Fits.mono _ _ _)
   | (with_reducible exact concordanceref19_Good.mono _ _)
   | (with_reducible exact concordanceref19_Name.mono _ _)
   | (with_reducible exact concordanceref19_Put.mono _ _)
   | (with_reducible exact tuple_Fits.mono _ _ _)
   | (with_reducible exact tuple_Get.mono _ _)
   | (with_reducible exact tuple_Name.mono _ _)
   | (with_reducible exact tuple_Put.mono _ _)
   | (with_reducible exact LeO.refl _)
   | (with_reducible exact LeO.none _)
   | (with_reducible refine LeO.ite ?_ ?_)
   | (with_reducible refine LeO.bind ?_ (fun _ => ?_))
   | exact ih0 _ _ _ _ _ _
   | exact ih1 _ _ _ _ _ _ _
   | exact ih2 _ _ _
   | exact ih3 _ _ _ _
   | exact ih4 _ _ _
   | exact ih5 _ _ _
   | exact concordancelaw19_both.mono _ _
   | exact concordancelaw19_speaks.mono _
   | exact concordanceref19_Fits.mono _ _ _
   | exact concordanceref19_Good.mono _ _
   | exact concordanceref19_Name.mono _ _
   | exact concordanceref19_Put.mono _ _
   | exact tuple_Fits.mono _ _ _
   | exact tuple_Get.mono _ _
   | exact tuple_Name.mono _ _
   | exact tuple_Put.mono _ _
   | exact LeO.none _
   | refine LeO.ite ?_ ?_
   | refine LeO.bind ?_ (fun _ => ?_)
theorem concordancelaw19_TupleRows.mono : ∀ a0 a1 k, LeO (concordancelaw19_TupleRows.f k a0 a1) (concordancelaw19_TupleRows.f (k + 1) a0 a1) := by
 intro a0 a1 k
 obtain ⟨ih0, ih1, ih2, ih3, ih4, ih5⟩ := concordancelaw19_TupleRows.mono_l k
 unfold concordancelaw19_TupleRows.f
 repeat' first
   | (with_reducible exact ih0 _ _ _ _ _ _)
   | (with_reducible exact ih1 _ _ _ _ _ _ _)
   | (with_reducible exact ih2 _ _ _)
   | (with_reducible exact ih3 _ _ _ _)
   | (with_reducible exact ih4 _ _ _)
   | (with_reducible exact ih5 _ _ _)
   | (with_reducible exact concordancelaw19_both.mono _ _)
   | (with_reducible exact concordancelaw19_speaks.mono _)
   | (with_reducible exact concordanceref19_Fits.mono _ _ _)
   | (with_reducible exact concordanceref19_Good.mono _ _)
   | (with_reducible exact concordanceref19_Name.mono _ _)
   | (with_reducible exact concordanceref19_Put.mono _ _)
   | (with_reducible exact tuple_Fits.mono _ _ _)
   | (with_reducible exact tuple_Get.mono _ _)
   | (with_reducible exact tuple_Name.mono _ _)
   | (with_reducible exact tuple_Put.mono _ _)
   | (with_reducible exact LeO.refl _)
   | (with_reducible exact LeO.none _)
   | (with_reducible refine LeO.ite ?_ ?_)
   | (with_reducible refine LeO.bind ?_ (fun _ => ?_))
   | exact ih0 _ _ _ _ _ _
   | exact ih1 _ _ _ _ _ _ _
   | exact ih2 _ _ _
   | exact ih3 _ _ _ _
   | exact ih4 _ _ _
   | exact ih5 _ _ _
   | exact concordancelaw19_both.mono _ _
   | exact concordancelaw19_speaks.mono _
   | exact concordanceref19_Fits.mono _ _ _
   | exact concordanceref19_Good.mono _ _
   | exact concordanceref19_Name.mono _ _
   | exact concordanceref19_Put.mono _ _
   | exact tuple_Fits.mono _ _ _
   | exact tuple_Get.mono _ _
   | exact tuple_Name.mono _ _
   | exact tuple_Put.mono _ _
   | exact LeO.none _
   | refine LeO.ite ?_ ?_
   | refine LeO.bind ?_ (fun _ => ?_)
def concordancelaw19_TupleRows.T9 : Bool × List (List Nat × List Nat) := (true, [([], []), ([], []), ([0, 1], [0, 1]), ([2], [2]), ([3], [3]), ([], []), ([], []), ([5, 6], [5, 6]), ([7], [7]), ([8], [8]), ([9], [9]), ([10], [10]), ([4, 11], [4, 11]), ([], []), ([], []), ([13, 14], [13, 14]), ([15], [15]), ([16], [16]), ([12, 17], [12, 17]), ([], []), ([19, 18, 0, 1, 2, 3, 4, 5, 6, 7, 8, 9, 10, 11, 12, 13, 14, 15, 16, 17, 18, 19], [18, 19])])
def concordancelaw19_TupleRows.B9 : List Nat := [0, 0, 3, 7, 15, 0, 0, 96, 224, 480, 992, 2016, 4095, 0, 0, 24576, 57344, 122880, 262143, 0, 1048575]
theorem concordancelaw19_TupleRows.tab9 : rtab .any (opsOf Tryd.f7 9) = concordancelaw19_TupleRows.T9 := by kernel_rfl
theorem concordancelaw19_TupleRows.bits9 : waitsOk concordancelaw19_TupleRows.T9.2 concordancelaw19_TupleRows.B9 = true := by kernel_rfl
def concordancelaw19_TupleRows.T12 : Bool × List (List Nat × List Nat) := (true, [([], []), ([], []), ([1], [1]), ([0, 2], [0, 2]), ([], []), ([], []), ([5], [5]), ([4, 6, 3], [4, 6]), ([3, 7, 0, 1, 2, 3], [0, 3]), ([7, 8, 0, 1, 2, 3, 4, 5, 6, 7, 8], [4, 7])])
def concordancelaw19_TupleRows.B12 : List Nat := [0, 0, 2, 7, 0, 0, 32, 127, 255, 511]
theorem concordancelaw19_TupleRows.tab12 : rtab .any (opsOf Tryd.f7 12) = concordancelaw19_TupleRows.T12 := by kernel_rfl
theorem concordancelaw19_TupleRows.bits12 : waitsOk concordancelaw19_TupleRows.T12.2 concordancelaw19_TupleRows.B12 = true := by kernel_rfl
def concordancelaw19_TupleRows.T27 : Bool × List (List Nat × List Nat) := (true, [([], []), ([], []), ([0, 1], [0, 1]), ([2], [2]), ([], []), ([], []), ([4, 5], [4, 5]), ([6], [6]), ([3, 7], [3, 7])])
def concordancelaw19_TupleRows.B27 : List Nat := [0, 0, 3, 7, 0, 0, 48, 112, 255]
theorem concordancelaw19_TupleRows.tab27 : rtab .any (opsOf Tryd.f7 27) = concordancelaw19_TupleRows.T27 := by kernel_rfl
theorem concordancelaw19_TupleRows.bits27 : waitsOk concordancelaw19_TupleRows.T27.2 concordancelaw19_TupleRows.B27 = true := by kernel_rfl
set_option maxHeartbeats 8000000 in
set_option maxRecDepth 100000 in
theorem concordancelaw19_TupleRows.calls (k : Nat) (A0 : Option Addr) (c0 : Nat) (l0 : List (S63)) (A1 : Option Addr) (c1 : Nat) (l1 : List (S23)) (r : Bool) (w : World) (hr0 : Kd.C k63 w A0 l0.length l0) (hc0 : l0.length ≤ c0) (hr1 : Kd.C k23 w A1 l1.length l1) (hc1 : l1.length ≤ c1) (h : concordancelaw19_TupleRows.f k l0 l1 = some r) :
  Calls Tryd.prog 7 #[.slice A0 l0.length c0, .slice A1 l1.length c1] w fun e w' => e = .returned (.bool r) ∧ Below w.heap.size w w' := by
 have hu63 := Tryd.underlying63
 have hu25 := Tryd.underlying25
 have HR0 := Aside0.mk hr0
 have HC0 := Aside0.mk hc0
 clear hr0 hc0
 have HR1 := Aside0.mk hr1
 have HC1 := Aside0.mk hc1
 clear hr1 hc1
 have HB := Aside0.mk (Below.refl w.heap.size w)
 have H : ((concordancelaw19_speaks.f k).bind fun t340 => (if t340 = true then ((concordancelaw19_both.f k l1).bind fun bt341 => (concordancelaw19_TupleRows.l0 k l0 bt341.1 bt341.2 ([] : List (S65)) ([] : List (S66)) 0)) else (none))) = some r := h
 clear h
 replace H := Option.bind_eq_some_iff.mp H
 obtain ⟨t340, A30, H⟩ := H
 replace H : (if t340 = true then ((concordancelaw19_both.f k l1).bind fun bt341 => (concordancelaw19_TupleRows.l0 k l0 bt341.1 bt341.2 ([] : List (S65)) ([] : List (S66)) 0)) else (none)) = some r := H
 have A3 := Aside0.mk A30
 clear A30
 by_cases c4 : t340 = true
 ·subst c4
  have H1 : ((concordancelaw19_both.f k l1).bind fun bt341 => (concordancelaw19_TupleRows.l0 k l0 bt341.1 bt341.2 ([] : List (S65)) ([] : List (S66)) 0)) = some r := by rw [if_pos rfl] at H; exact H
  clear H
  have H := H1
  clear H1
  replace H := Option.bind_eq_some_iff.mp H
  obtain ⟨⟨t341, t342⟩, A50, H⟩ := H
  replace H : (concordancelaw19_TupleRows.l0 k l0 t341 t342 ([] : List (S65)) ([] : List (S66)) 0) = some r := H
  have A5 := Aside0.mk A50
  clear A50
  have H' := Aside0.mk H
  clear H
  go_enter Tryd.func7, Tryd.ntmps7
  go_wp2_with (first | ((with_reducible refine gate_callee (f := 8) rfl ?_); refine goesL_ (some 18) rfl rfl Tryd.func8 (by kernel_rfl) rfl #[] rfl (by (try simp only [List.map_toArray, List.map_cons, List.map_nil]); first | done | rfl | (simp only [List.length_drop, List.length_take]; rfl)) ?_; (with_reducible refine (concordancelaw19_speaks.calls k  true _ A3.out).mono ?_); rintro e w6 ⟨rfl, hb⟩; refine ⟨_, rfl, ?_⟩; have n0_ := Aside0.mk (below_step (by repeat (first | (with_reducible first | exact HB.out | apply below_alloc | apply pw_below_drewN | apply below_drew1) | exact HB.out)) hb); clear HB; have HB := n0_; clear n0_; (try clear hb); (try clear hb2); (try clear hk); (try clear hi)) | ((with_reducible refine gate_callee (f := 22) rfl ?_); refine goesL_ (some 22) rfl rfl Tryd.func22 (by kernel_rfl) rfl #[.slice A1 l1.length c1] rfl (by (try simp only [List.map_toArray, List.map_cons, List.map_nil]); first | done | rfl | (simp only [List.length_drop, List.length_take]; rfl)) ?_; (with_reducible refine (concordancelaw19_both.calls k _ _ l1 t341 t342 _ ?side1 ?side2 A5.out).mono ?_); (case side1 => repeat (first | exact (Kd.C_below HR1.out HB.out) | (with_reducible refine Kd.C_alloc ?_ _) | (with_reducible refine Kd.C_drewN ?_ _) | (with_reducible refine Kd.C_drew ?_))); (case side2 => exact HC1.out); rintro e w7 ⟨v343, v345, rfl, ho0, ho1, hb⟩; refine ⟨_, rfl, ?_⟩; have n0_ := Aside0.mk (Kd.R_lower ho0 (below_size (by repeat (first | (with_reducible first | exact HB.out | apply below_alloc | apply pw_below_drewN | apply below_drew1) | exact HB.out)))); have n1_ := Aside0.mk (Kd.R_lower ho1 (below_size (by repeat (first | (with_reducible first | exact HB.out | apply below_alloc | apply pw_below_drewN | apply below_drew1) | exact HB.out)))); have n2_ := Aside0.mk (below_step (by repeat (first | (with_reducible first | exact HB.out | apply below_alloc | apply pw_below_drewN | apply below_drew1) | exact HB.out)) hb); clear HB; have HO344 := n0_; have HO346 := n1_; have HB := n2_; clear n0_ n1_ n2_; (try clear hb); (try clear hb2); (try clear hk); (try clear hi); (try clear ho0); (try clear ho1)))
  go_loopg [7, 8, 9] k (fun kq v7 v8 v9 w' => ∃ (x7_1 : List (S65)) (x8_1 : List (S66)) (x9_1 : Int), v9 = .int .i64 x9_1 ∧ Aside0 (concordancelaw19_TupleRows.l0 kq l0 t341 t342 x7_1 x8_1 x9_1 = some r) ∧ Aside0 (kq ≤ k) ∧ Aside0 (Kd.R k25 25 w' w.heap.size (fun _ => True) v343 t341) ∧ Aside0 (Kd.R k26 26 w' w.heap.size (fun _ => True) v345 t342) ∧ Aside0 (Kd.R k65 65 w' w.heap.size (fun _ => True) v7 x7_1) ∧ Aside0 (Kd.R k66 66 w' w.heap.size (fun _ => True) v8 x8_1) ∧ Aside0 (Below w.heap.size w w'))
  case atStart => exact ⟨(([] : List (S65))), (([] : List (S66))), (0), (by first | rfl | (simp; done) | (simp [*]; done)), H', ⟨Nat.le_refl _⟩, ⟨by (with_reducible repeat (first | apply Kd.R_alloc | apply Kd.R_drewN | apply Kd.R_drew)); exact HO344.out⟩, ⟨by (with_reducible repeat (first | apply Kd.R_alloc | apply Kd.R_drewN | apply Kd.R_drew)); exact HO346.out⟩, ⟨by first | exact Kd.R_nil _ _ _ _ _ | exact Kd.N_nil _ _ _ _ _ | exact Kd.V_nil _ _ _ _ _ | exact Kd.Q_nil _ _ _ _ _ | exact Kd.S_nil _ _ _ _ _⟩, ⟨by first | exact Kd.R_nil _ _ _ _ _ | exact Kd.N_nil _ _ _ _ _ | exact Kd.V_nil _ _ _ _ _ | exact Kd.Q_nil _ _ _ _ _ | exact Kd.S_nil _ _ _ _ _⟩, ⟨by repeat (first | (with_reducible first | exact HB.out | apply below_alloc | apply pw_below_drewN | apply below_drew1) | exact HB.out)⟩⟩
  case round =>
   clear H'
   try clear c1
   try clear c2
   try clear p2
   try clear c4
   try clear c7
   obtain ⟨x7_1, x8_1, x9_1, rfl, HA, HK1, HO_5, HO_6, HO_7, HO_8, HB⟩ := hrel
   cases gk with
   | zero => exact absurd HA.out (by simp [concordancelaw19_TupleRows.l0])
   | succ k1 =>
    have H := HA.out
    clear HA
    simp only [concordancelaw19_TupleRows.l0] at H
    have HC8 := Aside0.mk H
    clear H
    go_upto_region 7 with (fail)
    go_cut [32] (fun v32 wc => ∃ (kq : Nat) (x32_7 : Bool), v32 = .bool x32_7 ∧ Aside0 (concordancelaw19_TupleRows.j1 kq l0 t341 t342 x7_1 x8_1 x9_1 x32_7 = some r) ∧ Aside0 (kq ≤ k1) ∧ Aside0 (Kd.R k25 25 wc w.heap.size (fun _ => True) v343 t341) ∧ Aside0 (Kd.R k26 26 wc w.heap.size (fun _ => True) v345 t342) ∧ Aside0 (Kd.R k65 65 wc w.heap.size (fun _ => True) u7 x7_1) ∧ Aside0 (Kd.R k66 66 wc w.heap.size (fun _ => True) u8 x8_1) ∧ Aside0 (Below w.heap.size w wc))
    case first =>
     have H := HC8.out
     clear HC8
     by_cases c9 : x9_1 < (l0.length : Int)
     ·rw [if_pos c9] at H
      have c9b0 : decide (x9_1 < (l0.length : Int)) = true := decide_eq_true c9
      clear c9
      (first | rw [c9b0] | (simp only [i64_w, i32_w]; rw [c9b0]) | skip)
      have H' := Aside0.mk H
      clear H
      go_wp2
      go_meet
      case rel => exact ⟨_, (decide (x9_1 < 8)), (by first | rfl | (simp; done) | (simp [*]; done)), H', ⟨by have := HK1.out; first | omega | exact Nat.le_refl _⟩, ⟨by (with_reducible repeat (first | apply Kd.R_alloc | apply Kd.R_drewN | apply Kd.R_drew)); exact HO_5.out⟩, ⟨by (with_reducible repeat (first | apply Kd.R_alloc | apply Kd.R_drewN | apply Kd.R_drew)); exact HO_6.out⟩, ⟨by (with_reducible repeat (first | apply Kd.R_alloc | apply Kd.R_drewN | apply Kd.R_drew)); exact HO_7.out⟩, ⟨by (with_reducible repeat (first | apply Kd.R_alloc | apply Kd.R_drewN | apply Kd.R_drew)); exact HO_8.out⟩, ⟨by repeat (first | (with_reducible first | exact HB.out | apply below_alloc | apply pw_below_drewN | apply below_drew1) | exact HB.out)⟩⟩
     ·rw [if_neg c9] at H
      have c9b0 : decide (x9_1 < (l0.length : Int)) = false := decide_eq_false c9
      clear c9
      (first | rw [c9b0] | (simp only [i64_w, i32_w]; rw [c9b0]) | skip)
      have H' := Aside0.mk H
      clear H
      go_wp2
      go_meet
      case rel => exact ⟨_, (false), (by first | rfl | (simp; done) | (simp [*]; done)), H', ⟨by have := HK1.out; first | omega | exact Nat.le_refl _⟩, ⟨by (with_reducible repeat (first | apply Kd.R_alloc | apply Kd.R_drewN | apply Kd.R_drew)); exact HO_5.out⟩, ⟨by (with_reducible repeat (first | apply Kd.R_alloc | apply Kd.R_drewN | apply Kd.R_drew)); exact HO_6.out⟩, ⟨by (with_reducible repeat (first | apply Kd.R_alloc | apply Kd.R_drewN | apply Kd.R_drew)); exact HO_7.out⟩, ⟨by (with_reducible repeat (first | apply Kd.R_alloc | apply Kd.R_drewN | apply Kd.R_drew)); exact HO_8.out⟩, ⟨by repeat (first | (with_reducible first | exact HB.out | apply below_alloc | apply pw_below_drewN | apply below_drew1) | exact HB.out)⟩⟩
    case rest =>
     clear HC8
     try clear c1
     try clear c2
     try clear p2
     try clear c4
     try clear c7
     try clear c8
     try clear c9
     try clear c9b0
     try clear p2
     obtain ⟨kq, x32_7, rfl, HA, HJ7, HO_5, HO_6, HO_7, HO_8, HB⟩ := hcut
     cases kq with
     | zero => exact absurd HA.out (by simp [concordancelaw19_TupleRows.j1])
     | succ kj7 =>
      have H := HA.out
      clear HA
      simp only [concordancelaw19_TupleRows.j1] at H
      by_cases c10 : x32_7 = true
      ·subst c10
       have H1 : (if 0 ≤ x9_1 then (if x9_1 < (l0.length : Int) then (if 0 ≤ (mn (((rd_T63 l0 x9_1).f0).size : Int) 20) then (if (mn (((rd_T63 l0 x9_1).f0).size : Int) 20) ≤ (((rd_T63 l0 x9_1).f0).size : Int) then ((tuple_Name.f kj7 (((rd_T63 l0 x9_1).f0).extract 0 ((mn (((rd_T63 l0 x9_1).f0).size : Int) 20) : Int).toNat)).bind fun t351 => ((concordanceref19_Name.f kj7 (((rd_T63 l0 x9_1).f0).extract 0 ((mn (((rd_T63 l0 x9_1).f0).size : Int) 20) : Int).toNat)).bind fun t352 => (if (t351 != t352) = true then (none) else ((some (([(⟨((rd_T63 l0 x9_1).f0).extract 0 ((mn (((rd_T63 l0 x9_1).f0).size : Int) 20) : Int).toNat, (rd_T63 l0 x9_1).f1⟩ : S65)] : List (S65)) : List (S65))).bind fun y353 => (if x7_1.length + y353.length < 5864062014805 then ((some (([(⟨((rd_T63 l0 x9_1).f0).extract 0 ((mn (((rd_T63 l0 x9_1).f0).size : Int) 20) : Int).toNat, (rd_T63 l0 x9_1).f1⟩ : S66)] : List (S66)) : List (S66))).bind fun y359 => (if x8_1.length + y359.length < 5864062014805 then (concordancelaw19_TupleRows.l0 kj7 l0 t341 t342 (x7_1 ++ y353) (x8_1 ++ y359) (wrap64 (x9_1 + 1))) else (none))) else (none)))))) else (none)) else (none)) else (none)) else (none)) = some r := by rw [if_pos rfl] at H; exact H
       clear H
       have H := H1
       clear H1
       by_cases c11 : 0 ≤ x9_1
       ·rw [if_pos c11] at H
        have c11b0 : decide (0 ≤ x9_1) = true := decide_eq_true c11
        clear c11
        by_cases c12 : x9_1 < (l0.length : Int)
        ·rw [if_pos c12] at H
         have c12b0 : decide (x9_1 < (l0.length : Int)) = true := decide_eq_true c12
         clear c12
         obtain ⟨ji13, hji13⟩ : ∃ j_ : Int, (mn (((rd_T63 l0 x9_1).f0).size : Int) 20) = j_ := ⟨_, rfl⟩
         replace H : (if 0 ≤ (ji13) then (if (ji13) ≤ (((rd_T63 l0 x9_1).f0).size : Int) then ((tuple_Name.f kj7 (((rd_T63 l0 x9_1).f0).extract 0 ((ji13) : Int).toNat)).bind fun t351 => ((concordanceref19_Name.f kj7 (((rd_T63 l0 x9_1).f0).extract 0 ((ji13) : Int).toNat)).bind fun t352 => (if (t351 != t352) = true then (none) else ((some (([(⟨((rd_T63 l0 x9_1).f0).extract 0 ((ji13) : Int).toNat, (rd_T63 l0 x9_1).f1⟩ : S65)] : List (S65)) : List (S65))).bind fun y353 => (if x7_1.length + y353.length < 5864062014805 then ((some (([(⟨((rd_T63 l0 x9_1).f0).extract 0 ((ji13) : Int).toNat, (rd_T63 l0 x9_1).f1⟩ : S66)] : List (S66)) : List (S66))).bind fun y359 => (if x8_1.length + y359.length < 5864062014805 then (concordancelaw19_TupleRows.l0 kj7 l0 t341 t342 (x7_1 ++ y353) (x8_1 ++ y359) (wrap64 (x9_1 + 1))) else (none))) else (none)))))) else (none)) else (none)) = some r := by first | (rw [hji13] at H; exact H) | (simp only [hji13] at H ⊢; exact H)
         have hji13_ : (if 20 < (((rd_T63 l0 x9_1).f0).size : Int) then 20 else (((rd_T63 l0 x9_1).f0).size : Int)) = ji13 := hji13
         by_cases c14 : 0 ≤ (ji13)
         ·rw [if_pos c14] at H
          have c14b0 := eq_true c14
          have c14b1 : decide (0 ≤ (ji13)) = true := decide_eq_true c14
          clear c14
          by_cases c15 : (ji13) ≤ (((rd_T63 l0 x9_1).f0).size : Int)
          ·rw [if_pos c15] at H
           have c15b0 := eq_true c15
           have c15b1 : decide ((ji13) ≤ (((rd_T63 l0 x9_1).f0).size : Int)) = true := decide_eq_true c15
           clear c15
           replace H := Option.bind_eq_some_iff.mp H
           obtain ⟨t351, A160, H⟩ := H
           replace H : ((concordanceref19_Name.f kj7 (((rd_T63 l0 x9_1).f0).extract 0 ((ji13) : Int).toNat)).bind fun t352 => (if (t351 != t352) = true then (none) else ((some (([(⟨((rd_T63 l0 x9_1).f0).extract 0 ((ji13) : Int).toNat, (rd_T63 l0 x9_1).f1⟩ : S65)] : List (S65)) : List (S65))).bind fun y353 => (if x7_1.length + y353.length < 5864062014805 then ((some (([(⟨((rd_T63 l0 x9_1).f0).extract 0 ((ji13) : Int).toNat, (rd_T63 l0 x9_1).f1⟩ : S66)] : List (S66)) : List (S66))).bind fun y359 => (if x8_1.length + y359.length < 5864062014805 then (concordancelaw19_TupleRows.l0 kj7 l0 t341 t342 (x7_1 ++ y353) (x8_1 ++ y359) (wrap64 (x9_1 + 1))) else (none))) else (none))))) = some r := H
           have A16 := Aside0.mk A160
           clear A160
           replace H := Option.bind_eq_some_iff.mp H
           obtain ⟨t352, A170, H⟩ := H
           replace H : (if (t351 != t352) = true then (none) else ((some (([(⟨((rd_T63 l0 x9_1).f0).extract 0 ((ji13) : Int).toNat, (rd_T63 l0 x9_1).f1⟩ : S65)] : List (S65)) : List (S65))).bind fun y353 => (if x7_1.length + y353.length < 5864062014805 then ((some (([(⟨((rd_T63 l0 x9_1).f0).extract 0 ((ji13) : Int).toNat, (rd_T63 l0 x9_1).f1⟩ : S66)] : List (S66)) : List (S66))).bind fun y359 => (if x8_1.length + y359.length < 5864062014805 then (concordancelaw19_TupleRows.l0 kj7 l0 t341 t342 (x7_1 ++ y353) (x8_1 ++ y359) (wrap64 (x9_1 + 1))) else (none))) else (none)))) = some r := H
           have A17 := Aside0.mk A170
           clear A170
           by_cases c18 : (t351 != t352) = true
           ·rw [if_pos c18] at H
            exact absurd H (by simp)
           ·rw [if_neg c18] at H
            have c18b0 : (t351 != t352) = false := by simpa using c18
            (try (have c18b1 : decide (t351 = t352) = true := by simpa using c18))
            (try (have c18b2 : (t351 == t352) = true := by simpa using c18))
            clear c18
            obtain ⟨y353, hy353⟩ : ∃ y_ : List (S65), y_ = (([(⟨((rd_T63 l0 x9_1).f0).extract 0 ((ji13) : Int).toNat, (rd_T63 l0 x9_1).f1⟩ : S65)] : List (S65))) := ⟨_, rfl⟩
            replace H : (if x7_1.length + y353.length < 5864062014805 then ((some (([(⟨((rd_T63 l0 x9_1).f0).extract 0 ((ji13) : Int).toNat, (rd_T63 l0 x9_1).f1⟩ : S66)] : List (S66)) : List (S66))).bind fun y359 => (if x8_1.length + y359.length < 5864062014805 then (concordancelaw19_TupleRows.l0 kj7 l0 t341 t342 (x7_1 ++ y353) (x8_1 ++ y359) (wrap64 (x9_1 + 1))) else (none))) else (none)) = some r := by first | (rw [hy353]; with_reducible exact H) | (have H2_ := (Option.bind_some _ _).symm.trans H; rw [hy353]; with_reducible exact H2_) | (have H2_ := (Option.bind_some _ _).symm.trans H; with_reducible exact H2_) | with_reducible exact H | (rw [hy353]; exact H) | exact H
            have Ny353 := Aside0.mk hy353
            clear hy353
            by_cases c19 : x7_1.length + y353.length < 5864062014805
            ·rw [if_pos c19] at H
             have LMc19 := Aside0.mk c19
             clear c19
             obtain ⟨y356, hy356⟩ : ∃ y_ : List (S65), y_ = (x7_1 ++ y353) := ⟨_, rfl⟩
             replace H : ((some (([(⟨((rd_T63 l0 x9_1).f0).extract 0 ((ji13) : Int).toNat, (rd_T63 l0 x9_1).f1⟩ : S66)] : List (S66)) : List (S66))).bind fun y359 => (if x8_1.length + y359.length < 5864062014805 then (concordancelaw19_TupleRows.l0 kj7 l0 t341 t342 y356 (x8_1 ++ y359) (wrap64 (x9_1 + 1))) else (none))) = some r := by first | (rw [hy356]; with_reducible exact H) | (have H2_ := (Option.bind_some _ _).symm.trans H; rw [hy356]; with_reducible exact H2_) | (have H2_ := (Option.bind_some _ _).symm.trans H; with_reducible exact H2_) | with_reducible exact H | (rw [hy356]; exact H) | exact H
             have Ny356 := Aside0.mk hy356
             clear hy356
             obtain ⟨y359, hy359⟩ : ∃ y_ : List (S66), y_ = (([(⟨((rd_T63 l0 x9_1).f0).extract 0 ((ji13) : Int).toNat, (rd_T63 l0 x9_1).f1⟩ : S66)] : List (S66))) := ⟨_, rfl⟩
             replace H : (if x8_1.length + y359.length < 5864062014805 then (concordancelaw19_TupleRows.l0 kj7 l0 t341 t342 y356 (x8_1 ++ y359) (wrap64 (x9_1 + 1))) else (none)) = some r := by first | (rw [hy359]; with_reducible exact H) | (have H2_ := (Option.bind_some _ _).symm.trans H; rw [hy359]; with_reducible exact H2_) | (have H2_ := (Option.bind_some _ _).symm.trans H; with_reducible exact H2_) | with_reducible exact H | (rw [hy359]; exact H) | exact H
             have Ny359 := Aside0.mk hy359
             clear hy359
             by_cases c20 : x8_1.length + y359.length < 5864062014805
             ·rw [if_pos c20] at H
              have LMc20 := Aside0.mk c20
              clear c20
              obtain ⟨y362, hy362⟩ : ∃ y_ : List (S66), y_ = (x8_1 ++ y359) := ⟨_, rfl⟩
              replace H : (concordancelaw19_TupleRows.l0 kj7 l0 t341 t342 y356 y362 (wrap64 (x9_1 + 1))) = some r := by first | (rw [hy362]; with_reducible exact H) | (have H2_ := (Option.bind_some _ _).symm.trans H; rw [hy362]; with_reducible exact H2_) | (have H2_ := (Option.bind_some _ _).symm.trans H; with_reducible exact H2_) | with_reducible exact H | (rw [hy362]; exact H) | exact H
              have Ny362 := Aside0.mk hy362
              clear hy362
              have H' := Aside0.mk H
              clear H
              try go_wp2
              have n0_ := Aside0.mk (Kd.R_drew HO_5.out)
              have n1_ := Aside0.mk (Kd.R_drew HO_6.out)
              have n2_ := Aside0.mk (Kd.R_drew HO_7.out)
              have n3_ := Aside0.mk (Kd.R_drew HO_8.out)
              have n4_ := Aside0.mk (below_drew1 HB.out)
              clear HO_5
              clear HO_6
              clear HO_7
              clear HO_8
              clear HB
              have HO_5 := n0_
              have HO_6 := n1_
              have HO_7 := n2_
              have HO_8 := n3_
              have HB := n4_
              clear n0_ n1_ n2_ n3_ n4_
              have p347 : 0 ≤ (x9_1 : Int) := of_decide_eq_true (by first | (with_reducible assumption) | assumption)
              have q347 : x9_1 < (l0.length : Int) := of_decide_eq_true (by first | (with_reducible assumption) | assumption)
              obtain ⟨ad347, e347, hx347_0, hx347_1⟩ := at_T63 HR0.out x9_1 p347 q347
              have hw347_1 := hx347_1
              have hw347_0 := hx347_0
              cases e347
              replace hx347_0 := (HB.out.cell (World.block_lt_of_cell? w _ hx347_0)).trans hx347_0
              replace hx347_1 := (HB.out.cell (World.block_lt_of_cell? w _ hx347_1)).trans hx347_1
              replace p347 := eq_true p347
              replace q347 := eq_true q347
              have p348 : 0 ≤ (x9_1 : Int) := of_decide_eq_true (by first | (with_reducible assumption) | assumption)
              have q348 : x9_1 < (l0.length : Int) := of_decide_eq_true (by first | (with_reducible assumption) | assumption)
              obtain ⟨ad348, e348, hx348_0, hx348_1⟩ := at_T63 HR0.out x9_1 p348 q348
              have hw348_1 := hx348_1
              have hw348_0 := hx348_0
              obtain rfl : ad347 = ad348 := (by injection e348)
              replace hx348_0 := (HB.out.cell (World.block_lt_of_cell? w _ hx348_0)).trans hx348_0
              replace hx348_1 := (HB.out.cell (World.block_lt_of_cell? w _ hx348_1)).trans hx348_1
              replace p348 := eq_true p348
              replace q348 := eq_true q348
              have p349 : 0 ≤ (x9_1 : Int) := of_decide_eq_true (by first | (with_reducible assumption) | assumption)
              have q349 : x9_1 < (l0.length : Int) := of_decide_eq_true (by first | (with_reducible assumption) | assumption)
              obtain ⟨ad349, e349, hx349_0, hx349_1⟩ := at_T63 HR0.out x9_1 p349 q349
              have hw349_1 := hx349_1
              have hw349_0 := hx349_0
              obtain rfl : ad347 = ad349 := (by injection e349)
              replace hx349_0 := (HB.out.cell (World.block_lt_of_cell? w _ hx349_0)).trans hx349_0
              replace hx349_1 := (HB.out.cell (World.block_lt_of_cell? w _ hx349_1)).trans hx349_1
              replace p349 := eq_true p349
              replace q349 := eq_true q349
              refine start_ (n := 21) (S := fun w' => w'.cell? (ad347.add ((x9_1).toNat * 2)) = some (.string ((rd_T63 l0 x9_1).f0)) ∧ w'.cell? ⟨(ad347.add ((x9_1).toNat * 2)).block, (ad347.add ((x9_1).toNat * 2)).off + 1, none⟩ = some (.bool ((rd_T63 l0 x9_1).f1)) ∧ w'.cell? (ad347.add ((x9_1).toNat * 2)) = some (.string ((rd_T63 l0 x9_1).f0)) ∧ w'.cell? ⟨(ad347.add ((x9_1).toNat * 2)).block, (ad347.add ((x9_1).toNat * 2)).off + 1, none⟩ = some (.bool ((rd_T63 l0 x9_1).f1)) ∧ w'.cell? (ad347.add ((x9_1).toNat * 2)) = some (.string ((rd_T63 l0 x9_1).f0)) ∧ w'.cell? ⟨(ad347.add ((x9_1).toNat * 2)).block, (ad347.add ((x9_1).toNat * 2)).off + 1, none⟩ = some (.bool ((rd_T63 l0 x9_1).f1))) (ds := []) #[false, false, false, false, false, false, false, false, false, false, false, false, false, false, false, false, false, false, false, false, false] (by kernel_rfl) rfl rfl ⟨((HB.out.cell (World.block_lt_of_cell? w _ hw347_0)).trans hw347_0), ((HB.out.cell (World.block_lt_of_cell? w _ hw347_1)).trans hw347_1), ((HB.out.cell (World.block_lt_of_cell? w _ hw348_0)).trans hw348_0), ((HB.out.cell (World.block_lt_of_cell? w _ hw348_1)).trans hw348_1), ((HB.out.cell (World.block_lt_of_cell? w _ hw349_0)).trans hw349_0), ((HB.out.cell (World.block_lt_of_cell? w _ hw349_1)).trans hw349_1)⟩ (fun hHeld => ?_); refine with_tabW concordancelaw19_TupleRows.tab9 concordancelaw19_TupleRows.bits9 (fun HT_ HW_ => ?_)
              generalize wc.drew = w21 at HO_5 HO_6 HO_7 HO_8 HB hx347_0 hx347_1 hx348_0 hx348_1 hx349_0 hx349_1 hHeld ⊢
              refine pure_ (i := 0) (N := some 35) (v := ?_) (a' := ?_) #[true, false, false, false, false, false, false, false, false, false, false, false, false, false, false, false, false, false, false, false, false] rfl rfl (any_of HT_.out (by kernel_rfl)) (fun _ _ _ h => h) (Or.inl ⟨by rfl, ?_⟩) ?_ ?_
              rotate_left
              ·intro w'
               go_simp
               with_reducible rfl
              rotate_left
              ·simp only [Act.put, List.setIfInBounds_toArray, List.set_cons_zero, List.set_cons_succ, i64_w, i32_w]
               rfl
              refine pure_ (i := 1) (N := some 36) (v := ?_) (a' := ?_) #[true, true, false, false, false, false, false, false, false, false, false, false, false, false, false, false, false, false, false, false, false] rfl rfl (any_of HT_.out (by kernel_rfl)) (fun _ _ _ h => h) (Or.inl ⟨by rfl, ?_⟩) ?_ ?_
              rotate_left
              ·intro w'
               go_simp
               with_reducible rfl
              rotate_left
              ·simp only [Act.put, List.setIfInBounds_toArray, List.set_cons_zero, List.set_cons_succ, i64_w, i32_w]
               rfl
              refine pure_ (i := 2) (N := some 37) (v := ?_) (a' := ?_) #[true, true, true, false, false, false, false, false, false, false, false, false, false, false, false, false, false, false, false, false, false] rfl rfl (any_of HT_.out (by kernel_rfl)) (fun _ _ _ h => h) (Or.inl ⟨by rfl, ?_⟩) ?_ ?_
              rotate_left
              ·intro w'
               go_simp
               with_reducible rfl
              rotate_left
              ·simp only [Act.put, List.setIfInBounds_toArray, List.set_cons_zero, List.set_cons_succ, i64_w, i32_w]
               rfl
              refine pure_ (i := 3) (N := some 38) (v := ?_) (a' := ?_) #[true, true, true, true, false, false, false, false, false, false, false, false, false, false, false, false, false, false, false, false, false] rfl rfl (any_of HT_.out (by kernel_rfl)) (fun _ _ _ h => h) (Or.inl ⟨by rfl, ?_⟩) ?_ ?_
              rotate_left
              ·intro w'
               go_simp
               with_reducible rfl
              rotate_left
              ·simp only [Act.put, List.setIfInBounds_toArray, List.set_cons_zero, List.set_cons_succ, i64_w, i32_w]
               rfl
              refine pure_ (i := 5) (N := some 40) (v := ?_) (a' := ?_) #[true, true, true, true, false, true, false, false, false, false, false, false, false, false, false, false, false, false, false, false, false] rfl rfl (any_of HT_.out (by kernel_rfl)) (fun _ _ _ h => h) (Or.inl ⟨by rfl, ?_⟩) ?_ ?_
              rotate_left
              ·intro w'
               go_simp
               with_reducible rfl
              rotate_left
              ·simp only [Act.put, List.setIfInBounds_toArray, List.set_cons_zero, List.set_cons_succ, i64_w, i32_w]
               rfl
              refine pure_ (i := 6) (N := some 41) (v := ?_) (a' := ?_) #[true, true, true, true, false, true, true, false, false, false, false, false, false, false, false, false, false, false, false, false, false] rfl rfl (any_of HT_.out (by kernel_rfl)) (fun _ _ _ h => h) (Or.inl ⟨by rfl, ?_⟩) ?_ ?_
              rotate_left
              ·intro w'
               go_simp
               with_reducible rfl
              rotate_left
              ·simp only [Act.put, List.setIfInBounds_toArray, List.set_cons_zero, List.set_cons_succ, i64_w, i32_w]
               rfl
              refine pure_ (i := 7) (N := some 42) (v := ?_) (a' := ?_) #[true, true, true, true, false, true, true, true, false, false, false, false, false, false, false, false, false, false, false, false, false] rfl rfl (any_of HT_.out (by kernel_rfl)) (fun _ _ _ h => h) (Or.inl ⟨by rfl, ?_⟩) ?_ ?_
              rotate_left
              ·intro w'
               go_simp
               with_reducible rfl
              rotate_left
              ·simp only [Act.put, List.setIfInBounds_toArray, List.set_cons_zero, List.set_cons_succ, i64_w, i32_w]
               rfl
              refine pure_ (i := 8) (N := some 43) (v := ?_) (a' := ?_) #[true, true, true, true, false, true, true, true, true, false, false, false, false, false, false, false, false, false, false, false, false] rfl rfl (any_of HT_.out (by kernel_rfl)) (fun _ _ _ h => h) (Or.inl ⟨by rfl, ?_⟩) ?_ ?_
              rotate_left
              ·intro w'
               go_simp
               with_reducible rfl
              rotate_left
              ·simp only [Act.put, List.setIfInBounds_toArray, List.set_cons_zero, List.set_cons_succ, i64_w, i32_w]
               rfl
              refine pure_ (i := 13) (N := some 48) (v := ?_) (a' := ?_) #[true, true, true, true, false, true, true, true, true, false, false, false, false, true, false, false, false, false, false, false, false] rfl rfl (any_of HT_.out (by kernel_rfl)) (fun _ _ _ h => h) (Or.inl ⟨by rfl, ?_⟩) ?_ ?_
              rotate_left
              ·intro w'
               go_simp
               with_reducible rfl
              rotate_left
              ·simp only [Act.put, List.setIfInBounds_toArray, List.set_cons_zero, List.set_cons_succ, i64_w, i32_w]
               rfl
              refine pure_ (i := 14) (N := some 49) (v := ?_) (a' := ?_) #[true, true, true, true, false, true, true, true, true, false, false, false, false, true, true, false, false, false, false, false, false] rfl rfl (any_of HT_.out (by kernel_rfl)) (fun _ _ _ h => h) (Or.inl ⟨by rfl, ?_⟩) ?_ ?_
              rotate_left
              ·intro w'
               go_simp
               with_reducible rfl
              rotate_left
              ·simp only [Act.put, List.setIfInBounds_toArray, List.set_cons_zero, List.set_cons_succ, i64_w, i32_w]
               rfl
              refine pure_ (i := 15) (N := some 50) (v := ?_) (a' := ?_) #[true, true, true, true, false, true, true, true, true, false, false, false, false, true, true, true, false, false, false, false, false] rfl rfl (any_of HT_.out (by kernel_rfl)) (fun _ _ _ h => h) (Or.inl ⟨by rfl, ?_⟩) ?_ ?_
              rotate_left
              ·intro w'
               go_simp
               with_reducible rfl
              rotate_left
              ·simp only [Act.put, List.setIfInBounds_toArray, List.set_cons_zero, List.set_cons_succ, i64_w, i32_w]
               rfl
              refine pure_ (i := 16) (N := some 51) (v := ?_) (a' := ?_) #[true, true, true, true, false, true, true, true, true, false, false, false, false, true, true, true, true, false, false, false, false] rfl rfl (any_of HT_.out (by kernel_rfl)) (fun _ _ _ h => h) (Or.inl ⟨by rfl, ?_⟩) ?_ ?_
              rotate_left
              ·intro w'
               go_simp
               with_reducible rfl
              rotate_left
              ·simp only [Act.put, List.setIfInBounds_toArray, List.set_cons_zero, List.set_cons_succ, i64_w, i32_w]
               rfl
              refine take_ (i := 4) (N := some 39) (v := ?_) (a' := ?_) #[true, true, true, true, true, true, true, true, true, false, false, false, false, true, true, true, true, false, false, false, false] rfl rfl (take_ofW HT_.out HW_.out (by kernel_rfl)) (fun _ _ _ h => h) (Or.inl ⟨by rfl, ?_⟩) hHeld ?_ ?_
              rotate_left
              ·rintro w' ⟨s0, s1, s2, s3, s4, s5⟩
               go_simp
               with_reducible rfl
              rotate_left
              ·simp only [Act.put, List.setIfInBounds_toArray, List.set_cons_zero, List.set_cons_succ, i64_w, i32_w]
               rfl
              refine take_ (i := 9) (N := some 44) (v := ?_) (a' := ?_) #[true, true, true, true, true, true, true, true, true, true, false, false, false, true, true, true, true, false, false, false, false] rfl rfl (take_ofW HT_.out HW_.out (by kernel_rfl)) (fun _ _ _ h => h) (Or.inl ⟨by rfl, ?_⟩) hHeld ?_ ?_
              rotate_left
              ·rintro w' ⟨s0, s1, s2, s3, s4, s5⟩
               go_simp
               with_reducible rfl
              rotate_left
              ·simp only [Act.put, List.setIfInBounds_toArray, List.set_cons_zero, List.set_cons_succ, i64_w, i32_w]
               rfl
              refine pure_ (i := 10) (N := some 45) (v := ?_) (a' := ?_) #[true, true, true, true, true, true, true, true, true, true, true, false, false, true, true, true, true, false, false, false, false] rfl rfl (any_of HT_.out (by kernel_rfl)) (fun _ _ _ h => h) (Or.inl ⟨by rfl, ?_⟩) ?_ ?_
              rotate_left
              ·intro w'
               go_simp
               with_reducible rfl
              rotate_left
              ·simp only [Act.put, List.setIfInBounds_toArray, List.set_cons_zero, List.set_cons_succ, i64_w, i32_w]
               rfl
              refine pure_ (i := 11) (N := some 46) (v := ?_) (a' := ?_) #[true, true, true, true, true, true, true, true, true, true, true, true, false, true, true, true, true, false, false, false, false] rfl rfl (any_of HT_.out (by kernel_rfl)) (fun _ _ _ h => h) (Or.inl ⟨by rfl, ?_⟩) ?_ ?_
              rotate_left
              ·intro w'
               go_simp
               with_reducible rfl
              rotate_left
              ·simp only [Act.put, List.setIfInBounds_toArray, List.set_cons_zero, List.set_cons_succ, i64_w, i32_w]
               rfl
              refine pure_ (i := 12) (N := some 47) (v := ?_) (a' := ?_) #[true, true, true, true, true, true, true, true, true, true, true, true, true, true, true, true, true, false, false, false, false] rfl rfl (any_of HT_.out (by kernel_rfl)) (fun _ _ _ h => h) (Or.inl ⟨by rfl, ?_⟩) ?_ ?_
              rotate_left
              ·intro w'
               go_simp
               with_reducible rfl
              rotate_left
              ·simp only [Act.put, List.setIfInBounds_toArray, List.set_cons_zero, List.set_cons_succ, i64_w, i32_w]
               rfl
              refine take_ (i := 17) (N := some 52) (v := ?_) (a' := ?_) #[true, true, true, true, true, true, true, true, true, true, true, true, true, true, true, true, true, true, false, false, false] rfl rfl (take_ofW HT_.out HW_.out (by kernel_rfl)) (fun _ _ _ h => h) (Or.inl ⟨by rfl, ?_⟩) hHeld ?_ ?_
              rotate_left
              ·rintro w' ⟨s0, s1, s2, s3, s4, s5⟩
               go_simp
               with_reducible rfl
              rotate_left
              ·simp only [Act.put, List.setIfInBounds_toArray, List.set_cons_zero, List.set_cons_succ, i64_w, i32_w]
               rfl
              refine pure_ (i := 18) (N := some 53) (v := ?_) (a' := ?_) #[true, true, true, true, true, true, true, true, true, true, true, true, true, true, true, true, true, true, true, false, false] rfl rfl (any_of HT_.out (by kernel_rfl)) (fun _ _ _ h => h) (Or.inl ⟨by rfl, ?_⟩) ?_ ?_
              rotate_left
              ·intro w'
               go_simp
               with_reducible rfl
              rotate_left
              ·simp only [Act.put, List.setIfInBounds_toArray, List.set_cons_zero, List.set_cons_succ, i64_w, i32_w]
               rfl
              refine one_ (i := 19) (N := some 10) #[true, true, true, true, true, true, true, true, true, true, true, true, true, true, true, true, true, true, true, true, false] rfl rfl (one_of HT_.out (by kernel_rfl)) (by decide) (fun K hK => ?_)
              refine box_step ?hg (N := 10) ?hd (cs := #[.string (⟨#[]⟩ : ByteArray), .bool false]) (t := 63) ?hr ?_; (case hd => rfl); (case hg => rfl); (case hr => first | (go_simp; done) | (go_simp; rfl))
              intro gb350 hg w22 hbox hb
              have n0_ := Aside0.mk (Kd.R_below (by (with_reducible repeat (first | apply Kd.R_alloc | apply Kd.R_drewN | apply Kd.R_drew)); exact HO_5.out) hb)
              have n1_ := Aside0.mk (Kd.R_below (by (with_reducible repeat (first | apply Kd.R_alloc | apply Kd.R_drewN | apply Kd.R_drew)); exact HO_6.out) hb)
              have n2_ := Aside0.mk (Kd.R_below (by (with_reducible repeat (first | apply Kd.R_alloc | apply Kd.R_drewN | apply Kd.R_drew)); exact HO_7.out) hb)
              have n3_ := Aside0.mk (Kd.R_below (by (with_reducible repeat (first | apply Kd.R_alloc | apply Kd.R_drewN | apply Kd.R_drew)); exact HO_8.out) hb)
              have n4_ := Aside0.mk (below_step (by repeat (first | (with_reducible first | exact HB.out | apply below_alloc | apply pw_below_drewN | apply below_drew1) | exact HB.out)) hb)
              have n5_ := Aside0.mk (hbox)
              have n6_ := Aside0.mk ((by rw [hg]; exact (below_size (by repeat (first | (with_reducible first | exact HB.out | apply below_alloc | apply pw_below_drewN | apply below_drew1) | exact HB.out))) : w.heap.size ≤ gb350))
              have n7_ := Aside0.mk ((by rw [hg]; exact (below_size (by repeat (first | (with_reducible first | exact HB.out | apply below_alloc | apply pw_below_drewN | apply below_drew1) | exact HB.out))) : w.heap.size ≤ gb350))
              clear HO_5
              clear HO_6
              clear HO_7
              clear HO_8
              clear HB
              have HO_5 := n0_
              have HO_6 := n1_
              have HO_7 := n2_
              have HO_8 := n3_
              have HB := n4_
              have BK350 := n5_
              have GW350 := n6_
              have GE350 := n7_
              clear n0_ n1_ n2_ n3_ n4_ n5_ n6_ n7_
              clear hb hbox hg
              refine hK.out _ _ ⟨((HB.out.cell (World.block_lt_of_cell? w _ hw347_0)).trans hw347_0), ((HB.out.cell (World.block_lt_of_cell? w _ hw347_1)).trans hw347_1), ((HB.out.cell (World.block_lt_of_cell? w _ hw348_0)).trans hw348_0), ((HB.out.cell (World.block_lt_of_cell? w _ hw348_1)).trans hw348_1), ((HB.out.cell (World.block_lt_of_cell? w _ hw349_0)).trans hw349_0), ((HB.out.cell (World.block_lt_of_cell? w _ hw349_1)).trans hw349_1)⟩ (fun hHeld => ?_)
              clear hK K
              refine norm_ (a' := ?_) ?_ ?_
              rotate_left
              ·show Act.put _ (some 10) _ = _
               simp only [Act.put, List.setIfInBounds_toArray, List.set_cons_zero, List.set_cons_succ, i64_w, i32_w]
               rfl
              refine one_ (i := 20) (N := none) #[true, true, true, true, true, true, true, true, true, true, true, true, true, true, true, true, true, true, true, true, true] rfl rfl (one_of HT_.out (by kernel_rfl)) (by decide) (fun K hK => ?_)
              have hs23 : w22.cell? ⟨gb350, 0, none⟩ = some (.string (⟨#[]⟩ : ByteArray)) := (blk_cell BK350.out 0).trans rfl
              have hfs23 := blk_frozen BK350.out 0
              have hs24 : w22.cell? ⟨gb350, 1, none⟩ = some (.bool false) := (blk_cell BK350.out 1).trans rfl
              have hfs24 := blk_frozen BK350.out 1
              refine skip_ (w1 := ?_) (by rfl) rfl ?_ ?_
              rotate_left
              ·go_simp
               rfl
              refine hK.out _ _ ⟨((cell_far (p := ⟨gb350, _, none⟩) (by first | exact Nat.ne_of_lt (Nat.lt_of_lt_of_le (by have := World.block_lt_of_cell? _ _ hw347_0; first | rwa [add_block] at this | exact this) GW350.out) | (rw [add_block]; exact Nat.ne_of_lt (Nat.lt_of_lt_of_le (by have := World.block_lt_of_cell? _ _ hw347_0; first | rwa [add_block] at this | exact this) GW350.out)) | (show (Addr.add _ _).block ≠ _; rw [add_block]; exact Nat.ne_of_lt (Nat.lt_of_lt_of_le (by have := World.block_lt_of_cell? _ _ hw347_0; first | rwa [add_block] at this | exact this) GW350.out)) | (dsimp only; exact Nat.ne_of_lt (Nat.lt_of_lt_of_le (by have := World.block_lt_of_cell? _ _ hw347_0; first | rwa [add_block] at this | exact this) GW350.out))) _).trans (((cell_far (p := ⟨gb350, _, none⟩) (by first | exact Nat.ne_of_lt (Nat.lt_of_lt_of_le (by have := World.block_lt_of_cell? _ _ hw347_0; first | rwa [add_block] at this | exact this) GW350.out) | (rw [add_block]; exact Nat.ne_of_lt (Nat.lt_of_lt_of_le (by have := World.block_lt_of_cell? _ _ hw347_0; first | rwa [add_block] at this | exact this) GW350.out)) | (show (Addr.add _ _).block ≠ _; rw [add_block]; exact Nat.ne_of_lt (Nat.lt_of_lt_of_le (by have := World.block_lt_of_cell? _ _ hw347_0; first | rwa [add_block] at this | exact this) GW350.out)) | (dsimp only; exact Nat.ne_of_lt (Nat.lt_of_lt_of_le (by have := World.block_lt_of_cell? _ _ hw347_0; first | rwa [add_block] at this | exact this) GW350.out))) _).trans (hHeld.1)))), ((cell_far (p := ⟨gb350, _, none⟩) (by first | exact Nat.ne_of_lt (Nat.lt_of_lt_of_le (by have := World.block_lt_of_cell? _ _ hw347_1; first | rwa [add_block] at this | exact this) GW350.out) | (rw [add_block]; exact Nat.ne_of_lt (Nat.lt_of_lt_of_le (by have := World.block_lt_of_cell? _ _ hw347_1; first | rwa [add_block] at this | exact this) GW350.out)) | (show (Addr.add _ _).block ≠ _; rw [add_block]; exact Nat.ne_of_lt (Nat.lt_of_lt_of_le (by have := World.block_lt_of_cell? _ _ hw347_1; first | rwa [add_block] at this | exact this) GW350.out)) | (dsimp only; exact Nat.ne_of_lt (Nat.lt_of_lt_of_le (by have := World.block_lt_of_cell? _ _ hw347_1; first | rwa [add_block] at this | exact this) GW350.out))) _).trans (((cell_far (p := ⟨gb350, _, none⟩) (by first | exact Nat.ne_of_lt (Nat.lt_of_lt_of_le (by have := World.block_lt_of_cell? _ _ hw347_1; first | rwa [add_block] at this | exact this) GW350.out) | (rw [add_block]; exact Nat.ne_of_lt (Nat.lt_of_lt_of_le (by have := World.block_lt_of_cell? _ _ hw347_1; first | rwa [add_block] at this | exact this) GW350.out)) | (show (Addr.add _ _).block ≠ _; rw [add_block]; exact Nat.ne_of_lt (Nat.lt_of_lt_of_le (by have := World.block_lt_of_cell? _ _ hw347_1; first | rwa [add_block] at this | exact this) GW350.out)) | (dsimp only; exact Nat.ne_of_lt (Nat.lt_of_lt_of_le (by have := World.block_lt_of_cell? _ _ hw347_1; first | rwa [add_block] at this | exact this) GW350.out))) _).trans (hHeld.2.1)))), ((cell_far (p := ⟨gb350, _, none⟩) (by first | exact Nat.ne_of_lt (Nat.lt_of_lt_of_le (by have := World.block_lt_of_cell? _ _ hw348_0; first | rwa [add_block] at this | exact this) GW350.out) | (rw [add_block]; exact Nat.ne_of_lt (Nat.lt_of_lt_of_le (by have := World.block_lt_of_cell? _ _ hw348_0; first | rwa [add_block] at this | exact this) GW350.out)) | (show (Addr.add _ _).block ≠ _; rw [add_block]; exact Nat.ne_of_lt (Nat.lt_of_lt_of_le (by have := World.block_lt_of_cell? _ _ hw348_0; first | rwa [add_block] at this | exact this) GW350.out)) | (dsimp only; exact Nat.ne_of_lt (Nat.lt_of_lt_of_le (by have := World.block_lt_of_cell? _ _ hw348_0; first | rwa [add_block] at this | exact this) GW350.out))) _).trans (((cell_far (p := ⟨gb350, _, none⟩) (by first | exact Nat.ne_of_lt (Nat.lt_of_lt_of_le (by have := World.block_lt_of_cell? _ _ hw348_0; first | rwa [add_block] at this | exact this) GW350.out) | (rw [add_block]; exact Nat.ne_of_lt (Nat.lt_of_lt_of_le (by have := World.block_lt_of_cell? _ _ hw348_0; first | rwa [add_block] at this | exact this) GW350.out)) | (show (Addr.add _ _).block ≠ _; rw [add_block]; exact Nat.ne_of_lt (Nat.lt_of_lt_of_le (by have := World.block_lt_of_cell? _ _ hw348_0; first | rwa [add_block] at this | exact this) GW350.out)) | (dsimp only; exact Nat.ne_of_lt (Nat.lt_of_lt_of_le (by have := World.block_lt_of_cell? _ _ hw348_0; first | rwa [add_block] at this | exact this) GW350.out))) _).trans (hHeld.2.2.1)))), ((cell_far (p := ⟨gb350, _, none⟩) (by first | exact Nat.ne_of_lt (Nat.lt_of_lt_of_le (by have := World.block_lt_of_cell? _ _ hw348_1; first | rwa [add_block] at this | exact this) GW350.out) | (rw [add_block]; exact Nat.ne_of_lt (Nat.lt_of_lt_of_le (by have := World.block_lt_of_cell? _ _ hw348_1; first | rwa [add_block] at this | exact this) GW350.out)) | (show (Addr.add _ _).block ≠ _; rw [add_block]; exact Nat.ne_of_lt (Nat.lt_of_lt_of_le (by have := World.block_lt_of_cell? _ _ hw348_1; first | rwa [add_block] at this | exact this) GW350.out)) | (dsimp only; exact Nat.ne_of_lt (Nat.lt_of_lt_of_le (by have := World.block_lt_of_cell? _ _ hw348_1; first | rwa [add_block] at this | exact this) GW350.out))) _).trans (((cell_far (p := ⟨gb350, _, none⟩) (by first | exact Nat.ne_of_lt (Nat.lt_of_lt_of_le (by have := World.block_lt_of_cell? _ _ hw348_1; first | rwa [add_block] at this | exact this) GW350.out) | (rw [add_block]; exact Nat.ne_of_lt (Nat.lt_of_lt_of_le (by have := World.block_lt_of_cell? _ _ hw348_1; first | rwa [add_block] at this | exact this) GW350.out)) | (show (Addr.add _ _).block ≠ _; rw [add_block]; exact Nat.ne_of_lt (Nat.lt_of_lt_of_le (by have := World.block_lt_of_cell? _ _ hw348_1; first | rwa [add_block] at this | exact this) GW350.out)) | (dsimp only; exact Nat.ne_of_lt (Nat.lt_of_lt_of_le (by have := World.block_lt_of_cell? _ _ hw348_1; first | rwa [add_block] at this | exact this) GW350.out))) _).trans (hHeld.2.2.2.1)))), ((cell_far (p := ⟨gb350, _, none⟩) (by first | exact Nat.ne_of_lt (Nat.lt_of_lt_of_le (by have := World.block_lt_of_cell? _ _ hw349_0; first | rwa [add_block] at this | exact this) GW350.out) | (rw [add_block]; exact Nat.ne_of_lt (Nat.lt_of_lt_of_le (by have := World.block_lt_of_cell? _ _ hw349_0; first | rwa [add_block] at this | exact this) GW350.out)) | (show (Addr.add _ _).block ≠ _; rw [add_block]; exact Nat.ne_of_lt (Nat.lt_of_lt_of_le (by have := World.block_lt_of_cell? _ _ hw349_0; first | rwa [add_block] at this | exact this) GW350.out)) | (dsimp only; exact Nat.ne_of_lt (Nat.lt_of_lt_of_le (by have := World.block_lt_of_cell? _ _ hw349_0; first | rwa [add_block] at this | exact this) GW350.out))) _).trans (((cell_far (p := ⟨gb350, _, none⟩) (by first | exact Nat.ne_of_lt (Nat.lt_of_lt_of_le (by have := World.block_lt_of_cell? _ _ hw349_0; first | rwa [add_block] at this | exact this) GW350.out) | (rw [add_block]; exact Nat.ne_of_lt (Nat.lt_of_lt_of_le (by have := World.block_lt_of_cell? _ _ hw349_0; first | rwa [add_block] at this | exact this) GW350.out)) | (show (Addr.add _ _).block ≠ _; rw [add_block]; exact Nat.ne_of_lt (Nat.lt_of_lt_of_le (by have := World.block_lt_of_cell? _ _ hw349_0; first | rwa [add_block] at this | exact this) GW350.out)) | (dsimp only; exact Nat.ne_of_lt (Nat.lt_of_lt_of_le (by have := World.block_lt_of_cell? _ _ hw349_0; first | rwa [add_block] at this | exact this) GW350.out))) _).trans (hHeld.2.2.2.2.1)))), ((cell_far (p := ⟨gb350, _, none⟩) (by first | exact Nat.ne_of_lt (Nat.lt_of_lt_of_le (by have := World.block_lt_of_cell? _ _ hw349_1; first | rwa [add_block] at this | exact this) GW350.out) | (rw [add_block]; exact Nat.ne_of_lt (Nat.lt_of_lt_of_le (by have := World.block_lt_of_cell? _ _ hw349_1; first | rwa [add_block] at this | exact this) GW350.out)) | (show (Addr.add _ _).block ≠ _; rw [add_block]; exact Nat.ne_of_lt (Nat.lt_of_lt_of_le (by have := World.block_lt_of_cell? _ _ hw349_1; first | rwa [add_block] at this | exact this) GW350.out)) | (dsimp only; exact Nat.ne_of_lt (Nat.lt_of_lt_of_le (by have := World.block_lt_of_cell? _ _ hw349_1; first | rwa [add_block] at this | exact this) GW350.out))) _).trans (((cell_far (p := ⟨gb350, _, none⟩) (by first | exact Nat.ne_of_lt (Nat.lt_of_lt_of_le (by have := World.block_lt_of_cell? _ _ hw349_1; first | rwa [add_block] at this | exact this) GW350.out) | (rw [add_block]; exact Nat.ne_of_lt (Nat.lt_of_lt_of_le (by have := World.block_lt_of_cell? _ _ hw349_1; first | rwa [add_block] at this | exact this) GW350.out)) | (show (Addr.add _ _).block ≠ _; rw [add_block]; exact Nat.ne_of_lt (Nat.lt_of_lt_of_le (by have := World.block_lt_of_cell? _ _ hw349_1; first | rwa [add_block] at this | exact this) GW350.out)) | (dsimp only; exact Nat.ne_of_lt (Nat.lt_of_lt_of_le (by have := World.block_lt_of_cell? _ _ hw349_1; first | rwa [add_block] at this | exact this) GW350.out))) _).trans (hHeld.2.2.2.2.2))))⟩ (fun hHeld => ?_)
              clear hK K
              refine done_ (done_of HT_.out (by kernel_rfl)) ?_
              try go_wp2
              have n0_ : Aside0 (Kd.R k25 25 ((w22.setCell ⟨gb350, 0, none⟩ (.string (((rd_T63 l0 x9_1).f0).extract 0 ((ji13) : Int).toNat))).setCell ⟨gb350, 1, none⟩ (.bool ((rd_T63 l0 x9_1).f1))) w.heap.size (fun _ => True) v343 t341) := ⟨by (with_reducible repeat (first | apply Kd.R_alloc | apply Kd.R_drewN | apply Kd.R_drew)); exact Kd.R_mono (Kd.R_far (p := ⟨gb350, 1, none⟩) (Kd.R_far (p := ⟨gb350, 0, none⟩) (Kd.R_types HO_5.out BK350.out (by decide)) (fun _ hk => hk.2) (.string (((rd_T63 l0 x9_1).f0).extract 0 ((ji13) : Int).toNat))) (fun _ hk => hk.2) (.bool ((rd_T63 l0 x9_1).f1))) (fun _ hk => trivial)⟩
              have n1_ : Aside0 (Kd.R k26 26 ((w22.setCell ⟨gb350, 0, none⟩ (.string (((rd_T63 l0 x9_1).f0).extract 0 ((ji13) : Int).toNat))).setCell ⟨gb350, 1, none⟩ (.bool ((rd_T63 l0 x9_1).f1))) w.heap.size (fun _ => True) v345 t342) := ⟨by (with_reducible repeat (first | apply Kd.R_alloc | apply Kd.R_drewN | apply Kd.R_drew)); exact Kd.R_mono (Kd.R_far (p := ⟨gb350, 1, none⟩) (Kd.R_far (p := ⟨gb350, 0, none⟩) (Kd.R_types HO_6.out BK350.out (by decide)) (fun _ hk => hk.2) (.string (((rd_T63 l0 x9_1).f0).extract 0 ((ji13) : Int).toNat))) (fun _ hk => hk.2) (.bool ((rd_T63 l0 x9_1).f1))) (fun _ hk => trivial)⟩
              have n2_ : Aside0 (Kd.R k65 65 ((w22.setCell ⟨gb350, 0, none⟩ (.string (((rd_T63 l0 x9_1).f0).extract 0 ((ji13) : Int).toNat))).setCell ⟨gb350, 1, none⟩ (.bool ((rd_T63 l0 x9_1).f1))) w.heap.size (fun _ => True) u7 x7_1) := ⟨by (with_reducible repeat (first | apply Kd.R_alloc | apply Kd.R_drewN | apply Kd.R_drew)); exact Kd.R_mono (Kd.R_far (p := ⟨gb350, 1, none⟩) (Kd.R_far (p := ⟨gb350, 0, none⟩) (Kd.R_types HO_7.out BK350.out (by decide)) (fun _ hk => hk.2) (.string (((rd_T63 l0 x9_1).f0).extract 0 ((ji13) : Int).toNat))) (fun _ hk => hk.2) (.bool ((rd_T63 l0 x9_1).f1))) (fun _ hk => trivial)⟩
              have n3_ : Aside0 (Kd.R k66 66 ((w22.setCell ⟨gb350, 0, none⟩ (.string (((rd_T63 l0 x9_1).f0).extract 0 ((ji13) : Int).toNat))).setCell ⟨gb350, 1, none⟩ (.bool ((rd_T63 l0 x9_1).f1))) w.heap.size (fun _ => True) u8 x8_1) := ⟨by (with_reducible repeat (first | apply Kd.R_alloc | apply Kd.R_drewN | apply Kd.R_drew)); exact Kd.R_mono (Kd.R_far (p := ⟨gb350, 1, none⟩) (Kd.R_far (p := ⟨gb350, 0, none⟩) (Kd.R_types HO_8.out BK350.out (by decide)) (fun _ hk => hk.2) (.string (((rd_T63 l0 x9_1).f0).extract 0 ((ji13) : Int).toNat))) (fun _ hk => hk.2) (.bool ((rd_T63 l0 x9_1).f1))) (fun _ hk => trivial)⟩
              have n4_ : Aside0 (((w22.setCell ⟨gb350, 0, none⟩ (.string (((rd_T63 l0 x9_1).f0).extract 0 ((ji13) : Int).toNat))).setCell ⟨gb350, 1, none⟩ (.bool ((rd_T63 l0 x9_1).f1))).heap[gb350]? = some (.cells #[.string (((rd_T63 l0 x9_1).f0).extract 0 ((ji13) : Int).toNat), .bool ((rd_T63 l0 x9_1).f1)] 63 (0, 0))) := ⟨by (with_reducible repeat (first | refine blk_drewN ?_ _ | refine blk_drew ?_ | refine blk_alloc ?_ _)); refine blk_put (cs := #[.string (((rd_T63 l0 x9_1).f0).extract 0 ((ji13) : Int).toNat), .bool false]) ?_ 1 _ rfl; (with_reducible repeat (first | refine blk_drewN ?_ _ | refine blk_drew ?_ | refine blk_alloc ?_ _)); refine blk_put (cs := #[.string (⟨#[]⟩ : ByteArray), .bool false]) ?_ 0 _ rfl; (with_reducible repeat (first | refine blk_drewN ?_ _ | refine blk_drew ?_ | refine blk_alloc ?_ _)); exact BK350.out⟩
              have n5_ : Aside0 (Below w.heap.size w ((w22.setCell ⟨gb350, 0, none⟩ (.string (((rd_T63 l0 x9_1).f0).extract 0 ((ji13) : Int).toNat))).setCell ⟨gb350, 1, none⟩ (.bool ((rd_T63 l0 x9_1).f1)))) := ⟨by repeat (first | (with_reducible first | exact HB.out | apply below_alloc | apply pw_below_drewN | apply below_drew1 | refine below_set ?_ GE350.out) | exact HB.out)⟩
              (try clear HO_5)
              (try clear HO_6)
              (try clear HO_7)
              (try clear HO_8)
              (try clear BK350)
              (try clear HB)
              generalize ((w22.setCell ⟨gb350, 0, none⟩ (.string (((rd_T63 l0 x9_1).f0).extract 0 ((ji13) : Int).toNat))).setCell ⟨gb350, 1, none⟩ (.bool ((rd_T63 l0 x9_1).f1))) = w25 at n0_ n1_ n2_ n3_ n4_ n5_ ⊢
              have HO_5 := n0_
              have HO_6 := n1_
              have HO_7 := n2_
              have HO_8 := n3_
              have BK350 := n4_
              have HB := n5_
              clear n0_ n1_ n2_ n3_ n4_ n5_
              have n0_ := Aside0.mk (Kd.R_drew HO_5.out)
              have n1_ := Aside0.mk (Kd.R_drew HO_6.out)
              have n2_ := Aside0.mk (Kd.R_drew HO_7.out)
              have n3_ := Aside0.mk (Kd.R_drew HO_8.out)
              have n4_ := Aside0.mk (blk_drew BK350.out)
              have n5_ := Aside0.mk (below_drew1 HB.out)
              clear HO_5
              clear HO_6
              clear HO_7
              clear HO_8
              clear BK350
              clear HB
              have HO_5 := n0_
              have HO_6 := n1_
              have HO_7 := n2_
              have HO_8 := n3_
              have BK350 := n4_
              have HB := n5_
              clear n0_ n1_ n2_ n3_ n4_ n5_
              refine start_ (n := 7) (S := fun w' => w'.cell? ⟨gb350, 0, none⟩ = some (.string (((rd_T63 l0 x9_1).f0).extract 0 ((ji13) : Int).toNat)) ∧ w'.cell? ⟨gb350, 1, none⟩ = some (.bool ((rd_T63 l0 x9_1).f1))) (ds := []) #[false, false, false, false, false, false, false] (by kernel_rfl) rfl rfl ⟨(blk_cell BK350.out 0).trans rfl, (blk_cell BK350.out 1).trans rfl⟩ (fun hHeld => ?_)
              generalize w25.drew = w26 at HO_5 HO_6 HO_7 HO_8 BK350 HB hHeld ⊢
              refine pure_ (i := 0) (N := some 54) (v := ?_) (a' := ?_) #[true, false, false, false, false, false, false] rfl rfl (by kernel_rfl) (fun _ _ _ h => h) (Or.inl ⟨by rfl, ?_⟩) ?_ ?_
              rotate_left
              ·intro w'
               go_simp
               with_reducible rfl
              rotate_left
              ·simp only [Act.put, List.setIfInBounds_toArray, List.set_cons_zero, List.set_cons_succ, i64_w, i32_w]
               rfl
              refine pure_ (i := 3) (N := some 57) (v := ?_) (a' := ?_) #[true, false, false, true, false, false, false] rfl rfl (by kernel_rfl) (fun _ _ _ h => h) (Or.inl ⟨by rfl, ?_⟩) ?_ ?_
              rotate_left
              ·intro w'
               go_simp
               with_reducible rfl
              rotate_left
              ·simp only [Act.put, List.setIfInBounds_toArray, List.set_cons_zero, List.set_cons_succ, i64_w, i32_w]
               rfl
              refine take_ (i := 1) (N := some 55) (v := ?_) (a' := ?_) #[true, true, false, true, false, false, false] rfl rfl (by kernel_rfl) (fun _ _ _ h => h) (Or.inl ⟨by rfl, ?_⟩) hHeld ?_ ?_
              rotate_left
              ·rintro w' ⟨s0, s1⟩
               go_simp
               with_reducible rfl
              rotate_left
              ·simp only [Act.put, List.setIfInBounds_toArray, List.set_cons_zero, List.set_cons_succ, i64_w, i32_w]
               rfl
              refine take_ (i := 4) (N := some 58) (v := ?_) (a' := ?_) #[true, true, false, true, true, false, false] rfl rfl (by kernel_rfl) (fun _ _ _ h => h) (Or.inl ⟨by rfl, ?_⟩) hHeld ?_ ?_
              rotate_left
              ·rintro w' ⟨s0, s1⟩
               go_simp
               with_reducible rfl
              rotate_left
              ·simp only [Act.put, List.setIfInBounds_toArray, List.set_cons_zero, List.set_cons_succ, i64_w, i32_w]
               rfl
              refine one_ (i := 2) (N := some 56) #[true, true, true, true, true, false, false] rfl rfl (by kernel_rfl) (by decide) (fun K hK => ?_)
              refine goes_ Tryd.func23 (by kernel_rfl) rfl #[.string (((rd_T63 l0 x9_1).f0).extract 0 ((ji13) : Int).toNat)] (by rfl) rfl rfl (by (try simp only [List.map_toArray, List.map_cons, List.map_nil]); first | done | (simp only [hji13]; rfl) | rfl | (simp only [List.length_drop, List.length_take]; rfl)) ?_
              with_reducible refine (tuple_Name.calls kj7 (((rd_T63 l0 x9_1).f0).extract 0 ((ji13) : Int).toNat) t351 _ A16.out).mono ?_
              rintro e w' ⟨rfl, ⟨nd, rfl⟩⟩
              refine ⟨_, rfl, ?_⟩
              refine hK.out _ _ ⟨(blk_cell BK350.out 0).trans rfl, (blk_cell BK350.out 1).trans rfl⟩ (fun hHeld => ?_)
              clear hK K
              refine norm_ (a' := ?_) ?_ ?_
              rotate_left
              ·show Act.put _ (some 56) _ = _
               simp only [Act.put, List.setIfInBounds_toArray, List.set_cons_zero, List.set_cons_succ, i64_w, i32_w]
               rfl
              refine one_ (i := 5) (N := some 59) #[true, true, true, true, true, true, false] rfl rfl (by kernel_rfl) (by decide) (fun K hK => ?_)
              refine goes_ Tryd.func24 (by kernel_rfl) rfl #[.string (((rd_T63 l0 x9_1).f0).extract 0 ((ji13) : Int).toNat)] (by rfl) rfl rfl (by (try simp only [List.map_toArray, List.map_cons, List.map_nil]); first | done | (simp only [hji13]; rfl) | rfl | (simp only [List.length_drop, List.length_take]; rfl)) ?_
              with_reducible refine (concordanceref19_Name.calls kj7 (((rd_T63 l0 x9_1).f0).extract 0 ((ji13) : Int).toNat) t352 _ A17.out).mono ?_
              rintro e w' ⟨rfl, ⟨nd, rfl⟩⟩
              refine ⟨_, rfl, ?_⟩
              refine hK.out _ _ ⟨(blk_cell BK350.out 0).trans rfl, (blk_cell BK350.out 1).trans rfl⟩ (fun hHeld => ?_)
              clear hK K
              refine norm_ (a' := ?_) ?_ ?_
              rotate_left
              ·show Act.put _ (some 59) _ = _
               simp only [Act.put, List.setIfInBounds_toArray, List.set_cons_zero, List.set_cons_succ, i64_w, i32_w]
               rfl
              refine pure_ (i := 6) (N := some 60) (v := ?_) (a' := ?_) #[true, true, true, true, true, true, true] rfl rfl (by kernel_rfl) (fun _ _ _ h => h) (Or.inl ⟨by rfl, ?_⟩) ?_ ?_
              rotate_left
              ·intro w'
               go_simp
               with_reducible rfl
              rotate_left
              ·simp only [Act.put, List.setIfInBounds_toArray, List.set_cons_zero, List.set_cons_succ, i64_w, i32_w]
               rfl
              refine done_ (by kernel_rfl) ?_
              obtain ⟨Ao27, co27, eo27⟩ := Kd.R_slice HO_7.out
              subst eo27
              obtain ⟨Ao28, co28, eo28⟩ := Kd.R_slice HO_8.out
              subst eo28
              try go_wp2
              (try (rw [drewN_self w26]; generalize hq_ : World.drewN w26 _ = w26; have n0_ : Aside0 (Kd.R k25 25 w26 w.heap.size (fun _ => True) v343 t341) := ⟨by rw [← hq_]; exact (by (with_reducible repeat (first | apply Kd.R_alloc | apply Kd.R_drewN | apply Kd.R_drew)); exact HO_5.out)⟩; have n1_ : Aside0 (Kd.R k26 26 w26 w.heap.size (fun _ => True) v345 t342) := ⟨by rw [← hq_]; exact (by (with_reducible repeat (first | apply Kd.R_alloc | apply Kd.R_drewN | apply Kd.R_drew)); exact HO_6.out)⟩; have n2_ : Aside0 (Kd.R k65 65 w26 w.heap.size (fun _ => True) (.slice Ao27 x7_1.length co27) x7_1) := ⟨by rw [← hq_]; exact (by (with_reducible repeat (first | apply Kd.R_alloc | apply Kd.R_drewN | apply Kd.R_drew)); exact HO_7.out)⟩; have n3_ : Aside0 (Kd.R k66 66 w26 w.heap.size (fun _ => True) (.slice Ao28 x8_1.length co28) x8_1) := ⟨by rw [← hq_]; exact (by (with_reducible repeat (first | apply Kd.R_alloc | apply Kd.R_drewN | apply Kd.R_drew)); exact HO_8.out)⟩; have n4_ : Aside0 (w26.heap[gb350]? = some (.cells #[.string (((rd_T63 l0 x9_1).f0).extract 0 ((ji13) : Int).toNat), .bool ((rd_T63 l0 x9_1).f1)] 63 (0, 0))) := ⟨by rw [← hq_]; exact (by (with_reducible repeat (first | refine blk_drewN ?_ _ | refine blk_drew ?_ | refine blk_alloc ?_ _)); exact BK350.out)⟩; have n5_ : Aside0 (Below w.heap.size w w26) := ⟨by rw [← hq_]; exact (by repeat (first | (with_reducible first | exact HB.out | apply below_alloc | apply pw_below_drewN | apply below_drew1 | refine below_set ?_ GE350.out) | exact HB.out))⟩; clear HO_5 HO_6 HO_7 HO_8 BK350 HB hq_; have HO_5 := n0_; have HO_6 := n1_; have HO_7 := n2_; have HO_8 := n3_; have BK350 := n4_; have HB := n5_; clear n0_ n1_ n2_ n3_ n4_ n5_))
              (try (rw [drewN_self w26]; generalize hq_ : World.drewN w26 _ = w26; have n0_ : Aside0 (Kd.R k25 25 w26 w.heap.size (fun _ => True) v343 t341) := ⟨by rw [← hq_]; exact (by (with_reducible repeat (first | apply Kd.R_alloc | apply Kd.R_drewN | apply Kd.R_drew)); exact HO_5.out)⟩; have n1_ : Aside0 (Kd.R k26 26 w26 w.heap.size (fun _ => True) v345 t342) := ⟨by rw [← hq_]; exact (by (with_reducible repeat (first | apply Kd.R_alloc | apply Kd.R_drewN | apply Kd.R_drew)); exact HO_6.out)⟩; have n2_ : Aside0 (Kd.R k65 65 w26 w.heap.size (fun _ => True) (.slice Ao27 x7_1.length co27) x7_1) := ⟨by rw [← hq_]; exact (by (with_reducible repeat (first | apply Kd.R_alloc | apply Kd.R_drewN | apply Kd.R_drew)); exact HO_7.out)⟩; have n3_ : Aside0 (Kd.R k66 66 w26 w.heap.size (fun _ => True) (.slice Ao28 x8_1.length co28) x8_1) := ⟨by rw [← hq_]; exact (by (with_reducible repeat (first | apply Kd.R_alloc | apply Kd.R_drewN | apply Kd.R_drew)); exact HO_8.out)⟩; have n4_ : Aside0 (w26.heap[gb350]? = some (.cells #[.string (((rd_T63 l0 x9_1).f0).extract 0 ((ji13) : Int).toNat), .bool ((rd_T63 l0 x9_1).f1)] 63 (0, 0))) := ⟨by rw [← hq_]; exact (by (with_reducible repeat (first | refine blk_drewN ?_ _ | refine blk_drew ?_ | refine blk_alloc ?_ _)); exact BK350.out)⟩; have n5_ : Aside0 (Below w.heap.size w w26) := ⟨by rw [← hq_]; exact (by repeat (first | (with_reducible first | exact HB.out | apply below_alloc | apply pw_below_drewN | apply below_drew1 | refine below_set ?_ GE350.out) | exact HB.out))⟩; clear HO_5 HO_6 HO_7 HO_8 BK350 HB hq_; have HO_5 := n0_; have HO_6 := n1_; have HO_7 := n2_; have HO_8 := n3_; have BK350 := n4_; have HB := n5_; clear n0_ n1_ n2_ n3_ n4_ n5_))
              have n0_ := Aside0.mk (Kd.R_drew HO_5.out)
              have n1_ := Aside0.mk (Kd.R_drew HO_6.out)
              have n2_ := Aside0.mk (Kd.R_drew HO_7.out)
              have n3_ := Aside0.mk (Kd.R_drew HO_8.out)
              have n4_ := Aside0.mk (blk_drew BK350.out)
              have n5_ := Aside0.mk (below_drew1 HB.out)
              clear HO_5
              clear HO_6
              clear HO_7
              clear HO_8
              clear BK350
              clear HB
              have HO_5 := n0_
              have HO_6 := n1_
              have HO_7 := n2_
              have HO_8 := n3_
              have BK350 := n4_
              have HB := n5_
              clear n0_ n1_ n2_ n3_ n4_ n5_
              refine start_ (n := 10) (S := fun w' => w'.cell? ⟨gb350, 0, none⟩ = some (.string (((rd_T63 l0 x9_1).f0).extract 0 ((ji13) : Int).toNat)) ∧ w'.cell? ⟨gb350, 1, none⟩ = some (.bool ((rd_T63 l0 x9_1).f1))) (ds := []) #[false, false, false, false, false, false, false, false, false, false] (by kernel_rfl) rfl rfl ⟨(blk_cell BK350.out 0).trans rfl, (blk_cell BK350.out 1).trans rfl⟩ (fun hHeld => ?_); refine with_tabW concordancelaw19_TupleRows.tab12 concordancelaw19_TupleRows.bits12 (fun HT_ HW_ => ?_)
              generalize w26.drew = w29 at HO_5 HO_6 HO_7 HO_8 BK350 HB hHeld ⊢
              refine pure_ (i := 0) (N := some 61) (v := ?_) (a' := ?_) #[true, false, false, false, false, false, false, false, false, false] rfl rfl (any_of HT_.out (by kernel_rfl)) (fun _ _ _ h => h) (Or.inl ⟨by rfl, ?_⟩) ?_ ?_
              rotate_left
              ·intro w'
               go_simp
               with_reducible rfl
              rotate_left
              ·simp only [Act.put, List.setIfInBounds_toArray, List.set_cons_zero, List.set_cons_succ, i64_w, i32_w]
               rfl
              refine pure_ (i := 4) (N := some 65) (v := ?_) (a' := ?_) #[true, false, false, false, true, false, false, false, false, false] rfl rfl (any_of HT_.out (by kernel_rfl)) (fun _ _ _ h => h) (Or.inl ⟨by rfl, ?_⟩) ?_ ?_
              rotate_left
              ·intro w'
               go_simp
               with_reducible rfl
              rotate_left
              ·simp only [Act.put, List.setIfInBounds_toArray, List.set_cons_zero, List.set_cons_succ, i64_w, i32_w]
               rfl
              refine take_ (i := 1) (N := some 62) (v := ?_) (a' := ?_) #[true, true, false, false, true, false, false, false, false, false] rfl rfl (take_ofW HT_.out HW_.out (by kernel_rfl)) (fun _ _ _ h => h) (Or.inl ⟨by rfl, ?_⟩) hHeld ?_ ?_
              rotate_left
              ·rintro w' ⟨s0, s1⟩
               go_simp
               with_reducible rfl
              rotate_left
              ·simp only [Act.put, List.setIfInBounds_toArray, List.set_cons_zero, List.set_cons_succ, i64_w, i32_w]
               rfl
              refine take_ (i := 5) (N := some 66) (v := ?_) (a' := ?_) #[true, true, false, false, true, true, false, false, false, false] rfl rfl (take_ofW HT_.out HW_.out (by kernel_rfl)) (fun _ _ _ h => h) (Or.inl ⟨by rfl, ?_⟩) hHeld ?_ ?_
              rotate_left
              ·rintro w' ⟨s0, s1⟩
               go_simp
               with_reducible rfl
              rotate_left
              ·simp only [Act.put, List.setIfInBounds_toArray, List.set_cons_zero, List.set_cons_succ, i64_w, i32_w]
               rfl
              refine join_ (σ := Value × Value × Value) 3 #[true, true, true, true, true, true, true, false, false, false] (fun s_ => [(63, s_.1), (64, s_.2.1), (67, s_.2.2)]) (fun s_ w' => (w'.cell? ⟨gb350, 0, none⟩ = some (.string (((rd_T63 l0 x9_1).f0).extract 0 ((ji13) : Int).toNat)) ∧ w'.cell? ⟨gb350, 1, none⟩ = some (.bool ((rd_T63 l0 x9_1).f1))) ∧ (Kd.R k65 65 w' w.heap.size (fun k_ => some k_ ≠ (s_.2.1 : Value).ownBlock) s_.1 y353) ∧ (Kd.R k65 65 w' w.heap.size (fun k_ => some k_ ≠ (s_.1 : Value).ownBlock) s_.2.1 y356) ∧ (Kd.R k66 66 w' w.heap.size (fun k_ => some k_ ≠ (.slice Ao28 x8_1.length co28 : Value).ownBlock) s_.2.2 y359) ∧ (Kd.R k25 25 w' w.heap.size (fun _ => True) v343 t341) ∧ (Kd.R k26 26 w' w.heap.size (fun _ => True) v345 t342) ∧ (Kd.R k66 66 w' w.heap.size (fun k_ => some k_ ≠ (s_.2.2 : Value).ownBlock) (.slice Ao28 x8_1.length co28) x8_1) ∧ (w'.heap[gb350]? = some (.cells #[.string (((rd_T63 l0 x9_1).f0).extract 0 ((ji13) : Int).toNat), .bool ((rd_T63 l0 x9_1).f1)] 63 (0, 0))) ∧ (Below w.heap.size w w')) ?_ ?_
              rotate_left
              ·intro hCont
               refine two_ (i := 2) (j := 6) (Ni := some 63) (Nj := some 67) #[true, true, true, false, true, true, false, false, false, false] #[true, true, false, false, true, true, true, false, false, false] rfl rfl rfl rfl (two_of HT_.out (by kernel_rfl)) (by decide) (by decide) (fun K hK => ?_) (fun K hK => ?_)
               ·skip
                refine Kd.R_lit_step k65 _ 65 ?hg (N := 63) ?hd (xs := ([(⟨((rd_T63 l0 x9_1).f0).extract 0 ((ji13) : Int).toNat, (rd_T63 l0 x9_1).f1⟩ : S65)] : List (S65))) (inner := [.string (((rd_T63 l0 x9_1).f0).extract 0 ((ji13) : Int).toNat), .bool ((rd_T63 l0 x9_1).f1)]) (ok := fun _ => True) (okp := fun _ => True) ?hr ?hp (fun _ hk => hk) trivial (Below.refl _ _) (Nat.le_refl _) (by simp) ?_; (case hd => rfl); (case hg => rfl); (case hr => first | (go_simp; done) | (go_simp; rfl)); (case hp => exact (Reps.c2 (show Kd.M k65 _ _ _ (⟨((rd_T63 l0 x9_1).f0).extract 0 ((ji13) : Int).toNat, (rd_T63 l0 x9_1).f1⟩ : S65) [.string (((rd_T63 l0 x9_1).f0).extract 0 ((ji13) : Int).toNat), .bool ((rd_T63 l0 x9_1).f1)] from (k65_mkM _ _ _ (⟨((rd_T63 l0 x9_1).f0).extract 0 ((ji13) : Int).toNat, (rd_T63 l0 x9_1).f1⟩ : S65) )) (Reps.none _ _)))
                intro v354 w30 ho31 hb hg_ hnew_
                clear hg_ hnew_
                (first | rw [← Ny353.out] at ho31 | (simp only [Int.reduceToNat] at ho31; rw [← Ny353.out] at ho31))
                have n0_ := Aside0.mk (Kd.R_below (by (with_reducible repeat (first | apply Kd.R_alloc | apply Kd.R_drewN | apply Kd.R_drew)); exact HO_5.out) hb)
                have n1_ := Aside0.mk (Kd.R_below (by (with_reducible repeat (first | apply Kd.R_alloc | apply Kd.R_drewN | apply Kd.R_drew)); exact HO_6.out) hb)
                have n2_ := Aside0.mk (Kd.R_elder' (by (with_reducible repeat (first | apply Kd.R_alloc | apply Kd.R_drewN | apply Kd.R_drew)); exact HO_7.out) (Kd.R_base ho31) hb)
                have n3_ := Aside0.mk (Kd.R_below (by (with_reducible repeat (first | apply Kd.R_alloc | apply Kd.R_drewN | apply Kd.R_drew)); exact HO_8.out) hb)
                have n4_ := Aside0.mk (Kd.R_lower (Kd.R_new' ho31 (Kd.R_lt (by (with_reducible repeat (first | apply Kd.R_alloc | apply Kd.R_drewN | apply Kd.R_drew)); exact HO_7.out))) (below_size (by repeat (first | (with_reducible first | exact HB.out | apply below_alloc | apply pw_below_drewN | apply below_drew1 | refine below_set ?_ GE350.out) | exact HB.out))))
                have n5_ := Aside0.mk (blk_below (g := gb350) (o := .cells #[.string (((rd_T63 l0 x9_1).f0).extract 0 ((ji13) : Int).toNat), .bool ((rd_T63 l0 x9_1).f1)] 63 (0, 0)) (by (with_reducible repeat (first | refine blk_drewN ?_ _ | refine blk_drew ?_ | refine blk_alloc ?_ _)); exact BK350.out) hb)
                have n6_ := Aside0.mk (below_step (by repeat (first | (with_reducible first | exact HB.out | apply below_alloc | apply pw_below_drewN | apply below_drew1 | refine below_set ?_ GE350.out) | exact HB.out)) hb)
                clear HO_5
                clear HO_6
                clear HO_7
                clear HO_8
                clear BK350
                clear HB
                have HO_5 := n0_
                have HO_6 := n1_
                have HO_7 := n2_
                have HO_8 := n3_
                have HO355 := n4_
                have BK350 := n5_
                have HB := n6_
                clear n0_ n1_ n2_ n3_ n4_ n5_ n6_
                clear hb ho31
                obtain ⟨Ao33, co33, eo33⟩ := Kd.R_slice HO355.out
                (first | subst eo33 | (injection eo33 with f1_ f2_ f3_; have f4_ := f1_.symm; have f5_ := f3_.symm; clear f1_ f2_ f3_; subst f4_; subst f5_))
                refine hK.out _ _ ⟨(blk_cell BK350.out 0).trans rfl, (blk_cell BK350.out 1).trans rfl⟩ (fun hHeld => ?_)
                clear hK K
                refine norm_ (a' := ?_) ?_ ?_
                rotate_left
                ·show Act.put _ (some 63) _ = _
                 simp only [Act.put, List.setIfInBounds_toArray, List.set_cons_zero, List.set_cons_succ, i64_w, i32_w]
                 rfl
                refine two_ (i := 3) (j := 6) (Ni := some 64) (Nj := some 67) #[true, true, true, true, true, true, false, false, false, false] #[true, true, true, false, true, true, true, false, false, false] rfl rfl rfl rfl (two_of HT_.out (by kernel_rfl)) (by decide) (by decide) (fun K hK => ?_) (fun K hK => ?_)
                ·skip
                 refine Kd.R_append_rows_step k65 (w0 := w) w.heap.size (by rfl) (.tmp 61) (.tmp 63) 60 65 (.agg #[(.string ⟨#[]⟩), (.bool false)]) 24 rfl Tryd.underlying60 info65 rfl (by decide) (by omega) (.slice Ao27 x7_1.length co27) x7_1 y353 _ _ _ (fun k_ => some k_ ≠ (.slice Ao33 y353.length co33 : Value).ownBlock) (fun _ => False) rfl rfl ?aO ?aR (fun _ _ h => h) (fun _ h => h.elim) ?aF ?aB ?aS ?aL ?_
                 (case aR => repeat (first | exact (Kd.R_reads' HO355.out).2.2 | (with_reducible refine Kd.C_alloc ?_ _) | (with_reducible refine Kd.C_drewN ?_ _) | (with_reducible refine Kd.C_drew ?_)))
                 (case aB => exact (by repeat (first | (with_reducible first | exact HB.out | apply below_alloc | apply pw_below_drewN | apply below_drew1 | refine below_set ?_ GE350.out) | exact HB.out)))
                 (case aF => exact (fun k_ hk => Kd.fresh' (Kd.R_lt (by (with_reducible repeat (first | apply Kd.R_alloc | apply Kd.R_drewN | apply Kd.R_drew)); exact HO355.out)) k_ hk))
                 (case aO => exact (by (with_reducible repeat (first | apply Kd.R_alloc | apply Kd.R_drewN | apply Kd.R_drew)); exact Kd.R_mono HO_7.out (fun _ hk => hk.2)))
                 (case aS => exact (below_size (by repeat (first | (with_reducible first | exact HB.out | apply below_alloc | apply pw_below_drewN | apply below_drew1 | refine below_set ?_ GE350.out) | exact HB.out))))
                 (case aL => have := LMc19.out; omega)
                 intro v357 w32 ho hb hg hat
                 rw [← Ny356.out] at ho
                 have n0_ := Aside0.mk (Kd.R_over' (by (with_reducible repeat (first | apply Kd.R_alloc | apply Kd.R_drewN | apply Kd.R_drew)); exact HO_5.out) (Kd.R_typed (by (with_reducible repeat (first | apply Kd.R_alloc | apply Kd.R_drewN | apply Kd.R_drew)); exact HO_7.out)) (by decide) hg)
                 have n1_ := Aside0.mk (Kd.R_over' (by (with_reducible repeat (first | apply Kd.R_alloc | apply Kd.R_drewN | apply Kd.R_drew)); exact HO_6.out) (Kd.R_typed (by (with_reducible repeat (first | apply Kd.R_alloc | apply Kd.R_drewN | apply Kd.R_drew)); exact HO_7.out)) (by decide) hg)
                 have n2_ := Aside0.mk (Kd.R_over' (by (with_reducible repeat (first | apply Kd.R_alloc | apply Kd.R_drewN | apply Kd.R_drew)); exact HO_8.out) (Kd.R_typed (by (with_reducible repeat (first | apply Kd.R_alloc | apply Kd.R_drewN | apply Kd.R_drew)); exact HO_7.out)) (by decide) hg)
                 have n3_ := Aside0.mk (blk_grown (g := gb350) (o := .cells #[.string (((rd_T63 l0 x9_1).f0).extract 0 ((ji13) : Int).toNat), .bool ((rd_T63 l0 x9_1).f1)] 63 (0, 0)) (by (with_reducible repeat (first | refine blk_drewN ?_ _ | refine blk_drew ?_ | refine blk_alloc ?_ _)); exact BK350.out) hg (Kd.R_ne HO_7.out BK350.out (by decide)))
                 have n4_ := Aside0.mk (Kd.R_after (ok := (fun _ => True)) (by (with_reducible repeat (first | apply Kd.R_alloc | apply Kd.R_drewN | apply Kd.R_drew)); exact HO355.out) hg hat)
                 have n5_ := Aside0.mk (hb)
                 have n6_ := Aside0.mk (ho)
                 clear HO_5
                 clear HO_6
                 clear HO_8
                 clear BK350
                 clear HO355
                 clear HB
                 clear HO_7
                 have HO_5 := n0_
                 have HO_6 := n1_
                 have HO_8 := n2_
                 have BK350 := n3_
                 have HO355 := n4_
                 have HB := n5_
                 have HO358 := n6_
                 clear n0_ n1_ n2_ n3_ n4_ n5_ n6_
                 clear ho hb hg hat
                 refine hK.out _ _ ⟨(blk_cell BK350.out 0).trans rfl, (blk_cell BK350.out 1).trans rfl⟩ (fun hHeld => ?_)
                 clear hK K
                 refine norm_ (a' := ?_) ?_ ?_
                 rotate_left
                 ·show Act.put _ (some 64) _ = _
                  simp only [Act.put, List.setIfInBounds_toArray, List.set_cons_zero, List.set_cons_succ, i64_w, i32_w]
                  rfl
                 refine one_ (i := 6) (N := some 67) #[true, true, true, true, true, true, true, false, false, false] rfl rfl (one_of HT_.out (by kernel_rfl)) (by decide) (fun K hK => ?_)
                 refine Kd.R_lit_step k66 _ 66 ?hg (N := 67) ?hd (xs := ([(⟨((rd_T63 l0 x9_1).f0).extract 0 ((ji13) : Int).toNat, (rd_T63 l0 x9_1).f1⟩ : S66)] : List (S66))) (inner := [.string (((rd_T63 l0 x9_1).f0).extract 0 ((ji13) : Int).toNat), .bool ((rd_T63 l0 x9_1).f1)]) (ok := fun _ => True) (okp := fun _ => True) ?hr ?hp (fun _ hk => hk) trivial (Below.refl _ _) (Nat.le_refl _) (by simp) ?_; (case hd => rfl); (case hg => rfl); (case hr => first | (go_simp; done) | (go_simp; rfl)); (case hp => exact (Reps.c2 (show Kd.M k66 _ _ _ (⟨((rd_T63 l0 x9_1).f0).extract 0 ((ji13) : Int).toNat, (rd_T63 l0 x9_1).f1⟩ : S66) [.string (((rd_T63 l0 x9_1).f0).extract 0 ((ji13) : Int).toNat), .bool ((rd_T63 l0 x9_1).f1)] from (k66_mkM _ _ _ (⟨((rd_T63 l0 x9_1).f0).extract 0 ((ji13) : Int).toNat, (rd_T63 l0 x9_1).f1⟩ : S66) )) (Reps.none _ _)))
                 intro v360 w34 ho35 hb hg_ hnew_
                 clear hg_ hnew_
                 (first | rw [← Ny359.out] at ho35 | (simp only [Int.reduceToNat] at ho35; rw [← Ny359.out] at ho35))
                 have n0_ := Aside0.mk (Kd.R_below (by (with_reducible repeat (first | apply Kd.R_alloc | apply Kd.R_drewN | apply Kd.R_drew)); exact HO_5.out) hb)
                 have n1_ := Aside0.mk (Kd.R_below (by (with_reducible repeat (first | apply Kd.R_alloc | apply Kd.R_drewN | apply Kd.R_drew)); exact HO_6.out) hb)
                 have n2_ := Aside0.mk (Kd.R_elder' (by (with_reducible repeat (first | apply Kd.R_alloc | apply Kd.R_drewN | apply Kd.R_drew)); exact HO_8.out) (Kd.R_base ho35) hb)
                 have n3_ := Aside0.mk (Kd.R_below (by (with_reducible repeat (first | apply Kd.R_alloc | apply Kd.R_drewN | apply Kd.R_drew)); exact HO355.out) hb)
                 have n4_ := Aside0.mk (Kd.R_below (by (with_reducible repeat (first | apply Kd.R_alloc | apply Kd.R_drewN | apply Kd.R_drew)); exact HO358.out) hb)
                 have n5_ := Aside0.mk (Kd.R_lower (Kd.R_new' ho35 (Kd.R_lt (by (with_reducible repeat (first | apply Kd.R_alloc | apply Kd.R_drewN | apply Kd.R_drew)); exact HO_8.out))) (below_size (by repeat (first | (with_reducible first | exact HB.out | apply below_alloc | apply pw_below_drewN | apply below_drew1 | refine below_set ?_ GE350.out) | exact HB.out))))
                 have n6_ := Aside0.mk (blk_below (g := gb350) (o := .cells #[.string (((rd_T63 l0 x9_1).f0).extract 0 ((ji13) : Int).toNat), .bool ((rd_T63 l0 x9_1).f1)] 63 (0, 0)) (by (with_reducible repeat (first | refine blk_drewN ?_ _ | refine blk_drew ?_ | refine blk_alloc ?_ _)); exact BK350.out) hb)
                 have n7_ := Aside0.mk (below_step (by repeat (first | (with_reducible first | exact HB.out | apply below_alloc | apply pw_below_drewN | apply below_drew1 | refine below_set ?_ GE350.out) | exact HB.out)) hb)
                 clear HO_5
                 clear HO_6
                 clear HO_8
                 clear HO355
                 clear HO358
                 clear BK350
                 clear HB
                 have HO_5 := n0_
                 have HO_6 := n1_
                 have HO_8 := n2_
                 have HO355 := n3_
                 have HO358 := n4_
                 have HO361 := n5_
                 have BK350 := n6_
                 have HB := n7_
                 clear n0_ n1_ n2_ n3_ n4_ n5_ n6_ n7_
                 clear hb ho35
                 refine hK.out _ _ ⟨(blk_cell BK350.out 0).trans rfl, (blk_cell BK350.out 1).trans rfl⟩ (fun hHeld => ?_)
                 clear hK K
                 refine norm_ (a' := ?_) ?_ ?_
                 rotate_left
                 ·show Act.put _ (some 67) _ = _
                  simp only [Act.put, List.setIfInBounds_toArray, List.set_cons_zero, List.set_cons_succ, i64_w, i32_w]
                  rfl
                 exact norm_ (by simp only [putAll, Act.put, List.setIfInBounds_toArray, List.set_cons_zero, List.set_cons_succ]) (hCont (.slice Ao33 y353.length co33, v357, v360) _ ⟨hHeld, (by (with_reducible repeat (first | apply Kd.R_alloc | apply Kd.R_drewN | apply Kd.R_drew)); exact Kd.R_mono HO355.out (fun _ hk => hk.2)), (by (with_reducible repeat (first | apply Kd.R_alloc | apply Kd.R_drewN | apply Kd.R_drew)); exact HO358.out), (by (with_reducible repeat (first | apply Kd.R_alloc | apply Kd.R_drewN | apply Kd.R_drew)); exact Kd.R_mono HO361.out (fun _ hk => hk.2)), (by (with_reducible repeat (first | apply Kd.R_alloc | apply Kd.R_drewN | apply Kd.R_drew)); exact HO_5.out), (by (with_reducible repeat (first | apply Kd.R_alloc | apply Kd.R_drewN | apply Kd.R_drew)); exact HO_6.out), (by (with_reducible repeat (first | apply Kd.R_alloc | apply Kd.R_drewN | apply Kd.R_drew)); exact Kd.R_mono HO_8.out (fun _ hk => hk.2)), (by (with_reducible repeat (first | refine blk_drewN ?_ _ | refine blk_drew ?_ | refine blk_alloc ?_ _)); exact BK350.out), (by repeat (first | (with_reducible first | exact HB.out | apply below_alloc | apply pw_below_drewN | apply below_drew1 | refine below_set ?_ GE350.out) | exact HB.out))⟩)
                ·skip
                 refine Kd.R_lit_step k66 _ 66 ?hg (N := 67) ?hd (xs := ([(⟨((rd_T63 l0 x9_1).f0).extract 0 ((ji13) : Int).toNat, (rd_T63 l0 x9_1).f1⟩ : S66)] : List (S66))) (inner := [.string (((rd_T63 l0 x9_1).f0).extract 0 ((ji13) : Int).toNat), .bool ((rd_T63 l0 x9_1).f1)]) (ok := fun _ => True) (okp := fun _ => True) ?hr ?hp (fun _ hk => hk) trivial (Below.refl _ _) (Nat.le_refl _) (by simp) ?_; (case hd => rfl); (case hg => rfl); (case hr => first | (go_simp; done) | (go_simp; rfl)); (case hp => exact (Reps.c2 (show Kd.M k66 _ _ _ (⟨((rd_T63 l0 x9_1).f0).extract 0 ((ji13) : Int).toNat, (rd_T63 l0 x9_1).f1⟩ : S66) [.string (((rd_T63 l0 x9_1).f0).extract 0 ((ji13) : Int).toNat), .bool ((rd_T63 l0 x9_1).f1)] from (k66_mkM _ _ _ (⟨((rd_T63 l0 x9_1).f0).extract 0 ((ji13) : Int).toNat, (rd_T63 l0 x9_1).f1⟩ : S66) )) (Reps.none _ _)))
                 intro v360 w32 ho33 hb hg_ hnew_
                 clear hg_ hnew_
                 (first | rw [← Ny359.out] at ho33 | (simp only [Int.reduceToNat] at ho33; rw [← Ny359.out] at ho33))
                 have n0_ := Aside0.mk (Kd.R_below (by (with_reducible repeat (first | apply Kd.R_alloc | apply Kd.R_drewN | apply Kd.R_drew)); exact HO_5.out) hb)
                 have n1_ := Aside0.mk (Kd.R_below (by (with_reducible repeat (first | apply Kd.R_alloc | apply Kd.R_drewN | apply Kd.R_drew)); exact HO_6.out) hb)
                 have n2_ := Aside0.mk (Kd.R_below (by (with_reducible repeat (first | apply Kd.R_alloc | apply Kd.R_drewN | apply Kd.R_drew)); exact HO_7.out) hb)
                 have n3_ := Aside0.mk (Kd.R_elder' (by (with_reducible repeat (first | apply Kd.R_alloc | apply Kd.R_drewN | apply Kd.R_drew)); exact HO_8.out) (Kd.R_base ho33) hb)
                 have n4_ := Aside0.mk (Kd.R_below (by (with_reducible repeat (first | apply Kd.R_alloc | apply Kd.R_drewN | apply Kd.R_drew)); exact HO355.out) hb)
                 have n5_ := Aside0.mk (Kd.R_lower (Kd.R_new' ho33 (Kd.R_lt (by (with_reducible repeat (first | apply Kd.R_alloc | apply Kd.R_drewN | apply Kd.R_drew)); exact HO_8.out))) (below_size (by repeat (first | (with_reducible first | exact HB.out | apply below_alloc | apply pw_below_drewN | apply below_drew1 | refine below_set ?_ GE350.out) | exact HB.out))))
                 have n6_ := Aside0.mk (blk_below (g := gb350) (o := .cells #[.string (((rd_T63 l0 x9_1).f0).extract 0 ((ji13) : Int).toNat), .bool ((rd_T63 l0 x9_1).f1)] 63 (0, 0)) (by (with_reducible repeat (first | refine blk_drewN ?_ _ | refine blk_drew ?_ | refine blk_alloc ?_ _)); exact BK350.out) hb)
                 have n7_ := Aside0.mk (below_step (by repeat (first | (with_reducible first | exact HB.out | apply below_alloc | apply pw_below_drewN | apply below_drew1 | refine below_set ?_ GE350.out) | exact HB.out)) hb)
                 clear HO_5
                 clear HO_6
                 clear HO_7
                 clear HO_8
                 clear HO355
                 clear BK350
                 clear HB
                 have HO_5 := n0_
                 have HO_6 := n1_
                 have HO_7 := n2_
                 have HO_8 := n3_
                 have HO355 := n4_
                 have HO361 := n5_
                 have BK350 := n6_
                 have HB := n7_
                 clear n0_ n1_ n2_ n3_ n4_ n5_ n6_ n7_
                 clear hb ho33
                 obtain ⟨Ao35, co35, eo35⟩ := Kd.R_slice HO355.out
                 (first | subst eo35 | (injection eo35 with f1_ f2_ f3_; have f4_ := f1_.symm; have f5_ := f3_.symm; clear f1_ f2_ f3_; subst f4_; subst f5_))
                 refine hK.out _ _ ⟨(blk_cell BK350.out 0).trans rfl, (blk_cell BK350.out 1).trans rfl⟩ (fun hHeld => ?_)
                 clear hK K
                 refine norm_ (a' := ?_) ?_ ?_
                 rotate_left
                 ·show Act.put _ (some 67) _ = _
                  simp only [Act.put, List.setIfInBounds_toArray, List.set_cons_zero, List.set_cons_succ, i64_w, i32_w]
                  rfl
                 refine one_ (i := 3) (N := some 64) #[true, true, true, true, true, true, true, false, false, false] rfl rfl (one_of HT_.out (by kernel_rfl)) (by decide) (fun K hK => ?_)
                 refine Kd.R_append_rows_step k65 (w0 := w) w.heap.size (by rfl) (.tmp 61) (.tmp 63) 60 65 (.agg #[(.string ⟨#[]⟩), (.bool false)]) 24 rfl Tryd.underlying60 info65 rfl (by decide) (by omega) (.slice Ao27 x7_1.length co27) x7_1 y353 _ _ _ (fun k_ => some k_ ≠ (.slice Ao35 y353.length co35 : Value).ownBlock) (fun _ => False) rfl rfl ?aO ?aR (fun _ _ h => h) (fun _ h => h.elim) ?aF ?aB ?aS ?aL ?_
                 (case aR => repeat (first | exact (Kd.R_reads' HO355.out).2.2 | (with_reducible refine Kd.C_alloc ?_ _) | (with_reducible refine Kd.C_drewN ?_ _) | (with_reducible refine Kd.C_drew ?_)))
                 (case aB => exact (by repeat (first | (with_reducible first | exact HB.out | apply below_alloc | apply pw_below_drewN | apply below_drew1 | refine below_set ?_ GE350.out) | exact HB.out)))
                 (case aF => exact (fun k_ hk => Kd.fresh' (Kd.R_lt (by (with_reducible repeat (first | apply Kd.R_alloc | apply Kd.R_drewN | apply Kd.R_drew)); exact HO355.out)) k_ hk))
                 (case aO => exact (by (with_reducible repeat (first | apply Kd.R_alloc | apply Kd.R_drewN | apply Kd.R_drew)); exact Kd.R_mono HO_7.out (fun _ hk => hk.2)))
                 (case aS => exact (below_size (by repeat (first | (with_reducible first | exact HB.out | apply below_alloc | apply pw_below_drewN | apply below_drew1 | refine below_set ?_ GE350.out) | exact HB.out))))
                 (case aL => have := LMc19.out; omega)
                 intro v357 w34 ho hb hg hat
                 rw [← Ny356.out] at ho
                 have n0_ := Aside0.mk (Kd.R_over' (by (with_reducible repeat (first | apply Kd.R_alloc | apply Kd.R_drewN | apply Kd.R_drew)); exact HO_5.out) (Kd.R_typed (by (with_reducible repeat (first | apply Kd.R_alloc | apply Kd.R_drewN | apply Kd.R_drew)); exact HO_7.out)) (by decide) hg)
                 have n1_ := Aside0.mk (Kd.R_over' (by (with_reducible repeat (first | apply Kd.R_alloc | apply Kd.R_drewN | apply Kd.R_drew)); exact HO_6.out) (Kd.R_typed (by (with_reducible repeat (first | apply Kd.R_alloc | apply Kd.R_drewN | apply Kd.R_drew)); exact HO_7.out)) (by decide) hg)
                 have n2_ := Aside0.mk (Kd.R_over' (by (with_reducible repeat (first | apply Kd.R_alloc | apply Kd.R_drewN | apply Kd.R_drew)); exact HO_8.out) (Kd.R_typed (by (with_reducible repeat (first | apply Kd.R_alloc | apply Kd.R_drewN | apply Kd.R_drew)); exact HO_7.out)) (by decide) hg)
                 have n3_ := Aside0.mk (blk_grown (g := gb350) (o := .cells #[.string (((rd_T63 l0 x9_1).f0).extract 0 ((ji13) : Int).toNat), .bool ((rd_T63 l0 x9_1).f1)] 63 (0, 0)) (by (with_reducible repeat (first | refine blk_drewN ?_ _ | refine blk_drew ?_ | refine blk_alloc ?_ _)); exact BK350.out) hg (Kd.R_ne HO_7.out BK350.out (by decide)))
                 have n4_ := Aside0.mk (Kd.R_after (ok := (fun _ => True)) (by (with_reducible repeat (first | apply Kd.R_alloc | apply Kd.R_drewN | apply Kd.R_drew)); exact HO355.out) hg hat)
                 have n5_ := Aside0.mk (Kd.R_over' (by (with_reducible repeat (first | apply Kd.R_alloc | apply Kd.R_drewN | apply Kd.R_drew)); exact HO361.out) (Kd.R_typed (by (with_reducible repeat (first | apply Kd.R_alloc | apply Kd.R_drewN | apply Kd.R_drew)); exact HO_7.out)) (by decide) hg)
                 have n6_ := Aside0.mk (hb)
                 have n7_ := Aside0.mk (ho)
                 clear HO_5
                 clear HO_6
                 clear HO_8
                 clear BK350
                 clear HO355
                 clear HO361
                 clear HB
                 clear HO_7
                 have HO_5 := n0_
                 have HO_6 := n1_
                 have HO_8 := n2_
                 have BK350 := n3_
                 have HO355 := n4_
                 have HO361 := n5_
                 have HB := n6_
                 have HO358 := n7_
                 clear n0_ n1_ n2_ n3_ n4_ n5_ n6_ n7_
                 clear ho hb hg hat
                 refine hK.out _ _ ⟨(blk_cell BK350.out 0).trans rfl, (blk_cell BK350.out 1).trans rfl⟩ (fun hHeld => ?_)
                 clear hK K
                 refine norm_ (a' := ?_) ?_ ?_
                 rotate_left
                 ·show Act.put _ (some 64) _ = _
                  simp only [Act.put, List.setIfInBounds_toArray, List.set_cons_zero, List.set_cons_succ, i64_w, i32_w]
                  rfl
                 exact norm_ (by simp only [putAll, Act.put, List.setIfInBounds_toArray, List.set_cons_zero, List.set_cons_succ]) (hCont (.slice Ao35 y353.length co35, v357, v360) _ ⟨hHeld, (by (with_reducible repeat (first | apply Kd.R_alloc | apply Kd.R_drewN | apply Kd.R_drew)); exact Kd.R_mono HO355.out (fun _ hk => hk.2)), (by (with_reducible repeat (first | apply Kd.R_alloc | apply Kd.R_drewN | apply Kd.R_drew)); exact HO358.out), (by (with_reducible repeat (first | apply Kd.R_alloc | apply Kd.R_drewN | apply Kd.R_drew)); exact Kd.R_mono HO361.out (fun _ hk => hk.2)), (by (with_reducible repeat (first | apply Kd.R_alloc | apply Kd.R_drewN | apply Kd.R_drew)); exact HO_5.out), (by (with_reducible repeat (first | apply Kd.R_alloc | apply Kd.R_drewN | apply Kd.R_drew)); exact HO_6.out), (by (with_reducible repeat (first | apply Kd.R_alloc | apply Kd.R_drewN | apply Kd.R_drew)); exact Kd.R_mono HO_8.out (fun _ hk => hk.2)), (by (with_reducible repeat (first | refine blk_drewN ?_ _ | refine blk_drew ?_ | refine blk_alloc ?_ _)); exact BK350.out), (by repeat (first | (with_reducible first | exact HB.out | apply below_alloc | apply pw_below_drewN | apply below_drew1 | refine below_set ?_ GE350.out) | exact HB.out))⟩)
               ·skip
                refine Kd.R_lit_step k66 _ 66 ?hg (N := 67) ?hd (xs := ([(⟨((rd_T63 l0 x9_1).f0).extract 0 ((ji13) : Int).toNat, (rd_T63 l0 x9_1).f1⟩ : S66)] : List (S66))) (inner := [.string (((rd_T63 l0 x9_1).f0).extract 0 ((ji13) : Int).toNat), .bool ((rd_T63 l0 x9_1).f1)]) (ok := fun _ => True) (okp := fun _ => True) ?hr ?hp (fun _ hk => hk) trivial (Below.refl _ _) (Nat.le_refl _) (by simp) ?_; (case hd => rfl); (case hg => rfl); (case hr => first | (go_simp; done) | (go_simp; rfl)); (case hp => exact (Reps.c2 (show Kd.M k66 _ _ _ (⟨((rd_T63 l0 x9_1).f0).extract 0 ((ji13) : Int).toNat, (rd_T63 l0 x9_1).f1⟩ : S66) [.string (((rd_T63 l0 x9_1).f0).extract 0 ((ji13) : Int).toNat), .bool ((rd_T63 l0 x9_1).f1)] from (k66_mkM _ _ _ (⟨((rd_T63 l0 x9_1).f0).extract 0 ((ji13) : Int).toNat, (rd_T63 l0 x9_1).f1⟩ : S66) )) (Reps.none _ _)))
                intro v360 w30 ho31 hb hg_ hnew_
                clear hg_ hnew_
                (first | rw [← Ny359.out] at ho31 | (simp only [Int.reduceToNat] at ho31; rw [← Ny359.out] at ho31))
                have n0_ := Aside0.mk (Kd.R_below (by (with_reducible repeat (first | apply Kd.R_alloc | apply Kd.R_drewN | apply Kd.R_drew)); exact HO_5.out) hb)
                have n1_ := Aside0.mk (Kd.R_below (by (with_reducible repeat (first | apply Kd.R_alloc | apply Kd.R_drewN | apply Kd.R_drew)); exact HO_6.out) hb)
                have n2_ := Aside0.mk (Kd.R_below (by (with_reducible repeat (first | apply Kd.R_alloc | apply Kd.R_drewN | apply Kd.R_drew)); exact HO_7.out) hb)
                have n3_ := Aside0.mk (Kd.R_elder' (by (with_reducible repeat (first | apply Kd.R_alloc | apply Kd.R_drewN | apply Kd.R_drew)); exact HO_8.out) (Kd.R_base ho31) hb)
                have n4_ := Aside0.mk (Kd.R_lower (Kd.R_new' ho31 (Kd.R_lt (by (with_reducible repeat (first | apply Kd.R_alloc | apply Kd.R_drewN | apply Kd.R_drew)); exact HO_8.out))) (below_size (by repeat (first | (with_reducible first | exact HB.out | apply below_alloc | apply pw_below_drewN | apply below_drew1 | refine below_set ?_ GE350.out) | exact HB.out))))
                have n5_ := Aside0.mk (blk_below (g := gb350) (o := .cells #[.string (((rd_T63 l0 x9_1).f0).extract 0 ((ji13) : Int).toNat), .bool ((rd_T63 l0 x9_1).f1)] 63 (0, 0)) (by (with_reducible repeat (first | refine blk_drewN ?_ _ | refine blk_drew ?_ | refine blk_alloc ?_ _)); exact BK350.out) hb)
                have n6_ := Aside0.mk (below_step (by repeat (first | (with_reducible first | exact HB.out | apply below_alloc | apply pw_below_drewN | apply below_drew1 | refine below_set ?_ GE350.out) | exact HB.out)) hb)
                clear HO_5
                clear HO_6
                clear HO_7
                clear HO_8
                clear BK350
                clear HB
                have HO_5 := n0_
                have HO_6 := n1_
                have HO_7 := n2_
                have HO_8 := n3_
                have HO361 := n4_
                have BK350 := n5_
                have HB := n6_
                clear n0_ n1_ n2_ n3_ n4_ n5_ n6_
                clear hb ho31
                refine hK.out _ _ ⟨(blk_cell BK350.out 0).trans rfl, (blk_cell BK350.out 1).trans rfl⟩ (fun hHeld => ?_)
                clear hK K
                refine norm_ (a' := ?_) ?_ ?_
                rotate_left
                ·show Act.put _ (some 67) _ = _
                 simp only [Act.put, List.setIfInBounds_toArray, List.set_cons_zero, List.set_cons_succ, i64_w, i32_w]
                 rfl
                refine one_ (i := 2) (N := some 63) #[true, true, true, false, true, true, true, false, false, false] rfl rfl (one_of HT_.out (by kernel_rfl)) (by decide) (fun K hK => ?_)
                refine Kd.R_lit_step k65 _ 65 ?hg (N := 63) ?hd (xs := ([(⟨((rd_T63 l0 x9_1).f0).extract 0 ((ji13) : Int).toNat, (rd_T63 l0 x9_1).f1⟩ : S65)] : List (S65))) (inner := [.string (((rd_T63 l0 x9_1).f0).extract 0 ((ji13) : Int).toNat), .bool ((rd_T63 l0 x9_1).f1)]) (ok := fun _ => True) (okp := fun _ => True) ?hr ?hp (fun _ hk => hk) trivial (Below.refl _ _) (Nat.le_refl _) (by simp) ?_; (case hd => rfl); (case hg => rfl); (case hr => first | (go_simp; done) | (go_simp; rfl)); (case hp => exact (Reps.c2 (show Kd.M k65 _ _ _ (⟨((rd_T63 l0 x9_1).f0).extract 0 ((ji13) : Int).toNat, (rd_T63 l0 x9_1).f1⟩ : S65) [.string (((rd_T63 l0 x9_1).f0).extract 0 ((ji13) : Int).toNat), .bool ((rd_T63 l0 x9_1).f1)] from (k65_mkM _ _ _ (⟨((rd_T63 l0 x9_1).f0).extract 0 ((ji13) : Int).toNat, (rd_T63 l0 x9_1).f1⟩ : S65) )) (Reps.none _ _)))
                intro v354 w32 ho33 hb hg_ hnew_
                clear hg_ hnew_
                (first | rw [← Ny353.out] at ho33 | (simp only [Int.reduceToNat] at ho33; rw [← Ny353.out] at ho33))
                have n0_ := Aside0.mk (Kd.R_below (by (with_reducible repeat (first | apply Kd.R_alloc | apply Kd.R_drewN | apply Kd.R_drew)); exact HO_5.out) hb)
                have n1_ := Aside0.mk (Kd.R_below (by (with_reducible repeat (first | apply Kd.R_alloc | apply Kd.R_drewN | apply Kd.R_drew)); exact HO_6.out) hb)
                have n2_ := Aside0.mk (Kd.R_elder' (by (with_reducible repeat (first | apply Kd.R_alloc | apply Kd.R_drewN | apply Kd.R_drew)); exact HO_7.out) (Kd.R_base ho33) hb)
                have n3_ := Aside0.mk (Kd.R_below (by (with_reducible repeat (first | apply Kd.R_alloc | apply Kd.R_drewN | apply Kd.R_drew)); exact HO_8.out) hb)
                have n4_ := Aside0.mk (Kd.R_below (by (with_reducible repeat (first | apply Kd.R_alloc | apply Kd.R_drewN | apply Kd.R_drew)); exact HO361.out) hb)
                have n5_ := Aside0.mk (Kd.R_lower (Kd.R_new' ho33 (Kd.R_lt (by (with_reducible repeat (first | apply Kd.R_alloc | apply Kd.R_drewN | apply Kd.R_drew)); exact HO_7.out))) (below_size (by repeat (first | (with_reducible first | exact HB.out | apply below_alloc | apply pw_below_drewN | apply below_drew1 | refine below_set ?_ GE350.out) | exact HB.out))))
                have n6_ := Aside0.mk (blk_below (g := gb350) (o := .cells #[.string (((rd_T63 l0 x9_1).f0).extract 0 ((ji13) : Int).toNat), .bool ((rd_T63 l0 x9_1).f1)] 63 (0, 0)) (by (with_reducible repeat (first | refine blk_drewN ?_ _ | refine blk_drew ?_ | refine blk_alloc ?_ _)); exact BK350.out) hb)
                have n7_ := Aside0.mk (below_step (by repeat (first | (with_reducible first | exact HB.out | apply below_alloc | apply pw_below_drewN | apply below_drew1 | refine below_set ?_ GE350.out) | exact HB.out)) hb)
                clear HO_5
                clear HO_6
                clear HO_7
                clear HO_8
                clear HO361
                clear BK350
                clear HB
                have HO_5 := n0_
                have HO_6 := n1_
                have HO_7 := n2_
                have HO_8 := n3_
                have HO361 := n4_
                have HO355 := n5_
                have BK350 := n6_
                have HB := n7_
                clear n0_ n1_ n2_ n3_ n4_ n5_ n6_ n7_
                clear hb ho33
                obtain ⟨Ao35, co35, eo35⟩ := Kd.R_slice HO355.out
                (first | subst eo35 | (injection eo35 with f1_ f2_ f3_; have f4_ := f1_.symm; have f5_ := f3_.symm; clear f1_ f2_ f3_; subst f4_; subst f5_))
                refine hK.out _ _ ⟨(blk_cell BK350.out 0).trans rfl, (blk_cell BK350.out 1).trans rfl⟩ (fun hHeld => ?_)
                clear hK K
                refine norm_ (a' := ?_) ?_ ?_
                rotate_left
                ·show Act.put _ (some 63) _ = _
                 simp only [Act.put, List.setIfInBounds_toArray, List.set_cons_zero, List.set_cons_succ, i64_w, i32_w]
                 rfl
                refine one_ (i := 3) (N := some 64) #[true, true, true, true, true, true, true, false, false, false] rfl rfl (one_of HT_.out (by kernel_rfl)) (by decide) (fun K hK => ?_)
                refine Kd.R_append_rows_step k65 (w0 := w) w.heap.size (by rfl) (.tmp 61) (.tmp 63) 60 65 (.agg #[(.string ⟨#[]⟩), (.bool false)]) 24 rfl Tryd.underlying60 info65 rfl (by decide) (by omega) (.slice Ao27 x7_1.length co27) x7_1 y353 _ _ _ (fun k_ => some k_ ≠ (.slice Ao35 y353.length co35 : Value).ownBlock) (fun _ => False) rfl rfl ?aO ?aR (fun _ _ h => h) (fun _ h => h.elim) ?aF ?aB ?aS ?aL ?_
                (case aR => repeat (first | exact (Kd.R_reads' HO355.out).2.2 | (with_reducible refine Kd.C_alloc ?_ _) | (with_reducible refine Kd.C_drewN ?_ _) | (with_reducible refine Kd.C_drew ?_)))
                (case aB => exact (by repeat (first | (with_reducible first | exact HB.out | apply below_alloc | apply pw_below_drewN | apply below_drew1 | refine below_set ?_ GE350.out) | exact HB.out)))
                (case aF => exact (fun k_ hk => Kd.fresh' (Kd.R_lt (by (with_reducible repeat (first | apply Kd.R_alloc | apply Kd.R_drewN | apply Kd.R_drew)); exact HO355.out)) k_ hk))
                (case aO => exact (by (with_reducible repeat (first | apply Kd.R_alloc | apply Kd.R_drewN | apply Kd.R_drew)); exact Kd.R_mono HO_7.out (fun _ hk => hk.2)))
                (case aS => exact (below_size (by repeat (first | (with_reducible first | exact HB.out | apply below_alloc | apply pw_below_drewN | apply below_drew1 | refine below_set ?_ GE350.out) | exact HB.out))))
                (case aL => have := LMc19.out; omega)
                intro v357 w34 ho hb hg hat
                rw [← Ny356.out] at ho
                have n0_ := Aside0.mk (Kd.R_over' (by (with_reducible repeat (first | apply Kd.R_alloc | apply Kd.R_drewN | apply Kd.R_drew)); exact HO_5.out) (Kd.R_typed (by (with_reducible repeat (first | apply Kd.R_alloc | apply Kd.R_drewN | apply Kd.R_drew)); exact HO_7.out)) (by decide) hg)
                have n1_ := Aside0.mk (Kd.R_over' (by (with_reducible repeat (first | apply Kd.R_alloc | apply Kd.R_drewN | apply Kd.R_drew)); exact HO_6.out) (Kd.R_typed (by (with_reducible repeat (first | apply Kd.R_alloc | apply Kd.R_drewN | apply Kd.R_drew)); exact HO_7.out)) (by decide) hg)
                have n2_ := Aside0.mk (Kd.R_over' (by (with_reducible repeat (first | apply Kd.R_alloc | apply Kd.R_drewN | apply Kd.R_drew)); exact HO_8.out) (Kd.R_typed (by (with_reducible repeat (first | apply Kd.R_alloc | apply Kd.R_drewN | apply Kd.R_drew)); exact HO_7.out)) (by decide) hg)
                have n3_ := Aside0.mk (blk_grown (g := gb350) (o := .cells #[.string (((rd_T63 l0 x9_1).f0).extract 0 ((ji13) : Int).toNat), .bool ((rd_T63 l0 x9_1).f1)] 63 (0, 0)) (by (with_reducible repeat (first | refine blk_drewN ?_ _ | refine blk_drew ?_ | refine blk_alloc ?_ _)); exact BK350.out) hg (Kd.R_ne HO_7.out BK350.out (by decide)))
                have n4_ := Aside0.mk (Kd.R_over' (by (with_reducible repeat (first | apply Kd.R_alloc | apply Kd.R_drewN | apply Kd.R_drew)); exact HO361.out) (Kd.R_typed (by (with_reducible repeat (first | apply Kd.R_alloc | apply Kd.R_drewN | apply Kd.R_drew)); exact HO_7.out)) (by decide) hg)
                have n5_ := Aside0.mk (Kd.R_after (ok := (fun _ => True)) (by (with_reducible repeat (first | apply Kd.R_alloc | apply Kd.R_drewN | apply Kd.R_drew)); exact HO355.out) hg hat)
                have n6_ := Aside0.mk (hb)
                have n7_ := Aside0.mk (ho)
                clear HO_5
                clear HO_6
                clear HO_8
                clear BK350
                clear HO361
                clear HO355
                clear HB
                clear HO_7
                have HO_5 := n0_
                have HO_6 := n1_
                have HO_8 := n2_
                have BK350 := n3_
                have HO361 := n4_
                have HO355 := n5_
                have HB := n6_
                have HO358 := n7_
                clear n0_ n1_ n2_ n3_ n4_ n5_ n6_ n7_
                clear ho hb hg hat
                refine hK.out _ _ ⟨(blk_cell BK350.out 0).trans rfl, (blk_cell BK350.out 1).trans rfl⟩ (fun hHeld => ?_)
                clear hK K
                refine norm_ (a' := ?_) ?_ ?_
                rotate_left
                ·show Act.put _ (some 64) _ = _
                 simp only [Act.put, List.setIfInBounds_toArray, List.set_cons_zero, List.set_cons_succ, i64_w, i32_w]
                 rfl
                exact norm_ (by simp only [putAll, Act.put, List.setIfInBounds_toArray, List.set_cons_zero, List.set_cons_succ]) (hCont (.slice Ao35 y353.length co35, v357, v360) _ ⟨hHeld, (by (with_reducible repeat (first | apply Kd.R_alloc | apply Kd.R_drewN | apply Kd.R_drew)); exact Kd.R_mono HO355.out (fun _ hk => hk.2)), (by (with_reducible repeat (first | apply Kd.R_alloc | apply Kd.R_drewN | apply Kd.R_drew)); exact HO358.out), (by (with_reducible repeat (first | apply Kd.R_alloc | apply Kd.R_drewN | apply Kd.R_drew)); exact Kd.R_mono HO361.out (fun _ hk => hk.2)), (by (with_reducible repeat (first | apply Kd.R_alloc | apply Kd.R_drewN | apply Kd.R_drew)); exact HO_5.out), (by (with_reducible repeat (first | apply Kd.R_alloc | apply Kd.R_drewN | apply Kd.R_drew)); exact HO_6.out), (by (with_reducible repeat (first | apply Kd.R_alloc | apply Kd.R_drewN | apply Kd.R_drew)); exact Kd.R_mono HO_8.out (fun _ hk => hk.2)), (by (with_reducible repeat (first | refine blk_drewN ?_ _ | refine blk_drew ?_ | refine blk_alloc ?_ _)); exact BK350.out), (by repeat (first | (with_reducible first | exact HB.out | apply below_alloc | apply pw_below_drewN | apply below_drew1 | refine below_set ?_ GE350.out) | exact HB.out))⟩)
              rintro ⟨v354, v357, v360⟩ w36 ⟨hS_, h0_, h1_, h2_, h3_, h4_, h5_, h6_, h7_⟩
              have n0_ : Aside0 (Kd.R k65 65 w36 w.heap.size (fun k_ => some k_ ≠ (v357 : Value).ownBlock) v354 y353) := ⟨h0_⟩
              have n1_ : Aside0 (Kd.R k65 65 w36 w.heap.size (fun k_ => some k_ ≠ (v354 : Value).ownBlock) v357 y356) := ⟨h1_⟩
              have n2_ : Aside0 (Kd.R k66 66 w36 w.heap.size (fun k_ => some k_ ≠ (.slice Ao28 x8_1.length co28 : Value).ownBlock) v360 y359) := ⟨h2_⟩
              have n3_ : Aside0 (Kd.R k25 25 w36 w.heap.size (fun _ => True) v343 t341) := ⟨h3_⟩
              have n4_ : Aside0 (Kd.R k26 26 w36 w.heap.size (fun _ => True) v345 t342) := ⟨h4_⟩
              have n5_ : Aside0 (Kd.R k66 66 w36 w.heap.size (fun k_ => some k_ ≠ (v360 : Value).ownBlock) (.slice Ao28 x8_1.length co28) x8_1) := ⟨h5_⟩
              have n6_ : Aside0 (w36.heap[gb350]? = some (.cells #[.string (((rd_T63 l0 x9_1).f0).extract 0 ((ji13) : Int).toNat), .bool ((rd_T63 l0 x9_1).f1)] 63 (0, 0))) := ⟨h6_⟩
              have n7_ : Aside0 (Below w.heap.size w w36) := ⟨h7_⟩
              clear HO_5
              clear HO_6
              clear HO_7
              clear HO_8
              clear BK350
              clear HB
              clear h0_ h1_ h2_ h3_ h4_ h5_ h6_ h7_
              have HO355 := n0_
              have HO358 := n1_
              have HO361 := n2_
              have HO_5 := n3_
              have HO_6 := n4_
              have HO_8 := n5_
              have BK350 := n6_
              have HB := n7_
              clear n0_ n1_ n2_ n3_ n4_ n5_ n6_ n7_
              have hHeld : w36.cell? ⟨gb350, 0, none⟩ = some (.string (((rd_T63 l0 x9_1).f0).extract 0 ((ji13) : Int).toNat)) ∧ w36.cell? ⟨gb350, 1, none⟩ = some (.bool ((rd_T63 l0 x9_1).f1)) := hS_
              obtain ⟨Ao38, co38, eo38⟩ := Kd.R_slice HO361.out
              (first | subst eo38 | (injection eo38 with f1_ f2_ f3_; have f4_ := f1_.symm; have f5_ := f3_.symm; clear f1_ f2_ f3_; subst f4_; subst f5_))
              refine norm_ (a' := ?_) ?_ ?_
              rotate_left
              ·simp only [putAll, Act.put, List.setIfInBounds_toArray, List.set_cons_zero, List.set_cons_succ]
               rfl
              refine one_ (i := 7) (N := some 68) #[true, true, true, true, true, true, true, true, false, false] rfl rfl (one_of HT_.out (by kernel_rfl)) (by decide) (fun K hK => ?_)
              refine Kd.R_append_rows_step k66 (w0 := w) w.heap.size (by rfl) (.tmp 65) (.tmp 67) 61 66 (.agg #[(.string ⟨#[]⟩), (.bool false)]) 24 rfl Tryd.underlying61 info66 rfl (by decide) (by omega) (.slice Ao28 x8_1.length co28) x8_1 y359 _ _ _ (fun k_ => some k_ ≠ (.slice Ao38 y359.length co38 : Value).ownBlock) (fun _ => False) rfl rfl ?aO ?aR (fun _ _ h => h) (fun _ h => h.elim) ?aF ?aB ?aS ?aL ?_
              (case aR => repeat (first | exact (Kd.R_reads' HO361.out).2.2 | (with_reducible refine Kd.C_alloc ?_ _) | (with_reducible refine Kd.C_drewN ?_ _) | (with_reducible refine Kd.C_drew ?_)))
              (case aB => exact (by repeat (first | (with_reducible first | exact HB.out | apply below_alloc | apply pw_below_drewN | apply below_drew1 | refine below_set ?_ GE350.out) | exact HB.out)))
              (case aF => exact (fun k_ hk => Kd.fresh' (Kd.R_lt (by (with_reducible repeat (first | apply Kd.R_alloc | apply Kd.R_drewN | apply Kd.R_drew)); exact HO361.out)) k_ hk))
              (case aO => exact (by (with_reducible repeat (first | apply Kd.R_alloc | apply Kd.R_drewN | apply Kd.R_drew)); exact HO_8.out))
              (case aS => exact (below_size (by repeat (first | (with_reducible first | exact HB.out | apply below_alloc | apply pw_below_drewN | apply below_drew1 | refine below_set ?_ GE350.out) | exact HB.out))))
              (case aL => have := LMc20.out; omega)
              intro v363 w37 ho hb hg hat
              rw [← Ny362.out] at ho
              have n0_ := Aside0.mk (Kd.R_over' (by (with_reducible repeat (first | apply Kd.R_alloc | apply Kd.R_drewN | apply Kd.R_drew)); exact HO_5.out) (Kd.R_typed (by (with_reducible repeat (first | apply Kd.R_alloc | apply Kd.R_drewN | apply Kd.R_drew)); exact HO_8.out)) (by decide) hg)
              have n1_ := Aside0.mk (Kd.R_over' (by (with_reducible repeat (first | apply Kd.R_alloc | apply Kd.R_drewN | apply Kd.R_drew)); exact HO_6.out) (Kd.R_typed (by (with_reducible repeat (first | apply Kd.R_alloc | apply Kd.R_drewN | apply Kd.R_drew)); exact HO_8.out)) (by decide) hg)
              have n2_ := Aside0.mk (blk_grown (g := gb350) (o := .cells #[.string (((rd_T63 l0 x9_1).f0).extract 0 ((ji13) : Int).toNat), .bool ((rd_T63 l0 x9_1).f1)] 63 (0, 0)) (by (with_reducible repeat (first | refine blk_drewN ?_ _ | refine blk_drew ?_ | refine blk_alloc ?_ _)); exact BK350.out) hg (Kd.R_ne HO_8.out BK350.out (by decide)))
              have n3_ := Aside0.mk (Kd.R_over' (by (with_reducible repeat (first | apply Kd.R_alloc | apply Kd.R_drewN | apply Kd.R_drew)); exact HO355.out) (Kd.R_typed (by (with_reducible repeat (first | apply Kd.R_alloc | apply Kd.R_drewN | apply Kd.R_drew)); exact HO_8.out)) (by decide) hg)
              have n4_ := Aside0.mk (Kd.R_over' (by (with_reducible repeat (first | apply Kd.R_alloc | apply Kd.R_drewN | apply Kd.R_drew)); exact HO358.out) (Kd.R_typed (by (with_reducible repeat (first | apply Kd.R_alloc | apply Kd.R_drewN | apply Kd.R_drew)); exact HO_8.out)) (by decide) hg)
              have n5_ := Aside0.mk (Kd.R_after (ok := (fun _ => True)) (by (with_reducible repeat (first | apply Kd.R_alloc | apply Kd.R_drewN | apply Kd.R_drew)); exact Kd.R_mono HO361.out (fun _ hk => ⟨trivial, hk⟩)) hg hat)
              have n6_ := Aside0.mk (hb)
              have n7_ := Aside0.mk (ho)
              clear HO_5
              clear HO_6
              clear BK350
              clear HO355
              clear HO358
              clear HO361
              clear HB
              clear HO_8
              have HO_5 := n0_
              have HO_6 := n1_
              have BK350 := n2_
              have HO355 := n3_
              have HO358 := n4_
              have HO361 := n5_
              have HB := n6_
              have HO364 := n7_
              clear n0_ n1_ n2_ n3_ n4_ n5_ n6_ n7_
              clear ho hb hg hat
              refine hK.out _ _ ⟨(blk_cell BK350.out 0).trans rfl, (blk_cell BK350.out 1).trans rfl⟩ (fun hHeld => ?_)
              clear hK K
              refine norm_ (a' := ?_) ?_ ?_
              rotate_left
              ·show Act.put _ (some 68) _ = _
               simp only [Act.put, List.setIfInBounds_toArray, List.set_cons_zero, List.set_cons_succ, i64_w, i32_w]
               rfl
              refine pure_ (i := 8) (N := some 7) (v := ?_) (a' := ?_) #[true, true, true, true, true, true, true, true, true, false] rfl rfl (any_of HT_.out (by kernel_rfl)) (fun _ _ _ h => h) (Or.inl ⟨by rfl, ?_⟩) ?_ ?_
              rotate_left
              ·intro w'
               go_simp
               with_reducible rfl
              rotate_left
              ·simp only [Act.put, List.setIfInBounds_toArray, List.set_cons_zero, List.set_cons_succ, i64_w, i32_w]
               rfl
              refine pure_ (i := 9) (N := some 8) (v := ?_) (a' := ?_) #[true, true, true, true, true, true, true, true, true, true] rfl rfl (any_of HT_.out (by kernel_rfl)) (fun _ _ _ h => h) (Or.inl ⟨by rfl, ?_⟩) ?_ ?_
              rotate_left
              ·intro w'
               go_simp
               with_reducible rfl
              rotate_left
              ·simp only [Act.put, List.setIfInBounds_toArray, List.set_cons_zero, List.set_cons_succ, i64_w, i32_w]
               rfl
              refine done_ (done_of HT_.out (by kernel_rfl)) ?_
              try go_wp2
              go_roundg kj7
              case measure => have := HK1.out; have := HJ7.out; omega
              case rel => exact ⟨(y356), (y362), (wrap64 (x9_1 + 1)), (by first | rfl | (simp; done) | (simp [*]; done)), H', ⟨by have := HK1.out; have := HJ7.out; omega⟩, ⟨by (with_reducible repeat (first | apply Kd.R_alloc | apply Kd.R_drewN | apply Kd.R_drew)); exact HO_5.out⟩, ⟨by (with_reducible repeat (first | apply Kd.R_alloc | apply Kd.R_drewN | apply Kd.R_drew)); exact HO_6.out⟩, ⟨by (with_reducible repeat (first | apply Kd.R_alloc | apply Kd.R_drewN | apply Kd.R_drew)); exact Kd.R_mono HO358.out (fun _ hk => trivial)⟩, ⟨by (with_reducible repeat (first | apply Kd.R_alloc | apply Kd.R_drewN | apply Kd.R_drew)); exact Kd.R_mono HO364.out (fun _ hk => trivial)⟩, ⟨by repeat (first | (with_reducible first | exact HB.out | apply below_alloc | apply pw_below_drewN | apply below_drew1 | refine below_set ?_ GE350.out) | exact HB.out)⟩⟩
             ·rw [if_neg c20] at H
              exact absurd H (by simp)
            ·rw [if_neg c19] at H
             exact absurd H (by simp)
          ·rw [if_neg c15] at H
           exact absurd H (by simp)
         ·rw [if_neg c14] at H
          exact absurd H (by simp)
        ·rw [if_neg c12] at H
         exact absurd H (by simp)
       ·rw [if_neg c11] at H
        exact absurd H (by simp)
      ·replace c10 := Bool.eq_false_iff.mpr c10
       subst c10
       have H1 : ((tuple_Good.f x7_1).bind fun t365 => ((concordanceref19_Good.f kj7 x8_1).bind fun t366 => (if (t365 != t366) = true then (concordancelaw19_TupleRows.j2 kj7 t341 t342 true) else ((tuple_Fits.f kj7 x7_1 t341).bind fun t367 => ((concordanceref19_Fits.f kj7 x8_1 t342).bind fun t368 => (concordancelaw19_TupleRows.j2 kj7 t341 t342 (t367 != t368))))))) = some r := by rw [if_neg (show ¬ (false = true) by decide)] at H; exact H
       clear H
       have H := H1
       clear H1
       have HC39 := Aside0.mk H
       clear H
       go_upto_region 13 with (fail)
       go_cut [82] (fun v82 wc => ∃ (kq : Nat) (x82_38 : Bool), v82 = .bool x82_38 ∧ Aside0 (concordancelaw19_TupleRows.j2 kq t341 t342 x82_38 = some r) ∧ Aside0 (kq ≤ kj7) ∧ Aside0 (Kd.R k25 25 wc w.heap.size (fun _ => True) v343 t341) ∧ Aside0 (Kd.R k26 26 wc w.heap.size (fun _ => True) v345 t342) ∧ Aside0 (Below w.heap.size w wc))
       case first =>
        have H := HC39.out
        clear HC39
        replace H := Option.bind_eq_some_iff.mp H
        obtain ⟨t365, A400, H⟩ := H
        replace H : ((concordanceref19_Good.f kj7 x8_1).bind fun t366 => (if (t365 != t366) = true then (concordancelaw19_TupleRows.j2 kj7 t341 t342 true) else ((tuple_Fits.f kj7 x7_1 t341).bind fun t367 => ((concordanceref19_Fits.f kj7 x8_1 t342).bind fun t368 => (concordancelaw19_TupleRows.j2 kj7 t341 t342 (t367 != t368)))))) = some r := H
        have A40 := Aside0.mk A400
        clear A400
        replace H := Option.bind_eq_some_iff.mp H
        obtain ⟨t366, A410, H⟩ := H
        replace H : (if (t365 != t366) = true then (concordancelaw19_TupleRows.j2 kj7 t341 t342 true) else ((tuple_Fits.f kj7 x7_1 t341).bind fun t367 => ((concordanceref19_Fits.f kj7 x8_1 t342).bind fun t368 => (concordancelaw19_TupleRows.j2 kj7 t341 t342 (t367 != t368))))) = some r := H
        have A41 := Aside0.mk A410
        clear A410
        by_cases c42 : (t365 != t366) = true
        ·rw [if_pos c42] at H
         have c42b0 : (t365 != t366) = true := c42
         (try (have c42b1 : decide (t365 = t366) = false := by simpa using c42))
         (try (have c42b2 : (t365 == t366) = false := by simpa using c42))
         (try (have c42b3 : ¬ (t365 = t366) := by simpa using c42))
         clear c42
         (first | rw [c42b0] | (simp only [i64_w, i32_w]; rw [c42b0]) | skip)
         have H' := Aside0.mk H
         clear H
         obtain ⟨Ao43, co43, eo43⟩ := Kd.R_slice HO_7.out
         subst eo43
         go_wp2_with (first | ((with_reducible refine gate_callee (f := 25) rfl ?_); refine goesL_ (some 70) rfl rfl Tryd.func25 (by kernel_rfl) rfl #[.slice Ao43 x7_1.length co43] rfl (by (try simp only [List.map_toArray, List.map_cons, List.map_nil]); first | done | rfl | (simp only [List.length_drop, List.length_take]; rfl)) ?_; (with_reducible refine (tuple_Good.calls _ _ x7_1 t365 _ ?side1 ?side2 A40.out).mono ?_); (case side1 => repeat (first | exact (Kd.R_reads' HO_7.out).2.2 | (with_reducible refine Kd.C_alloc ?_ _) | (with_reducible refine Kd.C_drewN ?_ _) | (with_reducible refine Kd.C_drew ?_))); (case side2 => exact (Kd.R_reads' HO_7.out).2.1); rintro e w44 ⟨rfl, hb⟩; refine ⟨_, rfl, ?_⟩; have n0_ := Aside0.mk (Kd.R_below (by (with_reducible repeat (first | apply Kd.R_alloc | apply Kd.R_drewN | apply Kd.R_drew)); exact HO_5.out) hb); have n1_ := Aside0.mk (Kd.R_below (by (with_reducible repeat (first | apply Kd.R_alloc | apply Kd.R_drewN | apply Kd.R_drew)); exact HO_6.out) hb); have n2_ := Aside0.mk (Kd.R_below (by (with_reducible repeat (first | apply Kd.R_alloc | apply Kd.R_drewN | apply Kd.R_drew)); exact HO_7.out) hb); have n3_ := Aside0.mk (Kd.R_below (by (with_reducible repeat (first | apply Kd.R_alloc | apply Kd.R_drewN | apply Kd.R_drew)); exact HO_8.out) hb); have n4_ := Aside0.mk (below_step (by repeat (first | (with_reducible first | exact HB.out | apply below_alloc | apply pw_below_drewN | apply below_drew1) | exact HB.out)) hb); clear HO_5; clear HO_6; clear HO_7; clear HO_8; clear HB; have HO_5 := n0_; have HO_6 := n1_; have HO_7 := n2_; have HO_8 := n3_; have HB := n4_; clear n0_ n1_ n2_ n3_ n4_; (try clear hb); (try clear hb2); (try clear hk); (try clear hi); obtain ⟨Ao45, co45, eo45⟩ := Kd.R_slice HO_8.out; subst eo45) | ((with_reducible refine gate_callee (f := 26) rfl ?_); refine goesL_ (some 72) rfl rfl Tryd.func26 (by kernel_rfl) rfl #[.slice Ao45 x8_1.length co45] rfl (by (try simp only [List.map_toArray, List.map_cons, List.map_nil]); first | done | rfl | (simp only [List.length_drop, List.length_take]; rfl)) ?_; (with_reducible refine (concordanceref19_Good.calls kj7 _ _ x8_1 t366 _ ?side1 ?side2 A41.out).mono ?_); (case side1 => repeat (first | exact (Kd.R_reads' HO_8.out).2.2 | (with_reducible refine Kd.C_alloc ?_ _) | (with_reducible refine Kd.C_drewN ?_ _) | (with_reducible refine Kd.C_drew ?_))); (case side2 => exact (Kd.R_reads' HO_8.out).2.1); rintro e w' ⟨rfl, ⟨nd, rfl⟩⟩; refine ⟨_, rfl, ?_⟩))
         go_meet
         case rel => exact ⟨_, (true), (by first | rfl | (simp; done) | (simp [*]; done)), H', ⟨by have := HK1.out; have := HJ7.out; first | omega | exact Nat.le_refl _⟩, ⟨by (with_reducible repeat (first | apply Kd.R_alloc | apply Kd.R_drewN | apply Kd.R_drew)); exact HO_5.out⟩, ⟨by (with_reducible repeat (first | apply Kd.R_alloc | apply Kd.R_drewN | apply Kd.R_drew)); exact HO_6.out⟩, ⟨by repeat (first | (with_reducible first | exact HB.out | apply below_alloc | apply pw_below_drewN | apply below_drew1) | exact HB.out)⟩⟩
        ·rw [if_neg c42] at H
         have c42b0 : (t365 != t366) = false := by simpa using c42
         (try (have c42b1 : decide (t365 = t366) = true := by simpa using c42))
         (try (have c42b2 : (t365 == t366) = true := by simpa using c42))
         clear c42
         (first | rw [c42b0] | (simp only [i64_w, i32_w]; rw [c42b0]) | skip)
         replace H := Option.bind_eq_some_iff.mp H
         obtain ⟨t367, A460, H⟩ := H
         replace H : ((concordanceref19_Fits.f kj7 x8_1 t342).bind fun t368 => (concordancelaw19_TupleRows.j2 kj7 t341 t342 (t367 != t368))) = some r := H
         have A46 := Aside0.mk A460
         clear A460
         replace H := Option.bind_eq_some_iff.mp H
         obtain ⟨t368, A470, H⟩ := H
         replace H : (concordancelaw19_TupleRows.j2 kj7 t341 t342 (t367 != t368)) = some r := H
         have A47 := Aside0.mk A470
         clear A470
         have H' := Aside0.mk H
         clear H
         obtain ⟨Ao48, co48, eo48⟩ := Kd.R_slice HO_7.out
         subst eo48
         go_wp2_with (first | ((with_reducible refine gate_callee (f := 25) rfl ?_); refine goesL_ (some 70) rfl rfl Tryd.func25 (by kernel_rfl) rfl #[.slice Ao48 x7_1.length co48] rfl (by (try simp only [List.map_toArray, List.map_cons, List.map_nil]); first | done | rfl | (simp only [List.length_drop, List.length_take]; rfl)) ?_; (with_reducible refine (tuple_Good.calls _ _ x7_1 t365 _ ?side1 ?side2 A40.out).mono ?_); (case side1 => repeat (first | exact (Kd.R_reads' HO_7.out).2.2 | (with_reducible refine Kd.C_alloc ?_ _) | (with_reducible refine Kd.C_drewN ?_ _) | (with_reducible refine Kd.C_drew ?_))); (case side2 => exact (Kd.R_reads' HO_7.out).2.1); rintro e w49 ⟨rfl, hb⟩; refine ⟨_, rfl, ?_⟩; have n0_ := Aside0.mk (Kd.R_below (by (with_reducible repeat (first | apply Kd.R_alloc | apply Kd.R_drewN | apply Kd.R_drew)); exact HO_5.out) hb); have n1_ := Aside0.mk (Kd.R_below (by (with_reducible repeat (first | apply Kd.R_alloc | apply Kd.R_drewN | apply Kd.R_drew)); exact HO_6.out) hb); have n2_ := Aside0.mk (Kd.R_below (by (with_reducible repeat (first | apply Kd.R_alloc | apply Kd.R_drewN | apply Kd.R_drew)); exact HO_7.out) hb); have n3_ := Aside0.mk (Kd.R_below (by (with_reducible repeat (first | apply Kd.R_alloc | apply Kd.R_drewN | apply Kd.R_drew)); exact HO_8.out) hb); have n4_ := Aside0.mk (below_step (by repeat (first | (with_reducible first | exact HB.out | apply below_alloc | apply pw_below_drewN | apply below_drew1) | exact HB.out)) hb); clear HO_5; clear HO_6; clear HO_7; clear HO_8; clear HB; have HO_5 := n0_; have HO_6 := n1_; have HO_7 := n2_; have HO_8 := n3_; have HB := n4_; clear n0_ n1_ n2_ n3_ n4_; (try clear hb); (try clear hb2); (try clear hk); (try clear hi); obtain ⟨Ao50, co50, eo50⟩ := Kd.R_slice HO_8.out; subst eo50) | ((with_reducible refine gate_callee (f := 26) rfl ?_); refine goesL_ (some 72) rfl rfl Tryd.func26 (by kernel_rfl) rfl #[.slice Ao50 x8_1.length co50] rfl (by (try simp only [List.map_toArray, List.map_cons, List.map_nil]); first | done | rfl | (simp only [List.length_drop, List.length_take]; rfl)) ?_; (with_reducible refine (concordanceref19_Good.calls kj7 _ _ x8_1 t366 _ ?side1 ?side2 A41.out).mono ?_); (case side1 => repeat (first | exact (Kd.R_reads' HO_8.out).2.2 | (with_reducible refine Kd.C_alloc ?_ _) | (with_reducible refine Kd.C_drewN ?_ _) | (with_reducible refine Kd.C_drew ?_))); (case side2 => exact (Kd.R_reads' HO_8.out).2.1); rintro e w' ⟨rfl, ⟨nd, rfl⟩⟩; refine ⟨_, rfl, ?_⟩; obtain ⟨Ao51, co51, eo51⟩ := Kd.R_slice HO_5.out; subst eo51) | (go_at_call 27; (with_reducible refine (tuple_Fits.calls kj7 _ _ x7_1 _ _ t341 t367 _ ?side1 ?side2 ?side3 ?side4 A46.out).mono ?_); (case side1 => repeat (first | exact (Kd.R_reads' HO_7.out).2.2 | (with_reducible refine Kd.C_alloc ?_ _) | (with_reducible refine Kd.C_drewN ?_ _) | (with_reducible refine Kd.C_drew ?_))); (case side2 => exact (Kd.R_reads' HO_7.out).2.1); (case side3 => repeat (first | exact (Kd.R_reads' HO_5.out).2.2 | (with_reducible refine Kd.C_alloc ?_ _) | (with_reducible refine Kd.C_drewN ?_ _) | (with_reducible refine Kd.C_drew ?_))); (case side4 => exact (Kd.R_reads' HO_5.out).2.1); rintro e w52 ⟨rfl, hb⟩; have n0_ := Aside0.mk (Kd.R_below (by (with_reducible repeat (first | apply Kd.R_alloc | apply Kd.R_drewN | apply Kd.R_drew)); exact HO_5.out) hb); have n1_ := Aside0.mk (Kd.R_below (by (with_reducible repeat (first | apply Kd.R_alloc | apply Kd.R_drewN | apply Kd.R_drew)); exact HO_6.out) hb); have n2_ := Aside0.mk (Kd.R_below (by (with_reducible repeat (first | apply Kd.R_alloc | apply Kd.R_drewN | apply Kd.R_drew)); exact HO_7.out) hb); have n3_ := Aside0.mk (Kd.R_below (by (with_reducible repeat (first | apply Kd.R_alloc | apply Kd.R_drewN | apply Kd.R_drew)); exact HO_8.out) hb); have n4_ := Aside0.mk (below_step (by repeat (first | (with_reducible first | exact HB.out | apply below_alloc | apply pw_below_drewN | apply below_drew1) | exact HB.out)) hb); clear HO_5; clear HO_6; clear HO_7; clear HO_8; clear HB; have HO_5 := n0_; have HO_6 := n1_; have HO_7 := n2_; have HO_8 := n3_; have HB := n4_; clear n0_ n1_ n2_ n3_ n4_; (try clear hb); (try clear hb2); (try clear hk); (try clear hi); obtain ⟨Ao53, co53, eo53⟩ := Kd.R_slice HO_6.out; subst eo53) | (go_at_call 28; (with_reducible refine (concordanceref19_Fits.calls kj7 _ _ x8_1 _ _ t342 t368 _ ?side1 ?side2 ?side3 ?side4 A47.out).mono ?_); (case side1 => repeat (first | exact (Kd.R_reads' HO_8.out).2.2 | (with_reducible refine Kd.C_alloc ?_ _) | (with_reducible refine Kd.C_drewN ?_ _) | (with_reducible refine Kd.C_drew ?_))); (case side2 => exact (Kd.R_reads' HO_8.out).2.1); (case side3 => repeat (first | exact (Kd.R_reads' HO_6.out).2.2 | (with_reducible refine Kd.C_alloc ?_ _) | (with_reducible refine Kd.C_drewN ?_ _) | (with_reducible refine Kd.C_drew ?_))); (case side4 => exact (Kd.R_reads' HO_6.out).2.1); rintro e w54 ⟨rfl, hb⟩; have n0_ := Aside0.mk (Kd.R_below (by (with_reducible repeat (first | apply Kd.R_alloc | apply Kd.R_drewN | apply Kd.R_drew)); exact HO_5.out) hb); have n1_ := Aside0.mk (Kd.R_below (by (with_reducible repeat (first | apply Kd.R_alloc | apply Kd.R_drewN | apply Kd.R_drew)); exact HO_6.out) hb); have n2_ := Aside0.mk (Kd.R_below (by (with_reducible repeat (first | apply Kd.R_alloc | apply Kd.R_drewN | apply Kd.R_drew)); exact HO_7.out) hb); have n3_ := Aside0.mk (Kd.R_below (by (with_reducible repeat (first | apply Kd.R_alloc | apply Kd.R_drewN | apply Kd.R_drew)); exact HO_8.out) hb); have n4_ := Aside0.mk (below_step (by repeat (first | (with_reducible first | exact HB.out | apply below_alloc | apply pw_below_drewN | apply below_drew1) | exact HB.out)) hb); clear HO_5; clear HO_6; clear HO_7; clear HO_8; clear HB; have HO_5 := n0_; have HO_6 := n1_; have HO_7 := n2_; have HO_8 := n3_; have HB := n4_; clear n0_ n1_ n2_ n3_ n4_; (try clear hb); (try clear hb2); (try clear hk); (try clear hi)))
         go_meet
         case rel => exact ⟨_, ((t367 != t368)), (by first | rfl | (simp; done) | (simp [*]; done)), H', ⟨by have := HK1.out; have := HJ7.out; first | omega | exact Nat.le_refl _⟩, ⟨by (with_reducible repeat (first | apply Kd.R_alloc | apply Kd.R_drewN | apply Kd.R_drew)); exact HO_5.out⟩, ⟨by (with_reducible repeat (first | apply Kd.R_alloc | apply Kd.R_drewN | apply Kd.R_drew)); exact HO_6.out⟩, ⟨by repeat (first | (with_reducible first | exact HB.out | apply below_alloc | apply pw_below_drewN | apply below_drew1) | exact HB.out)⟩⟩
       case rest =>
        clear HC39
        try clear c1
        try clear c2
        try clear p2
        try clear c4
        try clear p6
        try clear c10
        try clear c11
        try clear c12
        try clear c14
        try clear c15
        try clear c19
        try clear c20
        try clear c23
        try clear c24
        try clear c25
        try clear c26
        try clear c42
        try clear c42b0
        try clear c42b1
        try clear c42b2
        obtain ⟨kq, x82_38, rfl, HA, HJ38, HO_5, HO_6, HB⟩ := hcut
        cases kq with
        | zero => exact absurd HA.out (by simp [concordancelaw19_TupleRows.j2])
        | succ kj38 =>
         have H := HA.out
         clear HA
         simp only [concordancelaw19_TupleRows.j2] at H
         by_cases c55 : x82_38 = true
         ·subst c55
          have H1 : (none) = some r := by rw [if_pos rfl] at H; exact H
          clear H
          have H := H1
          clear H1
          exact absurd H (by simp)
         ·replace c55 := Bool.eq_false_iff.mpr c55
          subst c55
          have H1 : ((tuple_Put.f kj38 t341).bind fun bt369 => ((concordanceref19_Put.f kj38 t342).bind fun bt371 => (if bt369.1.toList = bt371.1.toList then (concordancelaw19_TupleRows.j3 kj38 t341 bt369.1 bt371.2 (bt369.2 != bt371.2)) else (concordancelaw19_TupleRows.j3 kj38 t341 bt369.1 bt371.2 true)))) = some r := by rw [if_neg (show ¬ (false = true) by decide)] at H; exact H
          clear H
          have H := H1
          clear H1
          replace H := Option.bind_eq_some_iff.mp H
          obtain ⟨⟨t369, t370⟩, A560, H⟩ := H
          replace H : ((concordanceref19_Put.f kj38 t342).bind fun bt371 => (if t369.toList = bt371.1.toList then (concordancelaw19_TupleRows.j3 kj38 t341 t369 bt371.2 (t370 != bt371.2)) else (concordancelaw19_TupleRows.j3 kj38 t341 t369 bt371.2 true))) = some r := H
          have A56 := Aside0.mk A560
          clear A560
          replace H := Option.bind_eq_some_iff.mp H
          obtain ⟨⟨t371, t372⟩, A570, H⟩ := H
          replace H : (if t369.toList = t371.toList then (concordancelaw19_TupleRows.j3 kj38 t341 t369 t372 (t370 != t372)) else (concordancelaw19_TupleRows.j3 kj38 t341 t369 t372 true)) = some r := H
          have A57 := Aside0.mk A570
          clear A570
          have HC58 := Aside0.mk H
          clear H
          obtain ⟨Ao59, co59, eo59⟩ := Kd.R_slice HO_5.out
          subst eo59
          go_upto_region 17 with (first | ((with_reducible refine gate_callee (f := 29) rfl ?_); refine goesL_ (some 85) rfl rfl Tryd.func29 (by kernel_rfl) rfl #[.slice Ao59 t341.length co59] rfl (by (try simp only [List.map_toArray, List.map_cons, List.map_nil]); first | done | rfl | (simp only [List.length_drop, List.length_take]; rfl)) ?_; (with_reducible refine (tuple_Put.calls kj38 _ _ t341 t369 t370 _ ?side1 ?side2 A56.out).mono ?_); (case side1 => repeat (first | exact (Kd.R_reads' HO_5.out).2.2 | (with_reducible refine Kd.C_alloc ?_ _) | (with_reducible refine Kd.C_drewN ?_ _) | (with_reducible refine Kd.C_drew ?_))); (case side2 => exact (Kd.R_reads' HO_5.out).2.1); rintro e w60 ⟨rfl, hb⟩; refine ⟨_, rfl, ?_⟩; have n0_ := Aside0.mk (Kd.R_below (by (with_reducible repeat (first | apply Kd.R_alloc | apply Kd.R_drewN | apply Kd.R_drew)); exact HO_5.out) hb); have n1_ := Aside0.mk (Kd.R_below (by (with_reducible repeat (first | apply Kd.R_alloc | apply Kd.R_drewN | apply Kd.R_drew)); exact HO_6.out) hb); have n2_ := Aside0.mk (below_step (by repeat (first | (with_reducible first | exact HB.out | apply below_alloc | apply pw_below_drewN | apply below_drew1) | exact HB.out)) hb); clear HO_5; clear HO_6; clear HB; have HO_5 := n0_; have HO_6 := n1_; have HB := n2_; clear n0_ n1_ n2_; (try clear hb); (try clear hb2); (try clear hk); (try clear hi); obtain ⟨Ao61, co61, eo61⟩ := Kd.R_slice HO_6.out; subst eo61) | ((with_reducible refine gate_callee (f := 30) rfl ?_); refine goesL_ (some 90) rfl rfl Tryd.func30 (by kernel_rfl) rfl #[.slice Ao61 t342.length co61] rfl (by (try simp only [List.map_toArray, List.map_cons, List.map_nil]); first | done | rfl | (simp only [List.length_drop, List.length_take]; rfl)) ?_; (with_reducible refine (concordanceref19_Put.calls kj38 _ _ t342 t371 t372 _ ?side1 ?side2 A57.out).mono ?_); (case side1 => repeat (first | exact (Kd.R_reads' HO_6.out).2.2 | (with_reducible refine Kd.C_alloc ?_ _) | (with_reducible refine Kd.C_drewN ?_ _) | (with_reducible refine Kd.C_drew ?_))); (case side2 => exact (Kd.R_reads' HO_6.out).2.1); rintro e w62 ⟨rfl, hb⟩; refine ⟨_, rfl, ?_⟩; have n0_ := Aside0.mk (Kd.R_below (by (with_reducible repeat (first | apply Kd.R_alloc | apply Kd.R_drewN | apply Kd.R_drew)); exact HO_5.out) hb); have n1_ := Aside0.mk (Kd.R_below (by (with_reducible repeat (first | apply Kd.R_alloc | apply Kd.R_drewN | apply Kd.R_drew)); exact HO_6.out) hb); have n2_ := Aside0.mk (below_step (by repeat (first | (with_reducible first | exact HB.out | apply below_alloc | apply pw_below_drewN | apply below_drew1) | exact HB.out)) hb); clear HO_5; clear HO_6; clear HB; have HO_5 := n0_; have HO_6 := n1_; have HB := n2_; clear n0_ n1_ n2_; (try clear hb); (try clear hb2); (try clear hk); (try clear hi)))
          (try simp only [Act.put, List.setIfInBounds_toArray, List.set_cons_zero, List.set_cons_succ])
          go_cut [100] (fun v100 wc => ∃ (kq : Nat) (x100_57 : Bool), v100 = .bool x100_57 ∧ Aside0 (concordancelaw19_TupleRows.j3 kq t341 t369 t372 x100_57 = some r) ∧ Aside0 (kq ≤ kj38) ∧ Aside0 (Kd.R k25 25 wc w.heap.size (fun _ => True) (.slice Ao59 t341.length co59) t341) ∧ Aside0 (Below w.heap.size w wc))
          case first =>
           have H := HC58.out
           clear HC58
           by_cases c63 : t369.toList = t371.toList
           ·rw [if_pos c63] at H
            have c63b0 : (t369.toList == t371.toList) = true := beq_iff_eq.mpr c63
            have c63b1 : (t369.toList != t371.toList) = false := bne_eq_false_iff_eq.mpr c63
            clear c63
            (first | rw [c63b0] | (simp only [i64_w, i32_w]; rw [c63b0]) | skip)
            have H' := Aside0.mk H
            clear H
            go_wp2
            go_meet
            case rel => exact ⟨_, ((t370 != t372)), (by first | rfl | (simp; done) | (simp [*]; done)), H', ⟨by have := HK1.out; have := HJ7.out; have := HJ38.out; first | omega | exact Nat.le_refl _⟩, ⟨by (with_reducible repeat (first | apply Kd.R_alloc | apply Kd.R_drewN | apply Kd.R_drew)); exact HO_5.out⟩, ⟨by repeat (first | (with_reducible first | exact HB.out | apply below_alloc | apply pw_below_drewN | apply below_drew1) | exact HB.out)⟩⟩
           ·rw [if_neg c63] at H
            have c63b0 : (t369.toList == t371.toList) = false := beq_eq_false_iff_ne.mpr c63
            have c63b1 : (t369.toList != t371.toList) = true := bne_iff_ne.mpr c63
            (first | rw [c63b0] | (simp only [i64_w, i32_w]; rw [c63b0]) | skip)
            have H' := Aside0.mk H
            clear H
            go_wp2
            go_meet
            case rel => exact ⟨_, (true), (by first | rfl | (simp; done) | (simp [*]; done)), H', ⟨by have := HK1.out; have := HJ7.out; have := HJ38.out; first | omega | exact Nat.le_refl _⟩, ⟨by (with_reducible repeat (first | apply Kd.R_alloc | apply Kd.R_drewN | apply Kd.R_drew)); exact HO_5.out⟩, ⟨by repeat (first | (with_reducible first | exact HB.out | apply below_alloc | apply pw_below_drewN | apply below_drew1) | exact HB.out)⟩⟩
          case rest =>
           clear HC58
           try clear c1
           try clear c2
           try clear p2
           try clear c3
           try clear c4
           try clear c5
           try clear c6
           try clear p6
           try clear c10
           try clear c11
           try clear c12
           try clear c14
           try clear c15
           try clear c19
           try clear c20
           try clear c23
           try clear c24
           try clear c25
           try clear c26
           try clear c29
           try clear c30
           try clear c42
           try clear c42b0
           try clear c42b1
           try clear c42b2
           try clear c55
           try clear c63
           try clear c63b0
           try clear c63b1
           try clear p2
           try clear p6
           obtain ⟨kq, x100_57, rfl, HA, HJ57, HO_5, HB⟩ := hcut
           cases kq with
           | zero => exact absurd HA.out (by simp [concordancelaw19_TupleRows.j3])
           | succ kj57 =>
            have H := HA.out
            clear HA
            simp only [concordancelaw19_TupleRows.j3] at H
            by_cases c64 : x100_57 = true
            ·subst c64
             have H1 : (none) = some r := by rw [if_pos rfl] at H; exact H
             clear H
             have H := H1
             clear H1
             exact absurd H (by simp)
            ·replace c64 := Bool.eq_false_iff.mpr c64
             subst c64
             have H1 : ((tuple_Get.f kj57 t369).bind fun bt373 => (if t372 = 0 then (if bt373.2 = 0 then (concordancelaw19_TupleRows.j4 kj57 t341 bt373.1 ((bt373.1.length : Int) != (t341.length : Int))) else (concordancelaw19_TupleRows.j4 kj57 t341 bt373.1 true)) else (some true))) = some r := by rw [if_neg (show ¬ (false = true) by decide)] at H; exact H
             clear H
             have H := H1
             clear H1
             replace H := Option.bind_eq_some_iff.mp H
             obtain ⟨⟨t373, t374⟩, A650, H⟩ := H
             replace H : (if t372 = 0 then (if t374 = 0 then (concordancelaw19_TupleRows.j4 kj57 t341 t373 ((t373.length : Int) != (t341.length : Int))) else (concordancelaw19_TupleRows.j4 kj57 t341 t373 true)) else (some true)) = some r := H
             have A65 := Aside0.mk A650
             clear A650
             by_cases c66 : t372 = 0
             ·rw [if_pos c66] at H
              have c66b0 : (t372 == 0) = true := beq_iff_eq.mpr c66
              have c66b1 : (t372 != 0) = false := bne_eq_false_iff_eq.mpr c66
              clear c66
              have HC67 := Aside0.mk H
              clear H
              go_upto_region 22 with (first | ((with_reducible refine gate_callee (f := 16) rfl ?_); refine goesL_ (some 103) rfl rfl Tryd.func16 (by kernel_rfl) rfl #[.string t369] rfl (by (try simp only [List.map_toArray, List.map_cons, List.map_nil]); first | done | rfl | (simp only [List.length_drop, List.length_take]; rfl)) ?_; (with_reducible refine (tuple_Get.calls kj57 t369 t373 t374 _ A65.out).mono ?_); rintro e w68 ⟨v375, rfl, ho0, hb⟩; refine ⟨_, rfl, ?_⟩; have n0_ := Aside0.mk (Kd.R_elder' (by (with_reducible repeat (first | apply Kd.R_alloc | apply Kd.R_drewN | apply Kd.R_drew)); exact HO_5.out) (Kd.R_base ho0) hb); have n1_ := Aside0.mk (Kd.R_lower (Kd.R_new' ho0 (Kd.R_lt (by (with_reducible repeat (first | apply Kd.R_alloc | apply Kd.R_drewN | apply Kd.R_drew)); exact HO_5.out))) (below_size (by repeat (first | (with_reducible first | exact HB.out | apply below_alloc | apply pw_below_drewN | apply below_drew1) | exact HB.out)))); have n2_ := Aside0.mk (below_step (by repeat (first | (with_reducible first | exact HB.out | apply below_alloc | apply pw_below_drewN | apply below_drew1) | exact HB.out)) hb); clear HO_5; clear HB; have HO_5 := n0_; have HO376 := n1_; have HB := n2_; clear n0_ n1_ n2_; (try clear hb); (try clear hb2); (try clear hk); (try clear hi); (try clear ho0)))
              (try simp only [Act.put, List.setIfInBounds_toArray, List.set_cons_zero, List.set_cons_succ])
              go_cut [116] (fun v116 wc => ∃ (kq : Nat) (x116_66 : Bool), v116 = .bool x116_66 ∧ Aside0 (concordancelaw19_TupleRows.j4 kq t341 t373 x116_66 = some r) ∧ Aside0 (kq ≤ kj57) ∧ Aside0 (Kd.R k25 25 wc w.heap.size (fun k_ => some k_ ≠ (v375 : Value).ownBlock) (.slice Ao59 t341.length co59) t341) ∧ Aside0 (Kd.R k25 25 wc w.heap.size (fun k_ => some k_ ≠ ((.slice Ao59 t341.length co59) : Value).ownBlock) v375 t373) ∧ Aside0 (Below w.heap.size w wc))
              case first =>
               have H := HC67.out
               clear HC67
               by_cases c69 : t374 = 0
               ·rw [if_pos c69] at H
                have c69b0 : (t374 == 0) = true := beq_iff_eq.mpr c69
                have c69b1 : (t374 != 0) = false := bne_eq_false_iff_eq.mpr c69
                clear c69
                (first | rw [c69b0] | (simp only [i64_w, i32_w]; rw [c69b0]) | skip)
                have H' := Aside0.mk H
                clear H
                obtain ⟨Ao70, co70, eo70⟩ := Kd.R_slice HO376.out
                subst eo70
                go_wp2
                go_meet
                case rel => exact ⟨_, (((t373.length : Int) != (t341.length : Int))), (by first | rfl | (simp; done) | (simp [*]; done)), H', ⟨by have := HK1.out; have := HJ7.out; have := HJ38.out; have := HJ57.out; first | omega | exact Nat.le_refl _⟩, ⟨by (with_reducible repeat (first | apply Kd.R_alloc | apply Kd.R_drewN | apply Kd.R_drew)); exact Kd.R_mono HO_5.out (fun _ hk => hk.2)⟩, ⟨by (with_reducible repeat (first | apply Kd.R_alloc | apply Kd.R_drewN | apply Kd.R_drew)); exact Kd.R_mono HO376.out (fun _ hk => hk.2)⟩, ⟨by repeat (first | (with_reducible first | exact HB.out | apply below_alloc | apply pw_below_drewN | apply below_drew1) | exact HB.out)⟩⟩
               ·rw [if_neg c69] at H
                have c69b0 : (t374 == 0) = false := beq_eq_false_iff_ne.mpr c69
                have c69b1 : (t374 != 0) = true := bne_iff_ne.mpr c69
                (first | rw [c69b0] | (simp only [i64_w, i32_w]; rw [c69b0]) | skip)
                have H' := Aside0.mk H
                clear H
                go_wp2
                go_meet
                case rel => exact ⟨_, (true), (by first | rfl | (simp; done) | (simp [*]; done)), H', ⟨by have := HK1.out; have := HJ7.out; have := HJ38.out; have := HJ57.out; first | omega | exact Nat.le_refl _⟩, ⟨by (with_reducible repeat (first | apply Kd.R_alloc | apply Kd.R_drewN | apply Kd.R_drew)); exact Kd.R_mono HO_5.out (fun _ hk => hk.2)⟩, ⟨by (with_reducible repeat (first | apply Kd.R_alloc | apply Kd.R_drewN | apply Kd.R_drew)); exact Kd.R_mono HO376.out (fun _ hk => hk.2)⟩, ⟨by repeat (first | (with_reducible first | exact HB.out | apply below_alloc | apply pw_below_drewN | apply below_drew1) | exact HB.out)⟩⟩
              case rest =>
               clear HC67
               try clear c1
               try clear c2
               try clear p2
               try clear c3
               try clear c4
               try clear c5
               try clear c6
               try clear p6
               try clear c10
               try clear c11
               try clear c12
               try clear c14
               try clear c15
               try clear c16
               try clear c19
               try clear c20
               try clear c23
               try clear c24
               try clear c25
               try clear c26
               try clear c29
               try clear c30
               try clear c42
               try clear c42b0
               try clear c42b1
               try clear c42b2
               try clear c55
               try clear c63
               try clear c63b0
               try clear c63b1
               try clear c64
               try clear p64
               try clear c66
               try clear c66b0
               try clear c66b1
               try clear c69
               try clear c69b0
               try clear c69b1
               try clear p2
               try clear p6
               obtain ⟨kq, x116_66, rfl, HA, HJ66, HO_5, HO_15, HB⟩ := hcut
               cases kq with
               | zero => exact absurd HA.out (by simp [concordancelaw19_TupleRows.j4])
               | succ kj66 =>
                have H := HA.out
                clear HA
                simp only [concordancelaw19_TupleRows.j4] at H
                by_cases c71 : x116_66 = true
                ·subst c71
                 have H1 : (none) = some r := by rw [if_pos rfl] at H; exact H
                 clear H
                 have H := H1
                 clear H1
                 exact absurd H (by simp)
                ·replace c71 := Bool.eq_false_iff.mpr c71
                 subst c71
                 have H1 : (concordancelaw19_TupleRows.l1 kj66 t341 t373 0) = some r := by rw [if_neg (show ¬ (false = true) by decide)] at H; exact H
                 clear H
                 have H := H1
                 clear H1
                 have H' := Aside0.mk H
                 clear H
                 go_wp2
                 go_loopg [17] kj66 (fun kq v17 w' => ∃ (x17_6 : Int), v17 = .int .i64 x17_6 ∧ Aside0 (concordancelaw19_TupleRows.l1 kq t341 t373 x17_6 = some r) ∧ Aside0 (kq ≤ kj66) ∧ Aside0 (Kd.R k25 25 w' w.heap.size (fun k_ => some k_ ≠ (v375 : Value).ownBlock) (.slice Ao59 t341.length co59) t341) ∧ Aside0 (Kd.R k25 25 w' w.heap.size (fun k_ => some k_ ≠ ((.slice Ao59 t341.length co59) : Value).ownBlock) v375 t373) ∧ Aside0 (Below w.heap.size w w'))
                 case atStart => exact ⟨(0), (by first | rfl | (simp; done) | (simp [*]; done)), H', ⟨Nat.le_refl _⟩, ⟨by (with_reducible repeat (first | apply Kd.R_alloc | apply Kd.R_drewN | apply Kd.R_drew)); exact HO_5.out⟩, ⟨by (with_reducible repeat (first | apply Kd.R_alloc | apply Kd.R_drewN | apply Kd.R_drew)); exact HO_15.out⟩, ⟨by repeat (first | (with_reducible first | exact HB.out | apply below_alloc | apply pw_below_drewN | apply below_drew1) | exact HB.out)⟩⟩
                 case round =>
                  clear H'
                  try clear c1
                  try clear c2
                  try clear p2
                  try clear c3
                  try clear c4
                  try clear c5
                  try clear c6
                  try clear p6
                  try clear c7
                  try clear c10
                  try clear c11
                  try clear c12
                  try clear c14
                  try clear c15
                  try clear c16
                  try clear c19
                  try clear c20
                  try clear c23
                  try clear c24
                  try clear c25
                  try clear c26
                  try clear c29
                  try clear c30
                  try clear c42
                  try clear c42b0
                  try clear c42b1
                  try clear c42b2
                  try clear c55
                  try clear c63
                  try clear c63b0
                  try clear c63b1
                  try clear c64
                  try clear p64
                  try clear c66
                  try clear c66b0
                  try clear c66b1
                  try clear c69
                  try clear c69b0
                  try clear c69b1
                  try clear c71
                  try clear p2
                  try clear p6
                  try clear p64
                  obtain ⟨x17_6, rfl, HA, HK6, HO_5, HO_15, HB⟩ := hrel
                  cases gk with
                  | zero => exact absurd HA.out (by simp [concordancelaw19_TupleRows.l1])
                  | succ k6 =>
                   have H := HA.out
                   clear HA
                   simp only [concordancelaw19_TupleRows.l1] at H
                   by_cases c72 : x17_6 < (t341.length : Int)
                   ·rw [if_pos c72] at H
                    have c72b0 : decide (x17_6 < (t341.length : Int)) = true := decide_eq_true c72
                    clear c72
                    by_cases c73 : 0 ≤ x17_6
                    ·rw [if_pos c73] at H
                     have c73b0 : decide (0 ≤ x17_6) = true := decide_eq_true c73
                     clear c73
                     by_cases c74 : x17_6 < (t373.length : Int)
                     ·rw [if_pos c74] at H
                      have c74b0 : decide (x17_6 < (t373.length : Int)) = true := decide_eq_true c74
                      clear c74
                      by_cases c75 : (!((((rd_T25 t373 x17_6).f0).toList) == (((rd_T25 t341 x17_6).f0).toList)) || (!(((rd_T25 t373 x17_6).f1) == ((rd_T25 t341 x17_6).f1)) || (!(((rd_T25 t373 x17_6).f2) == ((rd_T25 t341 x17_6).f2))))) = true
                      ·rw [if_pos c75] at H
                       exact absurd H (by simp)
                      ·rw [if_neg c75] at H
                       have c75b0 : (!((((rd_T25 t373 x17_6).f0).toList) == (((rd_T25 t341 x17_6).f0).toList)) || (!(((rd_T25 t373 x17_6).f1) == ((rd_T25 t341 x17_6).f1)) || (!(((rd_T25 t373 x17_6).f2) == ((rd_T25 t341 x17_6).f2))))) = false := by simpa using c75
                       clear c75
                       have H' := Aside0.mk H
                       clear H
                       try go_wp2
                       have n0_ := Aside0.mk (Kd.R_drew HO_5.out)
                       have n1_ := Aside0.mk (Kd.R_drew HO_15.out)
                       have n2_ := Aside0.mk (below_drew1 HB.out)
                       clear HO_5
                       clear HO_15
                       clear HB
                       have HO_5 := n0_
                       have HO_15 := n1_
                       have HB := n2_
                       clear n0_ n1_ n2_
                       obtain ⟨Ao77, co77, eo77⟩ := Kd.R_slice HO_15.out
                       (first | subst eo77 | (injection eo77 with f1_ f2_ f3_; have f4_ := f1_.symm; have f5_ := f3_.symm; clear f1_ f2_ f3_; subst f4_; subst f5_))
                       have p377 : 0 ≤ (x17_6 : Int) := of_decide_eq_true (by first | (with_reducible assumption) | assumption)
                       have q377 : x17_6 < (t373.length : Int) := of_decide_eq_true (by first | (with_reducible assumption) | assumption)
                       obtain ⟨ad377, e377, hx377_0, hx377_1, hx377_2⟩ := at_T25 (Kd.R_reads' HO_15.out).2.2 x17_6 p377 q377
                       cases e377
                       replace p377 := eq_true p377
                       replace q377 := eq_true q377
                       have p378 : 0 ≤ (x17_6 : Int) := of_decide_eq_true (by first | (with_reducible assumption) | assumption)
                       have q378 : x17_6 < (t341.length : Int) := of_decide_eq_true (by first | (with_reducible assumption) | assumption)
                       obtain ⟨ad378, e378, hx378_0, hx378_1, hx378_2⟩ := at_T25 (Kd.R_reads' HO_5.out).2.2 x17_6 p378 q378
                       cases e378
                       replace p378 := eq_true p378
                       replace q378 := eq_true q378
                       refine start_ (n := 9) (S := fun w' => w'.cell? (ad377.add ((x17_6).toNat * 3)) = some (.string ((rd_T25 t373 x17_6).f0)) ∧ w'.cell? ⟨(ad377.add ((x17_6).toNat * 3)).block, (ad377.add ((x17_6).toNat * 3)).off + 1, none⟩ = some (.int .i64 ((rd_T25 t373 x17_6).f1)) ∧ w'.cell? ⟨(ad377.add ((x17_6).toNat * 3)).block, (ad377.add ((x17_6).toNat * 3)).off + 2, none⟩ = some (.bool ((rd_T25 t373 x17_6).f2)) ∧ w'.cell? (ad378.add ((x17_6).toNat * 3)) = some (.string ((rd_T25 t341 x17_6).f0)) ∧ w'.cell? ⟨(ad378.add ((x17_6).toNat * 3)).block, (ad378.add ((x17_6).toNat * 3)).off + 1, none⟩ = some (.int .i64 ((rd_T25 t341 x17_6).f1)) ∧ w'.cell? ⟨(ad378.add ((x17_6).toNat * 3)).block, (ad378.add ((x17_6).toNat * 3)).off + 2, none⟩ = some (.bool ((rd_T25 t341 x17_6).f2))) (ds := []) #[false, false, false, false, false, false, false, false, false] (by kernel_rfl) rfl rfl ⟨hx377_0, hx377_1, hx377_2, hx378_0, hx378_1, hx378_2⟩ (fun hHeld => ?_); refine with_tabW concordancelaw19_TupleRows.tab27 concordancelaw19_TupleRows.bits27 (fun HT_ HW_ => ?_)
                       generalize wr.drew = w76 at HO_5 HO_15 HB hx377_0 hx377_1 hx377_2 hx378_0 hx378_1 hx378_2 hHeld ⊢
                       refine pure_ (i := 0) (N := some 123) (v := ?_) (a' := ?_) #[true, false, false, false, false, false, false, false, false] rfl rfl (any_of HT_.out (by kernel_rfl)) (fun _ _ _ h => h) (Or.inl ⟨by rfl, ?_⟩) ?_ ?_
                       rotate_left
                       ·intro w'
                        go_simp
                        with_reducible rfl
                       rotate_left
                       ·simp only [Act.put, List.setIfInBounds_toArray, List.set_cons_zero, List.set_cons_succ, i64_w, i32_w]
                        rfl
                       refine pure_ (i := 1) (N := some 124) (v := ?_) (a' := ?_) #[true, true, false, false, false, false, false, false, false] rfl rfl (any_of HT_.out (by kernel_rfl)) (fun _ _ _ h => h) (Or.inl ⟨by rfl, ?_⟩) ?_ ?_
                       rotate_left
                       ·intro w'
                        go_simp
                        with_reducible rfl
                       rotate_left
                       ·simp only [Act.put, List.setIfInBounds_toArray, List.set_cons_zero, List.set_cons_succ, i64_w, i32_w]
                        rfl
                       refine pure_ (i := 2) (N := some 125) (v := ?_) (a' := ?_) #[true, true, true, false, false, false, false, false, false] rfl rfl (any_of HT_.out (by kernel_rfl)) (fun _ _ _ h => h) (Or.inl ⟨by rfl, ?_⟩) ?_ ?_
                       rotate_left
                       ·intro w'
                        go_simp
                        with_reducible rfl
                       rotate_left
                       ·simp only [Act.put, List.setIfInBounds_toArray, List.set_cons_zero, List.set_cons_succ, i64_w, i32_w]
                        rfl
                       refine pure_ (i := 4) (N := some 127) (v := ?_) (a' := ?_) #[true, true, true, false, true, false, false, false, false] rfl rfl (any_of HT_.out (by kernel_rfl)) (fun _ _ _ h => h) (Or.inl ⟨by rfl, ?_⟩) ?_ ?_
                       rotate_left
                       ·intro w'
                        go_simp
                        with_reducible rfl
                       rotate_left
                       ·simp only [Act.put, List.setIfInBounds_toArray, List.set_cons_zero, List.set_cons_succ, i64_w, i32_w]
                        rfl
                       refine pure_ (i := 5) (N := some 128) (v := ?_) (a' := ?_) #[true, true, true, false, true, true, false, false, false] rfl rfl (any_of HT_.out (by kernel_rfl)) (fun _ _ _ h => h) (Or.inl ⟨by rfl, ?_⟩) ?_ ?_
                       rotate_left
                       ·intro w'
                        go_simp
                        with_reducible rfl
                       rotate_left
                       ·simp only [Act.put, List.setIfInBounds_toArray, List.set_cons_zero, List.set_cons_succ, i64_w, i32_w]
                        rfl
                       refine pure_ (i := 6) (N := some 129) (v := ?_) (a' := ?_) #[true, true, true, false, true, true, true, false, false] rfl rfl (any_of HT_.out (by kernel_rfl)) (fun _ _ _ h => h) (Or.inl ⟨by rfl, ?_⟩) ?_ ?_
                       rotate_left
                       ·intro w'
                        go_simp
                        with_reducible rfl
                       rotate_left
                       ·simp only [Act.put, List.setIfInBounds_toArray, List.set_cons_zero, List.set_cons_succ, i64_w, i32_w]
                        rfl
                       refine take_ (i := 3) (N := some 126) (v := ?_) (a' := ?_) #[true, true, true, true, true, true, true, false, false] rfl rfl (take_ofW HT_.out HW_.out (by kernel_rfl)) (fun _ _ _ h => h) (Or.inl ⟨by rfl, ?_⟩) hHeld ?_ ?_
                       rotate_left
                       ·rintro w' ⟨s0, s1, s2, s3, s4, s5⟩
                        go_simp
                        with_reducible rfl
                       rotate_left
                       ·simp only [Act.put, List.setIfInBounds_toArray, List.set_cons_zero, List.set_cons_succ, i64_w, i32_w]
                        rfl
                       refine take_ (i := 7) (N := some 130) (v := ?_) (a' := ?_) #[true, true, true, true, true, true, true, true, false] rfl rfl (take_ofW HT_.out HW_.out (by kernel_rfl)) (fun _ _ _ h => h) (Or.inl ⟨by rfl, ?_⟩) hHeld ?_ ?_
                       rotate_left
                       ·rintro w' ⟨s0, s1, s2, s3, s4, s5⟩
                        go_simp
                        with_reducible rfl
                       rotate_left
                       ·simp only [Act.put, List.setIfInBounds_toArray, List.set_cons_zero, List.set_cons_succ, i64_w, i32_w]
                        rfl
                       refine pure_ (i := 8) (N := some 131) (v := ?_) (a' := ?_) #[true, true, true, true, true, true, true, true, true] rfl rfl (any_of HT_.out (by kernel_rfl)) (fun _ _ _ h => h) (Or.inl ⟨by rfl, ?_⟩) ?_ ?_
                       rotate_left
                       ·intro w'
                        go_simp
                        with_reducible rfl
                       rotate_left
                       ·simp only [Act.put, List.setIfInBounds_toArray, List.set_cons_zero, List.set_cons_succ, i64_w, i32_w]
                        rfl
                       refine done_ (done_of HT_.out (by kernel_rfl)) ?_
                       try go_wp2
                       go_roundg k6
                       case measure => have := HK1.out; have := HJ7.out; have := HJ38.out; have := HJ57.out; have := HJ66.out; have := HK6.out; omega
                       case rel => exact ⟨(wrap64 (x17_6 + 1)), (by first | rfl | (simp; done) | (simp [*]; done)), H', ⟨by have := HK1.out; have := HJ7.out; have := HJ38.out; have := HJ57.out; have := HJ66.out; have := HK6.out; omega⟩, ⟨by (with_reducible repeat (first | apply Kd.R_alloc | apply Kd.R_drewN | apply Kd.R_drew)); exact HO_5.out⟩, ⟨by (with_reducible repeat (first | apply Kd.R_alloc | apply Kd.R_drewN | apply Kd.R_drew)); exact HO_15.out⟩, ⟨by repeat (first | (with_reducible first | exact HB.out | apply below_alloc | apply pw_below_drewN | apply below_drew1) | exact HB.out)⟩⟩
                     ·rw [if_neg c74] at H
                      exact absurd H (by simp)
                    ·rw [if_neg c73] at H
                     exact absurd H (by simp)
                   ·rw [if_neg c72] at H
                    have c72b0 : decide (x17_6 < (t341.length : Int)) = false := decide_eq_false c72
                    clear c72
                    obtain rfl := Option.some.inj H
                    go_wp2
                    go_ret
                    exact ⟨by first | rfl | (simp [errW_none, errW_some] <;> rfl) | (simp [*, errW_none, errW_some] <;> rfl), by repeat (first | (with_reducible first | exact HB.out | apply below_alloc | apply pw_below_drewN | apply below_drew1) | exact HB.out)⟩
             ·rw [if_neg c66] at H
              have c66b0 : (t372 == 0) = false := beq_eq_false_iff_ne.mpr c66
              have c66b1 : (t372 != 0) = true := bne_iff_ne.mpr c66
              obtain rfl := Option.some.inj H
              go_wp2_with (first | ((with_reducible refine gate_callee (f := 16) rfl ?_); refine goesL_ (some 103) rfl rfl Tryd.func16 (by kernel_rfl) rfl #[.string t369] rfl (by (try simp only [List.map_toArray, List.map_cons, List.map_nil]); first | done | rfl | (simp only [List.length_drop, List.length_take]; rfl)) ?_; (with_reducible refine (tuple_Get.calls kj57 t369 t373 t374 _ A65.out).mono ?_); rintro e w78 ⟨v375, rfl, ho0, hb⟩; refine ⟨_, rfl, ?_⟩; have n0_ := Aside0.mk (Kd.R_elder' (by (with_reducible repeat (first | apply Kd.R_alloc | apply Kd.R_drewN | apply Kd.R_drew)); exact HO_5.out) (Kd.R_base ho0) hb); have n1_ := Aside0.mk (Kd.R_lower (Kd.R_new' ho0 (Kd.R_lt (by (with_reducible repeat (first | apply Kd.R_alloc | apply Kd.R_drewN | apply Kd.R_drew)); exact HO_5.out))) (below_size (by repeat (first | (with_reducible first | exact HB.out | apply below_alloc | apply pw_below_drewN | apply below_drew1) | exact HB.out)))); have n2_ := Aside0.mk (below_step (by repeat (first | (with_reducible first | exact HB.out | apply below_alloc | apply pw_below_drewN | apply below_drew1) | exact HB.out)) hb); clear HO_5; clear HB; have HO_5 := n0_; have HO376 := n1_; have HB := n2_; clear n0_ n1_ n2_; (try clear hb); (try clear hb2); (try clear hk); (try clear hi); (try clear ho0)))
              go_ret
              exact ⟨by first | rfl | (simp [errW_none, errW_some] <;> rfl) | (simp [*, errW_none, errW_some] <;> rfl), by repeat (first | (with_reducible first | exact HB.out | apply below_alloc | apply pw_below_drewN | apply below_drew1) | exact HB.out)⟩
 ·replace c4 := Bool.eq_false_iff.mpr c4
  subst c4
  have H1 : (none) = some r := by rw [if_neg (show ¬ (false = true) by decide)] at H; exact H
  clear H
  have H := H1
  clear H1
  exact absurd H (by simp)

end Go.Proofs.YtcpehlllgfffkaaDoor.GT
