-- Written by a program of this session (wip/pv.py, which turns the kit's print.py in a scratch copy): see NOTES.md.
import Derived.Test.YteehchhmonlkkaaGPx0
import Derived.Test.YteehchhmonlkkaaGPx2
namespace Go.Proofs.Yteehchhmonlkkaa.GP
open Go.RowKit Go.Proofs.YteehchhmonlkkaaW.PrintWords Go.Proofs.YteehchhmonlkkaaW.PrintLast Go.Proofs.YteehchhmonlkkaaW.PrintMore
attribute [local go_sem] max2_int min2_int max_two min_two max_three min_three max_four min_four   -- for this text's walks alone
set_option linter.unusedVariables false
set_option linter.unusedSimpArgs false

/-! ### record_Get: function 11 -/
def record_Get.l0 : Nat → Int → Int → ByteArray → Int → Int → Int → Int → ByteArray → Int → List (S60) → Option (Int × Int × Int × ByteArray × Int × (List (S60)) × Int)
 | 0, _, _, _, _, _, _, _, _, _, _ => none
 | k + 1, x30, x31, x129000, x129001, x130000, x130001, x130002, x130003, x130004, x130005 => if x31 < x30 then ((record_reader_number.f k x129000 x129001 2).bind fun bt148 => ((record_reader_pieces.f k bt148.2.1 bt148.2.2).bind fun bt151 => (if x130005.length < 4398046511104 then (record_Get.l0 k x30 (wrap64 (x31 + 1)) bt151.2.1 bt151.2.2 x130000 x130001 x130002 x130003 x130004 (x130005 ++ [(⟨bt148.1, bt151.1⟩ : S60)])) else (none)))) else (if x129001 = 0 then (if x129000.toList = ([] : List UInt8) then (if x130002 < 1 then (some (0, 0, 0, (⟨#[]⟩ : ByteArray), 0, ([] : List (S60)), 2)) else (if x130002 > 4 then (some (0, 0, 0, (⟨#[]⟩ : ByteArray), 0, ([] : List (S60)), 2)) else (some (x130000, x130001, x130002, x130003, x130004, x130005, 0)))) else (some (0, 0, 0, (⟨#[]⟩ : ByteArray), 0, ([] : List (S60)), 4))) else (some (0, 0, 0, (⟨#[]⟩ : ByteArray), 0, ([] : List (S60)), x129001)))
def record_Get.f (k : Nat) (a0 : ByteArray) : Option (Int × Int × Int × ByteArray × Int × (List (S60)) × Int) := if (a0.size : Int) > 16384 then (some (0, 0, 0, (⟨#[]⟩ : ByteArray), 0, ([] : List (S60)), 6)) else ((record_reader_number.f k a0 0 6).bind fun bt130 => ((record_reader_number.f k bt130.2.1 bt130.2.2 6).bind fun bt133 => ((record_reader_number.f k bt133.2.1 bt133.2.2 1).bind fun bt136 => ((record_reader_text.f k bt136.2.1 bt136.2.2).bind fun bt139 => ((record_reader_number.f k bt139.2.1 bt139.2.2 2).bind fun bt142 => ((record_reader_number.f k bt142.2.1 bt142.2.2 1).bind fun bt145 => (record_Get.l0 k bt145.1 0 bt145.2.1 bt145.2.2 bt130.1 bt133.1 bt136.1 bt139.1 bt142.1 ([] : List (S60)))))))))
theorem record_Get.mono_l : ∀ k, (∀ y0 y1 y2 y3 y4 y5 y6 y7 y8 y9, LeO (record_Get.l0 k y0 y1 y2 y3 y4 y5 y6 y7 y8 y9) (record_Get.l0 (k + 1) y0 y1 y2 y3 y4 y5 y6 y7 y8 y9))
 | 0 => fun _ _ _ _ _ _ _ _ _ _ r h => by simp [record_Get.l0] at h
 | k + 1 => by
  have ih0 := record_Get.mono_l k
  ·intro y0 y1 y2 y3 y4 y5 y6 y7 y8 y9
   unfold record_Get.l0
   repeat' first
   | (with_reducible exact ih0 _ _ _ _ _ _ _ _ _ _)
   | (with_reducible exact record_reader_number.mono _ _ _ _)
   | (with_reducible exact record_reader_pieces.mono _ _ _)
   | (with_reducible exact record_reader_text.mono _ _ _)
   | (with_reducible exact LeO.refl _)
   | (with_reducible exact LeO.none _)
   | (with_reducible refine LeO.ite ?_ ?_)
   | (with_reducible refine LeO.bind ?_ (fun _ => ?_))
   | exact ih0 _ _ _ _ _ _ _ _ _ _
   | exact record_reader_number.mono _ _ _ _
   | exact record_reader_pieces.mono _ _ _
   | exact record_reader_text.mono _ _ _
   | exact LeO.none _
   | refine LeO.ite ?_ ?_
   | refine LeO.bind ?_ (fun _ => ?_)
theorem record_Get.mono : ∀ a0 k, LeO (record_Get.f k a0) (record_Get.f (k + 1) a0) := by
 intro a0 k
 have ih0 := record_Get.mono_l k
 unfold record_Get.f
 repeat' first
   | (with_reducible exact ih0 _ _ _ _ _ _ _ _ _ _)
   | (with_reducible exact record_reader_number.mono _ _ _ _)
   | (with_reducible exact record_reader_pieces.mono _ _ _)
   | (with_reducible exact record_reader_text.mono _ _ _)
   | (with_reducible exact LeO.refl _)
   | (with_reducible exact LeO.none _)
   | (with_reducible refine LeO.ite ?_ ?_)
   | (with_reducible refine LeO.bind ?_ (fun _ => ?_))
   | exact ih0 _ _ _ _ _ _ _ _ _ _
   | exact record_reader_number.mono _ _ _ _
   | exact record_reader_pieces.mono _ _ _
   | exact record_reader_text.mono _ _ _
   | exact LeO.none _
   | refine LeO.ite ?_ ?_
   | refine LeO.bind ?_ (fun _ => ?_)
def record_Get.T13 : Bool × List (List Nat × List Nat) := (true, [([], []), ([0], [0]), ([], []), ([], []), ([3], [3]), ([2, 4], [2, 4]), ([5], [5]), ([1, 6, 4], [1, 6]), ([0, 1, 2, 3, 4, 5, 6, 7], []), ([8, 7, 7, 0, 1, 2, 3, 4, 5, 6, 7], [7, 8])])
def record_Get.B13 : List Nat := [0, 1, 0, 0, 8, 28, 60, 127, 255, 511]
theorem record_Get.tab13 : rtab .any (opsOf Try.f11 13) = record_Get.T13 := by kernel_rfl
theorem record_Get.bits13 : waitsOk record_Get.T13.2 record_Get.B13 = true := by kernel_rfl
set_option maxHeartbeats 8000000 in
set_option maxRecDepth 100000 in
theorem record_Get.calls (k : Nat) (a0 : ByteArray) (r1 : Int) (r2 : Int) (r3 : Int) (r4 : ByteArray) (r5 : Int) (r6 : List (S60)) (r7 : Int) (w : World) (h : record_Get.f k a0 = some (r1, r2, r3, r4, r5, r6, r7)) :
  Calls Try.prog 11 #[.string a0] w fun e w' => ∃ v5_ : Value, e = .returned (.tuple #[.agg #[.int .i64 r1, .int .i64 r2, .int .i64 r3, .string r4, .int .i64 r5, v5_], .int .i64 r7]) ∧ Kd.S k60 60 w' w.heap.size (fun _ => True) v5_ r6 ∧ Below w.heap.size w w' := by
 have hu29 := Try.underlying29
 have hu84 := Try.underlying84
 have hu60 := Try.underlying60
 have HB := Aside0.mk (Below.refl w.heap.size w)
 have H : (if (a0.size : Int) > 16384 then (some (0, 0, 0, (⟨#[]⟩ : ByteArray), 0, ([] : List (S60)), 6)) else ((record_reader_number.f k a0 0 6).bind fun bt130 => ((record_reader_number.f k bt130.2.1 bt130.2.2 6).bind fun bt133 => ((record_reader_number.f k bt133.2.1 bt133.2.2 1).bind fun bt136 => ((record_reader_text.f k bt136.2.1 bt136.2.2).bind fun bt139 => ((record_reader_number.f k bt139.2.1 bt139.2.2 2).bind fun bt142 => ((record_reader_number.f k bt142.2.1 bt142.2.2 1).bind fun bt145 => (record_Get.l0 k bt145.1 0 bt145.2.1 bt145.2.2 bt130.1 bt133.1 bt136.1 bt139.1 bt142.1 ([] : List (S60)))))))))) = some (r1, r2, r3, r4, r5, r6, r7) := h
 clear h
 by_cases c2 : (a0.size : Int) > 16384
 ·rw [if_pos c2] at H
  have c2b0 : decide (16384 < (a0.size : Int)) = true := decide_eq_true c2
  have c2b1 : decide (16384 < a0.size) = true := decide_eq_true (by omega)
  clear c2
  simp only [Option.some.injEq, Prod.mk.injEq] at H
  obtain ⟨rfl, rfl, rfl, rfl, rfl, rfl, rfl⟩ := H
  go_enter Try.func11, Try.ntmps11
  go_wp2_with (first | ((with_reducible refine gate_dst (N := 2) rfl ?_); refine box_event ?hg (N := 2) ?hd (cs := #[.int .i64 0, .int .i64 0, .int .i64 0, .string (⟨#[]⟩ : ByteArray), .int .i64 0, .slice none 0 0]) (t := 29) ?hr ?_; (case hd => rfl); (case hg => rfl); (case hr => first | (go_simp; done) | (go_simp; rfl)); intro gb127 hg w3 hbox hb; have n0_ := Aside0.mk (below_step (by repeat (first | (with_reducible first | exact HB.out | apply below_alloc | apply pw_below_drewN | apply below_drew1) | exact HB.out)) hb); have n1_ := Aside0.mk (hbox); have n2_ := Aside0.mk ((by rw [hg]; exact (below_size (by repeat (first | (with_reducible first | exact HB.out | apply below_alloc | apply pw_below_drewN | apply below_drew1) | exact HB.out))) : w.heap.size ≤ gb127)); have n3_ := Aside0.mk ((by rw [hg]; exact (below_size (by repeat (first | (with_reducible first | exact HB.out | apply below_alloc | apply pw_below_drewN | apply below_drew1) | exact HB.out))) : w.heap.size ≤ gb127)); clear HB; have HB := n0_; have BK127 := n1_; have GW127 := n2_; have GE127 := n3_; clear n0_ n1_ n2_ n3_; clear hb hbox hg; have hcz4_0 : w3.cell? ⟨gb127, 0, none⟩ = some (.int .i64 0) := (blk_cell BK127.out 0).trans rfl; have hcz4_1 : w3.cell? ⟨gb127, 1, none⟩ = some (.int .i64 0) := (blk_cell BK127.out 1).trans rfl; have hcz4_2 : w3.cell? ⟨gb127, 2, none⟩ = some (.int .i64 0) := (blk_cell BK127.out 2).trans rfl; have hcz4_3 : w3.cell? ⟨gb127, 3, none⟩ = some (.string (⟨#[]⟩ : ByteArray)) := (blk_cell BK127.out 3).trans rfl; have hcz4_4 : w3.cell? ⟨gb127, 4, none⟩ = some (.int .i64 0) := (blk_cell BK127.out 4).trans rfl; have hcz4_5 : w3.cell? ⟨gb127, 5, none⟩ = some (.slice none 0 0) := (blk_cell BK127.out 5).trans rfl; have hfz4_0 := blk_frozen BK127.out 0; have hfz4_1 := blk_frozen BK127.out 1; have hfz4_2 := blk_frozen BK127.out 2; have hfz4_3 := blk_frozen BK127.out 3; have hfz4_4 := blk_frozen BK127.out 4; have hfz4_5 := blk_frozen BK127.out 5))
  refine bodyPost_ret (results_ct rfl _ _ gb127 29 #[.int .i64 0, .int .i64 0, .int .i64 0, .string (⟨#[]⟩ : ByteArray), .int .i64 0, .slice none 0 0] (0, 0) _ rfl (by (with_reducible repeat (first | refine blk_drewN ?_ _ | refine blk_drew ?_ | refine blk_alloc ?_ _)); refine blk_put (cs := #[.int .i64 0, .int .i64 0, .int .i64 0, .string (⟨#[]⟩ : ByteArray), .int .i64 0, .slice none 0 0]) ?_ 5 _ rfl; (with_reducible repeat (first | refine blk_drewN ?_ _ | refine blk_drew ?_ | refine blk_alloc ?_ _)); refine blk_put (cs := #[.int .i64 0, .int .i64 0, .int .i64 0, .string (⟨#[]⟩ : ByteArray), .int .i64 0, .slice none 0 0]) ?_ 4 _ rfl; (with_reducible repeat (first | refine blk_drewN ?_ _ | refine blk_drew ?_ | refine blk_alloc ?_ _)); refine blk_put (cs := #[.int .i64 0, .int .i64 0, .int .i64 0, .string (⟨#[]⟩ : ByteArray), .int .i64 0, .slice none 0 0]) ?_ 3 _ rfl; (with_reducible repeat (first | refine blk_drewN ?_ _ | refine blk_drew ?_ | refine blk_alloc ?_ _)); refine blk_put (cs := #[.int .i64 0, .int .i64 0, .int .i64 0, .string (⟨#[]⟩ : ByteArray), .int .i64 0, .slice none 0 0]) ?_ 2 _ rfl; (with_reducible repeat (first | refine blk_drewN ?_ _ | refine blk_drew ?_ | refine blk_alloc ?_ _)); refine blk_put (cs := #[.int .i64 0, .int .i64 0, .int .i64 0, .string (⟨#[]⟩ : ByteArray), .int .i64 0, .slice none 0 0]) ?_ 1 _ rfl; (with_reducible repeat (first | refine blk_drewN ?_ _ | refine blk_drew ?_ | refine blk_alloc ?_ _)); refine blk_put (cs := #[.int .i64 0, .int .i64 0, .int .i64 0, .string (⟨#[]⟩ : ByteArray), .int .i64 0, .slice none 0 0]) ?_ 0 _ rfl; (with_reducible repeat (first | refine blk_drewN ?_ _ | refine blk_drew ?_ | refine blk_alloc ?_ _)); exact BK127.out) Try.underlying29 rfl (by kernel_rfl)) rfl ?_
  exact ⟨_, by first | rfl | (simp [errW_none, errW_some] <;> rfl) | (simp [*, errW_none, errW_some] <;> rfl), by first | exact Kd.S_nil _ _ _ _ _ | exact Kd.N_nil _ _ _ _ _ | exact Kd.V_nil _ _ _ _ _ | exact Kd.Q_nil _ _ _ _ _ | exact Kd.R_nil _ _ _ _ _, by repeat (first | (with_reducible first | exact HB.out | apply below_alloc | apply pw_below_drewN | apply below_drew1 | refine below_set ?_ GE127.out) | exact HB.out)⟩
 ·rw [if_neg c2] at H
  have c2b0 : decide (16384 < (a0.size : Int)) = false := decide_eq_false c2
  have c2b1 : decide (16384 < a0.size) = false := decide_eq_false (by omega)
  clear c2
  replace H := Option.bind_eq_some_iff.mp H
  obtain ⟨⟨t130, t131, t132⟩, A50, H⟩ := H
  replace H : ((record_reader_number.f k t131 t132 6).bind fun bt133 => ((record_reader_number.f k bt133.2.1 bt133.2.2 1).bind fun bt136 => ((record_reader_text.f k bt136.2.1 bt136.2.2).bind fun bt139 => ((record_reader_number.f k bt139.2.1 bt139.2.2 2).bind fun bt142 => ((record_reader_number.f k bt142.2.1 bt142.2.2 1).bind fun bt145 => (record_Get.l0 k bt145.1 0 bt145.2.1 bt145.2.2 t130 bt133.1 bt136.1 bt139.1 bt142.1 ([] : List (S60)))))))) = some (r1, r2, r3, r4, r5, r6, r7) := H
  have A5 := Aside0.mk A50
  clear A50
  replace H := Option.bind_eq_some_iff.mp H
  obtain ⟨⟨t133, t134, t135⟩, A60, H⟩ := H
  replace H : ((record_reader_number.f k t134 t135 1).bind fun bt136 => ((record_reader_text.f k bt136.2.1 bt136.2.2).bind fun bt139 => ((record_reader_number.f k bt139.2.1 bt139.2.2 2).bind fun bt142 => ((record_reader_number.f k bt142.2.1 bt142.2.2 1).bind fun bt145 => (record_Get.l0 k bt145.1 0 bt145.2.1 bt145.2.2 t130 t133 bt136.1 bt139.1 bt142.1 ([] : List (S60))))))) = some (r1, r2, r3, r4, r5, r6, r7) := H
  have A6 := Aside0.mk A60
  clear A60
  replace H := Option.bind_eq_some_iff.mp H
  obtain ⟨⟨t136, t137, t138⟩, A70, H⟩ := H
  replace H : ((record_reader_text.f k t137 t138).bind fun bt139 => ((record_reader_number.f k bt139.2.1 bt139.2.2 2).bind fun bt142 => ((record_reader_number.f k bt142.2.1 bt142.2.2 1).bind fun bt145 => (record_Get.l0 k bt145.1 0 bt145.2.1 bt145.2.2 t130 t133 t136 bt139.1 bt142.1 ([] : List (S60)))))) = some (r1, r2, r3, r4, r5, r6, r7) := H
  have A7 := Aside0.mk A70
  clear A70
  replace H := Option.bind_eq_some_iff.mp H
  obtain ⟨⟨t139, t140, t141⟩, A80, H⟩ := H
  replace H : ((record_reader_number.f k t140 t141 2).bind fun bt142 => ((record_reader_number.f k bt142.2.1 bt142.2.2 1).bind fun bt145 => (record_Get.l0 k bt145.1 0 bt145.2.1 bt145.2.2 t130 t133 t136 t139 bt142.1 ([] : List (S60))))) = some (r1, r2, r3, r4, r5, r6, r7) := H
  have A8 := Aside0.mk A80
  clear A80
  replace H := Option.bind_eq_some_iff.mp H
  obtain ⟨⟨t142, t143, t144⟩, A90, H⟩ := H
  replace H : ((record_reader_number.f k t143 t144 1).bind fun bt145 => (record_Get.l0 k bt145.1 0 bt145.2.1 bt145.2.2 t130 t133 t136 t139 t142 ([] : List (S60)))) = some (r1, r2, r3, r4, r5, r6, r7) := H
  have A9 := Aside0.mk A90
  clear A90
  replace H := Option.bind_eq_some_iff.mp H
  obtain ⟨⟨t145, t146, t147⟩, A100, H⟩ := H
  replace H : (record_Get.l0 k t145 0 t146 t147 t130 t133 t136 t139 t142 ([] : List (S60))) = some (r1, r2, r3, r4, r5, r6, r7) := H
  have A10 := Aside0.mk A100
  clear A100
  have H' := Aside0.mk H
  clear H
  go_enter Try.func11, Try.ntmps11
  go_wp2_with (first | ((with_reducible refine gate_dst (N := 2) rfl ?_); refine box_event ?hg (N := 2) ?hd (cs := #[.int .i64 0, .int .i64 0, .int .i64 0, .string (⟨#[]⟩ : ByteArray), .int .i64 0, .slice none 0 0]) (t := 29) ?hr ?_; (case hd => rfl); (case hg => rfl); (case hr => first | (go_simp; done) | (go_simp; rfl)); intro gb127 hg w11 hbox hb; have n0_ := Aside0.mk (below_step (by repeat (first | (with_reducible first | exact HB.out | apply below_alloc | apply pw_below_drewN | apply below_drew1) | exact HB.out)) hb); have n1_ := Aside0.mk (hbox); have n2_ := Aside0.mk ((by rw [hg]; exact (below_size (by repeat (first | (with_reducible first | exact HB.out | apply below_alloc | apply pw_below_drewN | apply below_drew1) | exact HB.out))) : w.heap.size ≤ gb127)); have n3_ := Aside0.mk ((by rw [hg]; exact (below_size (by repeat (first | (with_reducible first | exact HB.out | apply below_alloc | apply pw_below_drewN | apply below_drew1) | exact HB.out))) : w.heap.size ≤ gb127)); clear HB; have HB := n0_; have BK127 := n1_; have GW127 := n2_; have GE127 := n3_; clear n0_ n1_ n2_ n3_; clear hb hbox hg) | ((with_reducible refine gate_dst (N := 13) rfl ?_); refine box_event ?hg (N := 13) ?hd (cs := #[.string a0, .int .i64 0]) (t := 84) ?hr ?_; (case hd => rfl); (case hg => rfl); (case hr => first | (go_simp; done) | (go_simp; rfl)); intro gb128 hg w12 hbox hb; have n0_ := Aside0.mk (blk_below (g := gb127) (o := .cells #[.int .i64 0, .int .i64 0, .int .i64 0, .string (⟨#[]⟩ : ByteArray), .int .i64 0, .slice none 0 0] 29 (0, 0)) (by (with_reducible repeat (first | refine blk_drewN ?_ _ | refine blk_drew ?_ | refine blk_alloc ?_ _)); exact BK127.out) hb); have n1_ := Aside0.mk (below_step (by repeat (first | (with_reducible first | exact HB.out | apply below_alloc | apply pw_below_drewN | apply below_drew1 | refine below_set ?_ GE127.out) | exact HB.out)) hb); have n2_ := Aside0.mk ((⟨hbox, by rw [hg]; exact (below_size (by repeat (first | (with_reducible first | exact HB.out | apply below_alloc | apply pw_below_drewN | apply below_drew1 | refine below_set ?_ GE127.out) | exact HB.out)))⟩ : IsS84 w w12 gb128 a0 0)); have n3_ := Aside0.mk ((by rw [hg]; exact Nat.ne_of_lt (blk_lt (g := gb127) (o := .cells #[.int .i64 0, .int .i64 0, .int .i64 0, .string (⟨#[]⟩ : ByteArray), .int .i64 0, .slice none 0 0] 29 (0, 0)) (by (with_reducible repeat (first | refine blk_drewN ?_ _ | refine blk_drew ?_ | refine blk_alloc ?_ _)); exact BK127.out)) : gb127 ≠ gb128)); have n4_ := Aside0.mk ((by rw [hg]; exact Nat.ne_of_gt (blk_lt (g := gb127) (o := .cells #[.int .i64 0, .int .i64 0, .int .i64 0, .string (⟨#[]⟩ : ByteArray), .int .i64 0, .slice none 0 0] 29 (0, 0)) (by (with_reducible repeat (first | refine blk_drewN ?_ _ | refine blk_drew ?_ | refine blk_alloc ?_ _)); exact BK127.out)) : gb128 ≠ gb127)); clear BK127; clear HB; have BK127 := n0_; have HB := n1_; have HI128 := n2_; have NB127_128 := n3_; have NB128_127 := n4_; clear n0_ n1_ n2_ n3_ n4_; clear hb hbox hg) | ((with_reducible refine gate_dst (N := 5) rfl ?_); refine box_event ?hg (N := 5) ?hd (cs := #[.int .i64 0, .int .i64 0, .int .i64 0, .string (⟨#[]⟩ : ByteArray), .int .i64 0, .slice none 0 0]) (t := 29) ?hr ?_; (case hd => rfl); (case hg => rfl); (case hr => first | (go_simp; done) | (go_simp; rfl)); intro gb129 hg w13 hbox hb; have n0_ := Aside0.mk (blk_below (g := gb127) (o := .cells #[.int .i64 0, .int .i64 0, .int .i64 0, .string (⟨#[]⟩ : ByteArray), .int .i64 0, .slice none 0 0] 29 (0, 0)) (by (with_reducible repeat (first | refine blk_drewN ?_ _ | refine blk_drew ?_ | refine blk_alloc ?_ _)); exact BK127.out) hb); have n1_ := Aside0.mk (IsS84.below (by repeat (first | (with_reducible first | exact HI128.out | apply IsS84.alloc | apply IsS84.drewN | apply IsS84.drew | apply IsS84.set_0 | apply IsS84.set_1 | refine IsS84.far ?_ NB128_127.out _) | exact HI128.out)) hb); have n2_ := Aside0.mk (below_step (by repeat (first | (with_reducible first | exact HB.out | apply below_alloc | apply pw_below_drewN | apply below_drew1 | refine below_set ?_ (IsS84.ge HI128.out) | refine below_set ?_ GE127.out) | exact HB.out)) hb); have n3_ := Aside0.mk (hbox); have n4_ := Aside0.mk ((by rw [hg]; exact (below_size (by repeat (first | (with_reducible first | exact HB.out | apply below_alloc | apply pw_below_drewN | apply below_drew1 | refine below_set ?_ (IsS84.ge HI128.out) | refine below_set ?_ GE127.out) | exact HB.out))) : w.heap.size ≤ gb129)); have n5_ := Aside0.mk ((by rw [hg]; exact (below_size (by repeat (first | (with_reducible first | exact HB.out | apply below_alloc | apply pw_below_drewN | apply below_drew1 | refine below_set ?_ (IsS84.ge HI128.out) | refine below_set ?_ GE127.out) | exact HB.out))) : w.heap.size ≤ gb129)); have n6_ := Aside0.mk ((by rw [hg]; exact Nat.ne_of_lt (blk_lt (g := gb127) (o := .cells #[.int .i64 0, .int .i64 0, .int .i64 0, .string (⟨#[]⟩ : ByteArray), .int .i64 0, .slice none 0 0] 29 (0, 0)) (by (with_reducible repeat (first | refine blk_drewN ?_ _ | refine blk_drew ?_ | refine blk_alloc ?_ _)); exact BK127.out)) : gb127 ≠ gb129)); have n7_ := Aside0.mk ((by rw [hg]; exact Nat.ne_of_gt (blk_lt (g := gb127) (o := .cells #[.int .i64 0, .int .i64 0, .int .i64 0, .string (⟨#[]⟩ : ByteArray), .int .i64 0, .slice none 0 0] 29 (0, 0)) (by (with_reducible repeat (first | refine blk_drewN ?_ _ | refine blk_drew ?_ | refine blk_alloc ?_ _)); exact BK127.out)) : gb129 ≠ gb127)); have n8_ := Aside0.mk ((by rw [hg]; exact Nat.ne_of_lt (IsS84.lt (show IsS84 w _ gb128 a0 0 from by repeat (first | (with_reducible first | exact HI128.out | apply IsS84.alloc | apply IsS84.drewN | apply IsS84.drew | apply IsS84.set_0 | apply IsS84.set_1 | refine IsS84.far ?_ NB128_127.out _) | exact HI128.out))) : gb128 ≠ gb129)); have n9_ := Aside0.mk ((by rw [hg]; exact Nat.ne_of_gt (IsS84.lt (show IsS84 w _ gb128 a0 0 from by repeat (first | (with_reducible first | exact HI128.out | apply IsS84.alloc | apply IsS84.drewN | apply IsS84.drew | apply IsS84.set_0 | apply IsS84.set_1 | refine IsS84.far ?_ NB128_127.out _) | exact HI128.out))) : gb129 ≠ gb128)); clear BK127; clear HI128; clear HB; have BK127 := n0_; have HI128 := n1_; have HB := n2_; have BK129 := n3_; have GW129 := n4_; have GE129 := n5_; have NB127_129 := n6_; have NB129_127 := n7_; have NB128_129 := n8_; have NB129_128 := n9_; clear n0_ n1_ n2_ n3_ n4_ n5_ n6_ n7_ n8_ n9_; clear hb hbox hg) | ((with_reducible refine gate_callee (f := 27) rfl ?_); refine goesL_ (some 15) rfl rfl Try.func27 (by kernel_rfl) rfl #[.pointer (some ⟨gb128, 0, none⟩), .int .i64 6] rfl (by (try simp only [List.map_toArray, List.map_cons, List.map_nil]); first | done | rfl | (simp only [List.length_drop, List.length_take]; rfl)) ?_; (with_reducible refine (record_reader_number.calls k gb128 a0 0 6 t130 t131 t132 w _ ?side1 ?side2 A5.out).mono ?_); (case side1 => repeat (first | (with_reducible first | exact HI128.out | apply IsS84.alloc | apply IsS84.drewN | apply IsS84.drew | apply IsS84.set_0 | apply IsS84.set_1 | refine IsS84.far ?_ NB128_127.out _ | refine IsS84.far ?_ NB128_129.out _) | exact HI128.out)); (case side2 => repeat (first | (with_reducible first | exact HB.out | apply below_alloc | apply pw_below_drewN | apply below_drew1 | refine below_set ?_ (IsS84.ge HI128.out) | refine below_set ?_ GE127.out | refine below_set ?_ GE129.out) | exact HB.out)); rintro e w14 ⟨rfl, hi, hb, hk⟩; refine ⟨_, rfl, ?_⟩; have n0_ := Aside0.mk (KeepBut.blk hk (g' := gb127) (o := .cells #[.int .i64 0, .int .i64 0, .int .i64 0, .string (⟨#[]⟩ : ByteArray), .int .i64 0, .slice none 0 0] 29 (0, 0)) (by (with_reducible repeat (first | refine blk_drewN ?_ _ | refine blk_drew ?_ | refine blk_alloc ?_ _)); exact BK127.out) NB127_128.out (by simp)); have n1_ := Aside0.mk (KeepBut.blk hk (g' := gb129) (o := .cells #[.int .i64 0, .int .i64 0, .int .i64 0, .string (⟨#[]⟩ : ByteArray), .int .i64 0, .slice none 0 0] 29 (0, 0)) (by (with_reducible repeat (first | refine blk_drewN ?_ _ | refine blk_drew ?_ | refine blk_alloc ?_ _)); exact BK129.out) NB129_128.out (by simp)); have n2_ := Aside0.mk (hb); have n3_ := Aside0.mk (hi); clear BK127; clear BK129; clear HB; clear HI128; have BK127 := n0_; have BK129 := n1_; have HB := n2_; have HI128 := n3_; clear n0_ n1_ n2_ n3_; (try clear hb); (try clear hb2); (try clear hk); (try clear hi); have hnb15 := NB129_127.out; have hnc15 := NB127_129.out; have hnb16 := NB129_128.out; have hnc16 := NB128_129.out; have hcz17_0 : w14.cell? ⟨gb129, 0, none⟩ = some (.int .i64 0) := (blk_cell BK129.out 0).trans rfl; have hcz17_1 : w14.cell? ⟨gb129, 1, none⟩ = some (.int .i64 0) := (blk_cell BK129.out 1).trans rfl; have hcz17_2 : w14.cell? ⟨gb129, 2, none⟩ = some (.int .i64 0) := (blk_cell BK129.out 2).trans rfl; have hcz17_3 : w14.cell? ⟨gb129, 3, none⟩ = some (.string (⟨#[]⟩ : ByteArray)) := (blk_cell BK129.out 3).trans rfl; have hcz17_4 : w14.cell? ⟨gb129, 4, none⟩ = some (.int .i64 0) := (blk_cell BK129.out 4).trans rfl; have hcz17_5 : w14.cell? ⟨gb129, 5, none⟩ = some (.slice none 0 0) := (blk_cell BK129.out 5).trans rfl; have hfz17_0 := blk_frozen BK129.out 0; have hfz17_1 := blk_frozen BK129.out 1; have hfz17_2 := blk_frozen BK129.out 2; have hfz17_3 := blk_frozen BK129.out 3; have hfz17_4 := blk_frozen BK129.out 4; have hfz17_5 := blk_frozen BK129.out 5) | ((with_reducible refine gate_callee (f := 27) rfl ?_); refine goesL_ (some 18) rfl rfl Try.func27 (by kernel_rfl) rfl #[.pointer (some ⟨gb128, 0, none⟩), .int .i64 6] rfl (by (try simp only [List.map_toArray, List.map_cons, List.map_nil]); first | done | rfl | (simp only [List.length_drop, List.length_take]; rfl)) ?_; (with_reducible refine (record_reader_number.calls k gb128 t131 t132 6 t133 t134 t135 w _ ?side1 ?side2 A6.out).mono ?_); (case side1 => repeat (first | (with_reducible first | exact HI128.out | apply IsS84.alloc | apply IsS84.drewN | apply IsS84.drew | apply IsS84.set_0 | apply IsS84.set_1 | refine IsS84.far ?_ NB128_127.out _ | refine IsS84.far ?_ NB128_129.out _) | exact HI128.out)); (case side2 => repeat (first | (with_reducible first | exact HB.out | apply below_alloc | apply pw_below_drewN | apply below_drew1 | refine below_set ?_ (IsS84.ge HI128.out) | refine below_set ?_ GE127.out | refine below_set ?_ GE129.out) | exact HB.out)); rintro e w18 ⟨rfl, hi, hb, hk⟩; refine ⟨_, rfl, ?_⟩; have n0_ := Aside0.mk (KeepBut.blk hk (g' := gb127) (o := .cells #[.int .i64 0, .int .i64 0, .int .i64 0, .string (⟨#[]⟩ : ByteArray), .int .i64 0, .slice none 0 0] 29 (0, 0)) (by (with_reducible repeat (first | refine blk_drewN ?_ _ | refine blk_drew ?_ | refine blk_alloc ?_ _)); refine blk_far ?_ NB127_129.out _; (with_reducible repeat (first | refine blk_drewN ?_ _ | refine blk_drew ?_ | refine blk_alloc ?_ _)); exact BK127.out) NB127_128.out (by simp)); have n1_ := Aside0.mk (KeepBut.blk hk (g' := gb129) (o := .cells #[.int .i64 t130, .int .i64 0, .int .i64 0, .string (⟨#[]⟩ : ByteArray), .int .i64 0, .slice none 0 0] 29 (0, 0)) (by (with_reducible repeat (first | refine blk_drewN ?_ _ | refine blk_drew ?_ | refine blk_alloc ?_ _)); refine blk_put (cs := #[.int .i64 0, .int .i64 0, .int .i64 0, .string (⟨#[]⟩ : ByteArray), .int .i64 0, .slice none 0 0]) ?_ 0 _ rfl; (with_reducible repeat (first | refine blk_drewN ?_ _ | refine blk_drew ?_ | refine blk_alloc ?_ _)); exact BK129.out) NB129_128.out (by simp)); have n2_ := Aside0.mk (hb); have n3_ := Aside0.mk (hi); clear BK127; clear BK129; clear HB; clear HI128; have BK127 := n0_; have BK129 := n1_; have HB := n2_; have HI128 := n3_; clear n0_ n1_ n2_ n3_; (try clear hb); (try clear hb2); (try clear hk); (try clear hi); have hcz19_0 : w18.cell? ⟨gb129, 0, none⟩ = some (.int .i64 t130) := (blk_cell BK129.out 0).trans rfl; have hcz19_1 : w18.cell? ⟨gb129, 1, none⟩ = some (.int .i64 0) := (blk_cell BK129.out 1).trans rfl; have hcz19_2 : w18.cell? ⟨gb129, 2, none⟩ = some (.int .i64 0) := (blk_cell BK129.out 2).trans rfl; have hcz19_3 : w18.cell? ⟨gb129, 3, none⟩ = some (.string (⟨#[]⟩ : ByteArray)) := (blk_cell BK129.out 3).trans rfl; have hcz19_4 : w18.cell? ⟨gb129, 4, none⟩ = some (.int .i64 0) := (blk_cell BK129.out 4).trans rfl; have hcz19_5 : w18.cell? ⟨gb129, 5, none⟩ = some (.slice none 0 0) := (blk_cell BK129.out 5).trans rfl; have hfz19_0 := blk_frozen BK129.out 0; have hfz19_1 := blk_frozen BK129.out 1; have hfz19_2 := blk_frozen BK129.out 2; have hfz19_3 := blk_frozen BK129.out 3; have hfz19_4 := blk_frozen BK129.out 4; have hfz19_5 := blk_frozen BK129.out 5) | ((with_reducible refine gate_callee (f := 27) rfl ?_); refine goesL_ (some 21) rfl rfl Try.func27 (by kernel_rfl) rfl #[.pointer (some ⟨gb128, 0, none⟩), .int .i64 1] rfl (by (try simp only [List.map_toArray, List.map_cons, List.map_nil]); first | done | rfl | (simp only [List.length_drop, List.length_take]; rfl)) ?_; (with_reducible refine (record_reader_number.calls k gb128 t134 t135 1 t136 t137 t138 w _ ?side1 ?side2 A7.out).mono ?_); (case side1 => repeat (first | (with_reducible first | exact HI128.out | apply IsS84.alloc | apply IsS84.drewN | apply IsS84.drew | apply IsS84.set_0 | apply IsS84.set_1 | refine IsS84.far ?_ NB128_127.out _ | refine IsS84.far ?_ NB128_129.out _) | exact HI128.out)); (case side2 => repeat (first | (with_reducible first | exact HB.out | apply below_alloc | apply pw_below_drewN | apply below_drew1 | refine below_set ?_ (IsS84.ge HI128.out) | refine below_set ?_ GE127.out | refine below_set ?_ GE129.out) | exact HB.out)); rintro e w20 ⟨rfl, hi, hb, hk⟩; refine ⟨_, rfl, ?_⟩; have n0_ := Aside0.mk (KeepBut.blk hk (g' := gb127) (o := .cells #[.int .i64 0, .int .i64 0, .int .i64 0, .string (⟨#[]⟩ : ByteArray), .int .i64 0, .slice none 0 0] 29 (0, 0)) (by (with_reducible repeat (first | refine blk_drewN ?_ _ | refine blk_drew ?_ | refine blk_alloc ?_ _)); refine blk_far ?_ NB127_129.out _; (with_reducible repeat (first | refine blk_drewN ?_ _ | refine blk_drew ?_ | refine blk_alloc ?_ _)); exact BK127.out) NB127_128.out (by simp)); have n1_ := Aside0.mk (KeepBut.blk hk (g' := gb129) (o := .cells #[.int .i64 t130, .int .i64 t133, .int .i64 0, .string (⟨#[]⟩ : ByteArray), .int .i64 0, .slice none 0 0] 29 (0, 0)) (by (with_reducible repeat (first | refine blk_drewN ?_ _ | refine blk_drew ?_ | refine blk_alloc ?_ _)); refine blk_put (cs := #[.int .i64 t130, .int .i64 0, .int .i64 0, .string (⟨#[]⟩ : ByteArray), .int .i64 0, .slice none 0 0]) ?_ 1 _ rfl; (with_reducible repeat (first | refine blk_drewN ?_ _ | refine blk_drew ?_ | refine blk_alloc ?_ _)); exact BK129.out) NB129_128.out (by simp)); have n2_ := Aside0.mk (hb); have n3_ := Aside0.mk (hi); clear BK127; clear BK129; clear HB; clear HI128; have BK127 := n0_; have BK129 := n1_; have HB := n2_; have HI128 := n3_; clear n0_ n1_ n2_ n3_; (try clear hb); (try clear hb2); (try clear hk); (try clear hi); have hcz21_0 : w20.cell? ⟨gb129, 0, none⟩ = some (.int .i64 t130) := (blk_cell BK129.out 0).trans rfl; have hcz21_1 : w20.cell? ⟨gb129, 1, none⟩ = some (.int .i64 t133) := (blk_cell BK129.out 1).trans rfl; have hcz21_2 : w20.cell? ⟨gb129, 2, none⟩ = some (.int .i64 0) := (blk_cell BK129.out 2).trans rfl; have hcz21_3 : w20.cell? ⟨gb129, 3, none⟩ = some (.string (⟨#[]⟩ : ByteArray)) := (blk_cell BK129.out 3).trans rfl; have hcz21_4 : w20.cell? ⟨gb129, 4, none⟩ = some (.int .i64 0) := (blk_cell BK129.out 4).trans rfl; have hcz21_5 : w20.cell? ⟨gb129, 5, none⟩ = some (.slice none 0 0) := (blk_cell BK129.out 5).trans rfl; have hfz21_0 := blk_frozen BK129.out 0; have hfz21_1 := blk_frozen BK129.out 1; have hfz21_2 := blk_frozen BK129.out 2; have hfz21_3 := blk_frozen BK129.out 3; have hfz21_4 := blk_frozen BK129.out 4; have hfz21_5 := blk_frozen BK129.out 5) | ((with_reducible refine gate_callee (f := 28) rfl ?_); refine goesL_ (some 24) rfl rfl Try.func28 (by kernel_rfl) rfl #[.pointer (some ⟨gb128, 0, none⟩)] rfl (by (try simp only [List.map_toArray, List.map_cons, List.map_nil]); first | done | rfl | (simp only [List.length_drop, List.length_take]; rfl)) ?_; (with_reducible refine (record_reader_text.calls k gb128 t137 t138 t139 t140 t141 w _ ?side1 ?side2 A8.out).mono ?_); (case side1 => repeat (first | (with_reducible first | exact HI128.out | apply IsS84.alloc | apply IsS84.drewN | apply IsS84.drew | apply IsS84.set_0 | apply IsS84.set_1 | refine IsS84.far ?_ NB128_127.out _ | refine IsS84.far ?_ NB128_129.out _) | exact HI128.out)); (case side2 => repeat (first | (with_reducible first | exact HB.out | apply below_alloc | apply pw_below_drewN | apply below_drew1 | refine below_set ?_ (IsS84.ge HI128.out) | refine below_set ?_ GE127.out | refine below_set ?_ GE129.out) | exact HB.out)); rintro e w22 ⟨rfl, hi, hb, hk⟩; refine ⟨_, rfl, ?_⟩; have n0_ := Aside0.mk (KeepBut.blk hk (g' := gb127) (o := .cells #[.int .i64 0, .int .i64 0, .int .i64 0, .string (⟨#[]⟩ : ByteArray), .int .i64 0, .slice none 0 0] 29 (0, 0)) (by (with_reducible repeat (first | refine blk_drewN ?_ _ | refine blk_drew ?_ | refine blk_alloc ?_ _)); refine blk_far ?_ NB127_129.out _; (with_reducible repeat (first | refine blk_drewN ?_ _ | refine blk_drew ?_ | refine blk_alloc ?_ _)); exact BK127.out) NB127_128.out (by simp)); have n1_ := Aside0.mk (KeepBut.blk hk (g' := gb129) (o := .cells #[.int .i64 t130, .int .i64 t133, .int .i64 t136, .string (⟨#[]⟩ : ByteArray), .int .i64 0, .slice none 0 0] 29 (0, 0)) (by (with_reducible repeat (first | refine blk_drewN ?_ _ | refine blk_drew ?_ | refine blk_alloc ?_ _)); refine blk_put (cs := #[.int .i64 t130, .int .i64 t133, .int .i64 0, .string (⟨#[]⟩ : ByteArray), .int .i64 0, .slice none 0 0]) ?_ 2 _ rfl; (with_reducible repeat (first | refine blk_drewN ?_ _ | refine blk_drew ?_ | refine blk_alloc ?_ _)); exact BK129.out) NB129_128.out (by simp)); have n2_ := Aside0.mk (hb); have n3_ := Aside0.mk (hi); clear BK127; clear BK129; clear HB; clear HI128; have BK127 := n0_; have BK129 := n1_; have HB := n2_; have HI128 := n3_; clear n0_ n1_ n2_ n3_; (try clear hb); (try clear hb2); (try clear hk); (try clear hi); have hcz23_0 : w22.cell? ⟨gb129, 0, none⟩ = some (.int .i64 t130) := (blk_cell BK129.out 0).trans rfl; have hcz23_1 : w22.cell? ⟨gb129, 1, none⟩ = some (.int .i64 t133) := (blk_cell BK129.out 1).trans rfl; have hcz23_2 : w22.cell? ⟨gb129, 2, none⟩ = some (.int .i64 t136) := (blk_cell BK129.out 2).trans rfl; have hcz23_3 : w22.cell? ⟨gb129, 3, none⟩ = some (.string (⟨#[]⟩ : ByteArray)) := (blk_cell BK129.out 3).trans rfl; have hcz23_4 : w22.cell? ⟨gb129, 4, none⟩ = some (.int .i64 0) := (blk_cell BK129.out 4).trans rfl; have hcz23_5 : w22.cell? ⟨gb129, 5, none⟩ = some (.slice none 0 0) := (blk_cell BK129.out 5).trans rfl; have hfz23_0 := blk_frozen BK129.out 0; have hfz23_1 := blk_frozen BK129.out 1; have hfz23_2 := blk_frozen BK129.out 2; have hfz23_3 := blk_frozen BK129.out 3; have hfz23_4 := blk_frozen BK129.out 4; have hfz23_5 := blk_frozen BK129.out 5) | ((with_reducible refine gate_callee (f := 27) rfl ?_); refine goesL_ (some 27) rfl rfl Try.func27 (by kernel_rfl) rfl #[.pointer (some ⟨gb128, 0, none⟩), .int .i64 2] rfl (by (try simp only [List.map_toArray, List.map_cons, List.map_nil]); first | done | rfl | (simp only [List.length_drop, List.length_take]; rfl)) ?_; (with_reducible refine (record_reader_number.calls k gb128 t140 t141 2 t142 t143 t144 w _ ?side1 ?side2 A9.out).mono ?_); (case side1 => repeat (first | (with_reducible first | exact HI128.out | apply IsS84.alloc | apply IsS84.drewN | apply IsS84.drew | apply IsS84.set_0 | apply IsS84.set_1 | refine IsS84.far ?_ NB128_127.out _ | refine IsS84.far ?_ NB128_129.out _) | exact HI128.out)); (case side2 => repeat (first | (with_reducible first | exact HB.out | apply below_alloc | apply pw_below_drewN | apply below_drew1 | refine below_set ?_ (IsS84.ge HI128.out) | refine below_set ?_ GE127.out | refine below_set ?_ GE129.out) | exact HB.out)); rintro e w24 ⟨rfl, hi, hb, hk⟩; refine ⟨_, rfl, ?_⟩; have n0_ := Aside0.mk (KeepBut.blk hk (g' := gb127) (o := .cells #[.int .i64 0, .int .i64 0, .int .i64 0, .string (⟨#[]⟩ : ByteArray), .int .i64 0, .slice none 0 0] 29 (0, 0)) (by (with_reducible repeat (first | refine blk_drewN ?_ _ | refine blk_drew ?_ | refine blk_alloc ?_ _)); refine blk_far ?_ NB127_129.out _; (with_reducible repeat (first | refine blk_drewN ?_ _ | refine blk_drew ?_ | refine blk_alloc ?_ _)); exact BK127.out) NB127_128.out (by simp)); have n1_ := Aside0.mk (KeepBut.blk hk (g' := gb129) (o := .cells #[.int .i64 t130, .int .i64 t133, .int .i64 t136, .string t139, .int .i64 0, .slice none 0 0] 29 (0, 0)) (by (with_reducible repeat (first | refine blk_drewN ?_ _ | refine blk_drew ?_ | refine blk_alloc ?_ _)); refine blk_put (cs := #[.int .i64 t130, .int .i64 t133, .int .i64 t136, .string (⟨#[]⟩ : ByteArray), .int .i64 0, .slice none 0 0]) ?_ 3 _ rfl; (with_reducible repeat (first | refine blk_drewN ?_ _ | refine blk_drew ?_ | refine blk_alloc ?_ _)); exact BK129.out) NB129_128.out (by simp)); have n2_ := Aside0.mk (hb); have n3_ := Aside0.mk (hi); clear BK127; clear BK129; clear HB; clear HI128; have BK127 := n0_; have BK129 := n1_; have HB := n2_; have HI128 := n3_; clear n0_ n1_ n2_ n3_; (try clear hb); (try clear hb2); (try clear hk); (try clear hi); have hcz25_0 : w24.cell? ⟨gb129, 0, none⟩ = some (.int .i64 t130) := (blk_cell BK129.out 0).trans rfl; have hcz25_1 : w24.cell? ⟨gb129, 1, none⟩ = some (.int .i64 t133) := (blk_cell BK129.out 1).trans rfl; have hcz25_2 : w24.cell? ⟨gb129, 2, none⟩ = some (.int .i64 t136) := (blk_cell BK129.out 2).trans rfl; have hcz25_3 : w24.cell? ⟨gb129, 3, none⟩ = some (.string t139) := (blk_cell BK129.out 3).trans rfl; have hcz25_4 : w24.cell? ⟨gb129, 4, none⟩ = some (.int .i64 0) := (blk_cell BK129.out 4).trans rfl; have hcz25_5 : w24.cell? ⟨gb129, 5, none⟩ = some (.slice none 0 0) := (blk_cell BK129.out 5).trans rfl; have hfz25_0 := blk_frozen BK129.out 0; have hfz25_1 := blk_frozen BK129.out 1; have hfz25_2 := blk_frozen BK129.out 2; have hfz25_3 := blk_frozen BK129.out 3; have hfz25_4 := blk_frozen BK129.out 4; have hfz25_5 := blk_frozen BK129.out 5) | ((with_reducible refine gate_callee (f := 27) rfl ?_); refine goesL_ (some 30) rfl rfl Try.func27 (by kernel_rfl) rfl #[.pointer (some ⟨gb128, 0, none⟩), .int .i64 1] rfl (by (try simp only [List.map_toArray, List.map_cons, List.map_nil]); first | done | rfl | (simp only [List.length_drop, List.length_take]; rfl)) ?_; (with_reducible refine (record_reader_number.calls k gb128 t143 t144 1 t145 t146 t147 w _ ?side1 ?side2 A10.out).mono ?_); (case side1 => repeat (first | (with_reducible first | exact HI128.out | apply IsS84.alloc | apply IsS84.drewN | apply IsS84.drew | apply IsS84.set_0 | apply IsS84.set_1 | refine IsS84.far ?_ NB128_127.out _ | refine IsS84.far ?_ NB128_129.out _) | exact HI128.out)); (case side2 => repeat (first | (with_reducible first | exact HB.out | apply below_alloc | apply pw_below_drewN | apply below_drew1 | refine below_set ?_ (IsS84.ge HI128.out) | refine below_set ?_ GE127.out | refine below_set ?_ GE129.out) | exact HB.out)); rintro e w26 ⟨rfl, hi, hb, hk⟩; refine ⟨_, rfl, ?_⟩; have n0_ := Aside0.mk (KeepBut.blk hk (g' := gb127) (o := .cells #[.int .i64 0, .int .i64 0, .int .i64 0, .string (⟨#[]⟩ : ByteArray), .int .i64 0, .slice none 0 0] 29 (0, 0)) (by (with_reducible repeat (first | refine blk_drewN ?_ _ | refine blk_drew ?_ | refine blk_alloc ?_ _)); refine blk_far ?_ NB127_129.out _; (with_reducible repeat (first | refine blk_drewN ?_ _ | refine blk_drew ?_ | refine blk_alloc ?_ _)); exact BK127.out) NB127_128.out (by simp)); have n1_ := Aside0.mk (KeepBut.blk hk (g' := gb129) (o := .cells #[.int .i64 t130, .int .i64 t133, .int .i64 t136, .string t139, .int .i64 t142, .slice none 0 0] 29 (0, 0)) (by (with_reducible repeat (first | refine blk_drewN ?_ _ | refine blk_drew ?_ | refine blk_alloc ?_ _)); refine blk_put (cs := #[.int .i64 t130, .int .i64 t133, .int .i64 t136, .string t139, .int .i64 0, .slice none 0 0]) ?_ 4 _ rfl; (with_reducible repeat (first | refine blk_drewN ?_ _ | refine blk_drew ?_ | refine blk_alloc ?_ _)); exact BK129.out) NB129_128.out (by simp)); have n2_ := Aside0.mk (hb); have n3_ := Aside0.mk (hi); clear BK127; clear BK129; clear HB; clear HI128; have BK127 := n0_; have BK129 := n1_; have HB := n2_; have HI128 := n3_; clear n0_ n1_ n2_ n3_; (try clear hb); (try clear hb2); (try clear hk); (try clear hi)))
  go_loopg [31] k (fun kq v31 w' => ∃ (x31_1 : Int) (x129000_1 : ByteArray) (x129001_1 : Int) (x130005_1 : List (S60)) (u130005 : Value), v31 = .int .i64 x31_1 ∧ Aside0 (record_Get.l0 kq t145 x31_1 x129000_1 x129001_1 t130 t133 t136 t139 t142 x130005_1 = some (r1, r2, r3, r4, r5, r6, r7)) ∧ Aside0 (kq ≤ k) ∧ Aside0 (Kd.S k60 60 w' w.heap.size (fun _ => True) u130005 x130005_1) ∧ Aside0 (w'.heap[gb127]? = some (.cells #[.int .i64 0, .int .i64 0, .int .i64 0, .string (⟨#[]⟩ : ByteArray), .int .i64 0, (.slice none 0 0)] 29 (0, 0))) ∧ Aside0 (w'.heap[gb129]? = some (.cells #[.int .i64 t130, .int .i64 t133, .int .i64 t136, .string t139, .int .i64 t142, u130005] 29 (0, 0))) ∧ Aside0 (IsS84 w w' gb128 x129000_1 x129001_1) ∧ Aside0 (Below w.heap.size w w'))
  case atStart => exact ⟨(0), (t146), (t147), (([] : List (S60))), (.slice none 0 0), (by first | rfl | (simp; done) | (simp [*]; done)), H', ⟨Nat.le_refl _⟩, ⟨by first | exact Kd.S_nil _ _ _ _ _ | exact Kd.N_nil _ _ _ _ _ | exact Kd.V_nil _ _ _ _ _ | exact Kd.Q_nil _ _ _ _ _ | exact Kd.R_nil _ _ _ _ _⟩, ⟨by (with_reducible repeat (first | refine blk_drewN ?_ _ | refine blk_drew ?_ | refine blk_alloc ?_ _)); exact BK127.out⟩, ⟨by (with_reducible repeat (first | refine blk_drewN ?_ _ | refine blk_drew ?_ | refine blk_alloc ?_ _)); exact BK129.out⟩, ⟨by repeat (first | (with_reducible first | exact HI128.out | apply IsS84.alloc | apply IsS84.drewN | apply IsS84.drew | apply IsS84.set_0 | apply IsS84.set_1 | refine IsS84.far ?_ NB128_127.out _ | refine IsS84.far ?_ NB128_129.out _) | exact HI128.out)⟩, ⟨by repeat (first | (with_reducible first | exact HB.out | apply below_alloc | apply pw_below_drewN | apply below_drew1 | refine below_set ?_ (IsS84.ge HI128.out) | refine below_set ?_ GE127.out | refine below_set ?_ GE129.out) | exact HB.out)⟩⟩
  case round =>
   clear H'
   try clear c1
   try clear c2
   try clear c2b0
   try clear c2b1
   try clear p2
   try clear c11
   try clear c15
   try clear c16
   try clear hcz17_0
   try clear hcz17_1
   try clear hcz17_2
   try clear hcz17_3
   try clear hcz17_4
   try clear hcz17_5
   try clear hcz19_0
   try clear hcz19_1
   try clear hcz19_2
   try clear hcz19_3
   try clear hcz19_4
   try clear hcz19_5
   try clear hcz21_0
   try clear hcz21_1
   try clear hcz21_2
   try clear hcz21_3
   try clear hcz21_4
   try clear hcz21_5
   try clear hcz23_0
   try clear hcz23_1
   try clear hcz23_2
   try clear hcz23_3
   try clear hcz23_4
   try clear hcz23_5
   try clear hcz25_0
   try clear hcz25_1
   try clear hcz25_2
   try clear hcz25_3
   try clear hcz25_4
   try clear hcz25_5
   try clear hcz4_0
   try clear hcz4_1
   try clear hcz4_2
   try clear hcz4_3
   try clear hcz4_4
   try clear hcz4_5
   try clear hfz17_0
   try clear hfz17_1
   try clear hfz17_2
   try clear hfz17_3
   try clear hfz17_4
   try clear hfz17_5
   try clear hfz19_0
   try clear hfz19_1
   try clear hfz19_2
   try clear hfz19_3
   try clear hfz19_4
   try clear hfz19_5
   try clear hfz21_0
   try clear hfz21_1
   try clear hfz21_2
   try clear hfz21_3
   try clear hfz21_4
   try clear hfz21_5
   try clear hfz23_0
   try clear hfz23_1
   try clear hfz23_2
   try clear hfz23_3
   try clear hfz23_4
   try clear hfz23_5
   try clear hfz25_0
   try clear hfz25_1
   try clear hfz25_2
   try clear hfz25_3
   try clear hfz25_4
   try clear hfz25_5
   try clear hfz4_0
   try clear hfz4_1
   try clear hfz4_2
   try clear hfz4_3
   try clear hfz4_4
   try clear hfz4_5
   obtain ⟨x31_1, x129000_1, x129001_1, x130005_1, u130005, rfl, HA, HK1, HO_130005, BK127, BK129, HI128, HB⟩ := hrel
   cases gk with
   | zero => exact absurd HA.out (by simp [record_Get.l0])
   | succ k1 =>
    have H := HA.out
    clear HA
    simp only [record_Get.l0] at H
    by_cases c27 : x31_1 < t145
    ·rw [if_pos c27] at H
     have c27b0 : decide (x31_1 < t145) = true := decide_eq_true c27
     clear c27
     replace H := Option.bind_eq_some_iff.mp H
     obtain ⟨⟨t148, t149, t150⟩, A280, H⟩ := H
     replace H : ((record_reader_pieces.f k1 t149 t150).bind fun bt151 => (if x130005_1.length < 4398046511104 then (record_Get.l0 k1 t145 (wrap64 (x31_1 + 1)) bt151.2.1 bt151.2.2 t130 t133 t136 t139 t142 (x130005_1 ++ [(⟨t148, bt151.1⟩ : S60)])) else (none))) = some (r1, r2, r3, r4, r5, r6, r7) := H
     have A28 := Aside0.mk A280
     clear A280
     replace H := Option.bind_eq_some_iff.mp H
     obtain ⟨⟨t151, t154, t155⟩, A290, H⟩ := H
     replace H : (if x130005_1.length < 4398046511104 then (record_Get.l0 k1 t145 (wrap64 (x31_1 + 1)) t154 t155 t130 t133 t136 t139 t142 (x130005_1 ++ [(⟨t148, t151⟩ : S60)])) else (none)) = some (r1, r2, r3, r4, r5, r6, r7) := H
     have A29 := Aside0.mk A290
     clear A290
     by_cases c30 : x130005_1.length < 4398046511104
     ·rw [if_pos c30] at H
      have LMc30 := Aside0.mk c30
      clear c30
      obtain ⟨y156, hy156⟩ : ∃ y_ : List (S60), y_ = (x130005_1 ++ [(⟨t148, t151⟩ : S60)]) := ⟨_, rfl⟩
      replace H : (record_Get.l0 k1 t145 (wrap64 (x31_1 + 1)) t154 t155 t130 t133 t136 t139 t142 y156) = some (r1, r2, r3, r4, r5, r6, r7) := by first | (rw [hy156]; with_reducible exact H) | (have H2_ := (Option.bind_some _ _).symm.trans H; rw [hy156]; with_reducible exact H2_) | (have H2_ := (Option.bind_some _ _).symm.trans H; with_reducible exact H2_) | with_reducible exact H | (rw [hy156]; exact H) | exact H
      have Ny156 := Aside0.mk hy156
      clear hy156
      have H' := Aside0.mk H
      clear H
      try go_wp2_with (first | ((with_reducible refine gate_callee (f := 27) rfl ?_); refine goesL_ (some 34) rfl rfl Try.func27 (by kernel_rfl) rfl #[.pointer (some ⟨gb128, 0, none⟩), .int .i64 2] rfl (by (try simp only [List.map_toArray, List.map_cons, List.map_nil]); first | done | rfl | (simp only [List.length_drop, List.length_take]; rfl)) ?_; (with_reducible refine (record_reader_number.calls k1 gb128 x129000_1 x129001_1 2 t148 t149 t150 w _ ?side1 ?side2 A28.out).mono ?_); (case side1 => repeat (first | (with_reducible first | exact HI128.out | apply IsS84.alloc | apply IsS84.drewN | apply IsS84.drew | apply IsS84.set_0 | apply IsS84.set_1 | refine IsS84.far ?_ NB128_127.out _ | refine IsS84.far ?_ NB128_129.out _) | exact HI128.out)); (case side2 => repeat (first | (with_reducible first | exact HB.out | apply below_alloc | apply pw_below_drewN | apply below_drew1 | refine below_set ?_ (IsS84.ge HI128.out) | refine below_set ?_ GE127.out | refine below_set ?_ GE129.out) | exact HB.out)); rintro e w31 ⟨rfl, hi, hb, hk⟩; refine ⟨_, rfl, ?_⟩; have n0_ := Aside0.mk (Kd.S_mono (Kd.S_keep (IsS84.apartS (show IsS84 w _ gb128 x129000_1 x129001_1 from by repeat (first | (with_reducible first | exact HI128.out | apply IsS84.alloc | apply IsS84.drewN | apply IsS84.drew | apply IsS84.set_0 | apply IsS84.set_1 | refine IsS84.far ?_ NB128_127.out _ | refine IsS84.far ?_ NB128_129.out _) | exact HI128.out)) (by (with_reducible repeat (first | apply Kd.S_alloc | apply Kd.S_drewN | apply Kd.S_drew)); exact HO_130005.out) (by decide)) hk (fun _ h => h.2)) (fun _ h => h.1)); have n1_ := Aside0.mk (KeepBut.blk hk (g' := gb127) (o := .cells #[.int .i64 0, .int .i64 0, .int .i64 0, .string (⟨#[]⟩ : ByteArray), .int .i64 0, .slice none 0 0] 29 (0, 0)) (by (with_reducible repeat (first | refine blk_drewN ?_ _ | refine blk_drew ?_ | refine blk_alloc ?_ _)); exact BK127.out) NB127_128.out (by simp)); have n2_ := Aside0.mk (KeepBut.blk hk (g' := gb129) (o := .cells #[.int .i64 t130, .int .i64 t133, .int .i64 t136, .string t139, .int .i64 t142, u130005] 29 (0, 0)) (by (with_reducible repeat (first | refine blk_drewN ?_ _ | refine blk_drew ?_ | refine blk_alloc ?_ _)); exact BK129.out) NB129_128.out (by simp)); have n3_ := Aside0.mk (hb); have n4_ := Aside0.mk (hi); clear HO_130005; clear BK127; clear BK129; clear HB; clear HI128; have HO_130005 := n0_; have BK127 := n1_; have BK129 := n2_; have HB := n3_; have HI128 := n4_; clear n0_ n1_ n2_ n3_ n4_; (try clear hb); (try clear hb2); (try clear hk); (try clear hi)))
      have n0_ := Aside0.mk (Kd.S_drew HO_130005.out)
      have n1_ := Aside0.mk (blk_drew BK127.out)
      have n2_ := Aside0.mk (blk_drew BK129.out)
      have n3_ := Aside0.mk (IsS84.drew HI128.out)
      have n4_ := Aside0.mk (below_drew1 HB.out)
      clear HO_130005
      clear BK127
      clear BK129
      clear HI128
      clear HB
      have HO_130005 := n0_
      have BK127 := n1_
      have BK129 := n2_
      have HI128 := n3_
      have HB := n4_
      clear n0_ n1_ n2_ n3_ n4_
      refine start_ (n := 10) (S := fun w' => w'.cell? ⟨gb129, 0, none⟩ = some (.int .i64 t130) ∧ w'.cell? ⟨gb129, 1, none⟩ = some (.int .i64 t133) ∧ w'.cell? ⟨gb129, 2, none⟩ = some (.int .i64 t136) ∧ w'.cell? ⟨gb129, 3, none⟩ = some (.string t139) ∧ w'.cell? ⟨gb129, 4, none⟩ = some (.int .i64 t142) ∧ w'.cell? ⟨gb129, 5, none⟩ = some (u130005)) (ds := [9]) #[false, false, false, false, false, false, false, false, false, false] (by kernel_rfl) rfl rfl ⟨(blk_cell BK129.out 0).trans rfl, (blk_cell BK129.out 1).trans rfl, (blk_cell BK129.out 2).trans rfl, (blk_cell BK129.out 3).trans rfl, (blk_cell BK129.out 4).trans rfl, (blk_cell BK129.out 5).trans rfl⟩ (fun hHeld => ?_); refine with_tabW record_Get.tab13 record_Get.bits13 (fun HT_ HW_ => ?_)
      generalize w31.drew = w32 at HO_130005 BK127 BK129 HI128 HB hHeld ⊢
      refine pure_ (i := 0) (N := some 35) (v := ?_) (a' := ?_) #[true, false, false, false, false, false, false, false, false, false] rfl rfl (any_of HT_.out (by kernel_rfl)) (fun _ _ _ h => h) (Or.inl ⟨by rfl, ?_⟩) ?_ ?_
      rotate_left
      ·intro w'
       go_simp
       with_reducible rfl
      rotate_left
      ·simp only [Act.put, List.setIfInBounds_toArray, List.set_cons_zero, List.set_cons_succ, i64_w, i32_w]
       rfl
      refine pure_ (i := 2) (N := some 37) (v := ?_) (a' := ?_) #[true, false, true, false, false, false, false, false, false, false] rfl rfl (any_of HT_.out (by kernel_rfl)) (fun _ _ _ h => h) (Or.inl ⟨by rfl, ?_⟩) ?_ ?_
      rotate_left
      ·intro w'
       go_simp
       with_reducible rfl
      rotate_left
      ·simp only [Act.put, List.setIfInBounds_toArray, List.set_cons_zero, List.set_cons_succ, i64_w, i32_w]
       rfl
      refine pure_ (i := 3) (N := some 38) (v := ?_) (a' := ?_) #[true, false, true, true, false, false, false, false, false, false] rfl rfl (any_of HT_.out (by kernel_rfl)) (fun _ _ _ h => h) (Or.inl ⟨by rfl, ?_⟩) ?_ ?_
      rotate_left
      ·intro w'
       go_simp
       with_reducible rfl
      rotate_left
      ·simp only [Act.put, List.setIfInBounds_toArray, List.set_cons_zero, List.set_cons_succ, i64_w, i32_w]
       rfl
      refine take_ (i := 1) (N := some 36) (v := ?_) (a' := ?_) #[true, true, true, true, false, false, false, false, false, false] rfl rfl (take_ofW HT_.out HW_.out (by kernel_rfl)) (fun _ _ _ h => h) (Or.inl ⟨by rfl, ?_⟩) hHeld ?_ ?_
      rotate_left
      ·rintro w' ⟨s0, s1, s2, s3, s4, s5⟩
       go_simp
       with_reducible rfl
      rotate_left
      ·simp only [Act.put, List.setIfInBounds_toArray, List.set_cons_zero, List.set_cons_succ, i64_w, i32_w]
       rfl
      refine one_ (i := 4) (N := some 39) #[true, true, true, true, true, false, false, false, false, false] rfl rfl (one_of HT_.out (by kernel_rfl)) (by decide) (fun K hK => ?_)
      refine goes_ Try.func29 (by kernel_rfl) rfl #[.pointer (some ⟨gb128, 0, none⟩)] (by rfl) rfl rfl (by (try simp only [List.map_toArray, List.map_cons, List.map_nil]); first | done | rfl | (simp only [List.length_drop, List.length_take]; rfl)) ?_
      with_reducible refine (record_reader_pieces.calls k1 gb128 t149 t150 t151 t154 t155 w _ ?side1 ?side2 A29.out).mono ?_
      (case side1 => repeat (first | (with_reducible first | exact HI128.out | apply IsS84.alloc | apply IsS84.drewN | apply IsS84.drew | apply IsS84.set_0 | apply IsS84.set_1 | refine IsS84.far ?_ NB128_127.out _ | refine IsS84.far ?_ NB128_129.out _) | exact HI128.out))
      (case side2 => repeat (first | (with_reducible first | exact HB.out | apply below_alloc | apply pw_below_drewN | apply below_drew1 | refine below_set ?_ (IsS84.ge HI128.out) | refine below_set ?_ GE127.out | refine below_set ?_ GE129.out) | exact HB.out))
      rintro e w33 ⟨v152, rfl, ho0, hi, hb, hk⟩
      refine ⟨_, rfl, ?_⟩
      have n0_ := Aside0.mk (Kd.S_mono (Kd.S_told (Kd.S_oldK (IsS84.apartS (show IsS84 w _ gb128 t149 t150 from by repeat (first | (with_reducible first | exact HI128.out | apply IsS84.alloc | apply IsS84.drewN | apply IsS84.drew | apply IsS84.set_0 | apply IsS84.set_1 | refine IsS84.far ?_ NB128_127.out _ | refine IsS84.far ?_ NB128_129.out _) | exact HI128.out)) (by (with_reducible repeat (first | apply Kd.S_alloc | apply Kd.S_drewN | apply Kd.S_drew)); exact HO_130005.out) (by decide)) hk) (Kd.R_base ho0)) (fun _ h_ => h_.1))
      have n1_ := Aside0.mk (KeepBut.blk hk (g' := gb127) (o := .cells #[.int .i64 0, .int .i64 0, .int .i64 0, .string (⟨#[]⟩ : ByteArray), .int .i64 0, .slice none 0 0] 29 (0, 0)) (by (with_reducible repeat (first | refine blk_drewN ?_ _ | refine blk_drew ?_ | refine blk_alloc ?_ _)); exact BK127.out) NB127_128.out (by simp))
      have n2_ := Aside0.mk (KeepBut.blk hk (g' := gb129) (o := .cells #[.int .i64 t130, .int .i64 t133, .int .i64 t136, .string t139, .int .i64 t142, u130005] 29 (0, 0)) (by (with_reducible repeat (first | refine blk_drewN ?_ _ | refine blk_drew ?_ | refine blk_alloc ?_ _)); exact BK129.out) NB129_128.out (by simp))
      have n3_ := Aside0.mk (Kd.R_lower ho0 (below_size (by repeat (first | (with_reducible first | exact HB.out | apply below_alloc | apply pw_below_drewN | apply below_drew1 | refine below_set ?_ (IsS84.ge HI128.out) | refine below_set ?_ GE127.out | refine below_set ?_ GE129.out) | exact HB.out))))
      have n4_ := Aside0.mk (hb)
      have n5_ := Aside0.mk (hi)
      clear HO_130005
      clear BK127
      clear BK129
      clear HB
      clear HI128
      have HO_130005 := n0_
      have BK127 := n1_
      have BK129 := n2_
      have HO153 := n3_
      have HB := n4_
      have HI128 := n5_
      clear n0_ n1_ n2_ n3_ n4_ n5_
      (try clear hb)
      (try clear hb2)
      (try clear hk)
      (try clear hi)
      (try clear ho0)
      obtain ⟨Ao34, co34, eo34⟩ := Kd.R_slice HO153.out
      (first | subst eo34 | (injection eo34 with f1_ f2_ f3_; have f4_ := f1_.symm; have f5_ := f3_.symm; clear f1_ f2_ f3_; subst f4_; subst f5_))
      refine hK.out _ _ ⟨(blk_cell BK129.out 0).trans rfl, (blk_cell BK129.out 1).trans rfl, (blk_cell BK129.out 2).trans rfl, (blk_cell BK129.out 3).trans rfl, (blk_cell BK129.out 4).trans rfl, (blk_cell BK129.out 5).trans rfl⟩ (fun hHeld => ?_)
      clear hK K
      refine norm_ (a' := ?_) ?_ ?_
      rotate_left
      ·show Act.put _ (some 39) _ = _
       simp only [Act.put, List.setIfInBounds_toArray, List.set_cons_zero, List.set_cons_succ, i64_w, i32_w]
       rfl
      refine pure_ (i := 5) (N := some 40) (v := ?_) (a' := ?_) #[true, true, true, true, true, true, false, false, false, false] rfl rfl (any_of HT_.out (by kernel_rfl)) (fun _ _ _ h => h) (Or.inl ⟨by rfl, ?_⟩) ?_ ?_
      rotate_left
      ·intro w'
       go_simp
       with_reducible rfl
      rotate_left
      ·simp only [Act.put, List.setIfInBounds_toArray, List.set_cons_zero, List.set_cons_succ, i64_w, i32_w]
       rfl
      refine one_ (i := 6) (N := some 41) #[true, true, true, true, true, true, true, false, false, false] rfl rfl (one_of HT_.out (by kernel_rfl)) (by decide) (fun K hK => ?_)
      refine value_ (w1 := ?_) (v := ?_) (by rfl) rfl ?_ ?_
      rotate_left 2
      ·go_simp
       constructor
       ·rfl
       ·rfl
      refine hK.out _ _ ⟨(blk_cell (blk_alloc BK129.out _) 0).trans rfl, (blk_cell (blk_alloc BK129.out _) 1).trans rfl, (blk_cell (blk_alloc BK129.out _) 2).trans rfl, (blk_cell (blk_alloc BK129.out _) 3).trans rfl, (blk_cell (blk_alloc BK129.out _) 4).trans rfl, (blk_cell (blk_alloc BK129.out _) 5).trans rfl⟩ (fun hHeld => ?_)
      clear hK K
      refine norm_ (a' := ?_) ?_ ?_
      rotate_left
      ·show Act.put _ (some 41) _ = _
       simp only [Act.put, List.setIfInBounds_toArray, List.set_cons_zero, List.set_cons_succ, i64_w, i32_w]
       rfl
      refine one_ (i := 7) (N := some 42) #[true, true, true, true, true, true, true, true, false, false] rfl rfl (one_of HT_.out (by kernel_rfl)) (by decide) (fun K hK => ?_)
      refine Kd.S_append_step k60 (w0 := w) w.heap.size (by rfl) (.tmp 36) (.tmp 41) 27 60 (.agg #[(.int .i64 0), (.slice none 0 0)]) 32 rfl Try.underlying27 info60 rfl (by decide) (by omega) u130005 x130005_1 (⟨t148, t151⟩ : S60) [.int .i64 t148, .slice Ao34 t151.length co34] (fun _ => True) (fun k_ => some k_ = (.slice Ao34 t151.length co34 : Value).ownBlock) rfl rfl ?aP (fun k_ hk_ => ((Kd.R_mono (ok' := fun k_ => ((fun _ => True)) k_ ∧ some k_ ≠ (u130005 : Value).ownBlock) (Kd.R_apart' (HO153.out) (Kd.S_typed HO_130005.out) (by decide)) (fun k_ hk => ⟨trivial, hk.2⟩))).1 k_ hk_.symm) ?aF ?aO ?aB ?aS ?aL ?_
      (case aP => exact k60_mkM _ _ _ (⟨t148, t151⟩ : S60) (Kd.R_mono (Kd.R_tight rfl (Kd.R_mono (ok' := fun k_ => ((fun _ => True)) k_ ∧ some k_ ≠ (u130005 : Value).ownBlock) (Kd.R_apart' (HO153.out) (Kd.S_typed HO_130005.out) (by decide)) (fun k_ hk => ⟨trivial, hk.2⟩))) (fun _ h_ => h_)))
      (case aB => exact (by repeat (first | (with_reducible first | exact HB.out | apply below_alloc | apply pw_below_drewN | apply below_drew1 | refine below_set ?_ (IsS84.ge HI128.out) | refine below_set ?_ GE127.out | refine below_set ?_ GE129.out) | exact HB.out)))
      (case aF => exact (fun _ _ => trivial))
      (case aO => exact (by (with_reducible repeat (first | apply Kd.S_alloc | apply Kd.S_drewN | apply Kd.S_drew)); exact Kd.S_mono HO_130005.out (fun k_ hk => ⟨trivial, fun e_ => hk.2 e_⟩)))
      (case aS => exact (below_size (by repeat (first | (with_reducible first | exact HB.out | apply below_alloc | apply pw_below_drewN | apply below_drew1 | refine below_set ?_ (IsS84.ge HI128.out) | refine below_set ?_ GE127.out | refine below_set ?_ GE129.out) | exact HB.out))))
      (case aL => have := LMc30.out; omega)
      intro v157 w35 ho hb hg hat
      rw [← Ny156.out] at ho
      have n0_ := Aside0.mk (blk_grown (g := gb127) (o := .cells #[.int .i64 0, .int .i64 0, .int .i64 0, .string (⟨#[]⟩ : ByteArray), .int .i64 0, .slice none 0 0] 29 (0, 0)) (by (with_reducible repeat (first | refine blk_drewN ?_ _ | refine blk_drew ?_ | refine blk_alloc ?_ _)); exact BK127.out) hg (Kd.S_ne HO_130005.out BK127.out (by decide)))
      have n1_ := Aside0.mk (blk_grown (g := gb129) (o := .cells #[.int .i64 t130, .int .i64 t133, .int .i64 t136, .string t139, .int .i64 t142, u130005] 29 (0, 0)) (by (with_reducible repeat (first | refine blk_drewN ?_ _ | refine blk_drew ?_ | refine blk_alloc ?_ _)); exact BK129.out) hg (Kd.S_ne HO_130005.out BK129.out (by decide)))
      have n2_ := Aside0.mk (IsS84.grown (by repeat (first | (with_reducible first | exact HI128.out | apply IsS84.alloc | apply IsS84.drewN | apply IsS84.drew | apply IsS84.set_0 | apply IsS84.set_1 | refine IsS84.far ?_ NB128_127.out _ | refine IsS84.far ?_ NB128_129.out _) | exact HI128.out)) hg (IsS84.own_neS HI128.out HO_130005.out (by decide)))
      have n3_ := Aside0.mk (hb)
      have n4_ := Aside0.mk (ho)
      clear BK127
      clear BK129
      clear HI128
      clear HB
      clear HO_130005
      clear HO153
      have BK127 := n0_
      have BK129 := n1_
      have HI128 := n2_
      have HB := n3_
      have HO158 := n4_
      clear n0_ n1_ n2_ n3_ n4_
      clear ho hb hg hat
      obtain ⟨Ao36, co36, eo36⟩ := Kd.S_slice HO158.out
      (first | subst eo36 | (injection eo36 with f1_ f2_ f3_; have f4_ := f1_.symm; have f5_ := f3_.symm; clear f1_ f2_ f3_; subst f4_; subst f5_))
      refine hK.out _ _ ⟨(blk_cell BK129.out 0).trans rfl, (blk_cell BK129.out 1).trans rfl, (blk_cell BK129.out 2).trans rfl, (blk_cell BK129.out 3).trans rfl, (blk_cell BK129.out 4).trans rfl, (blk_cell BK129.out 5).trans rfl⟩ (fun hHeld => ?_)
      clear hK K
      refine norm_ (a' := ?_) ?_ ?_
      rotate_left
      ·show Act.put _ (some 42) _ = _
       simp only [Act.put, List.setIfInBounds_toArray, List.set_cons_zero, List.set_cons_succ, i64_w, i32_w]
       rfl
      refine pure_ (i := 8) (N := some 43) (v := ?_) (a' := ?_) #[true, true, true, true, true, true, true, true, true, false] rfl rfl (any_of HT_.out (by kernel_rfl)) (fun _ _ _ h => h) (Or.inl ⟨by rfl, ?_⟩) ?_ ?_
      rotate_left
      ·intro w'
       go_simp
       with_reducible rfl
      rotate_left
      ·simp only [Act.put, List.setIfInBounds_toArray, List.set_cons_zero, List.set_cons_succ, i64_w, i32_w]
       rfl
      refine last_ (i := 9) (N := none) #[true, true, true, true, true, true, true, true, true, true] rfl rfl (one_of HT_.out (by kernel_rfl)) (by decide) (fun K hK => ?_)
      have hs37 : w35.cell? ⟨gb129, 5, none⟩ = some (u130005) := (blk_cell BK129.out 5).trans rfl
      have hfs37 := blk_frozen BK129.out 5
      have hns37_0 := NB127_129.out
      have hms37_0 := NB129_127.out
      refine skip_ (w1 := ?_) (by rfl) rfl ?_ ?_
      rotate_left
      ·go_simp
       rfl
      refine hK.out _ _ ?_
      clear hK K
      refine done_ (done_of HT_.out (by kernel_rfl)) ?_
      try go_wp2
      go_roundg k1
      case measure => have := HK1.out; omega
      case rel => exact ⟨(wrap64 (x31_1 + 1)), (t154), (t155), (y156), (.slice Ao36 y156.length co36), (by first | rfl | (simp; done) | (simp [*]; done)), H', ⟨by have := HK1.out; omega⟩, ⟨by (with_reducible repeat (first | apply Kd.S_alloc | apply Kd.S_drewN | apply Kd.S_drew)); exact Kd.S_mono (Kd.S_far (p := ⟨gb129, 5, none⟩) (Kd.S_types HO158.out BK129.out (by decide)) (fun _ hk => hk.2) (.slice Ao36 y156.length co36)) (fun _ hk => trivial)⟩, ⟨by (with_reducible repeat (first | refine blk_drewN ?_ _ | refine blk_drew ?_ | refine blk_alloc ?_ _)); refine blk_far ?_ NB127_129.out _; (with_reducible repeat (first | refine blk_drewN ?_ _ | refine blk_drew ?_ | refine blk_alloc ?_ _)); exact BK127.out⟩, ⟨by (with_reducible repeat (first | refine blk_drewN ?_ _ | refine blk_drew ?_ | refine blk_alloc ?_ _)); refine blk_put (cs := #[.int .i64 t130, .int .i64 t133, .int .i64 t136, .string t139, .int .i64 t142, u130005]) ?_ 5 _ rfl; (with_reducible repeat (first | refine blk_drewN ?_ _ | refine blk_drew ?_ | refine blk_alloc ?_ _)); exact BK129.out⟩, ⟨by repeat (first | (with_reducible first | exact HI128.out | apply IsS84.alloc | apply IsS84.drewN | apply IsS84.drew | apply IsS84.set_0 | apply IsS84.set_1 | refine IsS84.far ?_ NB128_127.out _ | refine IsS84.far ?_ NB128_129.out _) | exact HI128.out)⟩, ⟨by repeat (first | (with_reducible first | exact HB.out | apply below_alloc | apply pw_below_drewN | apply below_drew1 | refine below_set ?_ (IsS84.ge HI128.out) | refine below_set ?_ GE127.out | refine below_set ?_ GE129.out) | exact HB.out)⟩⟩
     ·rw [if_neg c30] at H
      exact absurd H (by simp)
    ·rw [if_neg c27] at H
     have c27b0 : decide (x31_1 < t145) = false := decide_eq_false c27
     clear c27
     by_cases c38 : x129001_1 = 0
     ·rw [if_pos c38] at H
      have c38b0 : (x129001_1 == 0) = true := beq_iff_eq.mpr c38
      have c38b1 : (x129001_1 != 0) = false := bne_eq_false_iff_eq.mpr c38
      clear c38
      by_cases c39 : x129000_1.toList = ([] : List UInt8)
      ·rw [if_pos c39] at H
       have c39b0 : (x129000_1.toList == ([] : List UInt8)) = true := beq_iff_eq.mpr c39
       have c39b1 : (x129000_1.toList != ([] : List UInt8)) = false := bne_eq_false_iff_eq.mpr c39
       clear c39
       by_cases c40 : t136 < 1
       ·rw [if_pos c40] at H
        have c40b0 : decide (t136 < 1) = true := decide_eq_true c40
        clear c40
        simp only [Option.some.injEq, Prod.mk.injEq] at H
        obtain ⟨rfl, rfl, rfl, rfl, rfl, rfl, rfl⟩ := H
        obtain ⟨HGz41, hgz41⟩ := HI128.out
        have hcz41_0 := cellS84_0 HGz41
        have hcz41_1 := cellS84_1 HGz41
        have hfz41_0 := blk_frozen HGz41 0
        have hfz41_1 := blk_frozen HGz41 1
        clear HGz41 hgz41
        have hnb42 := NB129_127.out
        have hnc42 := NB127_129.out
        have hnb43 := NB129_128.out
        have hnc43 := NB128_129.out
        have hcz44_0 : wr.cell? ⟨gb129, 0, none⟩ = some (.int .i64 t130) := (blk_cell BK129.out 0).trans rfl
        have hcz44_1 : wr.cell? ⟨gb129, 1, none⟩ = some (.int .i64 t133) := (blk_cell BK129.out 1).trans rfl
        have hcz44_2 : wr.cell? ⟨gb129, 2, none⟩ = some (.int .i64 t136) := (blk_cell BK129.out 2).trans rfl
        have hcz44_3 : wr.cell? ⟨gb129, 3, none⟩ = some (.string t139) := (blk_cell BK129.out 3).trans rfl
        have hcz44_4 : wr.cell? ⟨gb129, 4, none⟩ = some (.int .i64 t142) := (blk_cell BK129.out 4).trans rfl
        have hcz44_5 : wr.cell? ⟨gb129, 5, none⟩ = some (u130005) := (blk_cell BK129.out 5).trans rfl
        have hfz44_0 := blk_frozen BK129.out 0
        have hfz44_1 := blk_frozen BK129.out 1
        have hfz44_2 := blk_frozen BK129.out 2
        have hfz44_3 := blk_frozen BK129.out 3
        have hfz44_4 := blk_frozen BK129.out 4
        have hfz44_5 := blk_frozen BK129.out 5
        have hnb45 := NB127_128.out
        have hnc45 := NB128_127.out
        have hcz46_0 : wr.cell? ⟨gb127, 0, none⟩ = some (.int .i64 0) := (blk_cell BK127.out 0).trans rfl
        have hcz46_1 : wr.cell? ⟨gb127, 1, none⟩ = some (.int .i64 0) := (blk_cell BK127.out 1).trans rfl
        have hcz46_2 : wr.cell? ⟨gb127, 2, none⟩ = some (.int .i64 0) := (blk_cell BK127.out 2).trans rfl
        have hcz46_3 : wr.cell? ⟨gb127, 3, none⟩ = some (.string (⟨#[]⟩ : ByteArray)) := (blk_cell BK127.out 3).trans rfl
        have hcz46_4 : wr.cell? ⟨gb127, 4, none⟩ = some (.int .i64 0) := (blk_cell BK127.out 4).trans rfl
        have hcz46_5 : wr.cell? ⟨gb127, 5, none⟩ = some (.slice none 0 0) := (blk_cell BK127.out 5).trans rfl
        have hfz46_0 := blk_frozen BK127.out 0
        have hfz46_1 := blk_frozen BK127.out 1
        have hfz46_2 := blk_frozen BK127.out 2
        have hfz46_3 := blk_frozen BK127.out 3
        have hfz46_4 := blk_frozen BK127.out 4
        have hfz46_5 := blk_frozen BK127.out 5
        go_wp2
        refine bodyPost_ret (results_ct rfl _ _ gb127 29 #[.int .i64 0, .int .i64 0, .int .i64 0, .string (⟨#[]⟩ : ByteArray), .int .i64 0, .slice none 0 0] (0, 0) _ rfl (by (with_reducible repeat (first | refine blk_drewN ?_ _ | refine blk_drew ?_ | refine blk_alloc ?_ _)); refine blk_put (cs := #[.int .i64 0, .int .i64 0, .int .i64 0, .string (⟨#[]⟩ : ByteArray), .int .i64 0, .slice none 0 0]) ?_ 5 _ rfl; (with_reducible repeat (first | refine blk_drewN ?_ _ | refine blk_drew ?_ | refine blk_alloc ?_ _)); refine blk_put (cs := #[.int .i64 0, .int .i64 0, .int .i64 0, .string (⟨#[]⟩ : ByteArray), .int .i64 0, .slice none 0 0]) ?_ 4 _ rfl; (with_reducible repeat (first | refine blk_drewN ?_ _ | refine blk_drew ?_ | refine blk_alloc ?_ _)); refine blk_put (cs := #[.int .i64 0, .int .i64 0, .int .i64 0, .string (⟨#[]⟩ : ByteArray), .int .i64 0, .slice none 0 0]) ?_ 3 _ rfl; (with_reducible repeat (first | refine blk_drewN ?_ _ | refine blk_drew ?_ | refine blk_alloc ?_ _)); refine blk_put (cs := #[.int .i64 0, .int .i64 0, .int .i64 0, .string (⟨#[]⟩ : ByteArray), .int .i64 0, .slice none 0 0]) ?_ 2 _ rfl; (with_reducible repeat (first | refine blk_drewN ?_ _ | refine blk_drew ?_ | refine blk_alloc ?_ _)); refine blk_put (cs := #[.int .i64 0, .int .i64 0, .int .i64 0, .string (⟨#[]⟩ : ByteArray), .int .i64 0, .slice none 0 0]) ?_ 1 _ rfl; (with_reducible repeat (first | refine blk_drewN ?_ _ | refine blk_drew ?_ | refine blk_alloc ?_ _)); refine blk_put (cs := #[.int .i64 0, .int .i64 0, .int .i64 0, .string (⟨#[]⟩ : ByteArray), .int .i64 0, .slice none 0 0]) ?_ 0 _ rfl; (with_reducible repeat (first | refine blk_drewN ?_ _ | refine blk_drew ?_ | refine blk_alloc ?_ _)); exact BK127.out) Try.underlying29 rfl (by kernel_rfl)) rfl ?_
        exact ⟨_, by first | rfl | (simp [errW_none, errW_some] <;> rfl) | (simp [*, errW_none, errW_some] <;> rfl), by first | exact Kd.S_nil _ _ _ _ _ | exact Kd.N_nil _ _ _ _ _ | exact Kd.V_nil _ _ _ _ _ | exact Kd.Q_nil _ _ _ _ _ | exact Kd.R_nil _ _ _ _ _, by repeat (first | (with_reducible first | exact HB.out | apply below_alloc | apply pw_below_drewN | apply below_drew1 | refine below_set ?_ (IsS84.ge HI128.out) | refine below_set ?_ GE127.out | refine below_set ?_ GE129.out) | exact HB.out)⟩
       ·rw [if_neg c40] at H
        have c40b0 : decide (t136 < 1) = false := decide_eq_false c40
        clear c40
        by_cases c47 : t136 > 4
        ·rw [if_pos c47] at H
         have c47b0 : decide (4 < t136) = true := decide_eq_true c47
         clear c47
         simp only [Option.some.injEq, Prod.mk.injEq] at H
         obtain ⟨rfl, rfl, rfl, rfl, rfl, rfl, rfl⟩ := H
         obtain ⟨HGz48, hgz48⟩ := HI128.out
         have hcz48_0 := cellS84_0 HGz48
         have hcz48_1 := cellS84_1 HGz48
         have hfz48_0 := blk_frozen HGz48 0
         have hfz48_1 := blk_frozen HGz48 1
         clear HGz48 hgz48
         have hnb49 := NB129_127.out
         have hnc49 := NB127_129.out
         have hnb50 := NB129_128.out
         have hnc50 := NB128_129.out
         have hcz51_0 : wr.cell? ⟨gb129, 0, none⟩ = some (.int .i64 t130) := (blk_cell BK129.out 0).trans rfl
         have hcz51_1 : wr.cell? ⟨gb129, 1, none⟩ = some (.int .i64 t133) := (blk_cell BK129.out 1).trans rfl
         have hcz51_2 : wr.cell? ⟨gb129, 2, none⟩ = some (.int .i64 t136) := (blk_cell BK129.out 2).trans rfl
         have hcz51_3 : wr.cell? ⟨gb129, 3, none⟩ = some (.string t139) := (blk_cell BK129.out 3).trans rfl
         have hcz51_4 : wr.cell? ⟨gb129, 4, none⟩ = some (.int .i64 t142) := (blk_cell BK129.out 4).trans rfl
         have hcz51_5 : wr.cell? ⟨gb129, 5, none⟩ = some (u130005) := (blk_cell BK129.out 5).trans rfl
         have hfz51_0 := blk_frozen BK129.out 0
         have hfz51_1 := blk_frozen BK129.out 1
         have hfz51_2 := blk_frozen BK129.out 2
         have hfz51_3 := blk_frozen BK129.out 3
         have hfz51_4 := blk_frozen BK129.out 4
         have hfz51_5 := blk_frozen BK129.out 5
         have hnb52 := NB127_128.out
         have hnc52 := NB128_127.out
         have hcz53_0 : wr.cell? ⟨gb127, 0, none⟩ = some (.int .i64 0) := (blk_cell BK127.out 0).trans rfl
         have hcz53_1 : wr.cell? ⟨gb127, 1, none⟩ = some (.int .i64 0) := (blk_cell BK127.out 1).trans rfl
         have hcz53_2 : wr.cell? ⟨gb127, 2, none⟩ = some (.int .i64 0) := (blk_cell BK127.out 2).trans rfl
         have hcz53_3 : wr.cell? ⟨gb127, 3, none⟩ = some (.string (⟨#[]⟩ : ByteArray)) := (blk_cell BK127.out 3).trans rfl
         have hcz53_4 : wr.cell? ⟨gb127, 4, none⟩ = some (.int .i64 0) := (blk_cell BK127.out 4).trans rfl
         have hcz53_5 : wr.cell? ⟨gb127, 5, none⟩ = some (.slice none 0 0) := (blk_cell BK127.out 5).trans rfl
         have hfz53_0 := blk_frozen BK127.out 0
         have hfz53_1 := blk_frozen BK127.out 1
         have hfz53_2 := blk_frozen BK127.out 2
         have hfz53_3 := blk_frozen BK127.out 3
         have hfz53_4 := blk_frozen BK127.out 4
         have hfz53_5 := blk_frozen BK127.out 5
         go_wp2
         refine bodyPost_ret (results_ct rfl _ _ gb127 29 #[.int .i64 0, .int .i64 0, .int .i64 0, .string (⟨#[]⟩ : ByteArray), .int .i64 0, .slice none 0 0] (0, 0) _ rfl (by (with_reducible repeat (first | refine blk_drewN ?_ _ | refine blk_drew ?_ | refine blk_alloc ?_ _)); refine blk_put (cs := #[.int .i64 0, .int .i64 0, .int .i64 0, .string (⟨#[]⟩ : ByteArray), .int .i64 0, .slice none 0 0]) ?_ 5 _ rfl; (with_reducible repeat (first | refine blk_drewN ?_ _ | refine blk_drew ?_ | refine blk_alloc ?_ _)); refine blk_put (cs := #[.int .i64 0, .int .i64 0, .int .i64 0, .string (⟨#[]⟩ : ByteArray), .int .i64 0, .slice none 0 0]) ?_ 4 _ rfl; (with_reducible repeat (first | refine blk_drewN ?_ _ | refine blk_drew ?_ | refine blk_alloc ?_ _)); refine blk_put (cs := #[.int .i64 0, .int .i64 0, .int .i64 0, .string (⟨#[]⟩ : ByteArray), .int .i64 0, .slice none 0 0]) ?_ 3 _ rfl; (with_reducible repeat (first | refine blk_drewN ?_ _ | refine blk_drew ?_ | refine blk_alloc ?_ _)); refine blk_put (cs := #[.int .i64 0, .int .i64 0, .int .i64 0, .string (⟨#[]⟩ : ByteArray), .int .i64 0, .slice none 0 0]) ?_ 2 _ rfl; (with_reducible repeat (first | refine blk_drewN ?_ _ | refine blk_drew ?_ | refine blk_alloc ?_ _)); refine blk_put (cs := #[.int .i64 0, .int .i64 0, .int .i64 0, .string (⟨#[]⟩ : ByteArray), .int .i64 0, .slice none 0 0]) ?_ 1 _ rfl; (with_reducible repeat (first | refine blk_drewN ?_ _ | refine blk_drew ?_ | refine blk_alloc ?_ _)); refine blk_put (cs := #[.int .i64 0, .int .i64 0, .int .i64 0, .string (⟨#[]⟩ : ByteArray), .int .i64 0, .slice none 0 0]) ?_ 0 _ rfl; (with_reducible repeat (first | refine blk_drewN ?_ _ | refine blk_drew ?_ | refine blk_alloc ?_ _)); exact BK127.out) Try.underlying29 rfl (by kernel_rfl)) rfl ?_
         exact ⟨_, by first | rfl | (simp [errW_none, errW_some] <;> rfl) | (simp [*, errW_none, errW_some] <;> rfl), by first | exact Kd.S_nil _ _ _ _ _ | exact Kd.N_nil _ _ _ _ _ | exact Kd.V_nil _ _ _ _ _ | exact Kd.Q_nil _ _ _ _ _ | exact Kd.R_nil _ _ _ _ _, by repeat (first | (with_reducible first | exact HB.out | apply below_alloc | apply pw_below_drewN | apply below_drew1 | refine below_set ?_ (IsS84.ge HI128.out) | refine below_set ?_ GE127.out | refine below_set ?_ GE129.out) | exact HB.out)⟩
        ·rw [if_neg c47] at H
         have c47b0 : decide (4 < t136) = false := decide_eq_false c47
         clear c47
         simp only [Option.some.injEq, Prod.mk.injEq] at H
         obtain ⟨rfl, rfl, rfl, rfl, rfl, rfl, rfl⟩ := H
         obtain ⟨HGz54, hgz54⟩ := HI128.out
         have hcz54_0 := cellS84_0 HGz54
         have hcz54_1 := cellS84_1 HGz54
         have hfz54_0 := blk_frozen HGz54 0
         have hfz54_1 := blk_frozen HGz54 1
         clear HGz54 hgz54
         have hnb55 := NB129_127.out
         have hnc55 := NB127_129.out
         have hnb56 := NB129_128.out
         have hnc56 := NB128_129.out
         have hcz57_0 : wr.cell? ⟨gb129, 0, none⟩ = some (.int .i64 t130) := (blk_cell BK129.out 0).trans rfl
         have hcz57_1 : wr.cell? ⟨gb129, 1, none⟩ = some (.int .i64 t133) := (blk_cell BK129.out 1).trans rfl
         have hcz57_2 : wr.cell? ⟨gb129, 2, none⟩ = some (.int .i64 t136) := (blk_cell BK129.out 2).trans rfl
         have hcz57_3 : wr.cell? ⟨gb129, 3, none⟩ = some (.string t139) := (blk_cell BK129.out 3).trans rfl
         have hcz57_4 : wr.cell? ⟨gb129, 4, none⟩ = some (.int .i64 t142) := (blk_cell BK129.out 4).trans rfl
         have hcz57_5 : wr.cell? ⟨gb129, 5, none⟩ = some (u130005) := (blk_cell BK129.out 5).trans rfl
         have hfz57_0 := blk_frozen BK129.out 0
         have hfz57_1 := blk_frozen BK129.out 1
         have hfz57_2 := blk_frozen BK129.out 2
         have hfz57_3 := blk_frozen BK129.out 3
         have hfz57_4 := blk_frozen BK129.out 4
         have hfz57_5 := blk_frozen BK129.out 5
         have hnb58 := NB127_128.out
         have hnc58 := NB128_127.out
         have hcz59_0 : wr.cell? ⟨gb127, 0, none⟩ = some (.int .i64 0) := (blk_cell BK127.out 0).trans rfl
         have hcz59_1 : wr.cell? ⟨gb127, 1, none⟩ = some (.int .i64 0) := (blk_cell BK127.out 1).trans rfl
         have hcz59_2 : wr.cell? ⟨gb127, 2, none⟩ = some (.int .i64 0) := (blk_cell BK127.out 2).trans rfl
         have hcz59_3 : wr.cell? ⟨gb127, 3, none⟩ = some (.string (⟨#[]⟩ : ByteArray)) := (blk_cell BK127.out 3).trans rfl
         have hcz59_4 : wr.cell? ⟨gb127, 4, none⟩ = some (.int .i64 0) := (blk_cell BK127.out 4).trans rfl
         have hcz59_5 : wr.cell? ⟨gb127, 5, none⟩ = some (.slice none 0 0) := (blk_cell BK127.out 5).trans rfl
         have hfz59_0 := blk_frozen BK127.out 0
         have hfz59_1 := blk_frozen BK127.out 1
         have hfz59_2 := blk_frozen BK127.out 2
         have hfz59_3 := blk_frozen BK127.out 3
         have hfz59_4 := blk_frozen BK127.out 4
         have hfz59_5 := blk_frozen BK127.out 5
         obtain ⟨Ao60, co60, eo60⟩ := Kd.S_slice HO_130005.out
         subst eo60
         go_wp2
         refine bodyPost_ret (results_ct rfl _ _ gb127 29 #[.int .i64 t130, .int .i64 t133, .int .i64 t136, .string t139, .int .i64 t142, .slice Ao60 x130005_1.length co60] (0, 0) _ rfl (by (with_reducible repeat (first | refine blk_drewN ?_ _ | refine blk_drew ?_ | refine blk_alloc ?_ _)); refine blk_put (cs := #[.int .i64 t130, .int .i64 t133, .int .i64 t136, .string t139, .int .i64 t142, .slice none 0 0]) ?_ 5 _ rfl; (with_reducible repeat (first | refine blk_drewN ?_ _ | refine blk_drew ?_ | refine blk_alloc ?_ _)); refine blk_put (cs := #[.int .i64 t130, .int .i64 t133, .int .i64 t136, .string t139, .int .i64 0, .slice none 0 0]) ?_ 4 _ rfl; (with_reducible repeat (first | refine blk_drewN ?_ _ | refine blk_drew ?_ | refine blk_alloc ?_ _)); refine blk_put (cs := #[.int .i64 t130, .int .i64 t133, .int .i64 t136, .string (⟨#[]⟩ : ByteArray), .int .i64 0, .slice none 0 0]) ?_ 3 _ rfl; (with_reducible repeat (first | refine blk_drewN ?_ _ | refine blk_drew ?_ | refine blk_alloc ?_ _)); refine blk_put (cs := #[.int .i64 t130, .int .i64 t133, .int .i64 0, .string (⟨#[]⟩ : ByteArray), .int .i64 0, .slice none 0 0]) ?_ 2 _ rfl; (with_reducible repeat (first | refine blk_drewN ?_ _ | refine blk_drew ?_ | refine blk_alloc ?_ _)); refine blk_put (cs := #[.int .i64 t130, .int .i64 0, .int .i64 0, .string (⟨#[]⟩ : ByteArray), .int .i64 0, .slice none 0 0]) ?_ 1 _ rfl; (with_reducible repeat (first | refine blk_drewN ?_ _ | refine blk_drew ?_ | refine blk_alloc ?_ _)); refine blk_put (cs := #[.int .i64 0, .int .i64 0, .int .i64 0, .string (⟨#[]⟩ : ByteArray), .int .i64 0, .slice none 0 0]) ?_ 0 _ rfl; (with_reducible repeat (first | refine blk_drewN ?_ _ | refine blk_drew ?_ | refine blk_alloc ?_ _)); exact BK127.out) Try.underlying29 rfl (by kernel_rfl)) rfl ?_
         exact ⟨_, by first | rfl | (simp [errW_none, errW_some] <;> rfl) | (simp [*, errW_none, errW_some] <;> rfl), by (with_reducible repeat (first | apply Kd.S_alloc | apply Kd.S_drewN | apply Kd.S_drew)); exact Kd.S_mono (Kd.S_far (p := ⟨gb127, 5, none⟩) (Kd.S_far (p := ⟨gb127, 4, none⟩) (Kd.S_far (p := ⟨gb127, 3, none⟩) (Kd.S_far (p := ⟨gb127, 2, none⟩) (Kd.S_far (p := ⟨gb127, 1, none⟩) (Kd.S_far (p := ⟨gb127, 0, none⟩) (Kd.S_types HO_130005.out BK127.out (by decide)) (fun _ hk => hk.2) (.int .i64 t130)) (fun _ hk => hk.2) (.int .i64 t133)) (fun _ hk => hk.2) (.int .i64 t136)) (fun _ hk => hk.2) (.string t139)) (fun _ hk => hk.2) (.int .i64 t142)) (fun _ hk => hk.2) (.slice Ao60 x130005_1.length co60)) (fun _ hk => trivial), by repeat (first | (with_reducible first | exact HB.out | apply below_alloc | apply pw_below_drewN | apply below_drew1 | refine below_set ?_ (IsS84.ge HI128.out) | refine below_set ?_ GE127.out | refine below_set ?_ GE129.out) | exact HB.out)⟩
      ·rw [if_neg c39] at H
       have c39b0 : (x129000_1.toList == ([] : List UInt8)) = false := beq_eq_false_iff_ne.mpr c39
       have c39b1 : (x129000_1.toList != ([] : List UInt8)) = true := bne_iff_ne.mpr c39
       simp only [Option.some.injEq, Prod.mk.injEq] at H
       obtain ⟨rfl, rfl, rfl, rfl, rfl, rfl, rfl⟩ := H
       obtain ⟨HGz61, hgz61⟩ := HI128.out
       have hcz61_0 := cellS84_0 HGz61
       have hcz61_1 := cellS84_1 HGz61
       have hfz61_0 := blk_frozen HGz61 0
       have hfz61_1 := blk_frozen HGz61 1
       clear HGz61 hgz61
       have hnb62 := NB127_129.out
       have hnc62 := NB129_127.out
       have hnb63 := NB127_128.out
       have hnc63 := NB128_127.out
       have hcz64_0 : wr.cell? ⟨gb127, 0, none⟩ = some (.int .i64 0) := (blk_cell BK127.out 0).trans rfl
       have hcz64_1 : wr.cell? ⟨gb127, 1, none⟩ = some (.int .i64 0) := (blk_cell BK127.out 1).trans rfl
       have hcz64_2 : wr.cell? ⟨gb127, 2, none⟩ = some (.int .i64 0) := (blk_cell BK127.out 2).trans rfl
       have hcz64_3 : wr.cell? ⟨gb127, 3, none⟩ = some (.string (⟨#[]⟩ : ByteArray)) := (blk_cell BK127.out 3).trans rfl
       have hcz64_4 : wr.cell? ⟨gb127, 4, none⟩ = some (.int .i64 0) := (blk_cell BK127.out 4).trans rfl
       have hcz64_5 : wr.cell? ⟨gb127, 5, none⟩ = some (.slice none 0 0) := (blk_cell BK127.out 5).trans rfl
       have hfz64_0 := blk_frozen BK127.out 0
       have hfz64_1 := blk_frozen BK127.out 1
       have hfz64_2 := blk_frozen BK127.out 2
       have hfz64_3 := blk_frozen BK127.out 3
       have hfz64_4 := blk_frozen BK127.out 4
       have hfz64_5 := blk_frozen BK127.out 5
       go_wp2
       refine bodyPost_ret (results_ct rfl _ _ gb127 29 #[.int .i64 0, .int .i64 0, .int .i64 0, .string (⟨#[]⟩ : ByteArray), .int .i64 0, .slice none 0 0] (0, 0) _ rfl (by (with_reducible repeat (first | refine blk_drewN ?_ _ | refine blk_drew ?_ | refine blk_alloc ?_ _)); refine blk_put (cs := #[.int .i64 0, .int .i64 0, .int .i64 0, .string (⟨#[]⟩ : ByteArray), .int .i64 0, .slice none 0 0]) ?_ 5 _ rfl; (with_reducible repeat (first | refine blk_drewN ?_ _ | refine blk_drew ?_ | refine blk_alloc ?_ _)); refine blk_put (cs := #[.int .i64 0, .int .i64 0, .int .i64 0, .string (⟨#[]⟩ : ByteArray), .int .i64 0, .slice none 0 0]) ?_ 4 _ rfl; (with_reducible repeat (first | refine blk_drewN ?_ _ | refine blk_drew ?_ | refine blk_alloc ?_ _)); refine blk_put (cs := #[.int .i64 0, .int .i64 0, .int .i64 0, .string (⟨#[]⟩ : ByteArray), .int .i64 0, .slice none 0 0]) ?_ 3 _ rfl; (with_reducible repeat (first | refine blk_drewN ?_ _ | refine blk_drew ?_ | refine blk_alloc ?_ _)); refine blk_put (cs := #[.int .i64 0, .int .i64 0, .int .i64 0, .string (⟨#[]⟩ : ByteArray), .int .i64 0, .slice none 0 0]) ?_ 2 _ rfl; (with_reducible repeat (first | refine blk_drewN ?_ _ | refine blk_drew ?_ | refine blk_alloc ?_ _)); refine blk_put (cs := #[.int .i64 0, .int .i64 0, .int .i64 0, .string (⟨#[]⟩ : ByteArray), .int .i64 0, .slice none 0 0]) ?_ 1 _ rfl; (with_reducible repeat (first | refine blk_drewN ?_ _ | refine blk_drew ?_ | refine blk_alloc ?_ _)); refine blk_put (cs := #[.int .i64 0, .int .i64 0, .int .i64 0, .string (⟨#[]⟩ : ByteArray), .int .i64 0, .slice none 0 0]) ?_ 0 _ rfl; (with_reducible repeat (first | refine blk_drewN ?_ _ | refine blk_drew ?_ | refine blk_alloc ?_ _)); exact BK127.out) Try.underlying29 rfl (by kernel_rfl)) rfl ?_
       exact ⟨_, by first | rfl | (simp [errW_none, errW_some] <;> rfl) | (simp [*, errW_none, errW_some] <;> rfl), by first | exact Kd.S_nil _ _ _ _ _ | exact Kd.N_nil _ _ _ _ _ | exact Kd.V_nil _ _ _ _ _ | exact Kd.Q_nil _ _ _ _ _ | exact Kd.R_nil _ _ _ _ _, by repeat (first | (with_reducible first | exact HB.out | apply below_alloc | apply pw_below_drewN | apply below_drew1 | refine below_set ?_ (IsS84.ge HI128.out) | refine below_set ?_ GE127.out | refine below_set ?_ GE129.out) | exact HB.out)⟩
     ·rw [if_neg c38] at H
      have c38b0 : (x129001_1 == 0) = false := beq_eq_false_iff_ne.mpr c38
      have c38b1 : (x129001_1 != 0) = true := bne_iff_ne.mpr c38
      simp only [Option.some.injEq, Prod.mk.injEq] at H
      obtain ⟨rfl, rfl, rfl, rfl, rfl, rfl, rfl⟩ := H
      obtain ⟨HGz65, hgz65⟩ := HI128.out
      have hcz65_0 := cellS84_0 HGz65
      have hcz65_1 := cellS84_1 HGz65
      have hfz65_0 := blk_frozen HGz65 0
      have hfz65_1 := blk_frozen HGz65 1
      clear HGz65 hgz65
      try go_wp2
      have n0_ := Aside0.mk (Kd.S_drew HO_130005.out)
      have n1_ := Aside0.mk (blk_drew BK127.out)
      have n2_ := Aside0.mk (blk_drew BK129.out)
      have n3_ := Aside0.mk (IsS84.drew HI128.out)
      have n4_ := Aside0.mk (below_drew1 HB.out)
      clear HO_130005
      clear BK127
      clear BK129
      clear HI128
      clear HB
      have HO_130005 := n0_
      have BK127 := n1_
      have BK129 := n2_
      have HI128 := n3_
      have HB := n4_
      clear n0_ n1_ n2_ n3_ n4_
      refine start_ (n := 7) (S := fun w' => w'.cell? ⟨gb128, 0, none⟩ = some (.string x129000_1) ∧ w'.cell? ⟨gb128, 1, none⟩ = some (.int .i64 x129001_1)) (ds := []) #[false, false, false, false, false, false, false] (by kernel_rfl) rfl rfl ⟨(blk_cell (Aside0.mk HI128.out.1).out 0).trans rfl, (blk_cell (Aside0.mk HI128.out.1).out 1).trans rfl⟩ (fun hHeld => ?_)
      generalize wr.drew = w66 at HO_130005 BK127 BK129 HI128 HB hHeld ⊢
      refine pure_ (i := 0) (N := some 51) (v := ?_) (a' := ?_) #[true, false, false, false, false, false, false] rfl rfl (by kernel_rfl) (fun _ _ _ h => h) (Or.inl ⟨by rfl, ?_⟩) ?_ ?_
      rotate_left
      ·intro w'
       go_simp
       with_reducible rfl
      rotate_left
      ·simp only [Act.put, List.setIfInBounds_toArray, List.set_cons_zero, List.set_cons_succ, i64_w, i32_w]
       rfl
      refine pure_ (i := 1) (N := some 52) (v := ?_) (a' := ?_) #[true, true, false, false, false, false, false] rfl rfl (by kernel_rfl) (fun _ _ _ h => h) (Or.inl ⟨by rfl, ?_⟩) ?_ ?_
      rotate_left
      ·intro w'
       go_simp
       with_reducible rfl
      rotate_left
      ·simp only [Act.put, List.setIfInBounds_toArray, List.set_cons_zero, List.set_cons_succ, i64_w, i32_w]
       rfl
      refine pure_ (i := 2) (N := some 53) (v := ?_) (a' := ?_) #[true, true, true, false, false, false, false] rfl rfl (by kernel_rfl) (fun _ _ _ h => h) (Or.inl ⟨by rfl, ?_⟩) ?_ ?_
      rotate_left
      ·intro w'
       go_simp
       with_reducible rfl
      rotate_left
      ·simp only [Act.put, List.setIfInBounds_toArray, List.set_cons_zero, List.set_cons_succ, i64_w, i32_w]
       rfl
      refine pure_ (i := 3) (N := some 54) (v := ?_) (a' := ?_) #[true, true, true, true, false, false, false] rfl rfl (by kernel_rfl) (fun _ _ _ h => h) (Or.inl ⟨by rfl, ?_⟩) ?_ ?_
      rotate_left
      ·intro w'
       go_simp
       with_reducible rfl
      rotate_left
      ·simp only [Act.put, List.setIfInBounds_toArray, List.set_cons_zero, List.set_cons_succ, i64_w, i32_w]
       rfl
      refine take_ (i := 4) (N := some 55) (v := ?_) (a' := ?_) #[true, true, true, true, true, false, false] rfl rfl (by kernel_rfl) (fun _ _ _ h => h) (Or.inl ⟨by rfl, ?_⟩) hHeld ?_ ?_
      rotate_left
      ·rintro w' ⟨s0, s1⟩
       go_simp
       with_reducible rfl
      rotate_left
      ·simp only [Act.put, List.setIfInBounds_toArray, List.set_cons_zero, List.set_cons_succ, i64_w, i32_w]
       rfl
      refine one_ (i := 5) (N := none) #[true, true, true, true, true, true, false] rfl rfl (by kernel_rfl) (by decide) (fun K hK => ?_)
      have hs67 : w66.cell? ⟨gb127, 0, none⟩ = some (.int .i64 0) := (blk_cell BK127.out 0).trans rfl
      have hfs67 := blk_frozen BK127.out 0
      have hns67_1 := NB129_127.out
      have hms67_1 := NB127_129.out
      have hs68 : w66.cell? ⟨gb127, 1, none⟩ = some (.int .i64 0) := (blk_cell BK127.out 1).trans rfl
      have hfs68 := blk_frozen BK127.out 1
      have hns68_1 := NB129_127.out
      have hms68_1 := NB127_129.out
      have hs69 : w66.cell? ⟨gb127, 2, none⟩ = some (.int .i64 0) := (blk_cell BK127.out 2).trans rfl
      have hfs69 := blk_frozen BK127.out 2
      have hns69_1 := NB129_127.out
      have hms69_1 := NB127_129.out
      have hs70 : w66.cell? ⟨gb127, 3, none⟩ = some (.string (⟨#[]⟩ : ByteArray)) := (blk_cell BK127.out 3).trans rfl
      have hfs70 := blk_frozen BK127.out 3
      have hns70_1 := NB129_127.out
      have hms70_1 := NB127_129.out
      have hs71 : w66.cell? ⟨gb127, 4, none⟩ = some (.int .i64 0) := (blk_cell BK127.out 4).trans rfl
      have hfs71 := blk_frozen BK127.out 4
      have hns71_1 := NB129_127.out
      have hms71_1 := NB127_129.out
      have hs72 : w66.cell? ⟨gb127, 5, none⟩ = some (.slice none 0 0) := (blk_cell BK127.out 5).trans rfl
      have hfs72 := blk_frozen BK127.out 5
      have hns72_1 := NB129_127.out
      have hms72_1 := NB127_129.out
      refine skip_ (w1 := ?_) (by rfl) rfl ?_ ?_
      rotate_left
      ·go_simp
       rfl
      refine hK.out _ _ ⟨((cell_far (p := ⟨gb127, _, none⟩) NB128_127.out _).trans (((cell_far (p := ⟨gb127, _, none⟩) NB128_127.out _).trans (((cell_far (p := ⟨gb127, _, none⟩) NB128_127.out _).trans (((cell_far (p := ⟨gb127, _, none⟩) NB128_127.out _).trans (((cell_far (p := ⟨gb127, _, none⟩) NB128_127.out _).trans (((cell_far (p := ⟨gb127, _, none⟩) NB128_127.out _).trans (hHeld.1)))))))))))), ((cell_far (p := ⟨gb127, _, none⟩) NB128_127.out _).trans (((cell_far (p := ⟨gb127, _, none⟩) NB128_127.out _).trans (((cell_far (p := ⟨gb127, _, none⟩) NB128_127.out _).trans (((cell_far (p := ⟨gb127, _, none⟩) NB128_127.out _).trans (((cell_far (p := ⟨gb127, _, none⟩) NB128_127.out _).trans (((cell_far (p := ⟨gb127, _, none⟩) NB128_127.out _).trans (hHeld.2))))))))))))⟩ (fun hHeld => ?_)
      clear hK K
      refine pure_ (i := 6) (N := some 3) (v := ?_) (a' := ?_) #[true, true, true, true, true, true, true] rfl rfl (by kernel_rfl) (fun _ _ _ h => h) (Or.inl ⟨by rfl, ?_⟩) ?_ ?_
      rotate_left
      ·intro w'
       go_simp
       with_reducible rfl
      rotate_left
      ·simp only [Act.put, List.setIfInBounds_toArray, List.set_cons_zero, List.set_cons_succ, i64_w, i32_w]
       rfl
      refine done_ (by kernel_rfl) ?_
      try go_wp2
      refine bodyPost_ret (results_ct rfl _ _ gb127 29 #[.int .i64 0, .int .i64 0, .int .i64 0, .string (⟨#[]⟩ : ByteArray), .int .i64 0, .slice none 0 0] (0, 0) _ rfl (by (with_reducible repeat (first | refine blk_drewN ?_ _ | refine blk_drew ?_ | refine blk_alloc ?_ _)); refine blk_put (cs := #[.int .i64 0, .int .i64 0, .int .i64 0, .string (⟨#[]⟩ : ByteArray), .int .i64 0, .slice none 0 0]) ?_ 5 _ rfl; (with_reducible repeat (first | refine blk_drewN ?_ _ | refine blk_drew ?_ | refine blk_alloc ?_ _)); refine blk_put (cs := #[.int .i64 0, .int .i64 0, .int .i64 0, .string (⟨#[]⟩ : ByteArray), .int .i64 0, .slice none 0 0]) ?_ 4 _ rfl; (with_reducible repeat (first | refine blk_drewN ?_ _ | refine blk_drew ?_ | refine blk_alloc ?_ _)); refine blk_put (cs := #[.int .i64 0, .int .i64 0, .int .i64 0, .string (⟨#[]⟩ : ByteArray), .int .i64 0, .slice none 0 0]) ?_ 3 _ rfl; (with_reducible repeat (first | refine blk_drewN ?_ _ | refine blk_drew ?_ | refine blk_alloc ?_ _)); refine blk_put (cs := #[.int .i64 0, .int .i64 0, .int .i64 0, .string (⟨#[]⟩ : ByteArray), .int .i64 0, .slice none 0 0]) ?_ 2 _ rfl; (with_reducible repeat (first | refine blk_drewN ?_ _ | refine blk_drew ?_ | refine blk_alloc ?_ _)); refine blk_put (cs := #[.int .i64 0, .int .i64 0, .int .i64 0, .string (⟨#[]⟩ : ByteArray), .int .i64 0, .slice none 0 0]) ?_ 1 _ rfl; (with_reducible repeat (first | refine blk_drewN ?_ _ | refine blk_drew ?_ | refine blk_alloc ?_ _)); refine blk_put (cs := #[.int .i64 0, .int .i64 0, .int .i64 0, .string (⟨#[]⟩ : ByteArray), .int .i64 0, .slice none 0 0]) ?_ 0 _ rfl; (with_reducible repeat (first | refine blk_drewN ?_ _ | refine blk_drew ?_ | refine blk_alloc ?_ _)); exact BK127.out) Try.underlying29 rfl (by kernel_rfl)) rfl ?_
      exact ⟨_, by first | rfl | (simp [errW_none, errW_some] <;> rfl) | (simp [*, errW_none, errW_some] <;> rfl), by first | exact Kd.S_nil _ _ _ _ _ | exact Kd.N_nil _ _ _ _ _ | exact Kd.V_nil _ _ _ _ _ | exact Kd.Q_nil _ _ _ _ _ | exact Kd.R_nil _ _ _ _ _, by repeat (first | (with_reducible first | exact HB.out | apply below_alloc | apply pw_below_drewN | apply below_drew1 | refine below_set ?_ (IsS84.ge HI128.out) | refine below_set ?_ GE127.out | refine below_set ?_ GE129.out) | exact HB.out)⟩

/-! ### record_Split: function 15 -/
mutual
def record_Split.j1 : Nat → List ByteArray → ByteArray → Int → Option (List ByteArray × Int)
 | 0, _, _, _ => none
 | k + 1, x5, x160000, x160001 => if x160001 = 0 then (if x160000.toList = ([] : List UInt8) then (some (x5, 0)) else (some (([] : List ByteArray), 4))) else (some (([] : List ByteArray), x160001))
def record_Split.l0 : Nat → List ByteArray → Int → Int → ByteArray → Int → Option (List ByteArray × Int)
 | 0, _, _, _, _, _ => none
 | k + 1, x5, x10, x11, x160000, x160001 => if x11 < x10 then ((record_reader_text.f k x160000 x160001).bind fun bt163 => (if x5.length < 8796093022208 then ((some (x5 ++ [bt163.1] : List ByteArray)).bind fun y166 => (if bt163.2.2 = 0 then (record_Split.l0 k y166 x10 (wrap64 (x11 + 1)) bt163.2.1 bt163.2.2) else (record_Split.j1 k y166 bt163.2.1 bt163.2.2))) else (none))) else (record_Split.j1 k x5 x160000 x160001)
end
def record_Split.f (k : Nat) (a0 : ByteArray) : Option (List ByteArray × Int) := (record_reader_number.f k a0 0 2).bind fun bt160 => (record_Split.l0 k ([] : List ByteArray) bt160.1 0 bt160.2.1 bt160.2.2)
theorem record_Split.mono_l : ∀ k, (∀ y0 y1 y2, LeO (record_Split.j1 k y0 y1 y2) (record_Split.j1 (k + 1) y0 y1 y2)) ∧ (∀ y0 y1 y2 y3 y4, LeO (record_Split.l0 k y0 y1 y2 y3 y4) (record_Split.l0 (k + 1) y0 y1 y2 y3 y4))
 | 0 => ⟨fun _ _ _ r h => by simp [record_Split.j1] at h, fun _ _ _ _ _ r h => by simp [record_Split.l0] at h⟩
 | k + 1 => by
  obtain ⟨ih0, ih1⟩ := record_Split.mono_l k
  refine ⟨?_, ?_⟩
  ·intro y0 y1 y2
   unfold record_Split.j1
   repeat' first
   | (with_reducible exact ih0 _ _ _)
   | (with_reducible exact ih1 _ _ _ _ _)
   | (with_reducible exact record_reader_number.mono _ _ _ _)
   | (with_reducible exact record_reader_text.mono _ _ _)
   | (with_reducible exact LeO.refl _)
   | (with_reducible exact LeO.none _)
   | (with_reducible refine LeO.ite ?_ ?_)
   | (with_reducible refine LeO.bind ?_ (fun _ => ?_))
   | exact ih0 _ _ _
   | exact ih1 _ _ _ _ _
   | exact record_reader_number.mono _ _ _ _
   | exact record_reader_text.mono _ _ _
   | exact LeO.none _
   | refine LeO.ite ?_ ?_
   | refine LeO.bind ?_ (fun _ => ?_)
  ·intro y0 y1 y2 y3 y4
   unfold record_Split.l0
   repeat' first
   | (with_reducible exact ih0 _ _ _)
   | (with_reducible exact ih1 _ _ _ _ _)
   | (with_reducible exact record_reader_number.mono _ _ _ _)
   | (with_reducible exact record_reader_text.mono _ _ _)
   | (with_reducible exact LeO.refl _)
   | (with_reducible exact LeO.none _)
   | (with_reducible refine LeO.ite ?_ ?_)
   | (with_reducible refine LeO.bind ?_ (fun _ => ?_))
   | exact ih0 _ _ _
   | exact ih1 _ _ _ _ _
   | exact record_reader_number.mono _ _ _ _
   | exact record_reader_text.mono _ _ _
   | exact LeO.none _
   | refine LeO.ite ?_ ?_
   | refine LeO.bind ?_ (fun _ => ?_)
theorem record_Split.mono : ∀ a0 k, LeO (record_Split.f k a0) (record_Split.f (k + 1) a0) := by
 intro a0 k
 obtain ⟨ih0, ih1⟩ := record_Split.mono_l k
 unfold record_Split.f
 repeat' first
   | (with_reducible exact ih0 _ _ _)
   | (with_reducible exact ih1 _ _ _ _ _)
   | (with_reducible exact record_reader_number.mono _ _ _ _)
   | (with_reducible exact record_reader_text.mono _ _ _)
   | (with_reducible exact LeO.refl _)
   | (with_reducible exact LeO.none _)
   | (with_reducible refine LeO.ite ?_ ?_)
   | (with_reducible refine LeO.bind ?_ (fun _ => ?_))
   | exact ih0 _ _ _
   | exact ih1 _ _ _ _ _
   | exact record_reader_number.mono _ _ _ _
   | exact record_reader_text.mono _ _ _
   | exact LeO.none _
   | refine LeO.ite ?_ ?_
   | refine LeO.bind ?_ (fun _ => ?_)
set_option maxHeartbeats 8000000 in
set_option maxRecDepth 100000 in
theorem record_Split.calls (k : Nat) (a0 : ByteArray) (r1 : List ByteArray) (r2 : Int) (w : World) (h : record_Split.f k a0 = some (r1, r2)) :
  Calls Try.prog 15 #[.string a0] w fun e w' => ∃ v0_ : Value, e = .returned (.tuple #[v0_, .int .i64 r2]) ∧ Kd.R Kd.string 9 w' w.heap.size (fun _ => True) v0_ r1 ∧ Below w.heap.size w w' := by
 have hu84 := Try.underlying84
 have HB := Aside0.mk (Below.refl w.heap.size w)
 have H : ((record_reader_number.f k a0 0 2).bind fun bt160 => (record_Split.l0 k ([] : List ByteArray) bt160.1 0 bt160.2.1 bt160.2.2)) = some (r1, r2) := h
 clear h
 replace H := Option.bind_eq_some_iff.mp H
 obtain ⟨⟨t160, t161, t162⟩, A20, H⟩ := H
 replace H : (record_Split.l0 k ([] : List ByteArray) t160 0 t161 t162) = some (r1, r2) := H
 have A2 := Aside0.mk A20
 clear A20
 have HC3 := Aside0.mk H
 clear H
 go_enter Try.func15, Try.ntmps15
 go_upto_block 0 with (first | ((with_reducible refine gate_dst (N := 8) rfl ?_); refine box_event ?hg (N := 8) ?hd (cs := #[.string a0, .int .i64 0]) (t := 84) ?hr ?_; (case hd => rfl); (case hg => rfl); (case hr => first | (go_simp; done) | (go_simp; rfl)); intro gb159 hg w4 hbox hb; have n0_ := Aside0.mk (below_step (by repeat (first | (with_reducible first | exact HB.out | apply below_alloc | apply pw_below_drewN | apply below_drew1) | exact HB.out)) hb); have n1_ := Aside0.mk ((⟨hbox, by rw [hg]; exact (below_size (by repeat (first | (with_reducible first | exact HB.out | apply below_alloc | apply pw_below_drewN | apply below_drew1) | exact HB.out)))⟩ : IsS84 w w4 gb159 a0 0)); clear HB; have HB := n0_; have HI159 := n1_; clear n0_ n1_; clear hb hbox hg) | (go_at_call 27; (with_reducible refine (record_reader_number.calls k gb159 a0 0 2 t160 t161 t162 w _ ?side1 ?side2 A2.out).mono ?_); (case side1 => repeat (first | (with_reducible first | exact HI159.out | apply IsS84.alloc | apply IsS84.drewN | apply IsS84.drew | apply IsS84.set_0 | apply IsS84.set_1) | exact HI159.out)); (case side2 => repeat (first | (with_reducible first | exact HB.out | apply below_alloc | apply pw_below_drewN | apply below_drew1 | refine below_set ?_ (IsS84.ge HI159.out)) | exact HB.out)); rintro e w5 ⟨rfl, hi, hb, hk⟩; have n0_ := Aside0.mk (hb); have n1_ := Aside0.mk (hi); clear HB; clear HI159; have HB := n0_; have HI159 := n1_; clear n0_ n1_; (try clear hb); (try clear hb2); (try clear hk); (try clear hi)))
 repeat (go_quiet (first | ((with_reducible refine gate_dst (N := 8) rfl ?_); refine box_event ?hg (N := 8) ?hd (cs := #[.string a0, .int .i64 0]) (t := 84) ?hr ?_; (case hd => rfl); (case hg => rfl); (case hr => first | (go_simp; done) | (go_simp; rfl)); intro gb159 hg w4 hbox hb; have n0_ := Aside0.mk (below_step (by repeat (first | (with_reducible first | exact HB.out | apply below_alloc | apply pw_below_drewN | apply below_drew1) | exact HB.out)) hb); have n1_ := Aside0.mk ((⟨hbox, by rw [hg]; exact (below_size (by repeat (first | (with_reducible first | exact HB.out | apply below_alloc | apply pw_below_drewN | apply below_drew1) | exact HB.out)))⟩ : IsS84 w w4 gb159 a0 0)); clear HB; have HB := n0_; have HI159 := n1_; clear n0_ n1_; clear hb hbox hg) | (go_at_call 27; (with_reducible refine (record_reader_number.calls k gb159 a0 0 2 t160 t161 t162 w _ ?side1 ?side2 A2.out).mono ?_); (case side1 => repeat (first | (with_reducible first | exact HI159.out | apply IsS84.alloc | apply IsS84.drewN | apply IsS84.drew | apply IsS84.set_0 | apply IsS84.set_1) | exact HI159.out)); (case side2 => repeat (first | (with_reducible first | exact HB.out | apply below_alloc | apply pw_below_drewN | apply below_drew1 | refine below_set ?_ (IsS84.ge HI159.out)) | exact HB.out)); rintro e w5 ⟨rfl, hi, hb, hk⟩; have n0_ := Aside0.mk (hb); have n1_ := Aside0.mk (hi); clear HB; clear HI159; have HB := n0_; have HI159 := n1_; clear n0_ n1_; (try clear hb); (try clear hb2); (try clear hk); (try clear hi))); go_upto_block 0 with (first | ((with_reducible refine gate_dst (N := 8) rfl ?_); refine box_event ?hg (N := 8) ?hd (cs := #[.string a0, .int .i64 0]) (t := 84) ?hr ?_; (case hd => rfl); (case hg => rfl); (case hr => first | (go_simp; done) | (go_simp; rfl)); intro gb159 hg w4 hbox hb; have n0_ := Aside0.mk (below_step (by repeat (first | (with_reducible first | exact HB.out | apply below_alloc | apply pw_below_drewN | apply below_drew1) | exact HB.out)) hb); have n1_ := Aside0.mk ((⟨hbox, by rw [hg]; exact (below_size (by repeat (first | (with_reducible first | exact HB.out | apply below_alloc | apply pw_below_drewN | apply below_drew1) | exact HB.out)))⟩ : IsS84 w w4 gb159 a0 0)); clear HB; have HB := n0_; have HI159 := n1_; clear n0_ n1_; clear hb hbox hg) | (go_at_call 27; (with_reducible refine (record_reader_number.calls k gb159 a0 0 2 t160 t161 t162 w _ ?side1 ?side2 A2.out).mono ?_); (case side1 => repeat (first | (with_reducible first | exact HI159.out | apply IsS84.alloc | apply IsS84.drewN | apply IsS84.drew | apply IsS84.set_0 | apply IsS84.set_1) | exact HI159.out)); (case side2 => repeat (first | (with_reducible first | exact HB.out | apply below_alloc | apply pw_below_drewN | apply below_drew1 | refine below_set ?_ (IsS84.ge HI159.out)) | exact HB.out)); rintro e w5 ⟨rfl, hi, hb, hk⟩; have n0_ := Aside0.mk (hb); have n1_ := Aside0.mk (hi); clear HB; clear HI159; have HB := n0_; have HI159 := n1_; clear n0_ n1_; (try clear hb); (try clear hb2); (try clear hk); (try clear hi))))
 (try simp only [Act.put, List.setIfInBounds_toArray, List.set_cons_zero, List.set_cons_succ])
 go_cut [5] (fun v5 wc => ∃ (kq : Nat) (x5_2 : List ByteArray) (x160000_2 : ByteArray) (x160001_2 : Int), Aside0 (record_Split.j1 kq x5_2 x160000_2 x160001_2 = some (r1, r2)) ∧ Aside0 (kq ≤ k) ∧ Aside0 (Kd.R Kd.string 9 wc w.heap.size (fun _ => True) v5 x5_2) ∧ Aside0 (IsS84 w wc gb159 x160000_2 x160001_2) ∧ Aside0 (Below w.heap.size w wc))
 case first =>
  have H := HC3.out
  clear HC3
  have H' := Aside0.mk H
  clear H
  go_wp2
  repeat (go_quiet (fail); try go_wp2)
  go_loopg [5, 11] k (fun kq v5 v11 w' => ∃ (x5_1 : List ByteArray) (x11_1 : Int) (x160000_1 : ByteArray) (x160001_1 : Int), v11 = .int .i64 x11_1 ∧ Aside0 (record_Split.l0 kq x5_1 t160 x11_1 x160000_1 x160001_1 = some (r1, r2)) ∧ Aside0 (kq ≤ k) ∧ Aside0 (Kd.R Kd.string 9 w' w.heap.size (fun _ => True) v5 x5_1) ∧ Aside0 (IsS84 w w' gb159 x160000_1 x160001_1) ∧ Aside0 (Below w.heap.size w w'))
  case atStart => exact ⟨(([] : List ByteArray)), (0), (t161), (t162), (by first | rfl | (simp; done) | (simp [*]; done)), H', ⟨Nat.le_refl _⟩, ⟨by first | exact Kd.R_nil _ _ _ _ _ | exact Kd.N_nil _ _ _ _ _ | exact Kd.V_nil _ _ _ _ _ | exact Kd.Q_nil _ _ _ _ _ | exact Kd.S_nil _ _ _ _ _⟩, ⟨by repeat (first | (with_reducible first | exact HI159.out | apply IsS84.alloc | apply IsS84.drewN | apply IsS84.drew | apply IsS84.set_0 | apply IsS84.set_1) | exact HI159.out)⟩, ⟨by repeat (first | (with_reducible first | exact HB.out | apply below_alloc | apply pw_below_drewN | apply below_drew1 | refine below_set ?_ (IsS84.ge HI159.out)) | exact HB.out)⟩⟩
  case round =>
   clear H'
   try clear c1
   try clear p2
   obtain ⟨x5_1, x11_1, x160000_1, x160001_1, rfl, HA, HK1, HO_5, HI159, HB⟩ := hrel
   cases gk with
   | zero => exact absurd HA.out (by simp [record_Split.l0])
   | succ k1 =>
    have H := HA.out
    clear HA
    simp only [record_Split.l0] at H
    by_cases c6 : x11_1 < t160
    ·rw [if_pos c6] at H
     have c6b0 : decide (x11_1 < t160) = true := decide_eq_true c6
     clear c6
     (first | rw [c6b0] | (simp only [i64_w, i32_w]; rw [c6b0]) | skip)
     replace H := Option.bind_eq_some_iff.mp H
     obtain ⟨⟨t163, t164, t165⟩, A70, H⟩ := H
     replace H : (if x5_1.length < 8796093022208 then ((some (x5_1 ++ [t163] : List ByteArray)).bind fun y166 => (if t165 = 0 then (record_Split.l0 k1 y166 t160 (wrap64 (x11_1 + 1)) t164 t165) else (record_Split.j1 k1 y166 t164 t165))) else (none)) = some (r1, r2) := H
     have A7 := Aside0.mk A70
     clear A70
     by_cases c8 : x5_1.length < 8796093022208
     ·rw [if_pos c8] at H
      have LMc8 := Aside0.mk c8
      clear c8
      obtain ⟨y166, hy166⟩ : ∃ y_ : List ByteArray, y_ = (x5_1 ++ [t163]) := ⟨_, rfl⟩
      replace H : (if t165 = 0 then (record_Split.l0 k1 y166 t160 (wrap64 (x11_1 + 1)) t164 t165) else (record_Split.j1 k1 y166 t164 t165)) = some (r1, r2) := by first | (rw [hy166]; with_reducible exact H) | (have H2_ := (Option.bind_some _ _).symm.trans H; rw [hy166]; with_reducible exact H2_) | (have H2_ := (Option.bind_some _ _).symm.trans H; with_reducible exact H2_) | with_reducible exact H | (rw [hy166]; exact H) | exact H
      have Ny166 := Aside0.mk hy166
      clear hy166
      by_cases c9 : t165 = 0
      ·rw [if_pos c9] at H
       have c9b0 : (t165 == 0) = true := beq_iff_eq.mpr c9
       have c9b1 : (t165 != 0) = false := bne_eq_false_iff_eq.mpr c9
       clear c9
       have H' := Aside0.mk H
       clear H
       go_wp2_with (first | (go_at_call 28; (with_reducible refine (record_reader_text.calls k1 gb159 x160000_1 x160001_1 t163 t164 t165 w _ ?side1 ?side2 A7.out).mono ?_); (case side1 => repeat (first | (with_reducible first | exact HI159.out | apply IsS84.alloc | apply IsS84.drewN | apply IsS84.drew | apply IsS84.set_0 | apply IsS84.set_1) | exact HI159.out)); (case side2 => repeat (first | (with_reducible first | exact HB.out | apply below_alloc | apply pw_below_drewN | apply below_drew1 | refine below_set ?_ (IsS84.ge HI159.out)) | exact HB.out)); rintro e w10 ⟨rfl, hi, hb, hk⟩; have n0_ := Aside0.mk (Kd.R_mono (Kd.R_keep (IsS84.apart (show IsS84 w _ gb159 x160000_1 x160001_1 from by repeat (first | (with_reducible first | exact HI159.out | apply IsS84.alloc | apply IsS84.drewN | apply IsS84.drew | apply IsS84.set_0 | apply IsS84.set_1) | exact HI159.out)) (by (with_reducible repeat (first | apply Kd.R_alloc | apply Kd.R_drewN | apply Kd.R_drew)); exact HO_5.out) (by decide)) hk (fun _ h => h.2)) (fun _ h => h.1)); have n1_ := Aside0.mk (hb); have n2_ := Aside0.mk (hi); clear HO_5; clear HB; clear HI159; have HO_5 := n0_; have HB := n1_; have HI159 := n2_; clear n0_ n1_ n2_; (try clear hb); (try clear hb2); (try clear hk); (try clear hi)) | ((with_reducible refine gate_builtin (b := .append) (xs := #[.tmp 13, .tmp 16]) rfl ?_); at_builtin; refine Kd.R_append Kd.string (w0 := w) w.heap.size rfl (.tmp 13) (.tmp 16) 47 9 (.string ⟨#[]⟩) 16 rfl Try.underlying47 info9 rfl (by decide) (by omega) u5 x5_1 t163 [.string t163] (fun _ => True) (fun _ => False) rfl rfl ?aP (fun _ hk => hk.elim) ?aF ?aO ?aB ?aS ?aL ?_; (case aP => exact rfl); (case aB => exact (by repeat (first | (with_reducible first | exact HB.out | apply below_alloc | apply pw_below_drewN | apply below_drew1 | refine below_set ?_ (IsS84.ge HI159.out)) | exact HB.out))); (case aF => exact (fun _ _ => trivial)); (case aO => exact (by (with_reducible repeat (first | apply Kd.R_alloc | apply Kd.R_drewN | apply Kd.R_drew)); exact HO_5.out)); (case aS => exact (below_size (by repeat (first | (with_reducible first | exact HB.out | apply below_alloc | apply pw_below_drewN | apply below_drew1 | refine below_set ?_ (IsS84.ge HI159.out)) | exact HB.out)))); (case aL => have := LMc8.out; omega); intro v167 w11 ho hb hg hat; rw [← Ny166.out] at ho; have n0_ := Aside0.mk (IsS84.grown (by repeat (first | (with_reducible first | exact HI159.out | apply IsS84.alloc | apply IsS84.drewN | apply IsS84.drew | apply IsS84.set_0 | apply IsS84.set_1) | exact HI159.out)) hg (IsS84.own_ne HI159.out HO_5.out (by decide))); have n1_ := Aside0.mk (hb); have n2_ := Aside0.mk (ho); clear HI159; clear HB; clear HO_5; have HI159 := n0_; have HB := n1_; have HO168 := n2_; clear n0_ n1_ n2_; clear ho hb hg hat; obtain ⟨HGz12, hgz12⟩ := HI159.out; have hcz12_0 := cellS84_0 HGz12; have hcz12_1 := cellS84_1 HGz12; have hfz12_0 := blk_frozen HGz12 0; have hfz12_1 := blk_frozen HGz12 1; clear HGz12 hgz12))
       repeat (go_quiet (first | (go_at_call 28; (with_reducible refine (record_reader_text.calls k1 gb159 x160000_1 x160001_1 t163 t164 t165 w _ ?side1 ?side2 A7.out).mono ?_); (case side1 => repeat (first | (with_reducible first | exact HI159.out | apply IsS84.alloc | apply IsS84.drewN | apply IsS84.drew | apply IsS84.set_0 | apply IsS84.set_1) | exact HI159.out)); (case side2 => repeat (first | (with_reducible first | exact HB.out | apply below_alloc | apply pw_below_drewN | apply below_drew1 | refine below_set ?_ (IsS84.ge HI159.out)) | exact HB.out)); rintro e w10 ⟨rfl, hi, hb, hk⟩; have n0_ := Aside0.mk (Kd.R_mono (Kd.R_keep (IsS84.apart (show IsS84 w _ gb159 x160000_1 x160001_1 from by repeat (first | (with_reducible first | exact HI159.out | apply IsS84.alloc | apply IsS84.drewN | apply IsS84.drew | apply IsS84.set_0 | apply IsS84.set_1) | exact HI159.out)) (by (with_reducible repeat (first | apply Kd.R_alloc | apply Kd.R_drewN | apply Kd.R_drew)); exact HO_5.out) (by decide)) hk (fun _ h => h.2)) (fun _ h => h.1)); have n1_ := Aside0.mk (hb); have n2_ := Aside0.mk (hi); clear HO_5; clear HB; clear HI159; have HO_5 := n0_; have HB := n1_; have HI159 := n2_; clear n0_ n1_ n2_; (try clear hb); (try clear hb2); (try clear hk); (try clear hi)) | ((with_reducible refine gate_builtin (b := .append) (xs := #[.tmp 13, .tmp 16]) rfl ?_); at_builtin; refine Kd.R_append Kd.string (w0 := w) w.heap.size rfl (.tmp 13) (.tmp 16) 47 9 (.string ⟨#[]⟩) 16 rfl Try.underlying47 info9 rfl (by decide) (by omega) u5 x5_1 t163 [.string t163] (fun _ => True) (fun _ => False) rfl rfl ?aP (fun _ hk => hk.elim) ?aF ?aO ?aB ?aS ?aL ?_; (case aP => exact rfl); (case aB => exact (by repeat (first | (with_reducible first | exact HB.out | apply below_alloc | apply pw_below_drewN | apply below_drew1 | refine below_set ?_ (IsS84.ge HI159.out)) | exact HB.out))); (case aF => exact (fun _ _ => trivial)); (case aO => exact (by (with_reducible repeat (first | apply Kd.R_alloc | apply Kd.R_drewN | apply Kd.R_drew)); exact HO_5.out)); (case aS => exact (below_size (by repeat (first | (with_reducible first | exact HB.out | apply below_alloc | apply pw_below_drewN | apply below_drew1 | refine below_set ?_ (IsS84.ge HI159.out)) | exact HB.out)))); (case aL => have := LMc8.out; omega); intro v167 w11 ho hb hg hat; rw [← Ny166.out] at ho; have n0_ := Aside0.mk (IsS84.grown (by repeat (first | (with_reducible first | exact HI159.out | apply IsS84.alloc | apply IsS84.drewN | apply IsS84.drew | apply IsS84.set_0 | apply IsS84.set_1) | exact HI159.out)) hg (IsS84.own_ne HI159.out HO_5.out (by decide))); have n1_ := Aside0.mk (hb); have n2_ := Aside0.mk (ho); clear HI159; clear HB; clear HO_5; have HI159 := n0_; have HB := n1_; have HO168 := n2_; clear n0_ n1_ n2_; clear ho hb hg hat; obtain ⟨HGz12, hgz12⟩ := HI159.out; have hcz12_0 := cellS84_0 HGz12; have hcz12_1 := cellS84_1 HGz12; have hfz12_0 := blk_frozen HGz12 0; have hfz12_1 := blk_frozen HGz12 1; clear HGz12 hgz12)); try go_wp2_with (first | (go_at_call 28; (with_reducible refine (record_reader_text.calls k1 gb159 x160000_1 x160001_1 t163 t164 t165 w _ ?side1 ?side2 A7.out).mono ?_); (case side1 => repeat (first | (with_reducible first | exact HI159.out | apply IsS84.alloc | apply IsS84.drewN | apply IsS84.drew | apply IsS84.set_0 | apply IsS84.set_1) | exact HI159.out)); (case side2 => repeat (first | (with_reducible first | exact HB.out | apply below_alloc | apply pw_below_drewN | apply below_drew1 | refine below_set ?_ (IsS84.ge HI159.out)) | exact HB.out)); rintro e w10 ⟨rfl, hi, hb, hk⟩; have n0_ := Aside0.mk (Kd.R_mono (Kd.R_keep (IsS84.apart (show IsS84 w _ gb159 x160000_1 x160001_1 from by repeat (first | (with_reducible first | exact HI159.out | apply IsS84.alloc | apply IsS84.drewN | apply IsS84.drew | apply IsS84.set_0 | apply IsS84.set_1) | exact HI159.out)) (by (with_reducible repeat (first | apply Kd.R_alloc | apply Kd.R_drewN | apply Kd.R_drew)); exact HO_5.out) (by decide)) hk (fun _ h => h.2)) (fun _ h => h.1)); have n1_ := Aside0.mk (hb); have n2_ := Aside0.mk (hi); clear HO_5; clear HB; clear HI159; have HO_5 := n0_; have HB := n1_; have HI159 := n2_; clear n0_ n1_ n2_; (try clear hb); (try clear hb2); (try clear hk); (try clear hi)) | ((with_reducible refine gate_builtin (b := .append) (xs := #[.tmp 13, .tmp 16]) rfl ?_); at_builtin; refine Kd.R_append Kd.string (w0 := w) w.heap.size rfl (.tmp 13) (.tmp 16) 47 9 (.string ⟨#[]⟩) 16 rfl Try.underlying47 info9 rfl (by decide) (by omega) u5 x5_1 t163 [.string t163] (fun _ => True) (fun _ => False) rfl rfl ?aP (fun _ hk => hk.elim) ?aF ?aO ?aB ?aS ?aL ?_; (case aP => exact rfl); (case aB => exact (by repeat (first | (with_reducible first | exact HB.out | apply below_alloc | apply pw_below_drewN | apply below_drew1 | refine below_set ?_ (IsS84.ge HI159.out)) | exact HB.out))); (case aF => exact (fun _ _ => trivial)); (case aO => exact (by (with_reducible repeat (first | apply Kd.R_alloc | apply Kd.R_drewN | apply Kd.R_drew)); exact HO_5.out)); (case aS => exact (below_size (by repeat (first | (with_reducible first | exact HB.out | apply below_alloc | apply pw_below_drewN | apply below_drew1 | refine below_set ?_ (IsS84.ge HI159.out)) | exact HB.out)))); (case aL => have := LMc8.out; omega); intro v167 w11 ho hb hg hat; rw [← Ny166.out] at ho; have n0_ := Aside0.mk (IsS84.grown (by repeat (first | (with_reducible first | exact HI159.out | apply IsS84.alloc | apply IsS84.drewN | apply IsS84.drew | apply IsS84.set_0 | apply IsS84.set_1) | exact HI159.out)) hg (IsS84.own_ne HI159.out HO_5.out (by decide))); have n1_ := Aside0.mk (hb); have n2_ := Aside0.mk (ho); clear HI159; clear HB; clear HO_5; have HI159 := n0_; have HB := n1_; have HO168 := n2_; clear n0_ n1_ n2_; clear ho hb hg hat; obtain ⟨HGz12, hgz12⟩ := HI159.out; have hcz12_0 := cellS84_0 HGz12; have hcz12_1 := cellS84_1 HGz12; have hfz12_0 := blk_frozen HGz12 0; have hfz12_1 := blk_frozen HGz12 1; clear HGz12 hgz12)))
       go_roundg k1
       case measure => have := HK1.out; omega
       case rel => exact ⟨(y166), (wrap64 (x11_1 + 1)), (t164), (t165), (by first | rfl | (simp; done) | (simp [*]; done)), H', ⟨by have := HK1.out; omega⟩, ⟨by (with_reducible repeat (first | apply Kd.R_alloc | apply Kd.R_drewN | apply Kd.R_drew)); exact HO168.out⟩, ⟨by repeat (first | (with_reducible first | exact HI159.out | apply IsS84.alloc | apply IsS84.drewN | apply IsS84.drew | apply IsS84.set_0 | apply IsS84.set_1) | exact HI159.out)⟩, ⟨by repeat (first | (with_reducible first | exact HB.out | apply below_alloc | apply pw_below_drewN | apply below_drew1 | refine below_set ?_ (IsS84.ge HI159.out)) | exact HB.out)⟩⟩
      ·rw [if_neg c9] at H
       have c9b0 : (t165 == 0) = false := beq_eq_false_iff_ne.mpr c9
       have c9b1 : (t165 != 0) = true := bne_iff_ne.mpr c9
       have H' := Aside0.mk H
       clear H
       go_wp2_with (first | (go_at_call 28; (with_reducible refine (record_reader_text.calls k1 gb159 x160000_1 x160001_1 t163 t164 t165 w _ ?side1 ?side2 A7.out).mono ?_); (case side1 => repeat (first | (with_reducible first | exact HI159.out | apply IsS84.alloc | apply IsS84.drewN | apply IsS84.drew | apply IsS84.set_0 | apply IsS84.set_1) | exact HI159.out)); (case side2 => repeat (first | (with_reducible first | exact HB.out | apply below_alloc | apply pw_below_drewN | apply below_drew1 | refine below_set ?_ (IsS84.ge HI159.out)) | exact HB.out)); rintro e w13 ⟨rfl, hi, hb, hk⟩; have n0_ := Aside0.mk (Kd.R_mono (Kd.R_keep (IsS84.apart (show IsS84 w _ gb159 x160000_1 x160001_1 from by repeat (first | (with_reducible first | exact HI159.out | apply IsS84.alloc | apply IsS84.drewN | apply IsS84.drew | apply IsS84.set_0 | apply IsS84.set_1) | exact HI159.out)) (by (with_reducible repeat (first | apply Kd.R_alloc | apply Kd.R_drewN | apply Kd.R_drew)); exact HO_5.out) (by decide)) hk (fun _ h => h.2)) (fun _ h => h.1)); have n1_ := Aside0.mk (hb); have n2_ := Aside0.mk (hi); clear HO_5; clear HB; clear HI159; have HO_5 := n0_; have HB := n1_; have HI159 := n2_; clear n0_ n1_ n2_; (try clear hb); (try clear hb2); (try clear hk); (try clear hi)) | ((with_reducible refine gate_builtin (b := .append) (xs := #[.tmp 13, .tmp 16]) rfl ?_); at_builtin; refine Kd.R_append Kd.string (w0 := w) w.heap.size rfl (.tmp 13) (.tmp 16) 47 9 (.string ⟨#[]⟩) 16 rfl Try.underlying47 info9 rfl (by decide) (by omega) u5 x5_1 t163 [.string t163] (fun _ => True) (fun _ => False) rfl rfl ?aP (fun _ hk => hk.elim) ?aF ?aO ?aB ?aS ?aL ?_; (case aP => exact rfl); (case aB => exact (by repeat (first | (with_reducible first | exact HB.out | apply below_alloc | apply pw_below_drewN | apply below_drew1 | refine below_set ?_ (IsS84.ge HI159.out)) | exact HB.out))); (case aF => exact (fun _ _ => trivial)); (case aO => exact (by (with_reducible repeat (first | apply Kd.R_alloc | apply Kd.R_drewN | apply Kd.R_drew)); exact HO_5.out)); (case aS => exact (below_size (by repeat (first | (with_reducible first | exact HB.out | apply below_alloc | apply pw_below_drewN | apply below_drew1 | refine below_set ?_ (IsS84.ge HI159.out)) | exact HB.out)))); (case aL => have := LMc8.out; omega); intro v167 w14 ho hb hg hat; rw [← Ny166.out] at ho; have n0_ := Aside0.mk (IsS84.grown (by repeat (first | (with_reducible first | exact HI159.out | apply IsS84.alloc | apply IsS84.drewN | apply IsS84.drew | apply IsS84.set_0 | apply IsS84.set_1) | exact HI159.out)) hg (IsS84.own_ne HI159.out HO_5.out (by decide))); have n1_ := Aside0.mk (hb); have n2_ := Aside0.mk (ho); clear HI159; clear HB; clear HO_5; have HI159 := n0_; have HB := n1_; have HO168 := n2_; clear n0_ n1_ n2_; clear ho hb hg hat; obtain ⟨HGz15, hgz15⟩ := HI159.out; have hcz15_0 := cellS84_0 HGz15; have hcz15_1 := cellS84_1 HGz15; have hfz15_0 := blk_frozen HGz15 0; have hfz15_1 := blk_frozen HGz15 1; clear HGz15 hgz15))
       repeat (go_quiet (first | (go_at_call 28; (with_reducible refine (record_reader_text.calls k1 gb159 x160000_1 x160001_1 t163 t164 t165 w _ ?side1 ?side2 A7.out).mono ?_); (case side1 => repeat (first | (with_reducible first | exact HI159.out | apply IsS84.alloc | apply IsS84.drewN | apply IsS84.drew | apply IsS84.set_0 | apply IsS84.set_1) | exact HI159.out)); (case side2 => repeat (first | (with_reducible first | exact HB.out | apply below_alloc | apply pw_below_drewN | apply below_drew1 | refine below_set ?_ (IsS84.ge HI159.out)) | exact HB.out)); rintro e w13 ⟨rfl, hi, hb, hk⟩; have n0_ := Aside0.mk (Kd.R_mono (Kd.R_keep (IsS84.apart (show IsS84 w _ gb159 x160000_1 x160001_1 from by repeat (first | (with_reducible first | exact HI159.out | apply IsS84.alloc | apply IsS84.drewN | apply IsS84.drew | apply IsS84.set_0 | apply IsS84.set_1) | exact HI159.out)) (by (with_reducible repeat (first | apply Kd.R_alloc | apply Kd.R_drewN | apply Kd.R_drew)); exact HO_5.out) (by decide)) hk (fun _ h => h.2)) (fun _ h => h.1)); have n1_ := Aside0.mk (hb); have n2_ := Aside0.mk (hi); clear HO_5; clear HB; clear HI159; have HO_5 := n0_; have HB := n1_; have HI159 := n2_; clear n0_ n1_ n2_; (try clear hb); (try clear hb2); (try clear hk); (try clear hi)) | ((with_reducible refine gate_builtin (b := .append) (xs := #[.tmp 13, .tmp 16]) rfl ?_); at_builtin; refine Kd.R_append Kd.string (w0 := w) w.heap.size rfl (.tmp 13) (.tmp 16) 47 9 (.string ⟨#[]⟩) 16 rfl Try.underlying47 info9 rfl (by decide) (by omega) u5 x5_1 t163 [.string t163] (fun _ => True) (fun _ => False) rfl rfl ?aP (fun _ hk => hk.elim) ?aF ?aO ?aB ?aS ?aL ?_; (case aP => exact rfl); (case aB => exact (by repeat (first | (with_reducible first | exact HB.out | apply below_alloc | apply pw_below_drewN | apply below_drew1 | refine below_set ?_ (IsS84.ge HI159.out)) | exact HB.out))); (case aF => exact (fun _ _ => trivial)); (case aO => exact (by (with_reducible repeat (first | apply Kd.R_alloc | apply Kd.R_drewN | apply Kd.R_drew)); exact HO_5.out)); (case aS => exact (below_size (by repeat (first | (with_reducible first | exact HB.out | apply below_alloc | apply pw_below_drewN | apply below_drew1 | refine below_set ?_ (IsS84.ge HI159.out)) | exact HB.out)))); (case aL => have := LMc8.out; omega); intro v167 w14 ho hb hg hat; rw [← Ny166.out] at ho; have n0_ := Aside0.mk (IsS84.grown (by repeat (first | (with_reducible first | exact HI159.out | apply IsS84.alloc | apply IsS84.drewN | apply IsS84.drew | apply IsS84.set_0 | apply IsS84.set_1) | exact HI159.out)) hg (IsS84.own_ne HI159.out HO_5.out (by decide))); have n1_ := Aside0.mk (hb); have n2_ := Aside0.mk (ho); clear HI159; clear HB; clear HO_5; have HI159 := n0_; have HB := n1_; have HO168 := n2_; clear n0_ n1_ n2_; clear ho hb hg hat; obtain ⟨HGz15, hgz15⟩ := HI159.out; have hcz15_0 := cellS84_0 HGz15; have hcz15_1 := cellS84_1 HGz15; have hfz15_0 := blk_frozen HGz15 0; have hfz15_1 := blk_frozen HGz15 1; clear HGz15 hgz15)); try go_wp2_with (first | (go_at_call 28; (with_reducible refine (record_reader_text.calls k1 gb159 x160000_1 x160001_1 t163 t164 t165 w _ ?side1 ?side2 A7.out).mono ?_); (case side1 => repeat (first | (with_reducible first | exact HI159.out | apply IsS84.alloc | apply IsS84.drewN | apply IsS84.drew | apply IsS84.set_0 | apply IsS84.set_1) | exact HI159.out)); (case side2 => repeat (first | (with_reducible first | exact HB.out | apply below_alloc | apply pw_below_drewN | apply below_drew1 | refine below_set ?_ (IsS84.ge HI159.out)) | exact HB.out)); rintro e w13 ⟨rfl, hi, hb, hk⟩; have n0_ := Aside0.mk (Kd.R_mono (Kd.R_keep (IsS84.apart (show IsS84 w _ gb159 x160000_1 x160001_1 from by repeat (first | (with_reducible first | exact HI159.out | apply IsS84.alloc | apply IsS84.drewN | apply IsS84.drew | apply IsS84.set_0 | apply IsS84.set_1) | exact HI159.out)) (by (with_reducible repeat (first | apply Kd.R_alloc | apply Kd.R_drewN | apply Kd.R_drew)); exact HO_5.out) (by decide)) hk (fun _ h => h.2)) (fun _ h => h.1)); have n1_ := Aside0.mk (hb); have n2_ := Aside0.mk (hi); clear HO_5; clear HB; clear HI159; have HO_5 := n0_; have HB := n1_; have HI159 := n2_; clear n0_ n1_ n2_; (try clear hb); (try clear hb2); (try clear hk); (try clear hi)) | ((with_reducible refine gate_builtin (b := .append) (xs := #[.tmp 13, .tmp 16]) rfl ?_); at_builtin; refine Kd.R_append Kd.string (w0 := w) w.heap.size rfl (.tmp 13) (.tmp 16) 47 9 (.string ⟨#[]⟩) 16 rfl Try.underlying47 info9 rfl (by decide) (by omega) u5 x5_1 t163 [.string t163] (fun _ => True) (fun _ => False) rfl rfl ?aP (fun _ hk => hk.elim) ?aF ?aO ?aB ?aS ?aL ?_; (case aP => exact rfl); (case aB => exact (by repeat (first | (with_reducible first | exact HB.out | apply below_alloc | apply pw_below_drewN | apply below_drew1 | refine below_set ?_ (IsS84.ge HI159.out)) | exact HB.out))); (case aF => exact (fun _ _ => trivial)); (case aO => exact (by (with_reducible repeat (first | apply Kd.R_alloc | apply Kd.R_drewN | apply Kd.R_drew)); exact HO_5.out)); (case aS => exact (below_size (by repeat (first | (with_reducible first | exact HB.out | apply below_alloc | apply pw_below_drewN | apply below_drew1 | refine below_set ?_ (IsS84.ge HI159.out)) | exact HB.out)))); (case aL => have := LMc8.out; omega); intro v167 w14 ho hb hg hat; rw [← Ny166.out] at ho; have n0_ := Aside0.mk (IsS84.grown (by repeat (first | (with_reducible first | exact HI159.out | apply IsS84.alloc | apply IsS84.drewN | apply IsS84.drew | apply IsS84.set_0 | apply IsS84.set_1) | exact HI159.out)) hg (IsS84.own_ne HI159.out HO_5.out (by decide))); have n1_ := Aside0.mk (hb); have n2_ := Aside0.mk (ho); clear HI159; clear HB; clear HO_5; have HI159 := n0_; have HB := n1_; have HO168 := n2_; clear n0_ n1_ n2_; clear ho hb hg hat; obtain ⟨HGz15, hgz15⟩ := HI159.out; have hcz15_0 := cellS84_0 HGz15; have hcz15_1 := cellS84_1 HGz15; have hfz15_0 := blk_frozen HGz15 0; have hfz15_1 := blk_frozen HGz15 1; clear HGz15 hgz15)))
       go_meet
       case rel => exact ⟨_, (y166), (t164), (t165), H', ⟨by have := HK1.out; first | omega | exact Nat.le_refl _⟩, ⟨by (with_reducible repeat (first | apply Kd.R_alloc | apply Kd.R_drewN | apply Kd.R_drew)); exact HO168.out⟩, ⟨by repeat (first | (with_reducible first | exact HI159.out | apply IsS84.alloc | apply IsS84.drewN | apply IsS84.drew | apply IsS84.set_0 | apply IsS84.set_1) | exact HI159.out)⟩, ⟨by repeat (first | (with_reducible first | exact HB.out | apply below_alloc | apply pw_below_drewN | apply below_drew1 | refine below_set ?_ (IsS84.ge HI159.out)) | exact HB.out)⟩⟩
     ·rw [if_neg c8] at H
      exact absurd H (by simp)
    ·rw [if_neg c6] at H
     have c6b0 : decide (x11_1 < t160) = false := decide_eq_false c6
     clear c6
     (first | rw [c6b0] | (simp only [i64_w, i32_w]; rw [c6b0]) | skip)
     have H' := Aside0.mk H
     clear H
     go_wp2
     repeat (go_quiet (fail); try go_wp2)
     go_meet
     case rel => exact ⟨_, (x5_1), (x160000_1), (x160001_1), H', ⟨by have := HK1.out; first | omega | exact Nat.le_refl _⟩, ⟨by (with_reducible repeat (first | apply Kd.R_alloc | apply Kd.R_drewN | apply Kd.R_drew)); exact HO_5.out⟩, ⟨by repeat (first | (with_reducible first | exact HI159.out | apply IsS84.alloc | apply IsS84.drewN | apply IsS84.drew | apply IsS84.set_0 | apply IsS84.set_1) | exact HI159.out)⟩, ⟨by repeat (first | (with_reducible first | exact HB.out | apply below_alloc | apply pw_below_drewN | apply below_drew1 | refine below_set ?_ (IsS84.ge HI159.out)) | exact HB.out)⟩⟩
 case rest =>
  clear HC3
  try clear c1
  try clear p2
  try clear c6
  try clear c6b0
  try clear p6
  try clear c8
  try clear c9
  try clear c9b0
  try clear c9b1
  try clear c15
  try clear hcz12_0
  try clear hcz12_1
  try clear hcz15_0
  try clear hcz15_1
  try clear hfz12_0
  try clear hfz12_1
  try clear hfz15_0
  try clear hfz15_1
  try clear p2
  obtain ⟨kq, x5_2, x160000_2, x160001_2, HA, HJ2, HO_5, HI159, HB⟩ := hcut
  cases kq with
  | zero => exact absurd HA.out (by simp [record_Split.j1])
  | succ kj2 =>
   have H := HA.out
   clear HA
   simp only [record_Split.j1] at H
   by_cases c16 : x160001_2 = 0
   ·rw [if_pos c16] at H
    have c16b0 : (x160001_2 == 0) = true := beq_iff_eq.mpr c16
    have c16b1 : (x160001_2 != 0) = false := bne_eq_false_iff_eq.mpr c16
    clear c16
    by_cases c17 : x160000_2.toList = ([] : List UInt8)
    ·rw [if_pos c17] at H
     have c17b0 : (x160000_2.toList == ([] : List UInt8)) = true := beq_iff_eq.mpr c17
     have c17b1 : (x160000_2.toList != ([] : List UInt8)) = false := bne_eq_false_iff_eq.mpr c17
     clear c17
     simp only [Option.some.injEq, Prod.mk.injEq] at H
     obtain ⟨rfl, rfl⟩ := H
     obtain ⟨HGz18, hgz18⟩ := HI159.out
     have hcz18_0 := cellS84_0 HGz18
     have hcz18_1 := cellS84_1 HGz18
     have hfz18_0 := blk_frozen HGz18 0
     have hfz18_1 := blk_frozen HGz18 1
     clear HGz18 hgz18
     go_wp2
     repeat (go_quiet (fail); try go_wp2)
     go_ret2
     exact ⟨_, by first | rfl | (simp [errW_none, errW_some] <;> rfl) | (simp [*, errW_none, errW_some] <;> rfl), by (with_reducible repeat (first | apply Kd.R_alloc | apply Kd.R_drewN | apply Kd.R_drew)); exact HO_5.out, by repeat (first | (with_reducible first | exact HB.out | apply below_alloc | apply pw_below_drewN | apply below_drew1 | refine below_set ?_ (IsS84.ge HI159.out)) | exact HB.out)⟩
    ·rw [if_neg c17] at H
     have c17b0 : (x160000_2.toList == ([] : List UInt8)) = false := beq_eq_false_iff_ne.mpr c17
     have c17b1 : (x160000_2.toList != ([] : List UInt8)) = true := bne_iff_ne.mpr c17
     simp only [Option.some.injEq, Prod.mk.injEq] at H
     obtain ⟨rfl, rfl⟩ := H
     obtain ⟨HGz19, hgz19⟩ := HI159.out
     have hcz19_0 := cellS84_0 HGz19
     have hcz19_1 := cellS84_1 HGz19
     have hfz19_0 := blk_frozen HGz19 0
     have hfz19_1 := blk_frozen HGz19 1
     clear HGz19 hgz19
     go_wp2
     repeat (go_quiet (fail); try go_wp2)
     go_ret2
     exact ⟨_, by first | rfl | (simp [errW_none, errW_some] <;> rfl) | (simp [*, errW_none, errW_some] <;> rfl), by first | exact Kd.R_nil _ _ _ _ _ | exact Kd.N_nil _ _ _ _ _ | exact Kd.V_nil _ _ _ _ _ | exact Kd.Q_nil _ _ _ _ _ | exact Kd.S_nil _ _ _ _ _, by repeat (first | (with_reducible first | exact HB.out | apply below_alloc | apply pw_below_drewN | apply below_drew1 | refine below_set ?_ (IsS84.ge HI159.out)) | exact HB.out)⟩
   ·rw [if_neg c16] at H
    have c16b0 : (x160001_2 == 0) = false := beq_eq_false_iff_ne.mpr c16
    have c16b1 : (x160001_2 != 0) = true := bne_iff_ne.mpr c16
    simp only [Option.some.injEq, Prod.mk.injEq] at H
    obtain ⟨rfl, rfl⟩ := H
    obtain ⟨HGz20, hgz20⟩ := HI159.out
    have hcz20_0 := cellS84_0 HGz20
    have hcz20_1 := cellS84_1 HGz20
    have hfz20_0 := blk_frozen HGz20 0
    have hfz20_1 := blk_frozen HGz20 1
    clear HGz20 hgz20
    go_wp2
    repeat (go_quiet (fail); try go_wp2)
    go_ret2
    exact ⟨_, by first | rfl | (simp [errW_none, errW_some] <;> rfl) | (simp [*, errW_none, errW_some] <;> rfl), by first | exact Kd.R_nil _ _ _ _ _ | exact Kd.N_nil _ _ _ _ _ | exact Kd.V_nil _ _ _ _ _ | exact Kd.Q_nil _ _ _ _ _ | exact Kd.S_nil _ _ _ _ _, by repeat (first | (with_reducible first | exact HB.out | apply below_alloc | apply pw_below_drewN | apply below_drew1 | refine below_set ?_ (IsS84.ge HI159.out)) | exact HB.out)⟩

/-- A state of type 89 at block g of W; what its slices lead to came in by w0. -/
def IsS89 (w0 W : World) (g : Nat) (f0 : ByteArray) (f1 : Int) : Prop := W.heap[g]? = some (.cells #[.string f0, .int .i64 f1] 89 (0, 0)) ∧ w0.heap.size ≤ g
theorem IsS89.grown {w0 W : World} {g : Nat} {f0 : ByteArray} {f1 : Int} {W1 : World} {row : Option Nat} (h : IsS89 w0 W g f0 f1) (hw : W.grownBy W1 row) (hne : some g ≠ row) : IsS89 w0 W1 g f0 f1 := by
 obtain ⟨hb, hg⟩ := h
 exact ⟨blk_grown hb hw hne, hg⟩
theorem IsS89.own_neN {w0 W : World} {g : Nat} {f0 : ByteArray} {f1 : Int} {α : Type} {d : Kd α} {e : Nat} {base : Nat} {ok : Nat → Prop} {v : Value} {xs : List α} (h : IsS89 w0 W g f0 f1) (ho : Kd.N d e W base ok v xs) (ht : e ≠ 89) : some g ≠ v.ownBlock := by
 obtain ⟨hb, hg⟩ := h
 exact Kd.N_ne ho hb ht
theorem IsS89.fresh {w0 W : World} {g : Nat} {f0 : ByteArray} {f1 : Int} (h : IsS89 w0 W g f0 f1) : ∀ k, W.heap.size ≤ k → k ≠ g := by
 obtain ⟨hb, hg⟩ := h
 exact Kd.freshB hb
theorem IsS89.kept {w0 W : World} {g : Nat} {f0 : ByteArray} {f1 : Int} {W1 : World} {S : Nat → Prop} (h : IsS89 w0 W g f0 f1) (hk : Kept W W1 S) (hne : ¬ S g) : IsS89 w0 W1 g f0 f1 := by
 obtain ⟨hb, hg⟩ := h
 exact ⟨blk_kept hb hk hne, hg⟩
theorem IsS89.below {w0 W : World} {g : Nat} {f0 : ByteArray} {f1 : Int} {W1 : World} (h : IsS89 w0 W g f0 f1) (hw : Below W.heap.size W W1) : IsS89 w0 W1 g f0 f1 := h.grown (grown_of_below hw none) (by simp)
theorem IsS89.alloc {w0 W : World} {g : Nat} {f0 : ByteArray} {f1 : Int} (h : IsS89 w0 W g f0 f1) (o : Obj) : IsS89 w0 (W.alloc o) g f0 f1 := h.below (below_alloc (Below.refl _ _) o)
theorem IsS89.drewN {w0 W : World} {g : Nat} {f0 : ByteArray} {f1 : Int} (h : IsS89 w0 W g f0 f1) (m : Nat) : IsS89 w0 (W.drewN m) g f0 f1 := h
theorem IsS89.drew {w0 W : World} {g : Nat} {f0 : ByteArray} {f1 : Int} (h : IsS89 w0 W g f0 f1) : IsS89 w0 W.drew g f0 f1 := h
theorem IsS89.at_ {w0 W : World} {g : Nat} {f0 : ByteArray} {f1 : Int} {w' : World} {m : Nat} (hq : W.drewN m = w') (h : IsS89 w0 W g f0 f1) : IsS89 w0 w' g f0 f1 := by subst hq; exact IsS89.drewN h m
theorem IsS89.apart {w0 W : World} {g : Nat} {f0 : ByteArray} {f1 : Int} {α : Type} {d : Kd α} {e : Nat} {base : Nat} {ok : Nat → Prop} {v : Value} {xs : List α} (h : IsS89 w0 W g f0 f1) (ho : d.R e W base ok v xs) (ht : ∀ q, q ∈ e :: d.E → q ≠ 89) : d.R e W base (fun k => ok k ∧ k ≠ g) v xs := by
 obtain ⟨hb, hg⟩ := h
 exact Kd.R_types ho hb ht
theorem IsS89.own_ne {w0 W : World} {g : Nat} {f0 : ByteArray} {f1 : Int} {α : Type} {d : Kd α} {e : Nat} {base : Nat} {ok : Nat → Prop} {v : Value} {xs : List α} (h : IsS89 w0 W g f0 f1) (ho : d.R e W base ok v xs) (ht : e ≠ 89) : some g ≠ v.ownBlock := by
 obtain ⟨hb, hg⟩ := h
 exact Kd.R_ne ho hb ht
theorem IsS89.apartQ {w0 W : World} {g : Nat} {f0 : ByteArray} {f1 : Int} {α : Type} {d : Kd α} {e : Nat} {base : Nat} {ok : Nat → Prop} {v : Value} {xs : List α} (h : IsS89 w0 W g f0 f1) (ho : d.Q e W base ok v xs) (ht : ∀ q, q ∈ e :: d.E → q ≠ 89) : d.Q e W base (fun k => ok k ∧ k ≠ g) v xs := by
 obtain ⟨hb, hg⟩ := h
 exact Kd.Q_types ho hb ht
theorem IsS89.own_neQ {w0 W : World} {g : Nat} {f0 : ByteArray} {f1 : Int} {α : Type} {d : Kd α} {e : Nat} {base : Nat} {ok : Nat → Prop} {v : Value} {xs : List α} (h : IsS89 w0 W g f0 f1) (ho : d.Q e W base ok v xs) (ht : e ≠ 89) : some g ≠ v.ownBlock := by
 obtain ⟨hb, hg⟩ := h
 exact Kd.Q_ne ho hb ht
theorem IsS89.apartS {w0 W : World} {g : Nat} {f0 : ByteArray} {f1 : Int} {α : Type} {d : Kd α} {e : Nat} {base : Nat} {ok : Nat → Prop} {v : Value} {xs : List α} (h : IsS89 w0 W g f0 f1) (ho : d.S e W base ok v xs) (ht : ∀ q, q ∈ e :: d.E → q ≠ 89) : d.S e W base (fun k => ok k ∧ k ≠ g) v xs := by
 obtain ⟨hb, hg⟩ := h
 exact Kd.S_types ho hb ht
theorem IsS89.own_neS {w0 W : World} {g : Nat} {f0 : ByteArray} {f1 : Int} {α : Type} {d : Kd α} {e : Nat} {base : Nat} {ok : Nat → Prop} {v : Value} {xs : List α} (h : IsS89 w0 W g f0 f1) (ho : d.S e W base ok v xs) (ht : e ≠ 89) : some g ≠ v.ownBlock := by
 obtain ⟨hb, hg⟩ := h
 exact Kd.S_ne ho hb ht
theorem IsS89.lt {w0 W : World} {g : Nat} {f0 : ByteArray} {f1 : Int} (h : IsS89 w0 W g f0 f1) : g < W.heap.size := by
 obtain ⟨hb, hg⟩ := h
 exact blk_lt hb
theorem IsS89.ge {w0 W : World} {g : Nat} {f0 : ByteArray} {f1 : Int} (h : IsS89 w0 W g f0 f1) : w0.heap.size ≤ g := by
 obtain ⟨hb, hg⟩ := h
 exact hg
theorem IsS89.ne_blk {w0 W : World} {g : Nat} {f0 : ByteArray} {f1 : Int} {a : Nat} {cs : Array Value} {t : TypeId} {fr : Nat × Nat} (h : IsS89 w0 W g f0 f1) (hb2 : W.heap[a]? = some (.cells cs t fr)) (ht : t ≠ 89) : g ≠ a := by
 obtain ⟨hb, hg⟩ := h
 rintro rfl
 rw [hb] at hb2
 injection hb2 with hb2
 injection hb2 with _ ht2
 exact ht ht2.symm
theorem IsS89.far {w0 W : World} {g : Nat} {f0 : ByteArray} {f1 : Int} {p : Addr} (h : IsS89 w0 W g f0 f1) (hne : g ≠ p.block) (u : Value) : IsS89 w0 (W.setCell p u) g f0 f1 := by
 obtain ⟨hb, hg⟩ := h
 exact ⟨blk_far hb hne u, hg⟩
theorem cellS89_0 {W : World} {g : Nat} {f0 : ByteArray} {f1 : Int} (h : W.heap[g]? = some (.cells #[.string f0, .int .i64 f1] 89 (0, 0))) : W.cell? ⟨g, 0, none⟩ = some (.string f0) := (blk_cell h 0).trans rfl
theorem IsS89.set_0 {w0 W : World} {g : Nat} {f0 : ByteArray} {f1 : Int} (h : IsS89 w0 W g f0 f1) (x : ByteArray) : IsS89 w0 (W.setCell ⟨g, 0, none⟩ (.string x)) g x f1 := by
 obtain ⟨hb, hg⟩ := h
 exact ⟨by simpa using blk_set hb 0 (.string x), hg⟩
theorem cellS89_1 {W : World} {g : Nat} {f0 : ByteArray} {f1 : Int} (h : W.heap[g]? = some (.cells #[.string f0, .int .i64 f1] 89 (0, 0))) : W.cell? ⟨g, 1, none⟩ = some (.int .i64 f1) := (blk_cell h 1).trans rfl
theorem IsS89.set_1 {w0 W : World} {g : Nat} {f0 : ByteArray} {f1 : Int} (h : IsS89 w0 W g f0 f1) (x : Int) : IsS89 w0 (W.setCell ⟨g, 1, none⟩ (.int .i64 x)) g f0 x := by
 obtain ⟨hb, hg⟩ := h
 exact ⟨by simpa using blk_set hb 1 (.int .i64 x), hg⟩
theorem IsS89.new (w0 W : World) (f0 : ByteArray) (f1 : Int) (hB : Below w0.heap.size w0 W) : IsS89 w0 (W.alloc (.cells #[.string f0, .int .i64 f1] 89)) W.heap.size f0 f1 := ⟨by simpa using heap_alloc_new W _, hB.size⟩

/-! ### concordanceref07_Take: function 31 -/
def concordanceref07_Take.j0 : Nat → Int → Bool → ByteArray → Int → Option (ByteArray × ByteArray × Int)
 | 0, _, _, _, _ => none
 | k + 1, x1, x19, x1000, x1001 => if x19 = true then (some ((⟨#[]⟩ : ByteArray), x1000, 3)) else (if x1001 = 0 then (if 0 ≤ x1 then (if x1 ≤ (x1000.size : Int) then (some (x1000.extract 0 (x1 : Int).toNat, x1000.extract (x1 : Int).toNat x1000.size, x1001)) else (none)) else (none)) else (some ((⟨#[]⟩ : ByteArray), x1000, x1001)))
def concordanceref07_Take.f (k : Nat) (s0_0 : ByteArray) (s0_1 : Int) (a1 : Int) : Option (ByteArray × ByteArray × Int) := if s0_1 = 0 then (concordanceref07_Take.j0 k a1 (decide (a1 > (s0_0.size : Int))) s0_0 s0_1) else (concordanceref07_Take.j0 k a1 false s0_0 s0_1)
theorem concordanceref07_Take.mono_l : ∀ k, (∀ y0 y1 y2 y3, LeO (concordanceref07_Take.j0 k y0 y1 y2 y3) (concordanceref07_Take.j0 (k + 1) y0 y1 y2 y3))
 | 0 => fun _ _ _ _ r h => by simp [concordanceref07_Take.j0] at h
 | k + 1 => by
  have ih0 := concordanceref07_Take.mono_l k
  ·intro y0 y1 y2 y3
   unfold concordanceref07_Take.j0
   repeat' first
   | (with_reducible exact ih0 _ _ _ _)
   | (with_reducible exact LeO.refl _)
   | (with_reducible exact LeO.none _)
   | (with_reducible refine LeO.ite ?_ ?_)
   | (with_reducible refine LeO.bind ?_ (fun _ => ?_))
   | exact ih0 _ _ _ _
   | exact LeO.none _
   | refine LeO.ite ?_ ?_
   | refine LeO.bind ?_ (fun _ => ?_)
theorem concordanceref07_Take.mono : ∀ a0 a1 a2 k, LeO (concordanceref07_Take.f k a0 a1 a2) (concordanceref07_Take.f (k + 1) a0 a1 a2) := by
 intro a0 a1 a2 k
 have ih0 := concordanceref07_Take.mono_l k
 unfold concordanceref07_Take.f
 repeat' first
   | (with_reducible exact ih0 _ _ _ _)
   | (with_reducible exact LeO.refl _)
   | (with_reducible exact LeO.none _)
   | (with_reducible refine LeO.ite ?_ ?_)
   | (with_reducible refine LeO.bind ?_ (fun _ => ?_))
   | exact ih0 _ _ _ _
   | exact LeO.none _
   | refine LeO.ite ?_ ?_
   | refine LeO.bind ?_ (fun _ => ?_)
set_option maxHeartbeats 8000000 in
set_option maxRecDepth 100000 in
theorem concordanceref07_Take.calls (k : Nat) (g : Nat) (s0_0 : ByteArray) (s0_1 : Int) (a1 : Int) (r1 : ByteArray) (r2 : ByteArray) (r3 : Int) (w0 w : World) (hI : IsS89 w0 w g s0_0 s0_1) (hB : Below w0.heap.size w0 w) (h : concordanceref07_Take.f k s0_0 s0_1 a1 = some (r1, r2, r3)) :
  Calls Try.prog 31 #[.pointer (some ⟨g, 0, none⟩), .int .i64 a1] w fun e w' => e = .returned (.string r1) ∧ IsS89 w0 w' g r2 r3 ∧ Below w0.heap.size w0 w' ∧ KeepBut w w' g none := by
 have HI0 := Aside0.mk hI
 have HK := Aside0.mk (KeepBut.refl w g none)
 have HL := Aside0.mk hB.size
 clear hI
 have HW0 := Aside0.mk hB.size
 have HB := Aside0.mk hB
 clear hB
 have H : (if s0_1 = 0 then (concordanceref07_Take.j0 k a1 (decide (a1 > (s0_0.size : Int))) s0_0 s0_1) else (concordanceref07_Take.j0 k a1 false s0_0 s0_1)) = some (r1, r2, r3) := h
 clear h
 have HC3 := Aside0.mk H
 clear H
 go_enter Try.func31, Try.ntmps31
 go_upto_region 1 with (fail)
 go_cut [19] (fun v19 wc => ∃ (kq : Nat) (x19_2 : Bool), v19 = .bool x19_2 ∧ Aside0 (concordanceref07_Take.j0 kq a1 x19_2 s0_0 s0_1 = some (r1, r2, r3)) ∧ Aside0 (kq ≤ k) ∧ Aside0 (IsS89 w0 wc g s0_0 s0_1) ∧ Aside0 (KeepBut w wc g none) ∧ Aside0 (Below w0.heap.size w0 wc))
 case first =>
  have H := HC3.out
  clear HC3
  by_cases c4 : s0_1 = 0
  ·rw [if_pos c4] at H
   have c4b0 : (s0_1 == 0) = true := beq_iff_eq.mpr c4
   have c4b1 : (s0_1 != 0) = false := bne_eq_false_iff_eq.mpr c4
   clear c4
   (first | rw [c4b0] | (simp only [i64_w, i32_w]; rw [c4b0]) | skip)
   have H' := Aside0.mk H
   clear H
   obtain ⟨HGz5, hgz5⟩ := HI0.out
   have hcz5_0 := cellS89_0 HGz5
   have hcz5_1 := cellS89_1 HGz5
   have hfz5_0 := blk_frozen HGz5 0
   have hfz5_1 := blk_frozen HGz5 1
   clear HGz5 hgz5
   go_wp2
   go_meet
   case rel => exact ⟨_, (decide (a1 > (s0_0.size : Int))), (by first | rfl | (simp; done) | (simp [*]; done)), H', ⟨by first | omega | exact Nat.le_refl _⟩, ⟨by repeat (first | (with_reducible first | exact HI0.out | apply IsS89.alloc | apply IsS89.drewN | apply IsS89.drew | apply IsS89.set_0 | apply IsS89.set_1) | exact HI0.out)⟩, ⟨by repeat (first | (with_reducible first | exact HK.out | apply KeepBut.set_ | apply keep_drewN | apply keep_drew | apply keep_alloc) | exact HK.out)⟩, ⟨by repeat (first | (with_reducible first | exact HB.out | apply below_alloc | apply pw_below_drewN | apply below_drew1 | refine below_set ?_ (IsS89.ge HI0.out)) | exact HB.out)⟩⟩
  ·rw [if_neg c4] at H
   have c4b0 : (s0_1 == 0) = false := beq_eq_false_iff_ne.mpr c4
   have c4b1 : (s0_1 != 0) = true := bne_iff_ne.mpr c4
   (first | rw [c4b0] | (simp only [i64_w, i32_w]; rw [c4b0]) | skip)
   have H' := Aside0.mk H
   clear H
   obtain ⟨HGz6, hgz6⟩ := HI0.out
   have hcz6_0 := cellS89_0 HGz6
   have hcz6_1 := cellS89_1 HGz6
   have hfz6_0 := blk_frozen HGz6 0
   have hfz6_1 := blk_frozen HGz6 1
   clear HGz6 hgz6
   go_wp2
   go_meet
   case rel => exact ⟨_, (false), (by first | rfl | (simp; done) | (simp [*]; done)), H', ⟨by first | omega | exact Nat.le_refl _⟩, ⟨by repeat (first | (with_reducible first | exact HI0.out | apply IsS89.alloc | apply IsS89.drewN | apply IsS89.drew | apply IsS89.set_0 | apply IsS89.set_1) | exact HI0.out)⟩, ⟨by repeat (first | (with_reducible first | exact HK.out | apply KeepBut.set_ | apply keep_drewN | apply keep_drew | apply keep_alloc) | exact HK.out)⟩, ⟨by repeat (first | (with_reducible first | exact HB.out | apply below_alloc | apply pw_below_drewN | apply below_drew1 | refine below_set ?_ (IsS89.ge HI0.out)) | exact HB.out)⟩⟩
 case rest =>
  clear HC3
  try clear p2
  try clear c3
  try clear c4
  try clear c4b0
  try clear c4b1
  try clear hcz5_0
  try clear hcz5_1
  try clear hcz6_0
  try clear hcz6_1
  try clear hfz5_0
  try clear hfz5_1
  try clear hfz6_0
  try clear hfz6_1
  obtain ⟨kq, x19_2, rfl, HA, HJ2, HI0, HK, HB⟩ := hcut
  cases kq with
  | zero => exact absurd HA.out (by simp [concordanceref07_Take.j0])
  | succ kj2 =>
   have H := HA.out
   clear HA
   simp only [concordanceref07_Take.j0] at H
   by_cases c7 : x19_2 = true
   ·subst c7
    have H1 : (some ((⟨#[]⟩ : ByteArray), s0_0, 3)) = some (r1, r2, r3) := by rw [if_pos rfl] at H; exact H
    clear H
    have H := H1
    clear H1
    simp only [Option.some.injEq, Prod.mk.injEq] at H
    obtain ⟨rfl, rfl, rfl⟩ := H
    obtain ⟨HGz8, hgz8⟩ := HI0.out
    have hcz8_0 := cellS89_0 HGz8
    have hcz8_1 := cellS89_1 HGz8
    have hfz8_0 := blk_frozen HGz8 0
    have hfz8_1 := blk_frozen HGz8 1
    clear HGz8 hgz8
    go_wp2
    go_ret
    exact ⟨by first | rfl | (simp [errW_none, errW_some] <;> rfl) | (simp [*, errW_none, errW_some] <;> rfl), by repeat (first | (with_reducible first | exact HI0.out | apply IsS89.alloc | apply IsS89.drewN | apply IsS89.drew | apply IsS89.set_0 | apply IsS89.set_1) | exact HI0.out), by repeat (first | (with_reducible first | exact HB.out | apply below_alloc | apply pw_below_drewN | apply below_drew1 | refine below_set ?_ (IsS89.ge HI0.out)) | exact HB.out), by repeat (first | (with_reducible first | exact HK.out | apply KeepBut.set_ | apply keep_drewN | apply keep_drew | apply keep_alloc) | exact HK.out)⟩
   ·replace c7 := Bool.eq_false_iff.mpr c7
    subst c7
    have H1 : (if s0_1 = 0 then (if 0 ≤ a1 then (if a1 ≤ (s0_0.size : Int) then (some (s0_0.extract 0 (a1 : Int).toNat, s0_0.extract (a1 : Int).toNat s0_0.size, s0_1)) else (none)) else (none)) else (some ((⟨#[]⟩ : ByteArray), s0_0, s0_1))) = some (r1, r2, r3) := by rw [if_neg (show ¬ (false = true) by decide)] at H; exact H
    clear H
    have H := H1
    clear H1
    by_cases c9 : s0_1 = 0
    ·rw [if_pos c9] at H
     have c9b0 : (s0_1 == 0) = true := beq_iff_eq.mpr c9
     have c9b1 : (s0_1 != 0) = false := bne_eq_false_iff_eq.mpr c9
     clear c9
     by_cases c10 : 0 ≤ a1
     ·rw [if_pos c10] at H
      have c10b0 := eq_true c10
      have c10b1 : decide (0 ≤ a1) = true := decide_eq_true c10
      clear c10
      by_cases c11 : a1 ≤ (s0_0.size : Int)
      ·rw [if_pos c11] at H
       have c11b0 := eq_true c11
       have c11b1 : decide (a1 ≤ (s0_0.size : Int)) = true := decide_eq_true c11
       clear c11
       have c12b0 := eq_true (of_decide_eq_true (by first | (with_reducible assumption) | assumption) : 0 ≤ a1)
       have c13b0 := eq_true (of_decide_eq_true (by first | (with_reducible assumption) | assumption) : a1 ≤ (s0_0.size : Int))
       simp only [Option.some.injEq, Prod.mk.injEq] at H
       obtain ⟨rfl, rfl, rfl⟩ := H
       obtain ⟨HGz14, hgz14⟩ := HI0.out
       have hcz14_0 := cellS89_0 HGz14
       have hcz14_1 := cellS89_1 HGz14
       have hfz14_0 := blk_frozen HGz14 0
       have hfz14_1 := blk_frozen HGz14 1
       clear HGz14 hgz14
       go_wp2
       go_ret
       exact ⟨by first | rfl | (simp [errW_none, errW_some] <;> rfl) | (simp [*, errW_none, errW_some] <;> rfl), by repeat (first | (with_reducible first | exact HI0.out | apply IsS89.alloc | apply IsS89.drewN | apply IsS89.drew | apply IsS89.set_0 | apply IsS89.set_1) | exact HI0.out), by repeat (first | (with_reducible first | exact HB.out | apply below_alloc | apply pw_below_drewN | apply below_drew1 | refine below_set ?_ (IsS89.ge HI0.out)) | exact HB.out), by repeat (first | (with_reducible first | exact HK.out | apply KeepBut.set_ | apply keep_drewN | apply keep_drew | apply keep_alloc) | exact HK.out)⟩
      ·rw [if_neg c11] at H
       exact absurd H (by simp)
     ·rw [if_neg c10] at H
      exact absurd H (by simp)
    ·rw [if_neg c9] at H
     have c9b0 : (s0_1 == 0) = false := beq_eq_false_iff_ne.mpr c9
     have c9b1 : (s0_1 != 0) = true := bne_iff_ne.mpr c9
     simp only [Option.some.injEq, Prod.mk.injEq] at H
     obtain ⟨rfl, rfl, rfl⟩ := H
     obtain ⟨HGz15, hgz15⟩ := HI0.out
     have hcz15_0 := cellS89_0 HGz15
     have hcz15_1 := cellS89_1 HGz15
     have hfz15_0 := blk_frozen HGz15 0
     have hfz15_1 := blk_frozen HGz15 1
     clear HGz15 hgz15
     go_wp2
     go_ret
     exact ⟨by first | rfl | (simp [errW_none, errW_some] <;> rfl) | (simp [*, errW_none, errW_some] <;> rfl), by repeat (first | (with_reducible first | exact HI0.out | apply IsS89.alloc | apply IsS89.drewN | apply IsS89.drew | apply IsS89.set_0 | apply IsS89.set_1) | exact HI0.out), by repeat (first | (with_reducible first | exact HB.out | apply below_alloc | apply pw_below_drewN | apply below_drew1 | refine below_set ?_ (IsS89.ge HI0.out)) | exact HB.out), by repeat (first | (with_reducible first | exact HK.out | apply KeepBut.set_ | apply keep_drewN | apply keep_drew | apply keep_alloc) | exact HK.out)⟩

end Go.Proofs.Yteehchhmonlkkaa.GP
