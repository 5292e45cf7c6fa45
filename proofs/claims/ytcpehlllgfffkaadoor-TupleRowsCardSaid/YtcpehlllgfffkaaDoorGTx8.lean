-- Written by a program of this session (wip/pv.py, which turns the kit's print.py in a scratch copy): see NOTES.md.
import Derived.Test.YtcpehlllgfffkaaDoorGTx0
import Derived.Test.YtcpehlllgfffkaaDoorGTx3
import Derived.Test.YtcpehlllgfffkaaDoorGTx5
namespace Go.Proofs.YtcpehlllgfffkaaDoor.GT
open Go.RowKit Go.Proofs.YtcpehlllgfffkaaDoorW.PrintWords Go.Proofs.YtcpehlllgfffkaaDoorW.PrintLast Go.Proofs.YtcpehlllgfffkaaDoorW.PrintMore
attribute [local go_sem] max2_int min2_int max_two min_two max_three min_three max_four min_four   -- for this text's walks alone
set_option linter.unusedVariables false
set_option linter.unusedSimpArgs false

/-! ### tuple_Fits: function 27 -/
def tuple_Fits.l0 : Nat → List (S65) → List (S25) → Int → Int → Option (Int)
 | 0, _, _, _, _ => none
 | k + 1, x0, x14, x15, x16 => if x16 < x15 then (if 0 ≤ x16 then (if x16 < (x14.length : Int) then (if x16 < (x0.length : Int) then (if (((rd_T25 x14 x16).f2) != ((rd_T65 x0 x16).f1)) = true then (some 15) else ((keys_Put.f k (([(⟨(rd_T25 x14 x16).f0, (rd_T25 x14 x16).f1, (rd_T25 x14 x16).f2⟩ : S25)] : List (S25)))).bind fun bt326 => (if bt326.2 = 0 then (tuple_Fits.l0 k x0 x14 x15 (wrap64 (x16 + 1))) else (some bt326.2)))) else (none)) else (none)) else (none)) else (some 0)
def tuple_Fits.f (k : Nat) (l0 : List (S65)) (l1 : List (S25)) : Option (Int) := if (l0.length : Int) = (l1.length : Int) then (tuple_Fits.l0 k l0 l1 (l1.length : Int) 0) else (some 14)
theorem tuple_Fits.mono_l : ∀ k, (∀ y0 y1 y2 y3, LeO (tuple_Fits.l0 k y0 y1 y2 y3) (tuple_Fits.l0 (k + 1) y0 y1 y2 y3))
 | 0 => fun _ _ _ _ r h => by simp [tuple_Fits.l0] at h
 | k + 1 => by
  have ih0 := tuple_Fits.mono_l k
  ·intro y0 y1 y2 y3
   unfold tuple_Fits.l0
   repeat' first
   | (with_reducible exact ih0 _ _ _ _)
   | (with_reducible exact keys_Put.mono _ _)
   | (with_reducible exact LeO.refl _)
   | (with_reducible exact LeO.none _)
   | (with_reducible refine LeO.ite ?_ ?_)
   | (with_reducible refine LeO.bind ?_ (fun _ => ?_))
   | exact ih0 _ _ _ _
   | exact keys_Put.mono _ _
   | exact LeO.none _
   | refine LeO.ite ?_ ?_
   | refine LeO.bind ?_ (fun _ => ?_)
theorem tuple_Fits.mono : ∀ a0 a1 k, LeO (tuple_Fits.f k a0 a1) (tuple_Fits.f (k + 1) a0 a1) := by
 intro a0 a1 k
 have ih0 := tuple_Fits.mono_l k
 unfold tuple_Fits.f
 repeat' first
   | (with_reducible exact ih0 _ _ _ _)
   | (with_reducible exact keys_Put.mono _ _)
   | (with_reducible exact LeO.refl _)
   | (with_reducible exact LeO.none _)
   | (with_reducible refine LeO.ite ?_ ?_)
   | (with_reducible refine LeO.bind ?_ (fun _ => ?_))
   | exact ih0 _ _ _ _
   | exact keys_Put.mono _ _
   | exact LeO.none _
   | refine LeO.ite ?_ ?_
   | refine LeO.bind ?_ (fun _ => ?_)
set_option maxHeartbeats 8000000 in
set_option maxRecDepth 100000 in
theorem tuple_Fits.calls (k : Nat) (A0 : Option Addr) (c0 : Nat) (l0 : List (S65)) (A1 : Option Addr) (c1 : Nat) (l1 : List (S25)) (r : Int) (w : World) (hr0 : Kd.C k65 w A0 l0.length l0) (hc0 : l0.length ≤ c0) (hr1 : Kd.C k25 w A1 l1.length l1) (hc1 : l1.length ≤ c1) (h : tuple_Fits.f k l0 l1 = some r) :
  Calls Tryd.prog 27 #[.slice A0 l0.length c0, .slice A1 l1.length c1] w fun e w' => e = .returned (.int .i64 r) ∧ Below w.heap.size w w' := by
 have hu25 := Tryd.underlying25
 have HR0 := Aside0.mk hr0
 have HC0 := Aside0.mk hc0
 clear hr0 hc0
 have HR1 := Aside0.mk hr1
 have HC1 := Aside0.mk hc1
 clear hr1 hc1
 have HB := Aside0.mk (Below.refl w.heap.size w)
 have H : (if (l0.length : Int) = (l1.length : Int) then (tuple_Fits.l0 k l0 l1 (l1.length : Int) 0) else (some 14)) = some r := h
 clear h
 by_cases c3 : (l0.length : Int) = (l1.length : Int)
 ·rw [if_pos c3] at H
  have c3b0 : ((l0.length : Int) == (l1.length : Int)) = true := beq_iff_eq.mpr c3
  have c3b1 : ((l0.length : Int) != (l1.length : Int)) = false := bne_eq_false_iff_eq.mpr c3
  have c3b2 : (l0.length == l1.length) = true := by first | simpa using c3 | (simp at c3 ⊢; omega)
  clear c3
  have H' := Aside0.mk H
  clear H
  go_enter Tryd.func27, Tryd.ntmps27
  go_wp2
  repeat (go_quiet (fail); try go_wp2)
  go_loopg [16] k (fun kq v16 w' => ∃ (x16_1 : Int), v16 = .int .i64 x16_1 ∧ Aside0 (tuple_Fits.l0 kq l0 l1 (l1.length : Int) x16_1 = some r) ∧ Aside0 (kq ≤ k) ∧ Aside0 (Below w.heap.size w w'))
  case atStart => exact ⟨(0), (by first | rfl | (simp; done) | (simp [*]; done)), H', ⟨Nat.le_refl _⟩, ⟨by repeat (first | (with_reducible first | exact HB.out | apply below_alloc | apply pw_below_drewN | apply below_drew1) | exact HB.out)⟩⟩
  case round =>
   clear H'
   try clear c1
   try clear c2
   try clear p2
   try clear c3
   try clear c3b0
   try clear c3b1
   try clear c3b2
   obtain ⟨x16_1, rfl, HA, HK1, HB⟩ := hrel
   cases gk with
   | zero => exact absurd HA.out (by simp [tuple_Fits.l0])
   | succ k1 =>
    have H := HA.out
    clear HA
    simp only [tuple_Fits.l0] at H
    by_cases c4 : x16_1 < (l1.length : Int)
    ·rw [if_pos c4] at H
     have c4b0 : decide (x16_1 < (l1.length : Int)) = true := decide_eq_true c4
     clear c4
     by_cases c5 : 0 ≤ x16_1
     ·rw [if_pos c5] at H
      have c5b0 : decide (0 ≤ x16_1) = true := decide_eq_true c5
      clear c5
      by_cases c6 : x16_1 < (l1.length : Int)
      ·rw [if_pos c6] at H
       have c6b0 : decide (x16_1 < (l1.length : Int)) = true := decide_eq_true c6
       clear c6
       by_cases c7 : x16_1 < (l0.length : Int)
       ·rw [if_pos c7] at H
        have c7b0 : decide (x16_1 < (l0.length : Int)) = true := decide_eq_true c7
        clear c7
        by_cases c8 : (((rd_T25 l1 x16_1).f2) != ((rd_T65 l0 x16_1).f1)) = true
        ·rw [if_pos c8] at H
         have c8b0 : (((rd_T25 l1 x16_1).f2) != ((rd_T65 l0 x16_1).f1)) = true := c8
         (try (have c8b1 : decide (((rd_T25 l1 x16_1).f2) = ((rd_T65 l0 x16_1).f1)) = false := by simpa using c8))
         (try (have c8b2 : (((rd_T25 l1 x16_1).f2) == ((rd_T65 l0 x16_1).f1)) = false := by simpa using c8))
         (try (have c8b3 : ¬ (((rd_T25 l1 x16_1).f2) = ((rd_T65 l0 x16_1).f1)) := by simpa using c8))
         clear c8
         obtain rfl := Option.some.inj H
         have p320 : 0 ≤ (x16_1 : Int) := of_decide_eq_true (by first | (with_reducible assumption) | assumption)
         have q320 : x16_1 < (l1.length : Int) := of_decide_eq_true (by first | (with_reducible assumption) | assumption)
         obtain ⟨ad320, e320, hx320_0, hx320_1, hx320_2⟩ := at_T25 HR1.out x16_1 p320 q320
         cases e320
         replace hx320_0 := (HB.out.cell (World.block_lt_of_cell? w _ hx320_0)).trans hx320_0
         replace hx320_1 := (HB.out.cell (World.block_lt_of_cell? w _ hx320_1)).trans hx320_1
         replace hx320_2 := (HB.out.cell (World.block_lt_of_cell? w _ hx320_2)).trans hx320_2
         replace p320 := eq_true p320
         replace q320 := eq_true q320
         go_wp2_with (first | ((with_reducible refine gate_dst (N := 6) rfl ?_); refine box_event ?hg (N := 6) ?hd (cs := #[.string (⟨#[]⟩ : ByteArray), .int .i64 0, .bool false]) (t := 25) ?hr ?_; (case hd => rfl); (case hg => rfl); (case hr => first | (go_simp; done) | (go_simp; rfl)); intro gb321 hg w9 hbox hb; have n0_ := Aside0.mk (below_step (by repeat (first | (with_reducible first | exact HB.out | apply below_alloc | apply pw_below_drewN | apply below_drew1) | exact HB.out)) hb); have n1_ := Aside0.mk (hbox); have n2_ := Aside0.mk ((by rw [hg]; exact (below_size (by repeat (first | (with_reducible first | exact HB.out | apply below_alloc | apply pw_below_drewN | apply below_drew1) | exact HB.out))) : w.heap.size ≤ gb321)); have n3_ := Aside0.mk ((by rw [hg]; exact (below_size (by repeat (first | (with_reducible first | exact HB.out | apply below_alloc | apply pw_below_drewN | apply below_drew1) | exact HB.out))) : w.heap.size ≤ gb321)); clear HB; have HB := n0_; have BK321 := n1_; have GW321 := n2_; have GE321 := n3_; clear n0_ n1_ n2_ n3_; clear hb hbox hg; have hcz10_0 : w9.cell? ⟨gb321, 0, none⟩ = some (.string (⟨#[]⟩ : ByteArray)) := (blk_cell BK321.out 0).trans rfl; have hcz10_1 : w9.cell? ⟨gb321, 1, none⟩ = some (.int .i64 0) := (blk_cell BK321.out 1).trans rfl; have hcz10_2 : w9.cell? ⟨gb321, 2, none⟩ = some (.bool false) := (blk_cell BK321.out 2).trans rfl; have hfz10_0 := blk_frozen BK321.out 0; have hfz10_1 := blk_frozen BK321.out 1; have hfz10_2 := blk_frozen BK321.out 2; have p322 : 0 ≤ (x16_1 : Int) := of_decide_eq_true (by first | (with_reducible assumption) | assumption); have q322 : x16_1 < (l0.length : Int) := of_decide_eq_true (by first | (with_reducible assumption) | assumption); obtain ⟨ad322, e322, hx322_0, hx322_1⟩ := at_T65 HR0.out x16_1 p322 q322; cases e322; have hn322_0 : ad322.block ≠ gb321 := Nat.ne_of_lt (Nat.lt_of_lt_of_le (by have := World.block_lt_of_cell? _ _ hx322_0; first | rwa [add_block] at this | exact this) GW321.out); have hn322_1 : ad322.block ≠ gb321 := Nat.ne_of_lt (Nat.lt_of_lt_of_le (by have := World.block_lt_of_cell? _ _ hx322_0; first | rwa [add_block] at this | exact this) GW321.out); have hn322_2 : ad322.block ≠ gb321 := Nat.ne_of_lt (Nat.lt_of_lt_of_le (by have := World.block_lt_of_cell? _ _ hx322_0; first | rwa [add_block] at this | exact this) GW321.out); replace hx322_0 := (HB.out.cell (World.block_lt_of_cell? w _ hx322_0)).trans hx322_0; replace hx322_1 := (HB.out.cell (World.block_lt_of_cell? w _ hx322_1)).trans hx322_1; replace hx322_0 := (cell_far (p := ⟨gb321, 0, none⟩) (by first | (rw [add_block]; exact hn322_0) | (show (Addr.add _ _).block ≠ _; rw [add_block]; exact hn322_0) | exact hn322_0) (.string ((rd_T25 l1 x16_1).f0))).trans hx322_0; replace hx322_1 := (cell_far (p := ⟨gb321, 0, none⟩) (by first | (rw [add_block]; exact hn322_0) | (show (Addr.add _ _).block ≠ _; rw [add_block]; exact hn322_0) | exact hn322_0) (.string ((rd_T25 l1 x16_1).f0))).trans hx322_1; replace hx322_0 := (cell_far (p := ⟨gb321, 1, none⟩) (by first | (rw [add_block]; exact hn322_1) | (show (Addr.add _ _).block ≠ _; rw [add_block]; exact hn322_1) | exact hn322_1) (.int .i64 ((rd_T25 l1 x16_1).f1))).trans hx322_0; replace hx322_1 := (cell_far (p := ⟨gb321, 1, none⟩) (by first | (rw [add_block]; exact hn322_1) | (show (Addr.add _ _).block ≠ _; rw [add_block]; exact hn322_1) | exact hn322_1) (.int .i64 ((rd_T25 l1 x16_1).f1))).trans hx322_1; replace hx322_0 := (cell_far (p := ⟨gb321, 2, none⟩) (by first | (rw [add_block]; exact hn322_2) | (show (Addr.add _ _).block ≠ _; rw [add_block]; exact hn322_2) | exact hn322_2) (.bool ((rd_T25 l1 x16_1).f2))).trans hx322_0; replace hx322_1 := (cell_far (p := ⟨gb321, 2, none⟩) (by first | (rw [add_block]; exact hn322_2) | (show (Addr.add _ _).block ≠ _; rw [add_block]; exact hn322_2) | exact hn322_2) (.bool ((rd_T25 l1 x16_1).f2))).trans hx322_1; (try have hy322_0 := fun (n_ : Nat) => (show (((((w9.drewN n_).setCell ⟨gb321, 0, none⟩ (.string ((rd_T25 l1 x16_1).f0))).setCell ⟨gb321, 1, none⟩ (.int .i64 ((rd_T25 l1 x16_1).f1))).setCell ⟨gb321, 2, none⟩ (.bool ((rd_T25 l1 x16_1).f2)))).cell? _ = some _ from hx322_0)); (try have hy322_1 := fun (n_ : Nat) => (show (((((w9.drewN n_).setCell ⟨gb321, 0, none⟩ (.string ((rd_T25 l1 x16_1).f0))).setCell ⟨gb321, 1, none⟩ (.int .i64 ((rd_T25 l1 x16_1).f1))).setCell ⟨gb321, 2, none⟩ (.bool ((rd_T25 l1 x16_1).f2)))).cell? _ = some _ from hx322_1)); clear hn322_0; clear hn322_1; clear hn322_2; replace p322 := eq_true p322; replace q322 := eq_true q322))
         repeat (go_quiet (first | ((with_reducible refine gate_dst (N := 6) rfl ?_); refine box_event ?hg (N := 6) ?hd (cs := #[.string (⟨#[]⟩ : ByteArray), .int .i64 0, .bool false]) (t := 25) ?hr ?_; (case hd => rfl); (case hg => rfl); (case hr => first | (go_simp; done) | (go_simp; rfl)); intro gb321 hg w9 hbox hb; have n0_ := Aside0.mk (below_step (by repeat (first | (with_reducible first | exact HB.out | apply below_alloc | apply pw_below_drewN | apply below_drew1) | exact HB.out)) hb); have n1_ := Aside0.mk (hbox); have n2_ := Aside0.mk ((by rw [hg]; exact (below_size (by repeat (first | (with_reducible first | exact HB.out | apply below_alloc | apply pw_below_drewN | apply below_drew1) | exact HB.out))) : w.heap.size ≤ gb321)); have n3_ := Aside0.mk ((by rw [hg]; exact (below_size (by repeat (first | (with_reducible first | exact HB.out | apply below_alloc | apply pw_below_drewN | apply below_drew1) | exact HB.out))) : w.heap.size ≤ gb321)); clear HB; have HB := n0_; have BK321 := n1_; have GW321 := n2_; have GE321 := n3_; clear n0_ n1_ n2_ n3_; clear hb hbox hg; have hcz10_0 : w9.cell? ⟨gb321, 0, none⟩ = some (.string (⟨#[]⟩ : ByteArray)) := (blk_cell BK321.out 0).trans rfl; have hcz10_1 : w9.cell? ⟨gb321, 1, none⟩ = some (.int .i64 0) := (blk_cell BK321.out 1).trans rfl; have hcz10_2 : w9.cell? ⟨gb321, 2, none⟩ = some (.bool false) := (blk_cell BK321.out 2).trans rfl; have hfz10_0 := blk_frozen BK321.out 0; have hfz10_1 := blk_frozen BK321.out 1; have hfz10_2 := blk_frozen BK321.out 2; have p322 : 0 ≤ (x16_1 : Int) := of_decide_eq_true (by first | (with_reducible assumption) | assumption); have q322 : x16_1 < (l0.length : Int) := of_decide_eq_true (by first | (with_reducible assumption) | assumption); obtain ⟨ad322, e322, hx322_0, hx322_1⟩ := at_T65 HR0.out x16_1 p322 q322; cases e322; have hn322_0 : ad322.block ≠ gb321 := Nat.ne_of_lt (Nat.lt_of_lt_of_le (by have := World.block_lt_of_cell? _ _ hx322_0; first | rwa [add_block] at this | exact this) GW321.out); have hn322_1 : ad322.block ≠ gb321 := Nat.ne_of_lt (Nat.lt_of_lt_of_le (by have := World.block_lt_of_cell? _ _ hx322_0; first | rwa [add_block] at this | exact this) GW321.out); have hn322_2 : ad322.block ≠ gb321 := Nat.ne_of_lt (Nat.lt_of_lt_of_le (by have := World.block_lt_of_cell? _ _ hx322_0; first | rwa [add_block] at this | exact this) GW321.out); replace hx322_0 := (HB.out.cell (World.block_lt_of_cell? w _ hx322_0)).trans hx322_0; replace hx322_1 := (HB.out.cell (World.block_lt_of_cell? w _ hx322_1)).trans hx322_1; replace hx322_0 := (cell_far (p := ⟨gb321, 0, none⟩) (by first | (rw [add_block]; exact hn322_0) | (show (Addr.add _ _).block ≠ _; rw [add_block]; exact hn322_0) | exact hn322_0) (.string ((rd_T25 l1 x16_1).f0))).trans hx322_0; replace hx322_1 := (cell_far (p := ⟨gb321, 0, none⟩) (by first | (rw [add_block]; exact hn322_0) | (show (Addr.add _ _).block ≠ _; rw [add_block]; exact hn322_0) | exact hn322_0) (.string ((rd_T25 l1 x16_1).f0))).trans hx322_1; replace hx322_0 := (cell_far (p := ⟨gb321, 1, none⟩) (by first | (rw [add_block]; exact hn322_1) | (show (Addr.add _ _).block ≠ _; rw [add_block]; exact hn322_1) | exact hn322_1) (.int .i64 ((rd_T25 l1 x16_1).f1))).trans hx322_0; replace hx322_1 := (cell_far (p := ⟨gb321, 1, none⟩) (by first | (rw [add_block]; exact hn322_1) | (show (Addr.add _ _).block ≠ _; rw [add_block]; exact hn322_1) | exact hn322_1) (.int .i64 ((rd_T25 l1 x16_1).f1))).trans hx322_1; replace hx322_0 := (cell_far (p := ⟨gb321, 2, none⟩) (by first | (rw [add_block]; exact hn322_2) | (show (Addr.add _ _).block ≠ _; rw [add_block]; exact hn322_2) | exact hn322_2) (.bool ((rd_T25 l1 x16_1).f2))).trans hx322_0; replace hx322_1 := (cell_far (p := ⟨gb321, 2, none⟩) (by first | (rw [add_block]; exact hn322_2) | (show (Addr.add _ _).block ≠ _; rw [add_block]; exact hn322_2) | exact hn322_2) (.bool ((rd_T25 l1 x16_1).f2))).trans hx322_1; (try have hy322_0 := fun (n_ : Nat) => (show (((((w9.drewN n_).setCell ⟨gb321, 0, none⟩ (.string ((rd_T25 l1 x16_1).f0))).setCell ⟨gb321, 1, none⟩ (.int .i64 ((rd_T25 l1 x16_1).f1))).setCell ⟨gb321, 2, none⟩ (.bool ((rd_T25 l1 x16_1).f2)))).cell? _ = some _ from hx322_0)); (try have hy322_1 := fun (n_ : Nat) => (show (((((w9.drewN n_).setCell ⟨gb321, 0, none⟩ (.string ((rd_T25 l1 x16_1).f0))).setCell ⟨gb321, 1, none⟩ (.int .i64 ((rd_T25 l1 x16_1).f1))).setCell ⟨gb321, 2, none⟩ (.bool ((rd_T25 l1 x16_1).f2)))).cell? _ = some _ from hx322_1)); clear hn322_0; clear hn322_1; clear hn322_2; replace p322 := eq_true p322; replace q322 := eq_true q322)); try go_wp2_with (first | ((with_reducible refine gate_dst (N := 6) rfl ?_); refine box_event ?hg (N := 6) ?hd (cs := #[.string (⟨#[]⟩ : ByteArray), .int .i64 0, .bool false]) (t := 25) ?hr ?_; (case hd => rfl); (case hg => rfl); (case hr => first | (go_simp; done) | (go_simp; rfl)); intro gb321 hg w9 hbox hb; have n0_ := Aside0.mk (below_step (by repeat (first | (with_reducible first | exact HB.out | apply below_alloc | apply pw_below_drewN | apply below_drew1) | exact HB.out)) hb); have n1_ := Aside0.mk (hbox); have n2_ := Aside0.mk ((by rw [hg]; exact (below_size (by repeat (first | (with_reducible first | exact HB.out | apply below_alloc | apply pw_below_drewN | apply below_drew1) | exact HB.out))) : w.heap.size ≤ gb321)); have n3_ := Aside0.mk ((by rw [hg]; exact (below_size (by repeat (first | (with_reducible first | exact HB.out | apply below_alloc | apply pw_below_drewN | apply below_drew1) | exact HB.out))) : w.heap.size ≤ gb321)); clear HB; have HB := n0_; have BK321 := n1_; have GW321 := n2_; have GE321 := n3_; clear n0_ n1_ n2_ n3_; clear hb hbox hg; have hcz10_0 : w9.cell? ⟨gb321, 0, none⟩ = some (.string (⟨#[]⟩ : ByteArray)) := (blk_cell BK321.out 0).trans rfl; have hcz10_1 : w9.cell? ⟨gb321, 1, none⟩ = some (.int .i64 0) := (blk_cell BK321.out 1).trans rfl; have hcz10_2 : w9.cell? ⟨gb321, 2, none⟩ = some (.bool false) := (blk_cell BK321.out 2).trans rfl; have hfz10_0 := blk_frozen BK321.out 0; have hfz10_1 := blk_frozen BK321.out 1; have hfz10_2 := blk_frozen BK321.out 2; have p322 : 0 ≤ (x16_1 : Int) := of_decide_eq_true (by first | (with_reducible assumption) | assumption); have q322 : x16_1 < (l0.length : Int) := of_decide_eq_true (by first | (with_reducible assumption) | assumption); obtain ⟨ad322, e322, hx322_0, hx322_1⟩ := at_T65 HR0.out x16_1 p322 q322; cases e322; have hn322_0 : ad322.block ≠ gb321 := Nat.ne_of_lt (Nat.lt_of_lt_of_le (by have := World.block_lt_of_cell? _ _ hx322_0; first | rwa [add_block] at this | exact this) GW321.out); have hn322_1 : ad322.block ≠ gb321 := Nat.ne_of_lt (Nat.lt_of_lt_of_le (by have := World.block_lt_of_cell? _ _ hx322_0; first | rwa [add_block] at this | exact this) GW321.out); have hn322_2 : ad322.block ≠ gb321 := Nat.ne_of_lt (Nat.lt_of_lt_of_le (by have := World.block_lt_of_cell? _ _ hx322_0; first | rwa [add_block] at this | exact this) GW321.out); replace hx322_0 := (HB.out.cell (World.block_lt_of_cell? w _ hx322_0)).trans hx322_0; replace hx322_1 := (HB.out.cell (World.block_lt_of_cell? w _ hx322_1)).trans hx322_1; replace hx322_0 := (cell_far (p := ⟨gb321, 0, none⟩) (by first | (rw [add_block]; exact hn322_0) | (show (Addr.add _ _).block ≠ _; rw [add_block]; exact hn322_0) | exact hn322_0) (.string ((rd_T25 l1 x16_1).f0))).trans hx322_0; replace hx322_1 := (cell_far (p := ⟨gb321, 0, none⟩) (by first | (rw [add_block]; exact hn322_0) | (show (Addr.add _ _).block ≠ _; rw [add_block]; exact hn322_0) | exact hn322_0) (.string ((rd_T25 l1 x16_1).f0))).trans hx322_1; replace hx322_0 := (cell_far (p := ⟨gb321, 1, none⟩) (by first | (rw [add_block]; exact hn322_1) | (show (Addr.add _ _).block ≠ _; rw [add_block]; exact hn322_1) | exact hn322_1) (.int .i64 ((rd_T25 l1 x16_1).f1))).trans hx322_0; replace hx322_1 := (cell_far (p := ⟨gb321, 1, none⟩) (by first | (rw [add_block]; exact hn322_1) | (show (Addr.add _ _).block ≠ _; rw [add_block]; exact hn322_1) | exact hn322_1) (.int .i64 ((rd_T25 l1 x16_1).f1))).trans hx322_1; replace hx322_0 := (cell_far (p := ⟨gb321, 2, none⟩) (by first | (rw [add_block]; exact hn322_2) | (show (Addr.add _ _).block ≠ _; rw [add_block]; exact hn322_2) | exact hn322_2) (.bool ((rd_T25 l1 x16_1).f2))).trans hx322_0; replace hx322_1 := (cell_far (p := ⟨gb321, 2, none⟩) (by first | (rw [add_block]; exact hn322_2) | (show (Addr.add _ _).block ≠ _; rw [add_block]; exact hn322_2) | exact hn322_2) (.bool ((rd_T25 l1 x16_1).f2))).trans hx322_1; (try have hy322_0 := fun (n_ : Nat) => (show (((((w9.drewN n_).setCell ⟨gb321, 0, none⟩ (.string ((rd_T25 l1 x16_1).f0))).setCell ⟨gb321, 1, none⟩ (.int .i64 ((rd_T25 l1 x16_1).f1))).setCell ⟨gb321, 2, none⟩ (.bool ((rd_T25 l1 x16_1).f2)))).cell? _ = some _ from hx322_0)); (try have hy322_1 := fun (n_ : Nat) => (show (((((w9.drewN n_).setCell ⟨gb321, 0, none⟩ (.string ((rd_T25 l1 x16_1).f0))).setCell ⟨gb321, 1, none⟩ (.int .i64 ((rd_T25 l1 x16_1).f1))).setCell ⟨gb321, 2, none⟩ (.bool ((rd_T25 l1 x16_1).f2)))).cell? _ = some _ from hx322_1)); clear hn322_0; clear hn322_1; clear hn322_2; replace p322 := eq_true p322; replace q322 := eq_true q322)))
         go_ret
         exact ⟨by first | rfl | (simp [errW_none, errW_some] <;> rfl) | (simp [*, errW_none, errW_some] <;> rfl), by repeat (first | (with_reducible first | exact HB.out | apply below_alloc | apply pw_below_drewN | apply below_drew1 | refine below_set ?_ GE321.out) | exact HB.out)⟩
        ·rw [if_neg c8] at H
         have c8b0 : (((rd_T25 l1 x16_1).f2) != ((rd_T65 l0 x16_1).f1)) = false := by simpa using c8
         (try (have c8b1 : decide (((rd_T25 l1 x16_1).f2) = ((rd_T65 l0 x16_1).f1)) = true := by simpa using c8))
         (try (have c8b2 : (((rd_T25 l1 x16_1).f2) == ((rd_T65 l0 x16_1).f1)) = true := by simpa using c8))
         clear c8
         obtain ⟨y323, hy323⟩ : ∃ y_ : List (S25), y_ = (([(⟨(rd_T25 l1 x16_1).f0, (rd_T25 l1 x16_1).f1, (rd_T25 l1 x16_1).f2⟩ : S25)] : List (S25))) := ⟨_, rfl⟩
         replace H : ((keys_Put.f k1 y323).bind fun bt326 => (if bt326.2 = 0 then (tuple_Fits.l0 k1 l0 l1 (l1.length : Int) (wrap64 (x16_1 + 1))) else (some bt326.2))) = some r := by first | (rw [hy323]; with_reducible exact H) | (have H2_ := (Option.bind_some _ _).symm.trans H; rw [hy323]; with_reducible exact H2_) | (have H2_ := (Option.bind_some _ _).symm.trans H; with_reducible exact H2_) | with_reducible exact H | (rw [hy323]; exact H) | exact H
         have Ny323 := Aside0.mk hy323
         clear hy323
         replace H := Option.bind_eq_some_iff.mp H
         obtain ⟨⟨t326, t327⟩, A110, H⟩ := H
         replace H : (if t327 = 0 then (tuple_Fits.l0 k1 l0 l1 (l1.length : Int) (wrap64 (x16_1 + 1))) else (some t327)) = some r := H
         have A11 := Aside0.mk A110
         clear A110
         by_cases c12 : t327 = 0
         ·rw [if_pos c12] at H
          have c12b0 : (t327 == 0) = true := beq_iff_eq.mpr c12
          have c12b1 : (t327 != 0) = false := bne_eq_false_iff_eq.mpr c12
          clear c12
          have H' := Aside0.mk H
          clear H
          have p320 : 0 ≤ (x16_1 : Int) := of_decide_eq_true (by first | (with_reducible assumption) | assumption)
          have q320 : x16_1 < (l1.length : Int) := of_decide_eq_true (by first | (with_reducible assumption) | assumption)
          obtain ⟨ad320, e320, hx320_0, hx320_1, hx320_2⟩ := at_T25 HR1.out x16_1 p320 q320
          cases e320
          replace hx320_0 := (HB.out.cell (World.block_lt_of_cell? w _ hx320_0)).trans hx320_0
          replace hx320_1 := (HB.out.cell (World.block_lt_of_cell? w _ hx320_1)).trans hx320_1
          replace hx320_2 := (HB.out.cell (World.block_lt_of_cell? w _ hx320_2)).trans hx320_2
          replace p320 := eq_true p320
          replace q320 := eq_true q320
          go_wp2_with (first | ((with_reducible refine gate_dst (N := 6) rfl ?_); refine box_event ?hg (N := 6) ?hd (cs := #[.string (⟨#[]⟩ : ByteArray), .int .i64 0, .bool false]) (t := 25) ?hr ?_; (case hd => rfl); (case hg => rfl); (case hr => first | (go_simp; done) | (go_simp; rfl)); intro gb321 hg w13 hbox hb; have n0_ := Aside0.mk (below_step (by repeat (first | (with_reducible first | exact HB.out | apply below_alloc | apply pw_below_drewN | apply below_drew1) | exact HB.out)) hb); have n1_ := Aside0.mk (hbox); have n2_ := Aside0.mk ((by rw [hg]; exact (below_size (by repeat (first | (with_reducible first | exact HB.out | apply below_alloc | apply pw_below_drewN | apply below_drew1) | exact HB.out))) : w.heap.size ≤ gb321)); have n3_ := Aside0.mk ((by rw [hg]; exact (below_size (by repeat (first | (with_reducible first | exact HB.out | apply below_alloc | apply pw_below_drewN | apply below_drew1) | exact HB.out))) : w.heap.size ≤ gb321)); clear HB; have HB := n0_; have BK321 := n1_; have GW321 := n2_; have GE321 := n3_; clear n0_ n1_ n2_ n3_; clear hb hbox hg; have hcz14_0 : w13.cell? ⟨gb321, 0, none⟩ = some (.string (⟨#[]⟩ : ByteArray)) := (blk_cell BK321.out 0).trans rfl; have hcz14_1 : w13.cell? ⟨gb321, 1, none⟩ = some (.int .i64 0) := (blk_cell BK321.out 1).trans rfl; have hcz14_2 : w13.cell? ⟨gb321, 2, none⟩ = some (.bool false) := (blk_cell BK321.out 2).trans rfl; have hfz14_0 := blk_frozen BK321.out 0; have hfz14_1 := blk_frozen BK321.out 1; have hfz14_2 := blk_frozen BK321.out 2; have p322 : 0 ≤ (x16_1 : Int) := of_decide_eq_true (by first | (with_reducible assumption) | assumption); have q322 : x16_1 < (l0.length : Int) := of_decide_eq_true (by first | (with_reducible assumption) | assumption); obtain ⟨ad322, e322, hx322_0, hx322_1⟩ := at_T65 HR0.out x16_1 p322 q322; cases e322; have hn322_0 : ad322.block ≠ gb321 := Nat.ne_of_lt (Nat.lt_of_lt_of_le (by have := World.block_lt_of_cell? _ _ hx322_0; first | rwa [add_block] at this | exact this) GW321.out); have hn322_1 : ad322.block ≠ gb321 := Nat.ne_of_lt (Nat.lt_of_lt_of_le (by have := World.block_lt_of_cell? _ _ hx322_0; first | rwa [add_block] at this | exact this) GW321.out); have hn322_2 : ad322.block ≠ gb321 := Nat.ne_of_lt (Nat.lt_of_lt_of_le (by have := World.block_lt_of_cell? _ _ hx322_0; first | rwa [add_block] at this | exact this) GW321.out); replace hx322_0 := (HB.out.cell (World.block_lt_of_cell? w _ hx322_0)).trans hx322_0; replace hx322_1 := (HB.out.cell (World.block_lt_of_cell? w _ hx322_1)).trans hx322_1; replace hx322_0 := (cell_far (p := ⟨gb321, 0, none⟩) (by first | (rw [add_block]; exact hn322_0) | (show (Addr.add _ _).block ≠ _; rw [add_block]; exact hn322_0) | exact hn322_0) (.string ((rd_T25 l1 x16_1).f0))).trans hx322_0; replace hx322_1 := (cell_far (p := ⟨gb321, 0, none⟩) (by first | (rw [add_block]; exact hn322_0) | (show (Addr.add _ _).block ≠ _; rw [add_block]; exact hn322_0) | exact hn322_0) (.string ((rd_T25 l1 x16_1).f0))).trans hx322_1; replace hx322_0 := (cell_far (p := ⟨gb321, 1, none⟩) (by first | (rw [add_block]; exact hn322_1) | (show (Addr.add _ _).block ≠ _; rw [add_block]; exact hn322_1) | exact hn322_1) (.int .i64 ((rd_T25 l1 x16_1).f1))).trans hx322_0; replace hx322_1 := (cell_far (p := ⟨gb321, 1, none⟩) (by first | (rw [add_block]; exact hn322_1) | (show (Addr.add _ _).block ≠ _; rw [add_block]; exact hn322_1) | exact hn322_1) (.int .i64 ((rd_T25 l1 x16_1).f1))).trans hx322_1; replace hx322_0 := (cell_far (p := ⟨gb321, 2, none⟩) (by first | (rw [add_block]; exact hn322_2) | (show (Addr.add _ _).block ≠ _; rw [add_block]; exact hn322_2) | exact hn322_2) (.bool ((rd_T25 l1 x16_1).f2))).trans hx322_0; replace hx322_1 := (cell_far (p := ⟨gb321, 2, none⟩) (by first | (rw [add_block]; exact hn322_2) | (show (Addr.add _ _).block ≠ _; rw [add_block]; exact hn322_2) | exact hn322_2) (.bool ((rd_T25 l1 x16_1).f2))).trans hx322_1; (try have hy322_0 := fun (n_ : Nat) => (show (((((w13.drewN n_).setCell ⟨gb321, 0, none⟩ (.string ((rd_T25 l1 x16_1).f0))).setCell ⟨gb321, 1, none⟩ (.int .i64 ((rd_T25 l1 x16_1).f1))).setCell ⟨gb321, 2, none⟩ (.bool ((rd_T25 l1 x16_1).f2)))).cell? _ = some _ from hx322_0)); (try have hy322_1 := fun (n_ : Nat) => (show (((((w13.drewN n_).setCell ⟨gb321, 0, none⟩ (.string ((rd_T25 l1 x16_1).f0))).setCell ⟨gb321, 1, none⟩ (.int .i64 ((rd_T25 l1 x16_1).f1))).setCell ⟨gb321, 2, none⟩ (.bool ((rd_T25 l1 x16_1).f2)))).cell? _ = some _ from hx322_1)); clear hn322_0; clear hn322_1; clear hn322_2; replace p322 := eq_true p322; replace q322 := eq_true q322) | ((with_reducible refine gate_dst (N := 31) rfl ?_); refine Kd.R_lit k25 _ 25 ?hg (N := 31) ?hd (xs := ([(⟨(rd_T25 l1 x16_1).f0, (rd_T25 l1 x16_1).f1, (rd_T25 l1 x16_1).f2⟩ : S25)] : List (S25))) (inner := [.string ((rd_T25 l1 x16_1).f0), .int .i64 ((rd_T25 l1 x16_1).f1), .bool ((rd_T25 l1 x16_1).f2)]) (ok := fun _ => True) (okp := fun _ => True) ?hr ?hp (fun _ hk => hk) trivial (Below.refl _ _) (Nat.le_refl _) (by simp) ?_; (case hd => rfl); (case hg => rfl); (case hr => first | (go_simp; done) | (go_simp; rfl)); (case hp => exact (Reps.c3 (show Kd.M k25 _ _ _ (⟨(rd_T25 l1 x16_1).f0, (rd_T25 l1 x16_1).f1, (rd_T25 l1 x16_1).f2⟩ : S25) [.string ((rd_T25 l1 x16_1).f0), .int .i64 ((rd_T25 l1 x16_1).f1), .bool ((rd_T25 l1 x16_1).f2)] from (k25_mkM _ _ _ (⟨(rd_T25 l1 x16_1).f0, (rd_T25 l1 x16_1).f1, (rd_T25 l1 x16_1).f2⟩ : S25) )) (Reps.none _ _))); intro v324 w15 ho16 hb hg_ hnew_; clear hg_ hnew_; (first | rw [← Ny323.out] at ho16 | (simp only [Int.reduceToNat] at ho16; rw [← Ny323.out] at ho16)); have n0_ := Aside0.mk (Kd.R_lower (Kd.R_newB ho16 (g := gb321) (o := .cells #[.string ((rd_T25 l1 x16_1).f0), .int .i64 ((rd_T25 l1 x16_1).f1), .bool ((rd_T25 l1 x16_1).f2)] 25 (0, 0)) (by (with_reducible repeat (first | refine blk_drewN ?_ _ | refine blk_drew ?_ | refine blk_alloc ?_ _)); refine blk_put (cs := #[.string ((rd_T25 l1 x16_1).f0), .int .i64 ((rd_T25 l1 x16_1).f1), .bool false]) ?_ 2 _ rfl; (with_reducible repeat (first | refine blk_drewN ?_ _ | refine blk_drew ?_ | refine blk_alloc ?_ _)); refine blk_put (cs := #[.string ((rd_T25 l1 x16_1).f0), .int .i64 0, .bool false]) ?_ 1 _ rfl; (with_reducible repeat (first | refine blk_drewN ?_ _ | refine blk_drew ?_ | refine blk_alloc ?_ _)); refine blk_put (cs := #[.string (⟨#[]⟩ : ByteArray), .int .i64 0, .bool false]) ?_ 0 _ rfl; (with_reducible repeat (first | refine blk_drewN ?_ _ | refine blk_drew ?_ | refine blk_alloc ?_ _)); exact BK321.out)) (below_size (by repeat (first | (with_reducible first | exact HB.out | apply below_alloc | apply pw_below_drewN | apply below_drew1 | refine below_set ?_ GE321.out) | exact HB.out)))); have n1_ := Aside0.mk (blk_below (g := gb321) (o := .cells #[.string ((rd_T25 l1 x16_1).f0), .int .i64 ((rd_T25 l1 x16_1).f1), .bool ((rd_T25 l1 x16_1).f2)] 25 (0, 0)) (by (with_reducible repeat (first | refine blk_drewN ?_ _ | refine blk_drew ?_ | refine blk_alloc ?_ _)); refine blk_put (cs := #[.string ((rd_T25 l1 x16_1).f0), .int .i64 ((rd_T25 l1 x16_1).f1), .bool false]) ?_ 2 _ rfl; (with_reducible repeat (first | refine blk_drewN ?_ _ | refine blk_drew ?_ | refine blk_alloc ?_ _)); refine blk_put (cs := #[.string ((rd_T25 l1 x16_1).f0), .int .i64 0, .bool false]) ?_ 1 _ rfl; (with_reducible repeat (first | refine blk_drewN ?_ _ | refine blk_drew ?_ | refine blk_alloc ?_ _)); refine blk_put (cs := #[.string (⟨#[]⟩ : ByteArray), .int .i64 0, .bool false]) ?_ 0 _ rfl; (with_reducible repeat (first | refine blk_drewN ?_ _ | refine blk_drew ?_ | refine blk_alloc ?_ _)); exact BK321.out) hb); have n2_ := Aside0.mk (below_step (by repeat (first | (with_reducible first | exact HB.out | apply below_alloc | apply pw_below_drewN | apply below_drew1 | refine below_set ?_ GE321.out) | exact HB.out)) hb); clear BK321; clear HB; have HO325 := n0_; have BK321 := n1_; have HB := n2_; clear n0_ n1_ n2_; clear hb ho16; obtain ⟨Ao17, co17, eo17⟩ := Kd.R_slice HO325.out; subst eo17) | (go_at_call 37; (with_reducible refine (keys_Put.calls k1 _ _ y323 t326 t327 _ ?side1 ?side2 A11.out).mono ?_); (case side1 => repeat (first | exact (Kd.R_reads' HO325.out).2.2 | (with_reducible refine Kd.C_alloc ?_ _) | (with_reducible refine Kd.C_drewN ?_ _) | (with_reducible refine Kd.C_drew ?_))); (case side2 => exact (Kd.R_reads' HO325.out).2.1); rintro e w18 ⟨rfl, hb⟩; have n0_ := Aside0.mk (Kd.R_below (by (with_reducible repeat (first | apply Kd.R_alloc | apply Kd.R_drewN | apply Kd.R_drew)); exact HO325.out) hb); have n1_ := Aside0.mk (blk_below (g := gb321) (o := .cells #[.string ((rd_T25 l1 x16_1).f0), .int .i64 ((rd_T25 l1 x16_1).f1), .bool ((rd_T25 l1 x16_1).f2)] 25 (0, 0)) (by (with_reducible repeat (first | refine blk_drewN ?_ _ | refine blk_drew ?_ | refine blk_alloc ?_ _)); exact BK321.out) hb); have n2_ := Aside0.mk (below_step (by repeat (first | (with_reducible first | exact HB.out | apply below_alloc | apply pw_below_drewN | apply below_drew1 | refine below_set ?_ GE321.out) | exact HB.out)) hb); clear HO325; clear BK321; clear HB; have HO325 := n0_; have BK321 := n1_; have HB := n2_; clear n0_ n1_ n2_; (try clear hb); (try clear hb2); (try clear hk); (try clear hi)))
          repeat (go_quiet (first | ((with_reducible refine gate_dst (N := 6) rfl ?_); refine box_event ?hg (N := 6) ?hd (cs := #[.string (⟨#[]⟩ : ByteArray), .int .i64 0, .bool false]) (t := 25) ?hr ?_; (case hd => rfl); (case hg => rfl); (case hr => first | (go_simp; done) | (go_simp; rfl)); intro gb321 hg w13 hbox hb; have n0_ := Aside0.mk (below_step (by repeat (first | (with_reducible first | exact HB.out | apply below_alloc | apply pw_below_drewN | apply below_drew1) | exact HB.out)) hb); have n1_ := Aside0.mk (hbox); have n2_ := Aside0.mk ((by rw [hg]; exact (below_size (by repeat (first | (with_reducible first | exact HB.out | apply below_alloc | apply pw_below_drewN | apply below_drew1) | exact HB.out))) : w.heap.size ≤ gb321)); have n3_ := Aside0.mk ((by rw [hg]; exact (below_size (by repeat (first | (with_reducible first | exact HB.out | apply below_alloc | apply pw_below_drewN | apply below_drew1) | exact HB.out))) : w.heap.size ≤ gb321)); clear HB; have HB := n0_; have BK321 := n1_; have GW321 := n2_; have GE321 := n3_; clear n0_ n1_ n2_ n3_; clear hb hbox hg; have hcz14_0 : w13.cell? ⟨gb321, 0, none⟩ = some (.string (⟨#[]⟩ : ByteArray)) := (blk_cell BK321.out 0).trans rfl; have hcz14_1 : w13.cell? ⟨gb321, 1, none⟩ = some (.int .i64 0) := (blk_cell BK321.out 1).trans rfl; have hcz14_2 : w13.cell? ⟨gb321, 2, none⟩ = some (.bool false) := (blk_cell BK321.out 2).trans rfl; have hfz14_0 := blk_frozen BK321.out 0; have hfz14_1 := blk_frozen BK321.out 1; have hfz14_2 := blk_frozen BK321.out 2; have p322 : 0 ≤ (x16_1 : Int) := of_decide_eq_true (by first | (with_reducible assumption) | assumption); have q322 : x16_1 < (l0.length : Int) := of_decide_eq_true (by first | (with_reducible assumption) | assumption); obtain ⟨ad322, e322, hx322_0, hx322_1⟩ := at_T65 HR0.out x16_1 p322 q322; cases e322; have hn322_0 : ad322.block ≠ gb321 := Nat.ne_of_lt (Nat.lt_of_lt_of_le (by have := World.block_lt_of_cell? _ _ hx322_0; first | rwa [add_block] at this | exact this) GW321.out); have hn322_1 : ad322.block ≠ gb321 := Nat.ne_of_lt (Nat.lt_of_lt_of_le (by have := World.block_lt_of_cell? _ _ hx322_0; first | rwa [add_block] at this | exact this) GW321.out); have hn322_2 : ad322.block ≠ gb321 := Nat.ne_of_lt (Nat.lt_of_lt_of_le (by have := World.block_lt_of_cell? _ _ hx322_0; first | rwa [add_block] at this | exact this) GW321.out); replace hx322_0 := (HB.out.cell (World.block_lt_of_cell? w _ hx322_0)).trans hx322_0; replace hx322_1 := (HB.out.cell (World.block_lt_of_cell? w _ hx322_1)).trans hx322_1; replace hx322_0 := (cell_far (p := ⟨gb321, 0, none⟩) (by first | (rw [add_block]; exact hn322_0) | (show (Addr.add _ _).block ≠ _; rw [add_block]; exact hn322_0) | exact hn322_0) (.string ((rd_T25 l1 x16_1).f0))).trans hx322_0; replace hx322_1 := (cell_far (p := ⟨gb321, 0, none⟩) (by first | (rw [add_block]; exact hn322_0) | (show (Addr.add _ _).block ≠ _; rw [add_block]; exact hn322_0) | exact hn322_0) (.string ((rd_T25 l1 x16_1).f0))).trans hx322_1; replace hx322_0 := (cell_far (p := ⟨gb321, 1, none⟩) (by first | (rw [add_block]; exact hn322_1) | (show (Addr.add _ _).block ≠ _; rw [add_block]; exact hn322_1) | exact hn322_1) (.int .i64 ((rd_T25 l1 x16_1).f1))).trans hx322_0; replace hx322_1 := (cell_far (p := ⟨gb321, 1, none⟩) (by first | (rw [add_block]; exact hn322_1) | (show (Addr.add _ _).block ≠ _; rw [add_block]; exact hn322_1) | exact hn322_1) (.int .i64 ((rd_T25 l1 x16_1).f1))).trans hx322_1; replace hx322_0 := (cell_far (p := ⟨gb321, 2, none⟩) (by first | (rw [add_block]; exact hn322_2) | (show (Addr.add _ _).block ≠ _; rw [add_block]; exact hn322_2) | exact hn322_2) (.bool ((rd_T25 l1 x16_1).f2))).trans hx322_0; replace hx322_1 := (cell_far (p := ⟨gb321, 2, none⟩) (by first | (rw [add_block]; exact hn322_2) | (show (Addr.add _ _).block ≠ _; rw [add_block]; exact hn322_2) | exact hn322_2) (.bool ((rd_T25 l1 x16_1).f2))).trans hx322_1; (try have hy322_0 := fun (n_ : Nat) => (show (((((w13.drewN n_).setCell ⟨gb321, 0, none⟩ (.string ((rd_T25 l1 x16_1).f0))).setCell ⟨gb321, 1, none⟩ (.int .i64 ((rd_T25 l1 x16_1).f1))).setCell ⟨gb321, 2, none⟩ (.bool ((rd_T25 l1 x16_1).f2)))).cell? _ = some _ from hx322_0)); (try have hy322_1 := fun (n_ : Nat) => (show (((((w13.drewN n_).setCell ⟨gb321, 0, none⟩ (.string ((rd_T25 l1 x16_1).f0))).setCell ⟨gb321, 1, none⟩ (.int .i64 ((rd_T25 l1 x16_1).f1))).setCell ⟨gb321, 2, none⟩ (.bool ((rd_T25 l1 x16_1).f2)))).cell? _ = some _ from hx322_1)); clear hn322_0; clear hn322_1; clear hn322_2; replace p322 := eq_true p322; replace q322 := eq_true q322) | ((with_reducible refine gate_dst (N := 31) rfl ?_); refine Kd.R_lit k25 _ 25 ?hg (N := 31) ?hd (xs := ([(⟨(rd_T25 l1 x16_1).f0, (rd_T25 l1 x16_1).f1, (rd_T25 l1 x16_1).f2⟩ : S25)] : List (S25))) (inner := [.string ((rd_T25 l1 x16_1).f0), .int .i64 ((rd_T25 l1 x16_1).f1), .bool ((rd_T25 l1 x16_1).f2)]) (ok := fun _ => True) (okp := fun _ => True) ?hr ?hp (fun _ hk => hk) trivial (Below.refl _ _) (Nat.le_refl _) (by simp) ?_; (case hd => rfl); (case hg => rfl); (case hr => first | (go_simp; done) | (go_simp; rfl)); (case hp => exact (Reps.c3 (show Kd.M k25 _ _ _ (⟨(rd_T25 l1 x16_1).f0, (rd_T25 l1 x16_1).f1, (rd_T25 l1 x16_1).f2⟩ : S25) [.string ((rd_T25 l1 x16_1).f0), .int .i64 ((rd_T25 l1 x16_1).f1), .bool ((rd_T25 l1 x16_1).f2)] from (k25_mkM _ _ _ (⟨(rd_T25 l1 x16_1).f0, (rd_T25 l1 x16_1).f1, (rd_T25 l1 x16_1).f2⟩ : S25) )) (Reps.none _ _))); intro v324 w15 ho16 hb hg_ hnew_; clear hg_ hnew_; (first | rw [← Ny323.out] at ho16 | (simp only [Int.reduceToNat] at ho16; rw [← Ny323.out] at ho16)); have n0_ := Aside0.mk (Kd.R_lower (Kd.R_newB ho16 (g := gb321) (o := .cells #[.string ((rd_T25 l1 x16_1).f0), .int .i64 ((rd_T25 l1 x16_1).f1), .bool ((rd_T25 l1 x16_1).f2)] 25 (0, 0)) (by (with_reducible repeat (first | refine blk_drewN ?_ _ | refine blk_drew ?_ | refine blk_alloc ?_ _)); refine blk_put (cs := #[.string ((rd_T25 l1 x16_1).f0), .int .i64 ((rd_T25 l1 x16_1).f1), .bool false]) ?_ 2 _ rfl; (with_reducible repeat (first | refine blk_drewN ?_ _ | refine blk_drew ?_ | refine blk_alloc ?_ _)); refine blk_put (cs := #[.string ((rd_T25 l1 x16_1).f0), .int .i64 0, .bool false]) ?_ 1 _ rfl; (with_reducible repeat (first | refine blk_drewN ?_ _ | refine blk_drew ?_ | refine blk_alloc ?_ _)); refine blk_put (cs := #[.string (⟨#[]⟩ : ByteArray), .int .i64 0, .bool false]) ?_ 0 _ rfl; (with_reducible repeat (first | refine blk_drewN ?_ _ | refine blk_drew ?_ | refine blk_alloc ?_ _)); exact BK321.out)) (below_size (by repeat (first | (with_reducible first | exact HB.out | apply below_alloc | apply pw_below_drewN | apply below_drew1 | refine below_set ?_ GE321.out) | exact HB.out)))); have n1_ := Aside0.mk (blk_below (g := gb321) (o := .cells #[.string ((rd_T25 l1 x16_1).f0), .int .i64 ((rd_T25 l1 x16_1).f1), .bool ((rd_T25 l1 x16_1).f2)] 25 (0, 0)) (by (with_reducible repeat (first | refine blk_drewN ?_ _ | refine blk_drew ?_ | refine blk_alloc ?_ _)); refine blk_put (cs := #[.string ((rd_T25 l1 x16_1).f0), .int .i64 ((rd_T25 l1 x16_1).f1), .bool false]) ?_ 2 _ rfl; (with_reducible repeat (first | refine blk_drewN ?_ _ | refine blk_drew ?_ | refine blk_alloc ?_ _)); refine blk_put (cs := #[.string ((rd_T25 l1 x16_1).f0), .int .i64 0, .bool false]) ?_ 1 _ rfl; (with_reducible repeat (first | refine blk_drewN ?_ _ | refine blk_drew ?_ | refine blk_alloc ?_ _)); refine blk_put (cs := #[.string (⟨#[]⟩ : ByteArray), .int .i64 0, .bool false]) ?_ 0 _ rfl; (with_reducible repeat (first | refine blk_drewN ?_ _ | refine blk_drew ?_ | refine blk_alloc ?_ _)); exact BK321.out) hb); have n2_ := Aside0.mk (below_step (by repeat (first | (with_reducible first | exact HB.out | apply below_alloc | apply pw_below_drewN | apply below_drew1 | refine below_set ?_ GE321.out) | exact HB.out)) hb); clear BK321; clear HB; have HO325 := n0_; have BK321 := n1_; have HB := n2_; clear n0_ n1_ n2_; clear hb ho16; obtain ⟨Ao17, co17, eo17⟩ := Kd.R_slice HO325.out; subst eo17) | (go_at_call 37; (with_reducible refine (keys_Put.calls k1 _ _ y323 t326 t327 _ ?side1 ?side2 A11.out).mono ?_); (case side1 => repeat (first | exact (Kd.R_reads' HO325.out).2.2 | (with_reducible refine Kd.C_alloc ?_ _) | (with_reducible refine Kd.C_drewN ?_ _) | (with_reducible refine Kd.C_drew ?_))); (case side2 => exact (Kd.R_reads' HO325.out).2.1); rintro e w18 ⟨rfl, hb⟩; have n0_ := Aside0.mk (Kd.R_below (by (with_reducible repeat (first | apply Kd.R_alloc | apply Kd.R_drewN | apply Kd.R_drew)); exact HO325.out) hb); have n1_ := Aside0.mk (blk_below (g := gb321) (o := .cells #[.string ((rd_T25 l1 x16_1).f0), .int .i64 ((rd_T25 l1 x16_1).f1), .bool ((rd_T25 l1 x16_1).f2)] 25 (0, 0)) (by (with_reducible repeat (first | refine blk_drewN ?_ _ | refine blk_drew ?_ | refine blk_alloc ?_ _)); exact BK321.out) hb); have n2_ := Aside0.mk (below_step (by repeat (first | (with_reducible first | exact HB.out | apply below_alloc | apply pw_below_drewN | apply below_drew1 | refine below_set ?_ GE321.out) | exact HB.out)) hb); clear HO325; clear BK321; clear HB; have HO325 := n0_; have BK321 := n1_; have HB := n2_; clear n0_ n1_ n2_; (try clear hb); (try clear hb2); (try clear hk); (try clear hi))); try go_wp2_with (first | ((with_reducible refine gate_dst (N := 6) rfl ?_); refine box_event ?hg (N := 6) ?hd (cs := #[.string (⟨#[]⟩ : ByteArray), .int .i64 0, .bool false]) (t := 25) ?hr ?_; (case hd => rfl); (case hg => rfl); (case hr => first | (go_simp; done) | (go_simp; rfl)); intro gb321 hg w13 hbox hb; have n0_ := Aside0.mk (below_step (by repeat (first | (with_reducible first | exact HB.out | apply below_alloc | apply pw_below_drewN | apply below_drew1) | exact HB.out)) hb); have n1_ := Aside0.mk (hbox); have n2_ := Aside0.mk ((by rw [hg]; exact (below_size (by repeat (first | (with_reducible first | exact HB.out | apply below_alloc | apply pw_below_drewN | apply below_drew1) | exact HB.out))) : w.heap.size ≤ gb321)); have n3_ := Aside0.mk ((by rw [hg]; exact (below_size (by repeat (first | (with_reducible first | exact HB.out | apply below_alloc | apply pw_below_drewN | apply below_drew1) | exact HB.out))) : w.heap.size ≤ gb321)); clear HB; have HB := n0_; have BK321 := n1_; have GW321 := n2_; have GE321 := n3_; clear n0_ n1_ n2_ n3_; clear hb hbox hg; have hcz14_0 : w13.cell? ⟨gb321, 0, none⟩ = some (.string (⟨#[]⟩ : ByteArray)) := (blk_cell BK321.out 0).trans rfl; have hcz14_1 : w13.cell? ⟨gb321, 1, none⟩ = some (.int .i64 0) := (blk_cell BK321.out 1).trans rfl; have hcz14_2 : w13.cell? ⟨gb321, 2, none⟩ = some (.bool false) := (blk_cell BK321.out 2).trans rfl; have hfz14_0 := blk_frozen BK321.out 0; have hfz14_1 := blk_frozen BK321.out 1; have hfz14_2 := blk_frozen BK321.out 2; have p322 : 0 ≤ (x16_1 : Int) := of_decide_eq_true (by first | (with_reducible assumption) | assumption); have q322 : x16_1 < (l0.length : Int) := of_decide_eq_true (by first | (with_reducible assumption) | assumption); obtain ⟨ad322, e322, hx322_0, hx322_1⟩ := at_T65 HR0.out x16_1 p322 q322; cases e322; have hn322_0 : ad322.block ≠ gb321 := Nat.ne_of_lt (Nat.lt_of_lt_of_le (by have := World.block_lt_of_cell? _ _ hx322_0; first | rwa [add_block] at this | exact this) GW321.out); have hn322_1 : ad322.block ≠ gb321 := Nat.ne_of_lt (Nat.lt_of_lt_of_le (by have := World.block_lt_of_cell? _ _ hx322_0; first | rwa [add_block] at this | exact this) GW321.out); have hn322_2 : ad322.block ≠ gb321 := Nat.ne_of_lt (Nat.lt_of_lt_of_le (by have := World.block_lt_of_cell? _ _ hx322_0; first | rwa [add_block] at this | exact this) GW321.out); replace hx322_0 := (HB.out.cell (World.block_lt_of_cell? w _ hx322_0)).trans hx322_0; replace hx322_1 := (HB.out.cell (World.block_lt_of_cell? w _ hx322_1)).trans hx322_1; replace hx322_0 := (cell_far (p := ⟨gb321, 0, none⟩) (by first | (rw [add_block]; exact hn322_0) | (show (Addr.add _ _).block ≠ _; rw [add_block]; exact hn322_0) | exact hn322_0) (.string ((rd_T25 l1 x16_1).f0))).trans hx322_0; replace hx322_1 := (cell_far (p := ⟨gb321, 0, none⟩) (by first | (rw [add_block]; exact hn322_0) | (show (Addr.add _ _).block ≠ _; rw [add_block]; exact hn322_0) | exact hn322_0) (.string ((rd_T25 l1 x16_1).f0))).trans hx322_1; replace hx322_0 := (cell_far (p := ⟨gb321, 1, none⟩) (by first | (rw [add_block]; exact hn322_1) | (show (Addr.add _ _).block ≠ _; rw [add_block]; exact hn322_1) | exact hn322_1) (.int .i64 ((rd_T25 l1 x16_1).f1))).trans hx322_0; replace hx322_1 := (cell_far (p := ⟨gb321, 1, none⟩) (by first | (rw [add_block]; exact hn322_1) | (show (Addr.add _ _).block ≠ _; rw [add_block]; exact hn322_1) | exact hn322_1) (.int .i64 ((rd_T25 l1 x16_1).f1))).trans hx322_1; replace hx322_0 := (cell_far (p := ⟨gb321, 2, none⟩) (by first | (rw [add_block]; exact hn322_2) | (show (Addr.add _ _).block ≠ _; rw [add_block]; exact hn322_2) | exact hn322_2) (.bool ((rd_T25 l1 x16_1).f2))).trans hx322_0; replace hx322_1 := (cell_far (p := ⟨gb321, 2, none⟩) (by first | (rw [add_block]; exact hn322_2) | (show (Addr.add _ _).block ≠ _; rw [add_block]; exact hn322_2) | exact hn322_2) (.bool ((rd_T25 l1 x16_1).f2))).trans hx322_1; (try have hy322_0 := fun (n_ : Nat) => (show (((((w13.drewN n_).setCell ⟨gb321, 0, none⟩ (.string ((rd_T25 l1 x16_1).f0))).setCell ⟨gb321, 1, none⟩ (.int .i64 ((rd_T25 l1 x16_1).f1))).setCell ⟨gb321, 2, none⟩ (.bool ((rd_T25 l1 x16_1).f2)))).cell? _ = some _ from hx322_0)); (try have hy322_1 := fun (n_ : Nat) => (show (((((w13.drewN n_).setCell ⟨gb321, 0, none⟩ (.string ((rd_T25 l1 x16_1).f0))).setCell ⟨gb321, 1, none⟩ (.int .i64 ((rd_T25 l1 x16_1).f1))).setCell ⟨gb321, 2, none⟩ (.bool ((rd_T25 l1 x16_1).f2)))).cell? _ = some _ from hx322_1)); clear hn322_0; clear hn322_1; clear hn322_2; replace p322 := eq_true p322; replace q322 := eq_true q322) | ((with_reducible refine gate_dst (N := 31) rfl ?_); refine Kd.R_lit k25 _ 25 ?hg (N := 31) ?hd (xs := ([(⟨(rd_T25 l1 x16_1).f0, (rd_T25 l1 x16_1).f1, (rd_T25 l1 x16_1).f2⟩ : S25)] : List (S25))) (inner := [.string ((rd_T25 l1 x16_1).f0), .int .i64 ((rd_T25 l1 x16_1).f1), .bool ((rd_T25 l1 x16_1).f2)]) (ok := fun _ => True) (okp := fun _ => True) ?hr ?hp (fun _ hk => hk) trivial (Below.refl _ _) (Nat.le_refl _) (by simp) ?_; (case hd => rfl); (case hg => rfl); (case hr => first | (go_simp; done) | (go_simp; rfl)); (case hp => exact (Reps.c3 (show Kd.M k25 _ _ _ (⟨(rd_T25 l1 x16_1).f0, (rd_T25 l1 x16_1).f1, (rd_T25 l1 x16_1).f2⟩ : S25) [.string ((rd_T25 l1 x16_1).f0), .int .i64 ((rd_T25 l1 x16_1).f1), .bool ((rd_T25 l1 x16_1).f2)] from (k25_mkM _ _ _ (⟨(rd_T25 l1 x16_1).f0, (rd_T25 l1 x16_1).f1, (rd_T25 l1 x16_1).f2⟩ : S25) )) (Reps.none _ _))); intro v324 w15 ho16 hb hg_ hnew_; clear hg_ hnew_; (first | rw [← Ny323.out] at ho16 | (simp only [Int.reduceToNat] at ho16; rw [← Ny323.out] at ho16)); have n0_ := Aside0.mk (Kd.R_lower (Kd.R_newB ho16 (g := gb321) (o := .cells #[.string ((rd_T25 l1 x16_1).f0), .int .i64 ((rd_T25 l1 x16_1).f1), .bool ((rd_T25 l1 x16_1).f2)] 25 (0, 0)) (by (with_reducible repeat (first | refine blk_drewN ?_ _ | refine blk_drew ?_ | refine blk_alloc ?_ _)); refine blk_put (cs := #[.string ((rd_T25 l1 x16_1).f0), .int .i64 ((rd_T25 l1 x16_1).f1), .bool false]) ?_ 2 _ rfl; (with_reducible repeat (first | refine blk_drewN ?_ _ | refine blk_drew ?_ | refine blk_alloc ?_ _)); refine blk_put (cs := #[.string ((rd_T25 l1 x16_1).f0), .int .i64 0, .bool false]) ?_ 1 _ rfl; (with_reducible repeat (first | refine blk_drewN ?_ _ | refine blk_drew ?_ | refine blk_alloc ?_ _)); refine blk_put (cs := #[.string (⟨#[]⟩ : ByteArray), .int .i64 0, .bool false]) ?_ 0 _ rfl; (with_reducible repeat (first | refine blk_drewN ?_ _ | refine blk_drew ?_ | refine blk_alloc ?_ _)); exact BK321.out)) (below_size (by repeat (first | (with_reducible first | exact HB.out | apply below_alloc | apply pw_below_drewN | apply below_drew1 | refine below_set ?_ GE321.out) | exact HB.out)))); have n1_ := Aside0.mk (blk_below (g := gb321) (o := .cells #[.string ((rd_T25 l1 x16_1).f0), .int .i64 ((rd_T25 l1 x16_1).f1), .bool ((rd_T25 l1 x16_1).f2)] 25 (0, 0)) (by (with_reducible repeat (first | refine blk_drewN ?_ _ | refine blk_drew ?_ | refine blk_alloc ?_ _)); refine blk_put (cs := #[.string ((rd_T25 l1 x16_1).f0), .int .i64 ((rd_T25 l1 x16_1).f1), .bool false]) ?_ 2 _ rfl; (with_reducible repeat (first | refine blk_drewN ?_ _ | refine blk_drew ?_ | refine blk_alloc ?_ _)); refine blk_put (cs := #[.string ((rd_T25 l1 x16_1).f0), .int .i64 0, .bool false]) ?_ 1 _ rfl; (with_reducible repeat (first | refine blk_drewN ?_ _ | refine blk_drew ?_ | refine blk_alloc ?_ _)); refine blk_put (cs := #[.string (⟨#[]⟩ : ByteArray), .int .i64 0, .bool false]) ?_ 0 _ rfl; (with_reducible repeat (first | refine blk_drewN ?_ _ | refine blk_drew ?_ | refine blk_alloc ?_ _)); exact BK321.out) hb); have n2_ := Aside0.mk (below_step (by repeat (first | (with_reducible first | exact HB.out | apply below_alloc | apply pw_below_drewN | apply below_drew1 | refine below_set ?_ GE321.out) | exact HB.out)) hb); clear BK321; clear HB; have HO325 := n0_; have BK321 := n1_; have HB := n2_; clear n0_ n1_ n2_; clear hb ho16; obtain ⟨Ao17, co17, eo17⟩ := Kd.R_slice HO325.out; subst eo17) | (go_at_call 37; (with_reducible refine (keys_Put.calls k1 _ _ y323 t326 t327 _ ?side1 ?side2 A11.out).mono ?_); (case side1 => repeat (first | exact (Kd.R_reads' HO325.out).2.2 | (with_reducible refine Kd.C_alloc ?_ _) | (with_reducible refine Kd.C_drewN ?_ _) | (with_reducible refine Kd.C_drew ?_))); (case side2 => exact (Kd.R_reads' HO325.out).2.1); rintro e w18 ⟨rfl, hb⟩; have n0_ := Aside0.mk (Kd.R_below (by (with_reducible repeat (first | apply Kd.R_alloc | apply Kd.R_drewN | apply Kd.R_drew)); exact HO325.out) hb); have n1_ := Aside0.mk (blk_below (g := gb321) (o := .cells #[.string ((rd_T25 l1 x16_1).f0), .int .i64 ((rd_T25 l1 x16_1).f1), .bool ((rd_T25 l1 x16_1).f2)] 25 (0, 0)) (by (with_reducible repeat (first | refine blk_drewN ?_ _ | refine blk_drew ?_ | refine blk_alloc ?_ _)); exact BK321.out) hb); have n2_ := Aside0.mk (below_step (by repeat (first | (with_reducible first | exact HB.out | apply below_alloc | apply pw_below_drewN | apply below_drew1 | refine below_set ?_ GE321.out) | exact HB.out)) hb); clear HO325; clear BK321; clear HB; have HO325 := n0_; have BK321 := n1_; have HB := n2_; clear n0_ n1_ n2_; (try clear hb); (try clear hb2); (try clear hk); (try clear hi))))
          go_roundg k1
          case measure => have := HK1.out; omega
          case rel => exact ⟨(wrap64 (x16_1 + 1)), (by first | rfl | (simp; done) | (simp [*]; done)), H', ⟨by have := HK1.out; omega⟩, ⟨by repeat (first | (with_reducible first | exact HB.out | apply below_alloc | apply pw_below_drewN | apply below_drew1 | refine below_set ?_ GE321.out) | exact HB.out)⟩⟩
         ·rw [if_neg c12] at H
          have c12b0 : (t327 == 0) = false := beq_eq_false_iff_ne.mpr c12
          have c12b1 : (t327 != 0) = true := bne_iff_ne.mpr c12
          obtain rfl := Option.some.inj H
          have p320 : 0 ≤ (x16_1 : Int) := of_decide_eq_true (by first | (with_reducible assumption) | assumption)
          have q320 : x16_1 < (l1.length : Int) := of_decide_eq_true (by first | (with_reducible assumption) | assumption)
          obtain ⟨ad320, e320, hx320_0, hx320_1, hx320_2⟩ := at_T25 HR1.out x16_1 p320 q320
          cases e320
          replace hx320_0 := (HB.out.cell (World.block_lt_of_cell? w _ hx320_0)).trans hx320_0
          replace hx320_1 := (HB.out.cell (World.block_lt_of_cell? w _ hx320_1)).trans hx320_1
          replace hx320_2 := (HB.out.cell (World.block_lt_of_cell? w _ hx320_2)).trans hx320_2
          replace p320 := eq_true p320
          replace q320 := eq_true q320
          go_wp2_with (first | ((with_reducible refine gate_dst (N := 6) rfl ?_); refine box_event ?hg (N := 6) ?hd (cs := #[.string (⟨#[]⟩ : ByteArray), .int .i64 0, .bool false]) (t := 25) ?hr ?_; (case hd => rfl); (case hg => rfl); (case hr => first | (go_simp; done) | (go_simp; rfl)); intro gb321 hg w19 hbox hb; have n0_ := Aside0.mk (below_step (by repeat (first | (with_reducible first | exact HB.out | apply below_alloc | apply pw_below_drewN | apply below_drew1) | exact HB.out)) hb); have n1_ := Aside0.mk (hbox); have n2_ := Aside0.mk ((by rw [hg]; exact (below_size (by repeat (first | (with_reducible first | exact HB.out | apply below_alloc | apply pw_below_drewN | apply below_drew1) | exact HB.out))) : w.heap.size ≤ gb321)); have n3_ := Aside0.mk ((by rw [hg]; exact (below_size (by repeat (first | (with_reducible first | exact HB.out | apply below_alloc | apply pw_below_drewN | apply below_drew1) | exact HB.out))) : w.heap.size ≤ gb321)); clear HB; have HB := n0_; have BK321 := n1_; have GW321 := n2_; have GE321 := n3_; clear n0_ n1_ n2_ n3_; clear hb hbox hg; have hcz20_0 : w19.cell? ⟨gb321, 0, none⟩ = some (.string (⟨#[]⟩ : ByteArray)) := (blk_cell BK321.out 0).trans rfl; have hcz20_1 : w19.cell? ⟨gb321, 1, none⟩ = some (.int .i64 0) := (blk_cell BK321.out 1).trans rfl; have hcz20_2 : w19.cell? ⟨gb321, 2, none⟩ = some (.bool false) := (blk_cell BK321.out 2).trans rfl; have hfz20_0 := blk_frozen BK321.out 0; have hfz20_1 := blk_frozen BK321.out 1; have hfz20_2 := blk_frozen BK321.out 2; have p322 : 0 ≤ (x16_1 : Int) := of_decide_eq_true (by first | (with_reducible assumption) | assumption); have q322 : x16_1 < (l0.length : Int) := of_decide_eq_true (by first | (with_reducible assumption) | assumption); obtain ⟨ad322, e322, hx322_0, hx322_1⟩ := at_T65 HR0.out x16_1 p322 q322; cases e322; have hn322_0 : ad322.block ≠ gb321 := Nat.ne_of_lt (Nat.lt_of_lt_of_le (by have := World.block_lt_of_cell? _ _ hx322_0; first | rwa [add_block] at this | exact this) GW321.out); have hn322_1 : ad322.block ≠ gb321 := Nat.ne_of_lt (Nat.lt_of_lt_of_le (by have := World.block_lt_of_cell? _ _ hx322_0; first | rwa [add_block] at this | exact this) GW321.out); have hn322_2 : ad322.block ≠ gb321 := Nat.ne_of_lt (Nat.lt_of_lt_of_le (by have := World.block_lt_of_cell? _ _ hx322_0; first | rwa [add_block] at this | exact this) GW321.out); replace hx322_0 := (HB.out.cell (World.block_lt_of_cell? w _ hx322_0)).trans hx322_0; replace hx322_1 := (HB.out.cell (World.block_lt_of_cell? w _ hx322_1)).trans hx322_1; replace hx322_0 := (cell_far (p := ⟨gb321, 0, none⟩) (by first | (rw [add_block]; exact hn322_0) | (show (Addr.add _ _).block ≠ _; rw [add_block]; exact hn322_0) | exact hn322_0) (.string ((rd_T25 l1 x16_1).f0))).trans hx322_0; replace hx322_1 := (cell_far (p := ⟨gb321, 0, none⟩) (by first | (rw [add_block]; exact hn322_0) | (show (Addr.add _ _).block ≠ _; rw [add_block]; exact hn322_0) | exact hn322_0) (.string ((rd_T25 l1 x16_1).f0))).trans hx322_1; replace hx322_0 := (cell_far (p := ⟨gb321, 1, none⟩) (by first | (rw [add_block]; exact hn322_1) | (show (Addr.add _ _).block ≠ _; rw [add_block]; exact hn322_1) | exact hn322_1) (.int .i64 ((rd_T25 l1 x16_1).f1))).trans hx322_0; replace hx322_1 := (cell_far (p := ⟨gb321, 1, none⟩) (by first | (rw [add_block]; exact hn322_1) | (show (Addr.add _ _).block ≠ _; rw [add_block]; exact hn322_1) | exact hn322_1) (.int .i64 ((rd_T25 l1 x16_1).f1))).trans hx322_1; replace hx322_0 := (cell_far (p := ⟨gb321, 2, none⟩) (by first | (rw [add_block]; exact hn322_2) | (show (Addr.add _ _).block ≠ _; rw [add_block]; exact hn322_2) | exact hn322_2) (.bool ((rd_T25 l1 x16_1).f2))).trans hx322_0; replace hx322_1 := (cell_far (p := ⟨gb321, 2, none⟩) (by first | (rw [add_block]; exact hn322_2) | (show (Addr.add _ _).block ≠ _; rw [add_block]; exact hn322_2) | exact hn322_2) (.bool ((rd_T25 l1 x16_1).f2))).trans hx322_1; (try have hy322_0 := fun (n_ : Nat) => (show (((((w19.drewN n_).setCell ⟨gb321, 0, none⟩ (.string ((rd_T25 l1 x16_1).f0))).setCell ⟨gb321, 1, none⟩ (.int .i64 ((rd_T25 l1 x16_1).f1))).setCell ⟨gb321, 2, none⟩ (.bool ((rd_T25 l1 x16_1).f2)))).cell? _ = some _ from hx322_0)); (try have hy322_1 := fun (n_ : Nat) => (show (((((w19.drewN n_).setCell ⟨gb321, 0, none⟩ (.string ((rd_T25 l1 x16_1).f0))).setCell ⟨gb321, 1, none⟩ (.int .i64 ((rd_T25 l1 x16_1).f1))).setCell ⟨gb321, 2, none⟩ (.bool ((rd_T25 l1 x16_1).f2)))).cell? _ = some _ from hx322_1)); clear hn322_0; clear hn322_1; clear hn322_2; replace p322 := eq_true p322; replace q322 := eq_true q322) | ((with_reducible refine gate_dst (N := 31) rfl ?_); refine Kd.R_lit k25 _ 25 ?hg (N := 31) ?hd (xs := ([(⟨(rd_T25 l1 x16_1).f0, (rd_T25 l1 x16_1).f1, (rd_T25 l1 x16_1).f2⟩ : S25)] : List (S25))) (inner := [.string ((rd_T25 l1 x16_1).f0), .int .i64 ((rd_T25 l1 x16_1).f1), .bool ((rd_T25 l1 x16_1).f2)]) (ok := fun _ => True) (okp := fun _ => True) ?hr ?hp (fun _ hk => hk) trivial (Below.refl _ _) (Nat.le_refl _) (by simp) ?_; (case hd => rfl); (case hg => rfl); (case hr => first | (go_simp; done) | (go_simp; rfl)); (case hp => exact (Reps.c3 (show Kd.M k25 _ _ _ (⟨(rd_T25 l1 x16_1).f0, (rd_T25 l1 x16_1).f1, (rd_T25 l1 x16_1).f2⟩ : S25) [.string ((rd_T25 l1 x16_1).f0), .int .i64 ((rd_T25 l1 x16_1).f1), .bool ((rd_T25 l1 x16_1).f2)] from (k25_mkM _ _ _ (⟨(rd_T25 l1 x16_1).f0, (rd_T25 l1 x16_1).f1, (rd_T25 l1 x16_1).f2⟩ : S25) )) (Reps.none _ _))); intro v324 w21 ho22 hb hg_ hnew_; clear hg_ hnew_; (first | rw [← Ny323.out] at ho22 | (simp only [Int.reduceToNat] at ho22; rw [← Ny323.out] at ho22)); have n0_ := Aside0.mk (Kd.R_lower (Kd.R_newB ho22 (g := gb321) (o := .cells #[.string ((rd_T25 l1 x16_1).f0), .int .i64 ((rd_T25 l1 x16_1).f1), .bool ((rd_T25 l1 x16_1).f2)] 25 (0, 0)) (by (with_reducible repeat (first | refine blk_drewN ?_ _ | refine blk_drew ?_ | refine blk_alloc ?_ _)); refine blk_put (cs := #[.string ((rd_T25 l1 x16_1).f0), .int .i64 ((rd_T25 l1 x16_1).f1), .bool false]) ?_ 2 _ rfl; (with_reducible repeat (first | refine blk_drewN ?_ _ | refine blk_drew ?_ | refine blk_alloc ?_ _)); refine blk_put (cs := #[.string ((rd_T25 l1 x16_1).f0), .int .i64 0, .bool false]) ?_ 1 _ rfl; (with_reducible repeat (first | refine blk_drewN ?_ _ | refine blk_drew ?_ | refine blk_alloc ?_ _)); refine blk_put (cs := #[.string (⟨#[]⟩ : ByteArray), .int .i64 0, .bool false]) ?_ 0 _ rfl; (with_reducible repeat (first | refine blk_drewN ?_ _ | refine blk_drew ?_ | refine blk_alloc ?_ _)); exact BK321.out)) (below_size (by repeat (first | (with_reducible first | exact HB.out | apply below_alloc | apply pw_below_drewN | apply below_drew1 | refine below_set ?_ GE321.out) | exact HB.out)))); have n1_ := Aside0.mk (blk_below (g := gb321) (o := .cells #[.string ((rd_T25 l1 x16_1).f0), .int .i64 ((rd_T25 l1 x16_1).f1), .bool ((rd_T25 l1 x16_1).f2)] 25 (0, 0)) (by (with_reducible repeat (first | refine blk_drewN ?_ _ | refine blk_drew ?_ | refine blk_alloc ?_ _)); refine blk_put (cs := #[.string ((rd_T25 l1 x16_1).f0), .int .i64 ((rd_T25 l1 x16_1).f1), .bool false]) ?_ 2 _ rfl; (with_reducible repeat (first | refine blk_drewN ?_ _ | refine blk_drew ?_ | refine blk_alloc ?_ _)); refine blk_put (cs := #[.string ((rd_T25 l1 x16_1).f0), .int .i64 0, .bool false]) ?_ 1 _ rfl; (with_reducible repeat (first | refine blk_drewN ?_ _ | refine blk_drew ?_ | refine blk_alloc ?_ _)); refine blk_put (cs := #[.string (⟨#[]⟩ : ByteArray), .int .i64 0, .bool false]) ?_ 0 _ rfl; (with_reducible repeat (first | refine blk_drewN ?_ _ | refine blk_drew ?_ | refine blk_alloc ?_ _)); exact BK321.out) hb); have n2_ := Aside0.mk (below_step (by repeat (first | (with_reducible first | exact HB.out | apply below_alloc | apply pw_below_drewN | apply below_drew1 | refine below_set ?_ GE321.out) | exact HB.out)) hb); clear BK321; clear HB; have HO325 := n0_; have BK321 := n1_; have HB := n2_; clear n0_ n1_ n2_; clear hb ho22; obtain ⟨Ao23, co23, eo23⟩ := Kd.R_slice HO325.out; subst eo23) | (go_at_call 37; (with_reducible refine (keys_Put.calls k1 _ _ y323 t326 t327 _ ?side1 ?side2 A11.out).mono ?_); (case side1 => repeat (first | exact (Kd.R_reads' HO325.out).2.2 | (with_reducible refine Kd.C_alloc ?_ _) | (with_reducible refine Kd.C_drewN ?_ _) | (with_reducible refine Kd.C_drew ?_))); (case side2 => exact (Kd.R_reads' HO325.out).2.1); rintro e w24 ⟨rfl, hb⟩; have n0_ := Aside0.mk (Kd.R_below (by (with_reducible repeat (first | apply Kd.R_alloc | apply Kd.R_drewN | apply Kd.R_drew)); exact HO325.out) hb); have n1_ := Aside0.mk (blk_below (g := gb321) (o := .cells #[.string ((rd_T25 l1 x16_1).f0), .int .i64 ((rd_T25 l1 x16_1).f1), .bool ((rd_T25 l1 x16_1).f2)] 25 (0, 0)) (by (with_reducible repeat (first | refine blk_drewN ?_ _ | refine blk_drew ?_ | refine blk_alloc ?_ _)); exact BK321.out) hb); have n2_ := Aside0.mk (below_step (by repeat (first | (with_reducible first | exact HB.out | apply below_alloc | apply pw_below_drewN | apply below_drew1 | refine below_set ?_ GE321.out) | exact HB.out)) hb); clear HO325; clear BK321; clear HB; have HO325 := n0_; have BK321 := n1_; have HB := n2_; clear n0_ n1_ n2_; (try clear hb); (try clear hb2); (try clear hk); (try clear hi)))
          repeat (go_quiet (first | ((with_reducible refine gate_dst (N := 6) rfl ?_); refine box_event ?hg (N := 6) ?hd (cs := #[.string (⟨#[]⟩ : ByteArray), .int .i64 0, .bool false]) (t := 25) ?hr ?_; (case hd => rfl); (case hg => rfl); (case hr => first | (go_simp; done) | (go_simp; rfl)); intro gb321 hg w19 hbox hb; have n0_ := Aside0.mk (below_step (by repeat (first | (with_reducible first | exact HB.out | apply below_alloc | apply pw_below_drewN | apply below_drew1) | exact HB.out)) hb); have n1_ := Aside0.mk (hbox); have n2_ := Aside0.mk ((by rw [hg]; exact (below_size (by repeat (first | (with_reducible first | exact HB.out | apply below_alloc | apply pw_below_drewN | apply below_drew1) | exact HB.out))) : w.heap.size ≤ gb321)); have n3_ := Aside0.mk ((by rw [hg]; exact (below_size (by repeat (first | (with_reducible first | exact HB.out | apply below_alloc | apply pw_below_drewN | apply below_drew1) | exact HB.out))) : w.heap.size ≤ gb321)); clear HB; have HB := n0_; have BK321 := n1_; have GW321 := n2_; have GE321 := n3_; clear n0_ n1_ n2_ n3_; clear hb hbox hg; have hcz20_0 : w19.cell? ⟨gb321, 0, none⟩ = some (.string (⟨#[]⟩ : ByteArray)) := (blk_cell BK321.out 0).trans rfl; have hcz20_1 : w19.cell? ⟨gb321, 1, none⟩ = some (.int .i64 0) := (blk_cell BK321.out 1).trans rfl; have hcz20_2 : w19.cell? ⟨gb321, 2, none⟩ = some (.bool false) := (blk_cell BK321.out 2).trans rfl; have hfz20_0 := blk_frozen BK321.out 0; have hfz20_1 := blk_frozen BK321.out 1; have hfz20_2 := blk_frozen BK321.out 2; have p322 : 0 ≤ (x16_1 : Int) := of_decide_eq_true (by first | (with_reducible assumption) | assumption); have q322 : x16_1 < (l0.length : Int) := of_decide_eq_true (by first | (with_reducible assumption) | assumption); obtain ⟨ad322, e322, hx322_0, hx322_1⟩ := at_T65 HR0.out x16_1 p322 q322; cases e322; have hn322_0 : ad322.block ≠ gb321 := Nat.ne_of_lt (Nat.lt_of_lt_of_le (by have := World.block_lt_of_cell? _ _ hx322_0; first | rwa [add_block] at this | exact this) GW321.out); have hn322_1 : ad322.block ≠ gb321 := Nat.ne_of_lt (Nat.lt_of_lt_of_le (by have := World.block_lt_of_cell? _ _ hx322_0; first | rwa [add_block] at this | exact this) GW321.out); have hn322_2 : ad322.block ≠ gb321 := Nat.ne_of_lt (Nat.lt_of_lt_of_le (by have := World.block_lt_of_cell? _ _ hx322_0; first | rwa [add_block] at this | exact this) GW321.out); replace hx322_0 := (HB.out.cell (World.block_lt_of_cell? w _ hx322_0)).trans hx322_0; replace hx322_1 := (HB.out.cell (World.block_lt_of_cell? w _ hx322_1)).trans hx322_1; replace hx322_0 := (cell_far (p := ⟨gb321, 0, none⟩) (by first | (rw [add_block]; exact hn322_0) | (show (Addr.add _ _).block ≠ _; rw [add_block]; exact hn322_0) | exact hn322_0) (.string ((rd_T25 l1 x16_1).f0))).trans hx322_0; replace hx322_1 := (cell_far (p := ⟨gb321, 0, none⟩) (by first | (rw [add_block]; exact hn322_0) | (show (Addr.add _ _).block ≠ _; rw [add_block]; exact hn322_0) | exact hn322_0) (.string ((rd_T25 l1 x16_1).f0))).trans hx322_1; replace hx322_0 := (cell_far (p := ⟨gb321, 1, none⟩) (by first | (rw [add_block]; exact hn322_1) | (show (Addr.add _ _).block ≠ _; rw [add_block]; exact hn322_1) | exact hn322_1) (.int .i64 ((rd_T25 l1 x16_1).f1))).trans hx322_0; replace hx322_1 := (cell_far (p := ⟨gb321, 1, none⟩) (by first | (rw [add_block]; exact hn322_1) | (show (Addr.add _ _).block ≠ _; rw [add_block]; exact hn322_1) | exact hn322_1) (.int .i64 ((rd_T25 l1 x16_1).f1))).trans hx322_1; replace hx322_0 := (cell_far (p := ⟨gb321, 2, none⟩) (by first | (rw [add_block]; exact hn322_2) | (show (Addr.add _ _).block ≠ _; rw [add_block]; exact hn322_2) | exact hn322_2) (.bool ((rd_T25 l1 x16_1).f2))).trans hx322_0; replace hx322_1 := (cell_far (p := ⟨gb321, 2, none⟩) (by first | (rw [add_block]; exact hn322_2) | (show (Addr.add _ _).block ≠ _; rw [add_block]; exact hn322_2) | exact hn322_2) (.bool ((rd_T25 l1 x16_1).f2))).trans hx322_1; (try have hy322_0 := fun (n_ : Nat) => (show (((((w19.drewN n_).setCell ⟨gb321, 0, none⟩ (.string ((rd_T25 l1 x16_1).f0))).setCell ⟨gb321, 1, none⟩ (.int .i64 ((rd_T25 l1 x16_1).f1))).setCell ⟨gb321, 2, none⟩ (.bool ((rd_T25 l1 x16_1).f2)))).cell? _ = some _ from hx322_0)); (try have hy322_1 := fun (n_ : Nat) => (show (((((w19.drewN n_).setCell ⟨gb321, 0, none⟩ (.string ((rd_T25 l1 x16_1).f0))).setCell ⟨gb321, 1, none⟩ (.int .i64 ((rd_T25 l1 x16_1).f1))).setCell ⟨gb321, 2, none⟩ (.bool ((rd_T25 l1 x16_1).f2)))).cell? _ = some _ from hx322_1)); clear hn322_0; clear hn322_1; clear hn322_2; replace p322 := eq_true p322; replace q322 := eq_true q322) | ((with_reducible refine gate_dst (N := 31) rfl ?_); refine Kd.R_lit k25 _ 25 ?hg (N := 31) ?hd (xs := ([(⟨(rd_T25 l1 x16_1).f0, (rd_T25 l1 x16_1).f1, (rd_T25 l1 x16_1).f2⟩ : S25)] : List (S25))) (inner := [.string ((rd_T25 l1 x16_1).f0), .int .i64 ((rd_T25 l1 x16_1).f1), .bool ((rd_T25 l1 x16_1).f2)]) (ok := fun _ => True) (okp := fun _ => True) ?hr ?hp (fun _ hk => hk) trivial (Below.refl _ _) (Nat.le_refl _) (by simp) ?_; (case hd => rfl); (case hg => rfl); (case hr => first | (go_simp; done) | (go_simp; rfl)); (case hp => exact (Reps.c3 (show Kd.M k25 _ _ _ (⟨(rd_T25 l1 x16_1).f0, (rd_T25 l1 x16_1).f1, (rd_T25 l1 x16_1).f2⟩ : S25) [.string ((rd_T25 l1 x16_1).f0), .int .i64 ((rd_T25 l1 x16_1).f1), .bool ((rd_T25 l1 x16_1).f2)] from (k25_mkM _ _ _ (⟨(rd_T25 l1 x16_1).f0, (rd_T25 l1 x16_1).f1, (rd_T25 l1 x16_1).f2⟩ : S25) )) (Reps.none _ _))); intro v324 w21 ho22 hb hg_ hnew_; clear hg_ hnew_; (first | rw [← Ny323.out] at ho22 | (simp only [Int.reduceToNat] at ho22; rw [← Ny323.out] at ho22)); have n0_ := Aside0.mk (Kd.R_lower (Kd.R_newB ho22 (g := gb321) (o := .cells #[.string ((rd_T25 l1 x16_1).f0), .int .i64 ((rd_T25 l1 x16_1).f1), .bool ((rd_T25 l1 x16_1).f2)] 25 (0, 0)) (by (with_reducible repeat (first | refine blk_drewN ?_ _ | refine blk_drew ?_ | refine blk_alloc ?_ _)); refine blk_put (cs := #[.string ((rd_T25 l1 x16_1).f0), .int .i64 ((rd_T25 l1 x16_1).f1), .bool false]) ?_ 2 _ rfl; (with_reducible repeat (first | refine blk_drewN ?_ _ | refine blk_drew ?_ | refine blk_alloc ?_ _)); refine blk_put (cs := #[.string ((rd_T25 l1 x16_1).f0), .int .i64 0, .bool false]) ?_ 1 _ rfl; (with_reducible repeat (first | refine blk_drewN ?_ _ | refine blk_drew ?_ | refine blk_alloc ?_ _)); refine blk_put (cs := #[.string (⟨#[]⟩ : ByteArray), .int .i64 0, .bool false]) ?_ 0 _ rfl; (with_reducible repeat (first | refine blk_drewN ?_ _ | refine blk_drew ?_ | refine blk_alloc ?_ _)); exact BK321.out)) (below_size (by repeat (first | (with_reducible first | exact HB.out | apply below_alloc | apply pw_below_drewN | apply below_drew1 | refine below_set ?_ GE321.out) | exact HB.out)))); have n1_ := Aside0.mk (blk_below (g := gb321) (o := .cells #[.string ((rd_T25 l1 x16_1).f0), .int .i64 ((rd_T25 l1 x16_1).f1), .bool ((rd_T25 l1 x16_1).f2)] 25 (0, 0)) (by (with_reducible repeat (first | refine blk_drewN ?_ _ | refine blk_drew ?_ | refine blk_alloc ?_ _)); refine blk_put (cs := #[.string ((rd_T25 l1 x16_1).f0), .int .i64 ((rd_T25 l1 x16_1).f1), .bool false]) ?_ 2 _ rfl; (with_reducible repeat (first | refine blk_drewN ?_ _ | refine blk_drew ?_ | refine blk_alloc ?_ _)); refine blk_put (cs := #[.string ((rd_T25 l1 x16_1).f0), .int .i64 0, .bool false]) ?_ 1 _ rfl; (with_reducible repeat (first | refine blk_drewN ?_ _ | refine blk_drew ?_ | refine blk_alloc ?_ _)); refine blk_put (cs := #[.string (⟨#[]⟩ : ByteArray), .int .i64 0, .bool false]) ?_ 0 _ rfl; (with_reducible repeat (first | refine blk_drewN ?_ _ | refine blk_drew ?_ | refine blk_alloc ?_ _)); exact BK321.out) hb); have n2_ := Aside0.mk (below_step (by repeat (first | (with_reducible first | exact HB.out | apply below_alloc | apply pw_below_drewN | apply below_drew1 | refine below_set ?_ GE321.out) | exact HB.out)) hb); clear BK321; clear HB; have HO325 := n0_; have BK321 := n1_; have HB := n2_; clear n0_ n1_ n2_; clear hb ho22; obtain ⟨Ao23, co23, eo23⟩ := Kd.R_slice HO325.out; subst eo23) | (go_at_call 37; (with_reducible refine (keys_Put.calls k1 _ _ y323 t326 t327 _ ?side1 ?side2 A11.out).mono ?_); (case side1 => repeat (first | exact (Kd.R_reads' HO325.out).2.2 | (with_reducible refine Kd.C_alloc ?_ _) | (with_reducible refine Kd.C_drewN ?_ _) | (with_reducible refine Kd.C_drew ?_))); (case side2 => exact (Kd.R_reads' HO325.out).2.1); rintro e w24 ⟨rfl, hb⟩; have n0_ := Aside0.mk (Kd.R_below (by (with_reducible repeat (first | apply Kd.R_alloc | apply Kd.R_drewN | apply Kd.R_drew)); exact HO325.out) hb); have n1_ := Aside0.mk (blk_below (g := gb321) (o := .cells #[.string ((rd_T25 l1 x16_1).f0), .int .i64 ((rd_T25 l1 x16_1).f1), .bool ((rd_T25 l1 x16_1).f2)] 25 (0, 0)) (by (with_reducible repeat (first | refine blk_drewN ?_ _ | refine blk_drew ?_ | refine blk_alloc ?_ _)); exact BK321.out) hb); have n2_ := Aside0.mk (below_step (by repeat (first | (with_reducible first | exact HB.out | apply below_alloc | apply pw_below_drewN | apply below_drew1 | refine below_set ?_ GE321.out) | exact HB.out)) hb); clear HO325; clear BK321; clear HB; have HO325 := n0_; have BK321 := n1_; have HB := n2_; clear n0_ n1_ n2_; (try clear hb); (try clear hb2); (try clear hk); (try clear hi))); try go_wp2_with (first | ((with_reducible refine gate_dst (N := 6) rfl ?_); refine box_event ?hg (N := 6) ?hd (cs := #[.string (⟨#[]⟩ : ByteArray), .int .i64 0, .bool false]) (t := 25) ?hr ?_; (case hd => rfl); (case hg => rfl); (case hr => first | (go_simp; done) | (go_simp; rfl)); intro gb321 hg w19 hbox hb; have n0_ := Aside0.mk (below_step (by repeat (first | (with_reducible first | exact HB.out | apply below_alloc | apply pw_below_drewN | apply below_drew1) | exact HB.out)) hb); have n1_ := Aside0.mk (hbox); have n2_ := Aside0.mk ((by rw [hg]; exact (below_size (by repeat (first | (with_reducible first | exact HB.out | apply below_alloc | apply pw_below_drewN | apply below_drew1) | exact HB.out))) : w.heap.size ≤ gb321)); have n3_ := Aside0.mk ((by rw [hg]; exact (below_size (by repeat (first | (with_reducible first | exact HB.out | apply below_alloc | apply pw_below_drewN | apply below_drew1) | exact HB.out))) : w.heap.size ≤ gb321)); clear HB; have HB := n0_; have BK321 := n1_; have GW321 := n2_; have GE321 := n3_; clear n0_ n1_ n2_ n3_; clear hb hbox hg; have hcz20_0 : w19.cell? ⟨gb321, 0, none⟩ = some (.string (⟨#[]⟩ : ByteArray)) := (blk_cell BK321.out 0).trans rfl; have hcz20_1 : w19.cell? ⟨gb321, 1, none⟩ = some (.int .i64 0) := (blk_cell BK321.out 1).trans rfl; have hcz20_2 : w19.cell? ⟨gb321, 2, none⟩ = some (.bool false) := (blk_cell BK321.out 2).trans rfl; have hfz20_0 := blk_frozen BK321.out 0; have hfz20_1 := blk_frozen BK321.out 1; have hfz20_2 := blk_frozen BK321.out 2; have p322 : 0 ≤ (x16_1 : Int) := of_decide_eq_true (by first | (with_reducible assumption) | assumption); have q322 : x16_1 < (l0.length : Int) := of_decide_eq_true (by first | (with_reducible assumption) | assumption); obtain ⟨ad322, e322, hx322_0, hx322_1⟩ := at_T65 HR0.out x16_1 p322 q322; cases e322; have hn322_0 : ad322.block ≠ gb321 := Nat.ne_of_lt (Nat.lt_of_lt_of_le (by have := World.block_lt_of_cell? _ _ hx322_0; first | rwa [add_block] at this | exact this) GW321.out); have hn322_1 : ad322.block ≠ gb321 := Nat.ne_of_lt (Nat.lt_of_lt_of_le (by have := World.block_lt_of_cell? _ _ hx322_0; first | rwa [add_block] at this | exact this) GW321.out); have hn322_2 : ad322.block ≠ gb321 := Nat.ne_of_lt (Nat.lt_of_lt_of_le (by have := World.block_lt_of_cell? _ _ hx322_0; first | rwa [add_block] at this | exact this) GW321.out); replace hx322_0 := (HB.out.cell (World.block_lt_of_cell? w _ hx322_0)).trans hx322_0; replace hx322_1 := (HB.out.cell (World.block_lt_of_cell? w _ hx322_1)).trans hx322_1; replace hx322_0 := (cell_far (p := ⟨gb321, 0, none⟩) (by first | (rw [add_block]; exact hn322_0) | (show (Addr.add _ _).block ≠ _; rw [add_block]; exact hn322_0) | exact hn322_0) (.string ((rd_T25 l1 x16_1).f0))).trans hx322_0; replace hx322_1 := (cell_far (p := ⟨gb321, 0, none⟩) (by first | (rw [add_block]; exact hn322_0) | (show (Addr.add _ _).block ≠ _; rw [add_block]; exact hn322_0) | exact hn322_0) (.string ((rd_T25 l1 x16_1).f0))).trans hx322_1; replace hx322_0 := (cell_far (p := ⟨gb321, 1, none⟩) (by first | (rw [add_block]; exact hn322_1) | (show (Addr.add _ _).block ≠ _; rw [add_block]; exact hn322_1) | exact hn322_1) (.int .i64 ((rd_T25 l1 x16_1).f1))).trans hx322_0; replace hx322_1 := (cell_far (p := ⟨gb321, 1, none⟩) (by first | (rw [add_block]; exact hn322_1) | (show (Addr.add _ _).block ≠ _; rw [add_block]; exact hn322_1) | exact hn322_1) (.int .i64 ((rd_T25 l1 x16_1).f1))).trans hx322_1; replace hx322_0 := (cell_far (p := ⟨gb321, 2, none⟩) (by first | (rw [add_block]; exact hn322_2) | (show (Addr.add _ _).block ≠ _; rw [add_block]; exact hn322_2) | exact hn322_2) (.bool ((rd_T25 l1 x16_1).f2))).trans hx322_0; replace hx322_1 := (cell_far (p := ⟨gb321, 2, none⟩) (by first | (rw [add_block]; exact hn322_2) | (show (Addr.add _ _).block ≠ _; rw [add_block]; exact hn322_2) | exact hn322_2) (.bool ((rd_T25 l1 x16_1).f2))).trans hx322_1; (try have hy322_0 := fun (n_ : Nat) => (show (((((w19.drewN n_).setCell ⟨gb321, 0, none⟩ (.string ((rd_T25 l1 x16_1).f0))).setCell ⟨gb321, 1, none⟩ (.int .i64 ((rd_T25 l1 x16_1).f1))).setCell ⟨gb321, 2, none⟩ (.bool ((rd_T25 l1 x16_1).f2)))).cell? _ = some _ from hx322_0)); (try have hy322_1 := fun (n_ : Nat) => (show (((((w19.drewN n_).setCell ⟨gb321, 0, none⟩ (.string ((rd_T25 l1 x16_1).f0))).setCell ⟨gb321, 1, none⟩ (.int .i64 ((rd_T25 l1 x16_1).f1))).setCell ⟨gb321, 2, none⟩ (.bool ((rd_T25 l1 x16_1).f2)))).cell? _ = some _ from hx322_1)); clear hn322_0; clear hn322_1; clear hn322_2; replace p322 := eq_true p322; replace q322 := eq_true q322) | ((with_reducible refine gate_dst (N := 31) rfl ?_); refine Kd.R_lit k25 _ 25 ?hg (N := 31) ?hd (xs := ([(⟨(rd_T25 l1 x16_1).f0, (rd_T25 l1 x16_1).f1, (rd_T25 l1 x16_1).f2⟩ : S25)] : List (S25))) (inner := [.string ((rd_T25 l1 x16_1).f0), .int .i64 ((rd_T25 l1 x16_1).f1), .bool ((rd_T25 l1 x16_1).f2)]) (ok := fun _ => True) (okp := fun _ => True) ?hr ?hp (fun _ hk => hk) trivial (Below.refl _ _) (Nat.le_refl _) (by simp) ?_; (case hd => rfl); (case hg => rfl); (case hr => first | (go_simp; done) | (go_simp; rfl)); (case hp => exact (Reps.c3 (show Kd.M k25 _ _ _ (⟨(rd_T25 l1 x16_1).f0, (rd_T25 l1 x16_1).f1, (rd_T25 l1 x16_1).f2⟩ : S25) [.string ((rd_T25 l1 x16_1).f0), .int .i64 ((rd_T25 l1 x16_1).f1), .bool ((rd_T25 l1 x16_1).f2)] from (k25_mkM _ _ _ (⟨(rd_T25 l1 x16_1).f0, (rd_T25 l1 x16_1).f1, (rd_T25 l1 x16_1).f2⟩ : S25) )) (Reps.none _ _))); intro v324 w21 ho22 hb hg_ hnew_; clear hg_ hnew_; (first | rw [← Ny323.out] at ho22 | (simp only [Int.reduceToNat] at ho22; rw [← Ny323.out] at ho22)); have n0_ := Aside0.mk (Kd.R_lower (Kd.R_newB ho22 (g := gb321) (o := .cells #[.string ((rd_T25 l1 x16_1).f0), .int .i64 ((rd_T25 l1 x16_1).f1), .bool ((rd_T25 l1 x16_1).f2)] 25 (0, 0)) (by (with_reducible repeat (first | refine blk_drewN ?_ _ | refine blk_drew ?_ | refine blk_alloc ?_ _)); refine blk_put (cs := #[.string ((rd_T25 l1 x16_1).f0), .int .i64 ((rd_T25 l1 x16_1).f1), .bool false]) ?_ 2 _ rfl; (with_reducible repeat (first | refine blk_drewN ?_ _ | refine blk_drew ?_ | refine blk_alloc ?_ _)); refine blk_put (cs := #[.string ((rd_T25 l1 x16_1).f0), .int .i64 0, .bool false]) ?_ 1 _ rfl; (with_reducible repeat (first | refine blk_drewN ?_ _ | refine blk_drew ?_ | refine blk_alloc ?_ _)); refine blk_put (cs := #[.string (⟨#[]⟩ : ByteArray), .int .i64 0, .bool false]) ?_ 0 _ rfl; (with_reducible repeat (first | refine blk_drewN ?_ _ | refine blk_drew ?_ | refine blk_alloc ?_ _)); exact BK321.out)) (below_size (by repeat (first | (with_reducible first | exact HB.out | apply below_alloc | apply pw_below_drewN | apply below_drew1 | refine below_set ?_ GE321.out) | exact HB.out)))); have n1_ := Aside0.mk (blk_below (g := gb321) (o := .cells #[.string ((rd_T25 l1 x16_1).f0), .int .i64 ((rd_T25 l1 x16_1).f1), .bool ((rd_T25 l1 x16_1).f2)] 25 (0, 0)) (by (with_reducible repeat (first | refine blk_drewN ?_ _ | refine blk_drew ?_ | refine blk_alloc ?_ _)); refine blk_put (cs := #[.string ((rd_T25 l1 x16_1).f0), .int .i64 ((rd_T25 l1 x16_1).f1), .bool false]) ?_ 2 _ rfl; (with_reducible repeat (first | refine blk_drewN ?_ _ | refine blk_drew ?_ | refine blk_alloc ?_ _)); refine blk_put (cs := #[.string ((rd_T25 l1 x16_1).f0), .int .i64 0, .bool false]) ?_ 1 _ rfl; (with_reducible repeat (first | refine blk_drewN ?_ _ | refine blk_drew ?_ | refine blk_alloc ?_ _)); refine blk_put (cs := #[.string (⟨#[]⟩ : ByteArray), .int .i64 0, .bool false]) ?_ 0 _ rfl; (with_reducible repeat (first | refine blk_drewN ?_ _ | refine blk_drew ?_ | refine blk_alloc ?_ _)); exact BK321.out) hb); have n2_ := Aside0.mk (below_step (by repeat (first | (with_reducible first | exact HB.out | apply below_alloc | apply pw_below_drewN | apply below_drew1 | refine below_set ?_ GE321.out) | exact HB.out)) hb); clear BK321; clear HB; have HO325 := n0_; have BK321 := n1_; have HB := n2_; clear n0_ n1_ n2_; clear hb ho22; obtain ⟨Ao23, co23, eo23⟩ := Kd.R_slice HO325.out; subst eo23) | (go_at_call 37; (with_reducible refine (keys_Put.calls k1 _ _ y323 t326 t327 _ ?side1 ?side2 A11.out).mono ?_); (case side1 => repeat (first | exact (Kd.R_reads' HO325.out).2.2 | (with_reducible refine Kd.C_alloc ?_ _) | (with_reducible refine Kd.C_drewN ?_ _) | (with_reducible refine Kd.C_drew ?_))); (case side2 => exact (Kd.R_reads' HO325.out).2.1); rintro e w24 ⟨rfl, hb⟩; have n0_ := Aside0.mk (Kd.R_below (by (with_reducible repeat (first | apply Kd.R_alloc | apply Kd.R_drewN | apply Kd.R_drew)); exact HO325.out) hb); have n1_ := Aside0.mk (blk_below (g := gb321) (o := .cells #[.string ((rd_T25 l1 x16_1).f0), .int .i64 ((rd_T25 l1 x16_1).f1), .bool ((rd_T25 l1 x16_1).f2)] 25 (0, 0)) (by (with_reducible repeat (first | refine blk_drewN ?_ _ | refine blk_drew ?_ | refine blk_alloc ?_ _)); exact BK321.out) hb); have n2_ := Aside0.mk (below_step (by repeat (first | (with_reducible first | exact HB.out | apply below_alloc | apply pw_below_drewN | apply below_drew1 | refine below_set ?_ GE321.out) | exact HB.out)) hb); clear HO325; clear BK321; clear HB; have HO325 := n0_; have BK321 := n1_; have HB := n2_; clear n0_ n1_ n2_; (try clear hb); (try clear hb2); (try clear hk); (try clear hi))))
          go_ret
          exact ⟨by first | rfl | (simp [errW_none, errW_some] <;> rfl) | (simp [*, errW_none, errW_some] <;> rfl), by repeat (first | (with_reducible first | exact HB.out | apply below_alloc | apply pw_below_drewN | apply below_drew1 | refine below_set ?_ GE321.out) | exact HB.out)⟩
       ·rw [if_neg c7] at H
        exact absurd H (by simp)
      ·rw [if_neg c6] at H
       exact absurd H (by simp)
     ·rw [if_neg c5] at H
      exact absurd H (by simp)
    ·rw [if_neg c4] at H
     have c4b0 : decide (x16_1 < (l1.length : Int)) = false := decide_eq_false c4
     clear c4
     obtain rfl := Option.some.inj H
     go_wp2
     repeat (go_quiet (fail); try go_wp2)
     go_ret
     exact ⟨by first | rfl | (simp [errW_none, errW_some] <;> rfl) | (simp [*, errW_none, errW_some] <;> rfl), by repeat (first | (with_reducible first | exact HB.out | apply below_alloc | apply pw_below_drewN | apply below_drew1) | exact HB.out)⟩
 ·rw [if_neg c3] at H
  have c3b0 : ((l0.length : Int) == (l1.length : Int)) = false := beq_eq_false_iff_ne.mpr c3
  have c3b1 : ((l0.length : Int) != (l1.length : Int)) = true := bne_iff_ne.mpr c3
  have c3b2 : (l0.length == l1.length) = false := by first | simpa using c3 | (simp at c3 ⊢; omega)
  obtain rfl := Option.some.inj H
  go_enter Tryd.func27, Tryd.ntmps27
  go_wp2
  repeat (go_quiet (fail); try go_wp2)
  go_ret
  exact ⟨by first | rfl | (simp [errW_none, errW_some] <;> rfl) | (simp [*, errW_none, errW_some] <;> rfl), by repeat (first | (with_reducible first | exact HB.out | apply below_alloc | apply pw_below_drewN | apply below_drew1) | exact HB.out)⟩

/-! ### concordanceref19_Fits: function 28 -/
def concordanceref19_Fits.l0 : Nat → List (S66) → List (S26) → Int → Option (Int)
 | 0, _, _, _ => none
 | k + 1, x0, x1, x5 => if x5 < (x1.length : Int) then (if 0 ≤ x5 then (if x5 < (x0.length : Int) then (if (((rd_T66 x0 x5).f1) != ((rd_T26 x1 x5).f2)) = true then (some 15) else ((concordanceref01_One.f k ((rd_T26 x1 x5).f0) ((rd_T26 x1 x5).f1) ((rd_T26 x1 x5).f2)).bind fun bt331 => (if bt331.2 = 0 then (concordanceref19_Fits.l0 k x0 x1 (wrap64 (x5 + 1))) else (some bt331.2)))) else (none)) else (none)) else (some 0)
def concordanceref19_Fits.f (k : Nat) (l0 : List (S66)) (l1 : List (S26)) : Option (Int) := if (l0.length : Int) = (l1.length : Int) then (concordanceref19_Fits.l0 k l0 l1 0) else (some 14)
theorem concordanceref19_Fits.mono_l : ∀ k, (∀ y0 y1 y2, LeO (concordanceref19_Fits.l0 k y0 y1 y2) (concordanceref19_Fits.l0 (k + 1) y0 y1 y2))
 | 0 => fun _ _ _ r h => by simp [concordanceref19_Fits.l0] at h
 | k + 1 => by
  have ih0 := concordanceref19_Fits.mono_l k
  ·intro y0 y1 y2
   unfold concordanceref19_Fits.l0
   repeat' first
   | (with_reducible exact ih0 _ _ _)
   | (with_reducible exact concordanceref01_One.mono _ _ _ _)
   | (with_reducible exact LeO.refl _)
   | (with_reducible exact LeO.none _)
   | (with_reducible refine LeO.ite ?_ ?_)
   | (with_reducible refine LeO.bind ?_ (fun _ => ?_))
   | exact ih0 _ _ _
   | exact concordanceref01_One.mono _ _ _ _
   | exact LeO.none _
   | refine LeO.ite ?_ ?_
   | refine LeO.bind ?_ (fun _ => ?_)
theorem concordanceref19_Fits.mono : ∀ a0 a1 k, LeO (concordanceref19_Fits.f k a0 a1) (concordanceref19_Fits.f (k + 1) a0 a1) := by
 intro a0 a1 k
 have ih0 := concordanceref19_Fits.mono_l k
 unfold concordanceref19_Fits.f
 repeat' first
   | (with_reducible exact ih0 _ _ _)
   | (with_reducible exact concordanceref01_One.mono _ _ _ _)
   | (with_reducible exact LeO.refl _)
   | (with_reducible exact LeO.none _)
   | (with_reducible refine LeO.ite ?_ ?_)
   | (with_reducible refine LeO.bind ?_ (fun _ => ?_))
   | exact ih0 _ _ _
   | exact concordanceref01_One.mono _ _ _ _
   | exact LeO.none _
   | refine LeO.ite ?_ ?_
   | refine LeO.bind ?_ (fun _ => ?_)
set_option maxHeartbeats 8000000 in
set_option maxRecDepth 100000 in
theorem concordanceref19_Fits.calls (k : Nat) (A0 : Option Addr) (c0 : Nat) (l0 : List (S66)) (A1 : Option Addr) (c1 : Nat) (l1 : List (S26)) (r : Int) (w : World) (hr0 : Kd.C k66 w A0 l0.length l0) (hc0 : l0.length ≤ c0) (hr1 : Kd.C k26 w A1 l1.length l1) (hc1 : l1.length ≤ c1) (h : concordanceref19_Fits.f k l0 l1 = some r) :
  Calls Tryd.prog 28 #[.slice A0 l0.length c0, .slice A1 l1.length c1] w fun e w' => e = .returned (.int .i64 r) ∧ Below w.heap.size w w' := by
 have hu26 := Tryd.underlying26
 have HR0 := Aside0.mk hr0
 have HC0 := Aside0.mk hc0
 clear hr0 hc0
 have HR1 := Aside0.mk hr1
 have HC1 := Aside0.mk hc1
 clear hr1 hc1
 have HB := Aside0.mk (Below.refl w.heap.size w)
 have H : (if (l0.length : Int) = (l1.length : Int) then (concordanceref19_Fits.l0 k l0 l1 0) else (some 14)) = some r := h
 clear h
 by_cases c3 : (l0.length : Int) = (l1.length : Int)
 ·rw [if_pos c3] at H
  have c3b0 : ((l0.length : Int) == (l1.length : Int)) = true := beq_iff_eq.mpr c3
  have c3b1 : ((l0.length : Int) != (l1.length : Int)) = false := bne_eq_false_iff_eq.mpr c3
  have c3b2 : (l0.length == l1.length) = true := by first | simpa using c3 | (simp at c3 ⊢; omega)
  clear c3
  have H' := Aside0.mk H
  clear H
  go_enter Tryd.func28, Tryd.ntmps28
  go_wp2
  repeat (go_quiet (fail); try go_wp2)
  go_loopg [5] k (fun kq v5 w' => ∃ (x5_1 : Int), v5 = .int .i64 x5_1 ∧ Aside0 (concordanceref19_Fits.l0 kq l0 l1 x5_1 = some r) ∧ Aside0 (kq ≤ k) ∧ Aside0 (Below w.heap.size w w'))
  case atStart => exact ⟨(0), (by first | rfl | (simp; done) | (simp [*]; done)), H', ⟨Nat.le_refl _⟩, ⟨by repeat (first | (with_reducible first | exact HB.out | apply below_alloc | apply pw_below_drewN | apply below_drew1) | exact HB.out)⟩⟩
  case round =>
   clear H'
   try clear c1
   try clear c2
   try clear p2
   try clear c3
   try clear c3b0
   try clear c3b1
   try clear c3b2
   obtain ⟨x5_1, rfl, HA, HK1, HB⟩ := hrel
   cases gk with
   | zero => exact absurd HA.out (by simp [concordanceref19_Fits.l0])
   | succ k1 =>
    have H := HA.out
    clear HA
    simp only [concordanceref19_Fits.l0] at H
    by_cases c4 : x5_1 < (l1.length : Int)
    ·rw [if_pos c4] at H
     have c4b0 : decide (x5_1 < (l1.length : Int)) = true := decide_eq_true c4
     clear c4
     by_cases c5 : 0 ≤ x5_1
     ·rw [if_pos c5] at H
      have c5b0 : decide (0 ≤ x5_1) = true := decide_eq_true c5
      clear c5
      by_cases c6 : x5_1 < (l0.length : Int)
      ·rw [if_pos c6] at H
       have c6b0 : decide (x5_1 < (l0.length : Int)) = true := decide_eq_true c6
       clear c6
       by_cases c7 : (((rd_T66 l0 x5_1).f1) != ((rd_T26 l1 x5_1).f2)) = true
       ·rw [if_pos c7] at H
        have c7b0 : (((rd_T66 l0 x5_1).f1) != ((rd_T26 l1 x5_1).f2)) = true := c7
        (try (have c7b1 : decide (((rd_T66 l0 x5_1).f1) = ((rd_T26 l1 x5_1).f2)) = false := by simpa using c7))
        (try (have c7b2 : (((rd_T66 l0 x5_1).f1) == ((rd_T26 l1 x5_1).f2)) = false := by simpa using c7))
        (try (have c7b3 : ¬ (((rd_T66 l0 x5_1).f1) = ((rd_T26 l1 x5_1).f2)) := by simpa using c7))
        clear c7
        obtain rfl := Option.some.inj H
        have p328 : 0 ≤ (x5_1 : Int) := of_decide_eq_true (by first | (with_reducible assumption) | assumption)
        have q328 : x5_1 < (l0.length : Int) := of_decide_eq_true (by first | (with_reducible assumption) | assumption)
        obtain ⟨ad328, e328, hx328_0, hx328_1⟩ := at_T66 HR0.out x5_1 p328 q328
        cases e328
        replace hx328_0 := (HB.out.cell (World.block_lt_of_cell? w _ hx328_0)).trans hx328_0
        replace hx328_1 := (HB.out.cell (World.block_lt_of_cell? w _ hx328_1)).trans hx328_1
        replace p328 := eq_true p328
        replace q328 := eq_true q328
        have p329 : 0 ≤ (x5_1 : Int) := of_decide_eq_true (by first | (with_reducible assumption) | assumption)
        have q329 : x5_1 < (l1.length : Int) := of_decide_eq_true (by first | (with_reducible assumption) | assumption)
        obtain ⟨ad329, e329, hx329_0, hx329_1, hx329_2⟩ := at_T26 HR1.out x5_1 p329 q329
        cases e329
        replace hx329_0 := (HB.out.cell (World.block_lt_of_cell? w _ hx329_0)).trans hx329_0
        replace hx329_1 := (HB.out.cell (World.block_lt_of_cell? w _ hx329_1)).trans hx329_1
        replace hx329_2 := (HB.out.cell (World.block_lt_of_cell? w _ hx329_2)).trans hx329_2
        replace p329 := eq_true p329
        replace q329 := eq_true q329
        go_wp2
        repeat (go_quiet (fail); try go_wp2)
        go_ret
        exact ⟨by first | rfl | (simp [errW_none, errW_some] <;> rfl) | (simp [*, errW_none, errW_some] <;> rfl), by repeat (first | (with_reducible first | exact HB.out | apply below_alloc | apply pw_below_drewN | apply below_drew1) | exact HB.out)⟩
       ·rw [if_neg c7] at H
        have c7b0 : (((rd_T66 l0 x5_1).f1) != ((rd_T26 l1 x5_1).f2)) = false := by simpa using c7
        (try (have c7b1 : decide (((rd_T66 l0 x5_1).f1) = ((rd_T26 l1 x5_1).f2)) = true := by simpa using c7))
        (try (have c7b2 : (((rd_T66 l0 x5_1).f1) == ((rd_T26 l1 x5_1).f2)) = true := by simpa using c7))
        clear c7
        replace H := Option.bind_eq_some_iff.mp H
        obtain ⟨⟨t331, t332⟩, A80, H⟩ := H
        replace H : (if t332 = 0 then (concordanceref19_Fits.l0 k1 l0 l1 (wrap64 (x5_1 + 1))) else (some t332)) = some r := H
        have A8 := Aside0.mk A80
        clear A80
        by_cases c9 : t332 = 0
        ·rw [if_pos c9] at H
         have c9b0 : (t332 == 0) = true := beq_iff_eq.mpr c9
         have c9b1 : (t332 != 0) = false := bne_eq_false_iff_eq.mpr c9
         clear c9
         have H' := Aside0.mk H
         clear H
         have p328 : 0 ≤ (x5_1 : Int) := of_decide_eq_true (by first | (with_reducible assumption) | assumption)
         have q328 : x5_1 < (l0.length : Int) := of_decide_eq_true (by first | (with_reducible assumption) | assumption)
         obtain ⟨ad328, e328, hx328_0, hx328_1⟩ := at_T66 HR0.out x5_1 p328 q328
         cases e328
         replace hx328_0 := (HB.out.cell (World.block_lt_of_cell? w _ hx328_0)).trans hx328_0
         replace hx328_1 := (HB.out.cell (World.block_lt_of_cell? w _ hx328_1)).trans hx328_1
         replace p328 := eq_true p328
         replace q328 := eq_true q328
         have p329 : 0 ≤ (x5_1 : Int) := of_decide_eq_true (by first | (with_reducible assumption) | assumption)
         have q329 : x5_1 < (l1.length : Int) := of_decide_eq_true (by first | (with_reducible assumption) | assumption)
         obtain ⟨ad329, e329, hx329_0, hx329_1, hx329_2⟩ := at_T26 HR1.out x5_1 p329 q329
         cases e329
         replace hx329_0 := (HB.out.cell (World.block_lt_of_cell? w _ hx329_0)).trans hx329_0
         replace hx329_1 := (HB.out.cell (World.block_lt_of_cell? w _ hx329_1)).trans hx329_1
         replace hx329_2 := (HB.out.cell (World.block_lt_of_cell? w _ hx329_2)).trans hx329_2
         replace p329 := eq_true p329
         replace q329 := eq_true q329
         have p330 : 0 ≤ (x5_1 : Int) := of_decide_eq_true (by first | (with_reducible assumption) | assumption)
         have q330 : x5_1 < (l1.length : Int) := of_decide_eq_true (by first | (with_reducible assumption) | assumption)
         obtain ⟨ad330, e330, hx330_0, hx330_1, hx330_2⟩ := at_T26 HR1.out x5_1 p330 q330
         obtain rfl : ad329 = ad330 := (by injection e330)
         replace hx330_0 := (HB.out.cell (World.block_lt_of_cell? w _ hx330_0)).trans hx330_0
         replace hx330_1 := (HB.out.cell (World.block_lt_of_cell? w _ hx330_1)).trans hx330_1
         replace hx330_2 := (HB.out.cell (World.block_lt_of_cell? w _ hx330_2)).trans hx330_2
         replace p330 := eq_true p330
         replace q330 := eq_true q330
         go_wp2_with (first | (go_at_call 19; (with_reducible refine (concordanceref01_One.calls k1 ((rd_T26 l1 x5_1).f0) ((rd_T26 l1 x5_1).f1) ((rd_T26 l1 x5_1).f2) t331 t332 _ A8.out).mono ?_); rintro e w10 ⟨rfl, hb⟩; have n0_ := Aside0.mk (below_step (by repeat (first | (with_reducible first | exact HB.out | apply below_alloc | apply pw_below_drewN | apply below_drew1) | exact HB.out)) hb); clear HB; have HB := n0_; clear n0_; (try clear hb); (try clear hb2); (try clear hk); (try clear hi)))
         repeat (go_quiet (first | (go_at_call 19; (with_reducible refine (concordanceref01_One.calls k1 ((rd_T26 l1 x5_1).f0) ((rd_T26 l1 x5_1).f1) ((rd_T26 l1 x5_1).f2) t331 t332 _ A8.out).mono ?_); rintro e w10 ⟨rfl, hb⟩; have n0_ := Aside0.mk (below_step (by repeat (first | (with_reducible first | exact HB.out | apply below_alloc | apply pw_below_drewN | apply below_drew1) | exact HB.out)) hb); clear HB; have HB := n0_; clear n0_; (try clear hb); (try clear hb2); (try clear hk); (try clear hi))); try go_wp2_with (first | (go_at_call 19; (with_reducible refine (concordanceref01_One.calls k1 ((rd_T26 l1 x5_1).f0) ((rd_T26 l1 x5_1).f1) ((rd_T26 l1 x5_1).f2) t331 t332 _ A8.out).mono ?_); rintro e w10 ⟨rfl, hb⟩; have n0_ := Aside0.mk (below_step (by repeat (first | (with_reducible first | exact HB.out | apply below_alloc | apply pw_below_drewN | apply below_drew1) | exact HB.out)) hb); clear HB; have HB := n0_; clear n0_; (try clear hb); (try clear hb2); (try clear hk); (try clear hi))))
         go_roundg k1
         case measure => have := HK1.out; omega
         case rel => exact ⟨(wrap64 (x5_1 + 1)), (by first | rfl | (simp; done) | (simp [*]; done)), H', ⟨by have := HK1.out; omega⟩, ⟨by repeat (first | (with_reducible first | exact HB.out | apply below_alloc | apply pw_below_drewN | apply below_drew1) | exact HB.out)⟩⟩
        ·rw [if_neg c9] at H
         have c9b0 : (t332 == 0) = false := beq_eq_false_iff_ne.mpr c9
         have c9b1 : (t332 != 0) = true := bne_iff_ne.mpr c9
         obtain rfl := Option.some.inj H
         have p328 : 0 ≤ (x5_1 : Int) := of_decide_eq_true (by first | (with_reducible assumption) | assumption)
         have q328 : x5_1 < (l0.length : Int) := of_decide_eq_true (by first | (with_reducible assumption) | assumption)
         obtain ⟨ad328, e328, hx328_0, hx328_1⟩ := at_T66 HR0.out x5_1 p328 q328
         cases e328
         replace hx328_0 := (HB.out.cell (World.block_lt_of_cell? w _ hx328_0)).trans hx328_0
         replace hx328_1 := (HB.out.cell (World.block_lt_of_cell? w _ hx328_1)).trans hx328_1
         replace p328 := eq_true p328
         replace q328 := eq_true q328
         have p329 : 0 ≤ (x5_1 : Int) := of_decide_eq_true (by first | (with_reducible assumption) | assumption)
         have q329 : x5_1 < (l1.length : Int) := of_decide_eq_true (by first | (with_reducible assumption) | assumption)
         obtain ⟨ad329, e329, hx329_0, hx329_1, hx329_2⟩ := at_T26 HR1.out x5_1 p329 q329
         cases e329
         replace hx329_0 := (HB.out.cell (World.block_lt_of_cell? w _ hx329_0)).trans hx329_0
         replace hx329_1 := (HB.out.cell (World.block_lt_of_cell? w _ hx329_1)).trans hx329_1
         replace hx329_2 := (HB.out.cell (World.block_lt_of_cell? w _ hx329_2)).trans hx329_2
         replace p329 := eq_true p329
         replace q329 := eq_true q329
         have p330 : 0 ≤ (x5_1 : Int) := of_decide_eq_true (by first | (with_reducible assumption) | assumption)
         have q330 : x5_1 < (l1.length : Int) := of_decide_eq_true (by first | (with_reducible assumption) | assumption)
         obtain ⟨ad330, e330, hx330_0, hx330_1, hx330_2⟩ := at_T26 HR1.out x5_1 p330 q330
         obtain rfl : ad329 = ad330 := (by injection e330)
         replace hx330_0 := (HB.out.cell (World.block_lt_of_cell? w _ hx330_0)).trans hx330_0
         replace hx330_1 := (HB.out.cell (World.block_lt_of_cell? w _ hx330_1)).trans hx330_1
         replace hx330_2 := (HB.out.cell (World.block_lt_of_cell? w _ hx330_2)).trans hx330_2
         replace p330 := eq_true p330
         replace q330 := eq_true q330
         go_wp2_with (first | (go_at_call 19; (with_reducible refine (concordanceref01_One.calls k1 ((rd_T26 l1 x5_1).f0) ((rd_T26 l1 x5_1).f1) ((rd_T26 l1 x5_1).f2) t331 t332 _ A8.out).mono ?_); rintro e w11 ⟨rfl, hb⟩; have n0_ := Aside0.mk (below_step (by repeat (first | (with_reducible first | exact HB.out | apply below_alloc | apply pw_below_drewN | apply below_drew1) | exact HB.out)) hb); clear HB; have HB := n0_; clear n0_; (try clear hb); (try clear hb2); (try clear hk); (try clear hi)))
         repeat (go_quiet (first | (go_at_call 19; (with_reducible refine (concordanceref01_One.calls k1 ((rd_T26 l1 x5_1).f0) ((rd_T26 l1 x5_1).f1) ((rd_T26 l1 x5_1).f2) t331 t332 _ A8.out).mono ?_); rintro e w11 ⟨rfl, hb⟩; have n0_ := Aside0.mk (below_step (by repeat (first | (with_reducible first | exact HB.out | apply below_alloc | apply pw_below_drewN | apply below_drew1) | exact HB.out)) hb); clear HB; have HB := n0_; clear n0_; (try clear hb); (try clear hb2); (try clear hk); (try clear hi))); try go_wp2_with (first | (go_at_call 19; (with_reducible refine (concordanceref01_One.calls k1 ((rd_T26 l1 x5_1).f0) ((rd_T26 l1 x5_1).f1) ((rd_T26 l1 x5_1).f2) t331 t332 _ A8.out).mono ?_); rintro e w11 ⟨rfl, hb⟩; have n0_ := Aside0.mk (below_step (by repeat (first | (with_reducible first | exact HB.out | apply below_alloc | apply pw_below_drewN | apply below_drew1) | exact HB.out)) hb); clear HB; have HB := n0_; clear n0_; (try clear hb); (try clear hb2); (try clear hk); (try clear hi))))
         go_ret
         exact ⟨by first | rfl | (simp [errW_none, errW_some] <;> rfl) | (simp [*, errW_none, errW_some] <;> rfl), by repeat (first | (with_reducible first | exact HB.out | apply below_alloc | apply pw_below_drewN | apply below_drew1) | exact HB.out)⟩
      ·rw [if_neg c6] at H
       exact absurd H (by simp)
     ·rw [if_neg c5] at H
      exact absurd H (by simp)
    ·rw [if_neg c4] at H
     have c4b0 : decide (x5_1 < (l1.length : Int)) = false := decide_eq_false c4
     clear c4
     obtain rfl := Option.some.inj H
     go_wp2
     repeat (go_quiet (fail); try go_wp2)
     go_ret
     exact ⟨by first | rfl | (simp [errW_none, errW_some] <;> rfl) | (simp [*, errW_none, errW_some] <;> rfl), by repeat (first | (with_reducible first | exact HB.out | apply below_alloc | apply pw_below_drewN | apply below_drew1) | exact HB.out)⟩
 ·rw [if_neg c3] at H
  have c3b0 : ((l0.length : Int) == (l1.length : Int)) = false := beq_eq_false_iff_ne.mpr c3
  have c3b1 : ((l0.length : Int) != (l1.length : Int)) = true := bne_iff_ne.mpr c3
  have c3b2 : (l0.length == l1.length) = false := by first | simpa using c3 | (simp at c3 ⊢; omega)
  obtain rfl := Option.some.inj H
  go_enter Tryd.func28, Tryd.ntmps28
  go_wp2
  repeat (go_quiet (fail); try go_wp2)
  go_ret
  exact ⟨by first | rfl | (simp [errW_none, errW_some] <;> rfl) | (simp [*, errW_none, errW_some] <;> rfl), by repeat (first | (with_reducible first | exact HB.out | apply below_alloc | apply pw_below_drewN | apply below_drew1) | exact HB.out)⟩

/-! ### tuple_Put: function 29 -/
def tuple_Put.f (k : Nat) (l0 : List (S25)) : Option (ByteArray × Int) := (keys_Put.f k l0).bind fun bt333 => (if bt333.2 = 0 then (if (bt333.1.size : Int) > 100 then (some ((⟨#[]⟩ : ByteArray), 6)) else (some (bt333.1, 0))) else (some ((⟨#[]⟩ : ByteArray), bt333.2)))
theorem tuple_Put.mono : ∀ a0 k, LeO (tuple_Put.f k a0) (tuple_Put.f (k + 1) a0) := by
 intro a0 k
 unfold tuple_Put.f
 repeat' first
   | (with_reducible exact keys_Put.mono _ _)
   | (with_reducible exact LeO.refl _)
   | (with_reducible exact LeO.none _)
   | (with_reducible refine LeO.ite ?_ ?_)
   | (with_reducible refine LeO.bind ?_ (fun _ => ?_))
   | exact keys_Put.mono _ _
   | exact LeO.none _
   | refine LeO.ite ?_ ?_
   | refine LeO.bind ?_ (fun _ => ?_)
set_option maxHeartbeats 8000000 in
set_option maxRecDepth 100000 in
theorem tuple_Put.calls (k : Nat) (A0 : Option Addr) (c0 : Nat) (l0 : List (S25)) (r1 : ByteArray) (r2 : Int) (w : World) (hr0 : Kd.C k25 w A0 l0.length l0) (hc0 : l0.length ≤ c0) (h : tuple_Put.f k l0 = some (r1, r2)) :
  Calls Tryd.prog 29 #[.slice A0 l0.length c0] w fun e w' => e = .returned (.tuple #[.string r1, .int .i64 r2]) ∧ Below w.heap.size w w' := by
 have HR0 := Aside0.mk hr0
 have HC0 := Aside0.mk hc0
 clear hr0 hc0
 have HB := Aside0.mk (Below.refl w.heap.size w)
 have H : ((keys_Put.f k l0).bind fun bt333 => (if bt333.2 = 0 then (if (bt333.1.size : Int) > 100 then (some ((⟨#[]⟩ : ByteArray), 6)) else (some (bt333.1, 0))) else (some ((⟨#[]⟩ : ByteArray), bt333.2)))) = some (r1, r2) := h
 clear h
 replace H := Option.bind_eq_some_iff.mp H
 obtain ⟨⟨t333, t334⟩, A20, H⟩ := H
 replace H : (if t334 = 0 then (if (t333.size : Int) > 100 then (some ((⟨#[]⟩ : ByteArray), 6)) else (some (t333, 0))) else (some ((⟨#[]⟩ : ByteArray), t334))) = some (r1, r2) := H
 have A2 := Aside0.mk A20
 clear A20
 by_cases c3 : t334 = 0
 ·rw [if_pos c3] at H
  have c3b0 : (t334 == 0) = true := beq_iff_eq.mpr c3
  have c3b1 : (t334 != 0) = false := bne_eq_false_iff_eq.mpr c3
  clear c3
  by_cases c4 : (t333.size : Int) > 100
  ·rw [if_pos c4] at H
   have c4b0 : decide (100 < (t333.size : Int)) = true := decide_eq_true c4
   have c4b1 : decide (100 < t333.size) = true := decide_eq_true (by omega)
   clear c4
   simp only [Option.some.injEq, Prod.mk.injEq] at H
   obtain ⟨rfl, rfl⟩ := H
   go_enter Tryd.func29, Tryd.ntmps29
   go_wp2_with (first | ((with_reducible refine gate_callee (f := 37) rfl ?_); refine goesL_ (some 8) rfl rfl Tryd.func37 (by kernel_rfl) rfl #[.slice A0 l0.length c0] rfl (by (try simp only [List.map_toArray, List.map_cons, List.map_nil]); first | done | rfl | (simp only [List.length_drop, List.length_take]; rfl)) ?_; (with_reducible refine (keys_Put.calls k _ _ l0 t333 t334 _ ?side1 ?side2 A2.out).mono ?_); (case side1 => repeat (first | exact HR0.out | (with_reducible refine Kd.C_alloc ?_ _) | (with_reducible refine Kd.C_drewN ?_ _) | (with_reducible refine Kd.C_drew ?_))); (case side2 => exact HC0.out); rintro e w5 ⟨rfl, hb⟩; refine ⟨_, rfl, ?_⟩; have n0_ := Aside0.mk (below_step (by repeat (first | (with_reducible first | exact HB.out | apply below_alloc | apply pw_below_drewN | apply below_drew1) | exact HB.out)) hb); clear HB; have HB := n0_; clear n0_; (try clear hb); (try clear hb2); (try clear hk); (try clear hi)))
   go_ret2
   exact ⟨by first | rfl | (simp [errW_none, errW_some] <;> rfl) | (simp [*, errW_none, errW_some] <;> rfl), by repeat (first | (with_reducible first | exact HB.out | apply below_alloc | apply pw_below_drewN | apply below_drew1) | exact HB.out)⟩
  ·rw [if_neg c4] at H
   have c4b0 : decide (100 < (t333.size : Int)) = false := decide_eq_false c4
   have c4b1 : decide (100 < t333.size) = false := decide_eq_false (by omega)
   clear c4
   simp only [Option.some.injEq, Prod.mk.injEq] at H
   obtain ⟨rfl, rfl⟩ := H
   go_enter Tryd.func29, Tryd.ntmps29
   go_wp2_with (first | ((with_reducible refine gate_callee (f := 37) rfl ?_); refine goesL_ (some 8) rfl rfl Tryd.func37 (by kernel_rfl) rfl #[.slice A0 l0.length c0] rfl (by (try simp only [List.map_toArray, List.map_cons, List.map_nil]); first | done | rfl | (simp only [List.length_drop, List.length_take]; rfl)) ?_; (with_reducible refine (keys_Put.calls k _ _ l0 t333 t334 _ ?side1 ?side2 A2.out).mono ?_); (case side1 => repeat (first | exact HR0.out | (with_reducible refine Kd.C_alloc ?_ _) | (with_reducible refine Kd.C_drewN ?_ _) | (with_reducible refine Kd.C_drew ?_))); (case side2 => exact HC0.out); rintro e w6 ⟨rfl, hb⟩; refine ⟨_, rfl, ?_⟩; have n0_ := Aside0.mk (below_step (by repeat (first | (with_reducible first | exact HB.out | apply below_alloc | apply pw_below_drewN | apply below_drew1) | exact HB.out)) hb); clear HB; have HB := n0_; clear n0_; (try clear hb); (try clear hb2); (try clear hk); (try clear hi)))
   go_ret2
   exact ⟨by first | rfl | (simp [errW_none, errW_some] <;> rfl) | (simp [*, errW_none, errW_some] <;> rfl), by repeat (first | (with_reducible first | exact HB.out | apply below_alloc | apply pw_below_drewN | apply below_drew1) | exact HB.out)⟩
 ·rw [if_neg c3] at H
  have c3b0 : (t334 == 0) = false := beq_eq_false_iff_ne.mpr c3
  have c3b1 : (t334 != 0) = true := bne_iff_ne.mpr c3
  simp only [Option.some.injEq, Prod.mk.injEq] at H
  obtain ⟨rfl, rfl⟩ := H
  go_enter Tryd.func29, Tryd.ntmps29
  go_wp2_with (first | ((with_reducible refine gate_callee (f := 37) rfl ?_); refine goesL_ (some 8) rfl rfl Tryd.func37 (by kernel_rfl) rfl #[.slice A0 l0.length c0] rfl (by (try simp only [List.map_toArray, List.map_cons, List.map_nil]); first | done | rfl | (simp only [List.length_drop, List.length_take]; rfl)) ?_; (with_reducible refine (keys_Put.calls k _ _ l0 t333 t334 _ ?side1 ?side2 A2.out).mono ?_); (case side1 => repeat (first | exact HR0.out | (with_reducible refine Kd.C_alloc ?_ _) | (with_reducible refine Kd.C_drewN ?_ _) | (with_reducible refine Kd.C_drew ?_))); (case side2 => exact HC0.out); rintro e w7 ⟨rfl, hb⟩; refine ⟨_, rfl, ?_⟩; have n0_ := Aside0.mk (below_step (by repeat (first | (with_reducible first | exact HB.out | apply below_alloc | apply pw_below_drewN | apply below_drew1) | exact HB.out)) hb); clear HB; have HB := n0_; clear n0_; (try clear hb); (try clear hb2); (try clear hk); (try clear hi)))
  go_ret2
  exact ⟨by first | rfl | (simp [errW_none, errW_some] <;> rfl) | (simp [*, errW_none, errW_some] <;> rfl), by repeat (first | (with_reducible first | exact HB.out | apply below_alloc | apply pw_below_drewN | apply below_drew1) | exact HB.out)⟩

/-! ### concordanceref01_Put: function 46 -/
def concordanceref01_Put.l0 : Nat → List (S26) → ByteArray → Int → Option (ByteArray × Int)
 | 0, _, _, _ => none
 | k + 1, x0, x4, x5 => if x5 < (x0.length : Int) then (if 0 ≤ x5 then ((concordanceref01_One.f k ((rd_T26 x0 x5).f0) ((rd_T26 x0 x5).f1) ((rd_T26 x0 x5).f2)).bind fun bt336 => (if bt336.2 = 0 then (if x4.size + bt336.1.size ≤ 9223372036854775807 then (concordanceref01_Put.l0 k x0 (x4 ++ bt336.1) (wrap64 (x5 + 1))) else (none)) else (some ((⟨#[]⟩ : ByteArray), bt336.2)))) else (none)) else (some (x4, 0))
def concordanceref01_Put.f (k : Nat) (l0 : List (S26)) : Option (ByteArray × Int) := concordanceref01_Put.l0 k l0 (⟨#[]⟩ : ByteArray) 0
theorem concordanceref01_Put.mono_l : ∀ k, (∀ y0 y1 y2, LeO (concordanceref01_Put.l0 k y0 y1 y2) (concordanceref01_Put.l0 (k + 1) y0 y1 y2))
 | 0 => fun _ _ _ r h => by simp [concordanceref01_Put.l0] at h
 | k + 1 => by
  have ih0 := concordanceref01_Put.mono_l k
  ·intro y0 y1 y2
   unfold concordanceref01_Put.l0
   repeat' first
   | (with_reducible exact ih0 _ _ _)
   | (with_reducible exact concordanceref01_One.mono _ _ _ _)
   | (with_reducible exact LeO.refl _)
   | (with_reducible exact LeO.none _)
   | (with_reducible refine LeO.ite ?_ ?_)
   | (with_reducible refine LeO.bind ?_ (fun _ => ?_))
   | exact ih0 _ _ _
   | exact concordanceref01_One.mono _ _ _ _
   | exact LeO.none _
   | refine LeO.ite ?_ ?_
   | refine LeO.bind ?_ (fun _ => ?_)
theorem concordanceref01_Put.mono : ∀ a0 k, LeO (concordanceref01_Put.f k a0) (concordanceref01_Put.f (k + 1) a0) := by
 intro a0 k
 have ih0 := concordanceref01_Put.mono_l k
 unfold concordanceref01_Put.f
 repeat' first
   | (with_reducible exact ih0 _ _ _)
   | (with_reducible exact concordanceref01_One.mono _ _ _ _)
   | (with_reducible exact LeO.refl _)
   | (with_reducible exact LeO.none _)
   | (with_reducible refine LeO.ite ?_ ?_)
   | (with_reducible refine LeO.bind ?_ (fun _ => ?_))
   | exact ih0 _ _ _
   | exact concordanceref01_One.mono _ _ _ _
   | exact LeO.none _
   | refine LeO.ite ?_ ?_
   | refine LeO.bind ?_ (fun _ => ?_)
set_option maxHeartbeats 8000000 in
set_option maxRecDepth 100000 in
theorem concordanceref01_Put.calls (k : Nat) (A0 : Option Addr) (c0 : Nat) (l0 : List (S26)) (r1 : ByteArray) (r2 : Int) (w : World) (hr0 : Kd.C k26 w A0 l0.length l0) (hc0 : l0.length ≤ c0) (h : concordanceref01_Put.f k l0 = some (r1, r2)) :
  Calls Tryd.prog 46 #[.slice A0 l0.length c0] w fun e w' => e = .returned (.tuple #[.string r1, .int .i64 r2]) ∧ Below w.heap.size w w' := by
 have hu26 := Tryd.underlying26
 have HR0 := Aside0.mk hr0
 have HC0 := Aside0.mk hc0
 clear hr0 hc0
 have HB := Aside0.mk (Below.refl w.heap.size w)
 have H : (concordanceref01_Put.l0 k l0 (⟨#[]⟩ : ByteArray) 0) = some (r1, r2) := h
 clear h
 have H' := Aside0.mk H
 clear H
 go_enter Tryd.func46, Tryd.ntmps46
 go_wp2
 go_loopg [4, 5] k (fun kq v4 v5 w' => ∃ (x4_1 : ByteArray) (x5_1 : Int), v4 = .string x4_1 ∧ v5 = .int .i64 x5_1 ∧ Aside0 (concordanceref01_Put.l0 kq l0 x4_1 x5_1 = some (r1, r2)) ∧ Aside0 (kq ≤ k) ∧ Aside0 (Below w.heap.size w w'))
 case atStart => exact ⟨((⟨#[]⟩ : ByteArray)), (0), (by first | rfl | (simp; done) | (simp [*]; done)), (by first | rfl | (simp; done) | (simp [*]; done)), H', ⟨Nat.le_refl _⟩, ⟨by repeat (first | (with_reducible first | exact HB.out | apply below_alloc | apply pw_below_drewN | apply below_drew1) | exact HB.out)⟩⟩
 case round =>
  clear H'
  obtain ⟨x4_1, x5_1, rfl, rfl, HA, HK1, HB⟩ := hrel
  cases gk with
  | zero => exact absurd HA.out (by simp [concordanceref01_Put.l0])
  | succ k1 =>
   have H := HA.out
   clear HA
   simp only [concordanceref01_Put.l0] at H
   by_cases c2 : x5_1 < (l0.length : Int)
   ·rw [if_pos c2] at H
    have c2b0 : decide (x5_1 < (l0.length : Int)) = true := decide_eq_true c2
    clear c2
    by_cases c3 : 0 ≤ x5_1
    ·rw [if_pos c3] at H
     have c3b0 : decide (0 ≤ x5_1) = true := decide_eq_true c3
     clear c3
     replace H := Option.bind_eq_some_iff.mp H
     obtain ⟨⟨t336, t337⟩, A40, H⟩ := H
     replace H : (if t337 = 0 then (if x4_1.size + t336.size ≤ 9223372036854775807 then (concordanceref01_Put.l0 k1 l0 (x4_1 ++ t336) (wrap64 (x5_1 + 1))) else (none)) else (some ((⟨#[]⟩ : ByteArray), t337))) = some (r1, r2) := H
     have A4 := Aside0.mk A40
     clear A40
     by_cases c5 : t337 = 0
     ·rw [if_pos c5] at H
      have c5b0 : (t337 == 0) = true := beq_iff_eq.mpr c5
      have c5b1 : (t337 != 0) = false := bne_eq_false_iff_eq.mpr c5
      clear c5
      by_cases c6 : x4_1.size + t336.size ≤ 9223372036854775807
      ·rw [if_pos c6] at H
       have c6b0 := eq_true c6
       have c6b1 : decide (x4_1.size + t336.size ≤ 9223372036854775807) = true := decide_eq_true c6
       try have c6b2 : (9223372036854775807 < x4_1.size + t336.size) = False := eq_false (Nat.not_lt.2 c6)
       have H' := Aside0.mk H
       clear H
       have p335 : 0 ≤ (x5_1 : Int) := of_decide_eq_true (by first | (with_reducible assumption) | assumption)
       have q335 : x5_1 < (l0.length : Int) := of_decide_eq_true (by first | (with_reducible assumption) | assumption)
       obtain ⟨ad335, e335, hx335_0, hx335_1, hx335_2⟩ := at_T26 HR0.out x5_1 p335 q335
       cases e335
       replace hx335_0 := (HB.out.cell (World.block_lt_of_cell? w _ hx335_0)).trans hx335_0
       replace hx335_1 := (HB.out.cell (World.block_lt_of_cell? w _ hx335_1)).trans hx335_1
       replace hx335_2 := (HB.out.cell (World.block_lt_of_cell? w _ hx335_2)).trans hx335_2
       replace p335 := eq_true p335
       replace q335 := eq_true q335
       go_wp2_with (first | ((with_reducible refine gate_callee (f := 19) rfl ?_); refine goesL_ (some 19) rfl rfl Tryd.func19 (by kernel_rfl) rfl #[.agg #[.string ((rd_T26 l0 x5_1).f0), .int .i64 ((rd_T26 l0 x5_1).f1), .bool ((rd_T26 l0 x5_1).f2)]] rfl (by (try simp only [List.map_toArray, List.map_cons, List.map_nil]); first | done | rfl | (simp only [List.length_drop, List.length_take]; rfl)) ?_; (with_reducible refine (concordanceref01_One.calls k1 ((rd_T26 l0 x5_1).f0) ((rd_T26 l0 x5_1).f1) ((rd_T26 l0 x5_1).f2) t336 t337 _ A4.out).mono ?_); rintro e w7 ⟨rfl, hb⟩; refine ⟨_, rfl, ?_⟩; have n0_ := Aside0.mk (below_step (by repeat (first | (with_reducible first | exact HB.out | apply below_alloc | apply pw_below_drewN | apply below_drew1) | exact HB.out)) hb); clear HB; have HB := n0_; clear n0_; (try clear hb); (try clear hb2); (try clear hk); (try clear hi)))
       go_roundg k1
       case measure => have := HK1.out; omega
       case rel => exact ⟨(x4_1 ++ t336), (wrap64 (x5_1 + 1)), (by first | rfl | (simp; done) | (simp [*]; done)), (by first | rfl | (simp; done) | (simp [*]; done)), H', ⟨by have := HK1.out; omega⟩, ⟨by repeat (first | (with_reducible first | exact HB.out | apply below_alloc | apply pw_below_drewN | apply below_drew1) | exact HB.out)⟩⟩
      ·rw [if_neg c6] at H
       exact absurd H (by simp)
     ·rw [if_neg c5] at H
      have c5b0 : (t337 == 0) = false := beq_eq_false_iff_ne.mpr c5
      have c5b1 : (t337 != 0) = true := bne_iff_ne.mpr c5
      simp only [Option.some.injEq, Prod.mk.injEq] at H
      obtain ⟨rfl, rfl⟩ := H
      have p335 : 0 ≤ (x5_1 : Int) := of_decide_eq_true (by first | (with_reducible assumption) | assumption)
      have q335 : x5_1 < (l0.length : Int) := of_decide_eq_true (by first | (with_reducible assumption) | assumption)
      obtain ⟨ad335, e335, hx335_0, hx335_1, hx335_2⟩ := at_T26 HR0.out x5_1 p335 q335
      cases e335
      replace hx335_0 := (HB.out.cell (World.block_lt_of_cell? w _ hx335_0)).trans hx335_0
      replace hx335_1 := (HB.out.cell (World.block_lt_of_cell? w _ hx335_1)).trans hx335_1
      replace hx335_2 := (HB.out.cell (World.block_lt_of_cell? w _ hx335_2)).trans hx335_2
      replace p335 := eq_true p335
      replace q335 := eq_true q335
      go_wp2_with (first | ((with_reducible refine gate_callee (f := 19) rfl ?_); refine goesL_ (some 19) rfl rfl Tryd.func19 (by kernel_rfl) rfl #[.agg #[.string ((rd_T26 l0 x5_1).f0), .int .i64 ((rd_T26 l0 x5_1).f1), .bool ((rd_T26 l0 x5_1).f2)]] rfl (by (try simp only [List.map_toArray, List.map_cons, List.map_nil]); first | done | rfl | (simp only [List.length_drop, List.length_take]; rfl)) ?_; (with_reducible refine (concordanceref01_One.calls k1 ((rd_T26 l0 x5_1).f0) ((rd_T26 l0 x5_1).f1) ((rd_T26 l0 x5_1).f2) t336 t337 _ A4.out).mono ?_); rintro e w8 ⟨rfl, hb⟩; refine ⟨_, rfl, ?_⟩; have n0_ := Aside0.mk (below_step (by repeat (first | (with_reducible first | exact HB.out | apply below_alloc | apply pw_below_drewN | apply below_drew1) | exact HB.out)) hb); clear HB; have HB := n0_; clear n0_; (try clear hb); (try clear hb2); (try clear hk); (try clear hi)))
      go_ret2
      exact ⟨by first | rfl | (simp [errW_none, errW_some] <;> rfl) | (simp [*, errW_none, errW_some] <;> rfl), by repeat (first | (with_reducible first | exact HB.out | apply below_alloc | apply pw_below_drewN | apply below_drew1) | exact HB.out)⟩
    ·rw [if_neg c3] at H
     exact absurd H (by simp)
   ·rw [if_neg c2] at H
    have c2b0 : decide (x5_1 < (l0.length : Int)) = false := decide_eq_false c2
    clear c2
    simp only [Option.some.injEq, Prod.mk.injEq] at H
    obtain ⟨rfl, rfl⟩ := H
    go_wp2
    go_ret2
    exact ⟨by first | rfl | (simp [errW_none, errW_some] <;> rfl) | (simp [*, errW_none, errW_some] <;> rfl), by repeat (first | (with_reducible first | exact HB.out | apply below_alloc | apply pw_below_drewN | apply below_drew1) | exact HB.out)⟩

/-! ### concordanceref19_Put: function 30 -/
def concordanceref19_Put.f (k : Nat) (l0 : List (S26)) : Option (ByteArray × Int) := (concordanceref01_Put.f k l0).bind fun bt338 => (if bt338.2 = 0 then (if (bt338.1.size : Int) > 100 then (some ((⟨#[]⟩ : ByteArray), 6)) else (some (bt338.1, bt338.2))) else (some (bt338.1, bt338.2)))
theorem concordanceref19_Put.mono : ∀ a0 k, LeO (concordanceref19_Put.f k a0) (concordanceref19_Put.f (k + 1) a0) := by
 intro a0 k
 unfold concordanceref19_Put.f
 repeat' first
   | (with_reducible exact concordanceref01_Put.mono _ _)
   | (with_reducible exact LeO.refl _)
   | (with_reducible exact LeO.none _)
   | (with_reducible refine LeO.ite ?_ ?_)
   | (with_reducible refine LeO.bind ?_ (fun _ => ?_))
   | exact concordanceref01_Put.mono _ _
   | exact LeO.none _
   | refine LeO.ite ?_ ?_
   | refine LeO.bind ?_ (fun _ => ?_)
set_option maxHeartbeats 8000000 in
set_option maxRecDepth 100000 in
theorem concordanceref19_Put.calls (k : Nat) (A0 : Option Addr) (c0 : Nat) (l0 : List (S26)) (r1 : ByteArray) (r2 : Int) (w : World) (hr0 : Kd.C k26 w A0 l0.length l0) (hc0 : l0.length ≤ c0) (h : concordanceref19_Put.f k l0 = some (r1, r2)) :
  Calls Tryd.prog 30 #[.slice A0 l0.length c0] w fun e w' => e = .returned (.tuple #[.string r1, .int .i64 r2]) ∧ Below w.heap.size w w' := by
 have HR0 := Aside0.mk hr0
 have HC0 := Aside0.mk hc0
 clear hr0 hc0
 have HB := Aside0.mk (Below.refl w.heap.size w)
 have H : ((concordanceref01_Put.f k l0).bind fun bt338 => (if bt338.2 = 0 then (if (bt338.1.size : Int) > 100 then (some ((⟨#[]⟩ : ByteArray), 6)) else (some (bt338.1, bt338.2))) else (some (bt338.1, bt338.2)))) = some (r1, r2) := h
 clear h
 replace H := Option.bind_eq_some_iff.mp H
 obtain ⟨⟨t338, t339⟩, A20, H⟩ := H
 replace H : (if t339 = 0 then (if (t338.size : Int) > 100 then (some ((⟨#[]⟩ : ByteArray), 6)) else (some (t338, t339))) else (some (t338, t339))) = some (r1, r2) := H
 have A2 := Aside0.mk A20
 clear A20
 by_cases c3 : t339 = 0
 ·rw [if_pos c3] at H
  have c3b0 : (t339 == 0) = true := beq_iff_eq.mpr c3
  have c3b1 : (t339 != 0) = false := bne_eq_false_iff_eq.mpr c3
  clear c3
  by_cases c4 : (t338.size : Int) > 100
  ·rw [if_pos c4] at H
   have c4b0 : decide (100 < (t338.size : Int)) = true := decide_eq_true c4
   have c4b1 : decide (100 < t338.size) = true := decide_eq_true (by omega)
   clear c4
   simp only [Option.some.injEq, Prod.mk.injEq] at H
   obtain ⟨rfl, rfl⟩ := H
   go_enter Tryd.func30, Tryd.ntmps30
   go_wp2_with (first | ((with_reducible refine gate_callee (f := 46) rfl ?_); refine goesL_ (some 8) rfl rfl Tryd.func46 (by kernel_rfl) rfl #[.slice A0 l0.length c0] rfl (by (try simp only [List.map_toArray, List.map_cons, List.map_nil]); first | done | rfl | (simp only [List.length_drop, List.length_take]; rfl)) ?_; (with_reducible refine (concordanceref01_Put.calls k _ _ l0 t338 t339 _ ?side1 ?side2 A2.out).mono ?_); (case side1 => repeat (first | exact HR0.out | (with_reducible refine Kd.C_alloc ?_ _) | (with_reducible refine Kd.C_drewN ?_ _) | (with_reducible refine Kd.C_drew ?_))); (case side2 => exact HC0.out); rintro e w5 ⟨rfl, hb⟩; refine ⟨_, rfl, ?_⟩; have n0_ := Aside0.mk (below_step (by repeat (first | (with_reducible first | exact HB.out | apply below_alloc | apply pw_below_drewN | apply below_drew1) | exact HB.out)) hb); clear HB; have HB := n0_; clear n0_; (try clear hb); (try clear hb2); (try clear hk); (try clear hi)))
   go_ret2
   exact ⟨by first | rfl | (simp [errW_none, errW_some] <;> rfl) | (simp [*, errW_none, errW_some] <;> rfl), by repeat (first | (with_reducible first | exact HB.out | apply below_alloc | apply pw_below_drewN | apply below_drew1) | exact HB.out)⟩
  ·rw [if_neg c4] at H
   have c4b0 : decide (100 < (t338.size : Int)) = false := decide_eq_false c4
   have c4b1 : decide (100 < t338.size) = false := decide_eq_false (by omega)
   clear c4
   simp only [Option.some.injEq, Prod.mk.injEq] at H
   obtain ⟨rfl, rfl⟩ := H
   go_enter Tryd.func30, Tryd.ntmps30
   go_wp2_with (first | ((with_reducible refine gate_callee (f := 46) rfl ?_); refine goesL_ (some 8) rfl rfl Tryd.func46 (by kernel_rfl) rfl #[.slice A0 l0.length c0] rfl (by (try simp only [List.map_toArray, List.map_cons, List.map_nil]); first | done | rfl | (simp only [List.length_drop, List.length_take]; rfl)) ?_; (with_reducible refine (concordanceref01_Put.calls k _ _ l0 t338 t339 _ ?side1 ?side2 A2.out).mono ?_); (case side1 => repeat (first | exact HR0.out | (with_reducible refine Kd.C_alloc ?_ _) | (with_reducible refine Kd.C_drewN ?_ _) | (with_reducible refine Kd.C_drew ?_))); (case side2 => exact HC0.out); rintro e w6 ⟨rfl, hb⟩; refine ⟨_, rfl, ?_⟩; have n0_ := Aside0.mk (below_step (by repeat (first | (with_reducible first | exact HB.out | apply below_alloc | apply pw_below_drewN | apply below_drew1) | exact HB.out)) hb); clear HB; have HB := n0_; clear n0_; (try clear hb); (try clear hb2); (try clear hk); (try clear hi)))
   go_ret2
   exact ⟨by first | rfl | (simp [errW_none, errW_some] <;> rfl) | (simp [*, errW_none, errW_some] <;> rfl), by repeat (first | (with_reducible first | exact HB.out | apply below_alloc | apply pw_below_drewN | apply below_drew1) | exact HB.out)⟩
 ·rw [if_neg c3] at H
  have c3b0 : (t339 == 0) = false := beq_eq_false_iff_ne.mpr c3
  have c3b1 : (t339 != 0) = true := bne_iff_ne.mpr c3
  simp only [Option.some.injEq, Prod.mk.injEq] at H
  obtain ⟨rfl, rfl⟩ := H
  go_enter Tryd.func30, Tryd.ntmps30
  go_wp2_with (first | ((with_reducible refine gate_callee (f := 46) rfl ?_); refine goesL_ (some 8) rfl rfl Tryd.func46 (by kernel_rfl) rfl #[.slice A0 l0.length c0] rfl (by (try simp only [List.map_toArray, List.map_cons, List.map_nil]); first | done | rfl | (simp only [List.length_drop, List.length_take]; rfl)) ?_; (with_reducible refine (concordanceref01_Put.calls k _ _ l0 t338 t339 _ ?side1 ?side2 A2.out).mono ?_); (case side1 => repeat (first | exact HR0.out | (with_reducible refine Kd.C_alloc ?_ _) | (with_reducible refine Kd.C_drewN ?_ _) | (with_reducible refine Kd.C_drew ?_))); (case side2 => exact HC0.out); rintro e w7 ⟨rfl, hb⟩; refine ⟨_, rfl, ?_⟩; have n0_ := Aside0.mk (below_step (by repeat (first | (with_reducible first | exact HB.out | apply below_alloc | apply pw_below_drewN | apply below_drew1) | exact HB.out)) hb); clear HB; have HB := n0_; clear n0_; (try clear hb); (try clear hb2); (try clear hk); (try clear hi)))
  go_ret2
  exact ⟨by first | rfl | (simp [errW_none, errW_some] <;> rfl) | (simp [*, errW_none, errW_some] <;> rfl), by repeat (first | (with_reducible first | exact HB.out | apply below_alloc | apply pw_below_drewN | apply below_drew1) | exact HB.out)⟩

end Go.Proofs.YtcpehlllgfffkaaDoor.GT
