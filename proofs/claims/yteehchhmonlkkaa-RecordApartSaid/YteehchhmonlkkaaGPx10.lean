-- Written by a program of this session (wip/pv.py, which turns the kit's print.py in a scratch copy): see NOTES.md.
import Derived.Test.YteehchhmonlkkaaGPx0
import Derived.Test.YteehchhmonlkkaaGPx3
import Derived.Test.YteehchhmonlkkaaHJoin
import Derived.Test.YteehchhmonlkkaaHRecPut
namespace Go.Proofs.Yteehchhmonlkkaa.GP
open Go.RowKit Go.Proofs.YteehchhmonlkkaaW.PrintWords Go.Proofs.YteehchhmonlkkaaW.PrintLast Go.Proofs.YteehchhmonlkkaaW.PrintMore
attribute [local go_sem] max2_int min2_int max_two min_two max_three min_three max_four min_four   -- for this text's walks alone
set_option linter.unusedVariables false
set_option linter.unusedSimpArgs false

/-! ### concordancelaw07_speaks: function 7 -/
def concordancelaw07_speaks.f (k : Nat)  : Option (Bool) := (record_Split.f k (⟨#[0, 2, 0, 1, 97, 0, 0]⟩ : ByteArray)).bind fun bt265 => ((record_Put.f 5 0 2 (⟨#[]⟩ : ByteArray) 0 ([] : List (S60))).bind fun bt269 => ((record_Get.f k bt269.1).bind fun bt271 => (if bt265.2 = 0 then (if (bt265.1.length : Int) = 2 then (if 0 < (bt265.1.length : Int) then (if (rdOf ByteArray.empty bt265.1 0).toList = ([97] : List UInt8) then ((record_Join.f bt265.1).bind fun t282 => (if t282.toList = ([0, 2, 0, 1, 97, 0, 0] : List UInt8) then (if bt269.2 = 0 then (if bt271.2.2.2.2.2.2 = 0 then (if bt271.1 = 5 then (some ((bt269.1.size : Int) == 18)) else (none)) else (none)) else (none)) else (none))) else (none)) else (none)) else (none)) else (none))))
theorem concordancelaw07_speaks.mono : ∀ k, LeO (concordancelaw07_speaks.f k ) (concordancelaw07_speaks.f (k + 1) ) := by
 intro  k
 unfold concordancelaw07_speaks.f
 repeat' first
   | (with_reducible exact record_Get.mono _ _)
   | (with_reducible exact record_Split.mono _ _)
   | (with_reducible exact LeO.refl _)
   | (with_reducible exact LeO.none _)
   | (with_reducible refine LeO.ite ?_ ?_)
   | (with_reducible refine LeO.bind ?_ (fun _ => ?_))
   | exact record_Get.mono _ _
   | exact record_Split.mono _ _
   | exact LeO.none _
   | refine LeO.ite ?_ ?_
   | refine LeO.bind ?_ (fun _ => ?_)
set_option maxHeartbeats 8000000 in
set_option maxRecDepth 100000 in
theorem concordancelaw07_speaks.calls (k : Nat)  (r : Bool) (w : World) (h : concordancelaw07_speaks.f k  = some r) :
  Calls Try.prog 7 #[] w fun e w' => e = .returned (.bool r) ∧ Below w.heap.size w w' := by
 have hu29 := Try.underlying29
 have HB := Aside0.mk (Below.refl w.heap.size w)
 have H : ((record_Split.f k (⟨#[0, 2, 0, 1, 97, 0, 0]⟩ : ByteArray)).bind fun bt265 => ((record_Put.f 5 0 2 (⟨#[]⟩ : ByteArray) 0 ([] : List (S60))).bind fun bt269 => ((record_Get.f k bt269.1).bind fun bt271 => (if bt265.2 = 0 then (if (bt265.1.length : Int) = 2 then (if 0 < (bt265.1.length : Int) then (if (rdOf ByteArray.empty bt265.1 0).toList = ([97] : List UInt8) then ((record_Join.f bt265.1).bind fun t282 => (if t282.toList = ([0, 2, 0, 1, 97, 0, 0] : List UInt8) then (if bt269.2 = 0 then (if bt271.2.2.2.2.2.2 = 0 then (if bt271.1 = 5 then (some ((bt269.1.size : Int) == 18)) else (none)) else (none)) else (none)) else (none))) else (none)) else (none)) else (none)) else (none))))) = some r := h
 clear h
 replace H := Option.bind_eq_some_iff.mp H
 obtain ⟨⟨t265, t266⟩, A10, H⟩ := H
 replace H : ((record_Put.f 5 0 2 (⟨#[]⟩ : ByteArray) 0 ([] : List (S60))).bind fun bt269 => ((record_Get.f k bt269.1).bind fun bt271 => (if t266 = 0 then (if (t265.length : Int) = 2 then (if 0 < (t265.length : Int) then (if (rdOf ByteArray.empty t265 0).toList = ([97] : List UInt8) then ((record_Join.f t265).bind fun t282 => (if t282.toList = ([0, 2, 0, 1, 97, 0, 0] : List UInt8) then (if bt269.2 = 0 then (if bt271.2.2.2.2.2.2 = 0 then (if bt271.1 = 5 then (some ((bt269.1.size : Int) == 18)) else (none)) else (none)) else (none)) else (none))) else (none)) else (none)) else (none)) else (none)))) = some r := H
 have A1 := Aside0.mk A10
 clear A10
 replace H := Option.bind_eq_some_iff.mp H
 obtain ⟨⟨t269, t270⟩, A20, H⟩ := H
 replace H : ((record_Get.f k t269).bind fun bt271 => (if t266 = 0 then (if (t265.length : Int) = 2 then (if 0 < (t265.length : Int) then (if (rdOf ByteArray.empty t265 0).toList = ([97] : List UInt8) then ((record_Join.f t265).bind fun t282 => (if t282.toList = ([0, 2, 0, 1, 97, 0, 0] : List UInt8) then (if t270 = 0 then (if bt271.2.2.2.2.2.2 = 0 then (if bt271.1 = 5 then (some ((t269.size : Int) == 18)) else (none)) else (none)) else (none)) else (none))) else (none)) else (none)) else (none)) else (none))) = some r := H
 have A2 := Aside0.mk A20
 clear A20
 replace H := Option.bind_eq_some_iff.mp H
 obtain ⟨⟨t271, t272, t273, t274, t275, t276, t279⟩, A30, H⟩ := H
 replace H : (if t266 = 0 then (if (t265.length : Int) = 2 then (if 0 < (t265.length : Int) then (if (rdOf ByteArray.empty t265 0).toList = ([97] : List UInt8) then ((record_Join.f t265).bind fun t282 => (if t282.toList = ([0, 2, 0, 1, 97, 0, 0] : List UInt8) then (if t270 = 0 then (if t279 = 0 then (if t271 = 5 then (some ((t269.size : Int) == 18)) else (none)) else (none)) else (none)) else (none))) else (none)) else (none)) else (none)) else (none)) = some r := H
 have A3 := Aside0.mk A30
 clear A30
 by_cases c4 : t266 = 0
 ·rw [if_pos c4] at H
  have c4b0 : (t266 == 0) = true := beq_iff_eq.mpr c4
  have c4b1 : (t266 != 0) = false := bne_eq_false_iff_eq.mpr c4
  clear c4
  by_cases c5 : (t265.length : Int) = 2
  ·rw [if_pos c5] at H
   have c5b0 : ((t265.length : Int) == 2) = true := beq_iff_eq.mpr c5
   have c5b1 : ((t265.length : Int) != 2) = false := bne_eq_false_iff_eq.mpr c5
   clear c5
   by_cases c6 : 0 < (t265.length : Int)
   ·rw [if_pos c6] at H
    have c6b0 : decide (0 < (t265.length : Int)) = true := decide_eq_true c6
    have c6b1 : decide (0 < t265.length) = true := decide_eq_true (by omega)
    clear c6
    by_cases c7 : (rdOf ByteArray.empty t265 0).toList = ([97] : List UInt8)
    ·rw [if_pos c7] at H
     have c7b0 : ((rdOf ByteArray.empty t265 0).toList == ([97] : List UInt8)) = true := beq_iff_eq.mpr c7
     have c7b1 : ((rdOf ByteArray.empty t265 0).toList != ([97] : List UInt8)) = false := bne_eq_false_iff_eq.mpr c7
     clear c7
     replace H := Option.bind_eq_some_iff.mp H
     obtain ⟨t282, A80, H⟩ := H
     replace H : (if t282.toList = ([0, 2, 0, 1, 97, 0, 0] : List UInt8) then (if t270 = 0 then (if t279 = 0 then (if t271 = 5 then (some ((t269.size : Int) == 18)) else (none)) else (none)) else (none)) else (none)) = some r := H
     have A8 := Aside0.mk A80
     clear A80
     by_cases c9 : t282.toList = ([0, 2, 0, 1, 97, 0, 0] : List UInt8)
     ·rw [if_pos c9] at H
      have c9b0 : (t282.toList == ([0, 2, 0, 1, 97, 0, 0] : List UInt8)) = true := beq_iff_eq.mpr c9
      have c9b1 : (t282.toList != ([0, 2, 0, 1, 97, 0, 0] : List UInt8)) = false := bne_eq_false_iff_eq.mpr c9
      clear c9
      by_cases c10 : t270 = 0
      ·rw [if_pos c10] at H
       have c10b0 : (t270 == 0) = true := beq_iff_eq.mpr c10
       have c10b1 : (t270 != 0) = false := bne_eq_false_iff_eq.mpr c10
       clear c10
       by_cases c11 : t279 = 0
       ·rw [if_pos c11] at H
        have c11b0 : (t279 == 0) = true := beq_iff_eq.mpr c11
        have c11b1 : (t279 != 0) = false := bne_eq_false_iff_eq.mpr c11
        clear c11
        by_cases c12 : t271 = 5
        ·rw [if_pos c12] at H
         have c12b0 : (t271 == 5) = true := beq_iff_eq.mpr c12
         have c12b1 : (t271 != 5) = false := bne_eq_false_iff_eq.mpr c12
         clear c12
         obtain rfl := Option.some.inj H
         go_enter Try.func7, Try.ntmps7
         go_wp2_with (first | ((with_reducible refine gate_callee (f := 15) rfl ?_); refine goesL_ (some 8) rfl rfl Try.func15 (by kernel_rfl) rfl #[.string (⟨#[0, 2, 0, 1, 97, 0, 0]⟩ : ByteArray)] rfl (by (try simp only [List.map_toArray, List.map_cons, List.map_nil]); first | done | rfl | (simp only [List.length_drop, List.length_take]; rfl)) ?_; (with_reducible refine (record_Split.calls k (⟨#[0, 2, 0, 1, 97, 0, 0]⟩ : ByteArray) t265 t266 _ A1.out).mono ?_); rintro e w13 ⟨v267, rfl, ho0, hb⟩; refine ⟨_, rfl, ?_⟩; have n0_ := Aside0.mk (Kd.R_lower ho0 (below_size (by repeat (first | (with_reducible first | exact HB.out | apply below_alloc | apply pw_below_drewN | apply below_drew1) | exact HB.out)))); have n1_ := Aside0.mk (below_step (by repeat (first | (with_reducible first | exact HB.out | apply below_alloc | apply pw_below_drewN | apply below_drew1) | exact HB.out)) hb); clear HB; have HO268 := n0_; have HB := n1_; clear n0_ n1_; (try clear hb); (try clear hb2); (try clear hk); (try clear hi); (try clear ho0)) | ((with_reducible refine gate_callee (f := 9) rfl ?_); refine goesL_ (some 13) rfl rfl Try.func9 (by kernel_rfl) rfl #[.agg #[.int .i64 5, .int .i64 0, .int .i64 2, .string (⟨#[]⟩ : ByteArray), .int .i64 0, .slice none 0 0]] rfl (by (try simp only [List.map_toArray, List.map_cons, List.map_nil]); first | done | rfl | (simp only [List.length_drop, List.length_take]; rfl)) ?_; (refine (record_Put.calls 5 0 2 (⟨#[]⟩ : ByteArray) 0 _ _ ([] : List (S60)) t269 t270 _ ?side1 ?side2 A2.out).mono ?_); (case side1 => exact Kd.C_nil _ _); (case side2 => exact Nat.le_refl _); rintro e w14 ⟨rfl, hb⟩; refine ⟨_, rfl, ?_⟩; have n0_ := Aside0.mk (Kd.R_below (by (with_reducible repeat (first | apply Kd.R_alloc | apply Kd.R_drewN | apply Kd.R_drew)); exact HO268.out) hb); have n1_ := Aside0.mk (below_step (by repeat (first | (with_reducible first | exact HB.out | apply below_alloc | apply pw_below_drewN | apply below_drew1) | exact HB.out)) hb); clear HO268; clear HB; have HO268 := n0_; have HB := n1_; clear n0_ n1_; (try clear hb); (try clear hb2); (try clear hk); (try clear hi)) | ((with_reducible refine gate_callee (f := 11) rfl ?_); refine goesL_ (some 18) rfl rfl Try.func11 (by kernel_rfl) rfl #[.string t269] rfl (by (try simp only [List.map_toArray, List.map_cons, List.map_nil]); first | done | rfl | (simp only [List.length_drop, List.length_take]; rfl)) ?_; (with_reducible refine (record_Get.calls k t269 t271 t272 t273 t274 t275 t276 t279 _ A3.out).mono ?_); rintro e w15 ⟨v277, rfl, ho0, hb⟩; refine ⟨_, rfl, ?_⟩; have n0_ := Aside0.mk (Kd.R_below (by (with_reducible repeat (first | apply Kd.R_alloc | apply Kd.R_drewN | apply Kd.R_drew)); exact HO268.out) hb); have n1_ := Aside0.mk (Kd.S_lower ho0 (below_size (by repeat (first | (with_reducible first | exact HB.out | apply below_alloc | apply pw_below_drewN | apply below_drew1) | exact HB.out)))); have n2_ := Aside0.mk (below_step (by repeat (first | (with_reducible first | exact HB.out | apply below_alloc | apply pw_below_drewN | apply below_drew1) | exact HB.out)) hb); clear HO268; clear HB; have HO268 := n0_; have HO278 := n1_; have HB := n2_; clear n0_ n1_ n2_; (try clear hb); (try clear hb2); (try clear hk); (try clear hi); (try clear ho0)) | ((with_reducible refine gate_dst (N := 5) rfl ?_); (try (refine gate_guard (by rfl) ?_; dsimp only)); refine box_event ?hg (N := 5) ?hd (cs := #[.int .i64 0, .int .i64 0, .int .i64 0, .string (⟨#[]⟩ : ByteArray), .int .i64 0, .slice none 0 0]) (t := 29) ?hr ?_; (case hd => rfl); (case hg => rfl); (case hr => first | (go_simp; done) | (go_simp; rfl)); intro gb280 hg w16 hbox hb; have n0_ := Aside0.mk (Kd.R_below (by (with_reducible repeat (first | apply Kd.R_alloc | apply Kd.R_drewN | apply Kd.R_drew)); exact HO268.out) hb); have n1_ := Aside0.mk (Kd.S_below (by (with_reducible repeat (first | apply Kd.S_alloc | apply Kd.S_drewN | apply Kd.S_drew)); exact HO278.out) hb); have n2_ := Aside0.mk (below_step (by repeat (first | (with_reducible first | exact HB.out | apply below_alloc | apply pw_below_drewN | apply below_drew1) | exact HB.out)) hb); have n3_ := Aside0.mk (hbox); have n4_ := Aside0.mk ((by rw [hg]; exact (below_size (by repeat (first | (with_reducible first | exact HB.out | apply below_alloc | apply pw_below_drewN | apply below_drew1) | exact HB.out))) : w.heap.size ≤ gb280)); have n5_ := Aside0.mk ((by rw [hg]; exact (below_size (by repeat (first | (with_reducible first | exact HB.out | apply below_alloc | apply pw_below_drewN | apply below_drew1) | exact HB.out))) : w.heap.size ≤ gb280)); clear HO268; clear HO278; clear HB; have HO268 := n0_; have HO278 := n1_; have HB := n2_; have BK280 := n3_; have GW280 := n4_; have GE280 := n5_; clear n0_ n1_ n2_ n3_ n4_ n5_; clear hb hbox hg; have hcz17_0 : w16.cell? ⟨gb280, 0, none⟩ = some (.int .i64 0) := (blk_cell BK280.out 0).trans rfl; have hcz17_1 : w16.cell? ⟨gb280, 1, none⟩ = some (.int .i64 0) := (blk_cell BK280.out 1).trans rfl; have hcz17_2 : w16.cell? ⟨gb280, 2, none⟩ = some (.int .i64 0) := (blk_cell BK280.out 2).trans rfl; have hcz17_3 : w16.cell? ⟨gb280, 3, none⟩ = some (.string (⟨#[]⟩ : ByteArray)) := (blk_cell BK280.out 3).trans rfl; have hcz17_4 : w16.cell? ⟨gb280, 4, none⟩ = some (.int .i64 0) := (blk_cell BK280.out 4).trans rfl; have hcz17_5 : w16.cell? ⟨gb280, 5, none⟩ = some (.slice none 0 0) := (blk_cell BK280.out 5).trans rfl; have hfz17_0 := blk_frozen BK280.out 0; have hfz17_1 := blk_frozen BK280.out 1; have hfz17_2 := blk_frozen BK280.out 2; have hfz17_3 := blk_frozen BK280.out 3; have hfz17_4 := blk_frozen BK280.out 4; have hfz17_5 := blk_frozen BK280.out 5; obtain ⟨Ao18, co18, eo18⟩ := Kd.S_slice HO278.out; subst eo18; obtain ⟨Ao19, co19, eo19⟩ := Kd.R_slice HO268.out; subst eo19; have p281 : 0 ≤ (0 : Int) := (by omega); have q281 : 0 < (t265.length : Int) := of_decide_eq_true (by first | (with_reducible assumption) | assumption); obtain ⟨ad281, e281, hx281_0⟩ := Kd.at_string (Kd.R_reads' HO268.out).2.2 0 p281 q281; cases e281; have qi281 : (0 < t265.length) = True := eq_true (by omega); (try rw [show ((0 : Int)).toNat = 0 from rfl] at hx281_0); (try rw [Addr.add_zero'] at hx281_0); have hn281_0 : ad281.block ≠ gb280 := Kd.own_blk (Kd.R_ne HO268.out BK280.out (by decide)); have hn281_1 : ad281.block ≠ gb280 := Kd.own_blk (Kd.R_ne HO268.out BK280.out (by decide)); have hn281_2 : ad281.block ≠ gb280 := Kd.own_blk (Kd.R_ne HO268.out BK280.out (by decide)); have hn281_3 : ad281.block ≠ gb280 := Kd.own_blk (Kd.R_ne HO268.out BK280.out (by decide)); have hn281_4 : ad281.block ≠ gb280 := Kd.own_blk (Kd.R_ne HO268.out BK280.out (by decide)); have hn281_5 : ad281.block ≠ gb280 := Kd.own_blk (Kd.R_ne HO268.out BK280.out (by decide)); replace hx281_0 := (cell_far (p := ⟨gb280, 0, none⟩) (by first | (rw [add_block]; exact hn281_0) | (show (Addr.add _ _).block ≠ _; rw [add_block]; exact hn281_0) | exact hn281_0) (.int .i64 t271)).trans hx281_0; replace hx281_0 := (cell_far (p := ⟨gb280, 1, none⟩) (by first | (rw [add_block]; exact hn281_1) | (show (Addr.add _ _).block ≠ _; rw [add_block]; exact hn281_1) | exact hn281_1) (.int .i64 t272)).trans hx281_0; replace hx281_0 := (cell_far (p := ⟨gb280, 2, none⟩) (by first | (rw [add_block]; exact hn281_2) | (show (Addr.add _ _).block ≠ _; rw [add_block]; exact hn281_2) | exact hn281_2) (.int .i64 t273)).trans hx281_0; replace hx281_0 := (cell_far (p := ⟨gb280, 3, none⟩) (by first | (rw [add_block]; exact hn281_3) | (show (Addr.add _ _).block ≠ _; rw [add_block]; exact hn281_3) | exact hn281_3) (.string t274)).trans hx281_0; replace hx281_0 := (cell_far (p := ⟨gb280, 4, none⟩) (by first | (rw [add_block]; exact hn281_4) | (show (Addr.add _ _).block ≠ _; rw [add_block]; exact hn281_4) | exact hn281_4) (.int .i64 t275)).trans hx281_0; replace hx281_0 := (cell_far (p := ⟨gb280, 5, none⟩) (by first | (rw [add_block]; exact hn281_5) | (show (Addr.add _ _).block ≠ _; rw [add_block]; exact hn281_5) | exact hn281_5) (.slice Ao18 t276.length co18)).trans hx281_0; clear hn281_0; clear hn281_1; clear hn281_2; clear hn281_3; clear hn281_4; clear hn281_5; replace p281 := eq_true p281; replace q281 := eq_true q281) | (go_at_call 14; (with_reducible refine (record_Join.calls _ _ t265 t282 _ ?side1 ?side2 A8.out).mono ?_); (case side1 => refine (Kd.R_reads' (e := 9) (base := w.heap.size) (ok := fun k_ => True) (n := t265.length) (c := co19) ?_).2.2; exact (by (with_reducible repeat (first | apply Kd.R_alloc | apply Kd.R_drewN | apply Kd.R_drew)); exact (Kd.R_mono (Kd.R_far (p := ⟨gb280, 5, none⟩) (Kd.R_far (p := ⟨gb280, 4, none⟩) (Kd.R_far (p := ⟨gb280, 3, none⟩) (Kd.R_far (p := ⟨gb280, 2, none⟩) (Kd.R_far (p := ⟨gb280, 1, none⟩) (Kd.R_far (p := ⟨gb280, 0, none⟩) (Kd.R_types HO268.out BK280.out (by decide)) (fun _ hk => hk.2) (.int .i64 t271)) (fun _ hk => hk.2) (.int .i64 t272)) (fun _ hk => hk.2) (.int .i64 t273)) (fun _ hk => hk.2) (.string t274)) (fun _ hk => hk.2) (.int .i64 t275)) (fun _ hk => hk.2) (.slice Ao18 t276.length co18)) (fun _ h_ => h_.1)))); (case side2 => exact (Kd.R_reads' HO268.out).2.1); rintro e w20 ⟨rfl, hb⟩; have n0_ := Aside0.mk (Kd.R_below (by (with_reducible repeat (first | apply Kd.R_alloc | apply Kd.R_drewN | apply Kd.R_drew)); exact (Kd.R_mono (Kd.R_far (p := ⟨gb280, 5, none⟩) (Kd.R_far (p := ⟨gb280, 4, none⟩) (Kd.R_far (p := ⟨gb280, 3, none⟩) (Kd.R_far (p := ⟨gb280, 2, none⟩) (Kd.R_far (p := ⟨gb280, 1, none⟩) (Kd.R_far (p := ⟨gb280, 0, none⟩) (Kd.R_types HO268.out BK280.out (by decide)) (fun _ hk => hk.2) (.int .i64 t271)) (fun _ hk => hk.2) (.int .i64 t272)) (fun _ hk => hk.2) (.int .i64 t273)) (fun _ hk => hk.2) (.string t274)) (fun _ hk => hk.2) (.int .i64 t275)) (fun _ hk => hk.2) (.slice Ao18 t276.length co18)) (fun _ h_ => h_.1))) hb); have n1_ := Aside0.mk (Kd.S_below (by (with_reducible repeat (first | apply Kd.S_alloc | apply Kd.S_drewN | apply Kd.S_drew)); exact (Kd.S_mono (Kd.S_far (p := ⟨gb280, 5, none⟩) (Kd.S_far (p := ⟨gb280, 4, none⟩) (Kd.S_far (p := ⟨gb280, 3, none⟩) (Kd.S_far (p := ⟨gb280, 2, none⟩) (Kd.S_far (p := ⟨gb280, 1, none⟩) (Kd.S_far (p := ⟨gb280, 0, none⟩) (Kd.S_types HO278.out BK280.out (by decide)) (fun _ hk => hk.2) (.int .i64 t271)) (fun _ hk => hk.2) (.int .i64 t272)) (fun _ hk => hk.2) (.int .i64 t273)) (fun _ hk => hk.2) (.string t274)) (fun _ hk => hk.2) (.int .i64 t275)) (fun _ hk => hk.2) (.slice Ao18 t276.length co18)) (fun _ h_ => h_.1))) hb); have n2_ := Aside0.mk (blk_below (g := gb280) (o := .cells #[.int .i64 t271, .int .i64 t272, .int .i64 t273, .string t274, .int .i64 t275, .slice Ao18 t276.length co18] 29 (0, 0)) (by (with_reducible repeat (first | refine blk_drewN ?_ _ | refine blk_drew ?_ | refine blk_alloc ?_ _)); refine blk_put (cs := #[.int .i64 t271, .int .i64 t272, .int .i64 t273, .string t274, .int .i64 t275, .slice none 0 0]) ?_ 5 _ rfl; (with_reducible repeat (first | refine blk_drewN ?_ _ | refine blk_drew ?_ | refine blk_alloc ?_ _)); refine blk_put (cs := #[.int .i64 t271, .int .i64 t272, .int .i64 t273, .string t274, .int .i64 0, .slice none 0 0]) ?_ 4 _ rfl; (with_reducible repeat (first | refine blk_drewN ?_ _ | refine blk_drew ?_ | refine blk_alloc ?_ _)); refine blk_put (cs := #[.int .i64 t271, .int .i64 t272, .int .i64 t273, .string (⟨#[]⟩ : ByteArray), .int .i64 0, .slice none 0 0]) ?_ 3 _ rfl; (with_reducible repeat (first | refine blk_drewN ?_ _ | refine blk_drew ?_ | refine blk_alloc ?_ _)); refine blk_put (cs := #[.int .i64 t271, .int .i64 t272, .int .i64 0, .string (⟨#[]⟩ : ByteArray), .int .i64 0, .slice none 0 0]) ?_ 2 _ rfl; (with_reducible repeat (first | refine blk_drewN ?_ _ | refine blk_drew ?_ | refine blk_alloc ?_ _)); refine blk_put (cs := #[.int .i64 t271, .int .i64 0, .int .i64 0, .string (⟨#[]⟩ : ByteArray), .int .i64 0, .slice none 0 0]) ?_ 1 _ rfl; (with_reducible repeat (first | refine blk_drewN ?_ _ | refine blk_drew ?_ | refine blk_alloc ?_ _)); refine blk_put (cs := #[.int .i64 0, .int .i64 0, .int .i64 0, .string (⟨#[]⟩ : ByteArray), .int .i64 0, .slice none 0 0]) ?_ 0 _ rfl; (with_reducible repeat (first | refine blk_drewN ?_ _ | refine blk_drew ?_ | refine blk_alloc ?_ _)); exact BK280.out) hb); have n3_ := Aside0.mk (below_step (by repeat (first | (with_reducible first | exact HB.out | apply below_alloc | apply pw_below_drewN | apply below_drew1 | refine below_set ?_ GE280.out) | exact HB.out)) hb); clear HO268; clear HO278; clear BK280; clear HB; have HO268 := n0_; have HO278 := n1_; have BK280 := n2_; have HB := n3_; clear n0_ n1_ n2_ n3_; (try clear hb); (try clear hb2); (try clear hk); (try clear hi); have hcz21_0 : w20.cell? ⟨gb280, 0, none⟩ = some (.int .i64 t271) := (blk_cell BK280.out 0).trans rfl; have hcz21_1 : w20.cell? ⟨gb280, 1, none⟩ = some (.int .i64 t272) := (blk_cell BK280.out 1).trans rfl; have hcz21_2 : w20.cell? ⟨gb280, 2, none⟩ = some (.int .i64 t273) := (blk_cell BK280.out 2).trans rfl; have hcz21_3 : w20.cell? ⟨gb280, 3, none⟩ = some (.string t274) := (blk_cell BK280.out 3).trans rfl; have hcz21_4 : w20.cell? ⟨gb280, 4, none⟩ = some (.int .i64 t275) := (blk_cell BK280.out 4).trans rfl; have hcz21_5 : w20.cell? ⟨gb280, 5, none⟩ = some (.slice Ao18 t276.length co18) := (blk_cell BK280.out 5).trans rfl; have hfz21_0 := blk_frozen BK280.out 0; have hfz21_1 := blk_frozen BK280.out 1; have hfz21_2 := blk_frozen BK280.out 2; have hfz21_3 := blk_frozen BK280.out 3; have hfz21_4 := blk_frozen BK280.out 4; have hfz21_5 := blk_frozen BK280.out 5))
         go_ret
         exact ⟨by first | rfl | (simp [errW_none, errW_some] <;> rfl) | (simp [*, errW_none, errW_some] <;> rfl), by repeat (first | (with_reducible first | exact HB.out | apply below_alloc | apply pw_below_drewN | apply below_drew1 | refine below_set ?_ GE280.out) | exact HB.out)⟩
        ·rw [if_neg c12] at H
         exact absurd H (by simp)
       ·rw [if_neg c11] at H
        exact absurd H (by simp)
      ·rw [if_neg c10] at H
       exact absurd H (by simp)
     ·rw [if_neg c9] at H
      exact absurd H (by simp)
    ·rw [if_neg c7] at H
     exact absurd H (by simp)
   ·rw [if_neg c6] at H
    exact absurd H (by simp)
  ·rw [if_neg c5] at H
   exact absurd H (by simp)
 ·rw [if_neg c4] at H
  exact absurd H (by simp)

end Go.Proofs.Yteehchhmonlkkaa.GP
