-- Written by a program of this session (wip/pv.py, which turns the kit's print.py in a scratch copy): see NOTES.md.
import Derived.Test.YtcpehlllgfffkaaDoorGTx0
import Derived.Test.YtcpehlllgfffkaaDoorGTx9
import Derived.Test.YtcpehlllgfffkaaDoorGTx12
namespace Go.Proofs.YtcpehlllgfffkaaDoor.GT
open Go.RowKit Go.Proofs.YtcpehlllgfffkaaDoorW.PrintWords Go.Proofs.YtcpehlllgfffkaaDoorW.PrintLast Go.Proofs.YtcpehlllgfffkaaDoorW.PrintMore
attribute [local go_sem] max2_int min2_int max_two min_two max_three min_three max_four min_four   -- for this text's walks alone
set_option linter.unusedVariables false
set_option linter.unusedSimpArgs false

/-! ### concordancelaw19_TupleIDs: function 4 -/
def concordancelaw19_TupleIDs.f (k : Nat) (a0 : Int) (a1 : Int) : Option (Bool) := (concordancelaw19_speaks.f k).bind fun t213 => (if t213 = true then ((tuple_ID.f (wrap64 (1 + (Go.bits .and .i64 a0 16777215)))).bind fun t214 => ((tuple_ID.f (wrap64 (1 + (Go.bits .and .i64 a1 16777215)))).bind fun t215 => (if (t214.size : Int) = 6 then (if (t215.size : Int) = 6 then (if ((Op.bytesLess t214.toList t215.toList) == (decide ((wrap64 (1 + (Go.bits .and .i64 a0 16777215))) < (wrap64 (1 + (Go.bits .and .i64 a1 16777215)))))) = true then (some ((t214.toList == t215.toList) == ((wrap64 (1 + (Go.bits .and .i64 a0 16777215))) == (wrap64 (1 + (Go.bits .and .i64 a1 16777215)))))) else (none)) else (none)) else (none)))) else (none))
theorem concordancelaw19_TupleIDs.mono : ∀ a0 a1 k, LeO (concordancelaw19_TupleIDs.f k a0 a1) (concordancelaw19_TupleIDs.f (k + 1) a0 a1) := by
 intro a0 a1 k
 unfold concordancelaw19_TupleIDs.f
 repeat' first
   | (with_reducible exact concordancelaw19_speaks.mono _)
   | (with_reducible exact LeO.refl _)
   | (with_reducible exact LeO.none _)
   | (with_reducible refine LeO.ite ?_ ?_)
   | (with_reducible refine LeO.bind ?_ (fun _ => ?_))
   | exact concordancelaw19_speaks.mono _
   | exact LeO.none _
   | refine LeO.ite ?_ ?_
   | refine LeO.bind ?_ (fun _ => ?_)
set_option maxHeartbeats 8000000 in
set_option maxRecDepth 100000 in
theorem concordancelaw19_TupleIDs.calls (k : Nat) (a0 : Int) (a1 : Int) (r : Bool) (w : World) (h : concordancelaw19_TupleIDs.f k a0 a1 = some r) :
  Calls Tryd.prog 4 #[.int .i64 a0, .int .i64 a1] w fun e w' => e = .returned (.bool r) ∧ Below w.heap.size w w' := by
 have HB := Aside0.mk (Below.refl w.heap.size w)
 have H : ((concordancelaw19_speaks.f k).bind fun t213 => (if t213 = true then ((tuple_ID.f (wrap64 (1 + (Go.bits .and .i64 a0 16777215)))).bind fun t214 => ((tuple_ID.f (wrap64 (1 + (Go.bits .and .i64 a1 16777215)))).bind fun t215 => (if (t214.size : Int) = 6 then (if (t215.size : Int) = 6 then (if ((Op.bytesLess t214.toList t215.toList) == (decide ((wrap64 (1 + (Go.bits .and .i64 a0 16777215))) < (wrap64 (1 + (Go.bits .and .i64 a1 16777215)))))) = true then (some ((t214.toList == t215.toList) == ((wrap64 (1 + (Go.bits .and .i64 a0 16777215))) == (wrap64 (1 + (Go.bits .and .i64 a1 16777215)))))) else (none)) else (none)) else (none)))) else (none))) = some r := h
 clear h
 replace H := Option.bind_eq_some_iff.mp H
 obtain ⟨t213, A30, H⟩ := H
 replace H : (if t213 = true then ((tuple_ID.f (wrap64 (1 + (Go.bits .and .i64 a0 16777215)))).bind fun t214 => ((tuple_ID.f (wrap64 (1 + (Go.bits .and .i64 a1 16777215)))).bind fun t215 => (if (t214.size : Int) = 6 then (if (t215.size : Int) = 6 then (if ((Op.bytesLess t214.toList t215.toList) == (decide ((wrap64 (1 + (Go.bits .and .i64 a0 16777215))) < (wrap64 (1 + (Go.bits .and .i64 a1 16777215)))))) = true then (some ((t214.toList == t215.toList) == ((wrap64 (1 + (Go.bits .and .i64 a0 16777215))) == (wrap64 (1 + (Go.bits .and .i64 a1 16777215)))))) else (none)) else (none)) else (none)))) else (none)) = some r := H
 have A3 := Aside0.mk A30
 clear A30
 by_cases c4 : t213 = true
 ·subst c4
  have H1 : ((tuple_ID.f (wrap64 (1 + (Go.bits .and .i64 a0 16777215)))).bind fun t214 => ((tuple_ID.f (wrap64 (1 + (Go.bits .and .i64 a1 16777215)))).bind fun t215 => (if (t214.size : Int) = 6 then (if (t215.size : Int) = 6 then (if ((Op.bytesLess t214.toList t215.toList) == (decide ((wrap64 (1 + (Go.bits .and .i64 a0 16777215))) < (wrap64 (1 + (Go.bits .and .i64 a1 16777215)))))) = true then (some ((t214.toList == t215.toList) == ((wrap64 (1 + (Go.bits .and .i64 a0 16777215))) == (wrap64 (1 + (Go.bits .and .i64 a1 16777215)))))) else (none)) else (none)) else (none)))) = some r := by rw [if_pos rfl] at H; exact H
  clear H
  have H := H1
  clear H1
  replace H := Option.bind_eq_some_iff.mp H
  obtain ⟨t214, A50, H⟩ := H
  replace H : ((tuple_ID.f (wrap64 (1 + (Go.bits .and .i64 a1 16777215)))).bind fun t215 => (if (t214.size : Int) = 6 then (if (t215.size : Int) = 6 then (if ((Op.bytesLess t214.toList t215.toList) == (decide ((wrap64 (1 + (Go.bits .and .i64 a0 16777215))) < (wrap64 (1 + (Go.bits .and .i64 a1 16777215)))))) = true then (some ((t214.toList == t215.toList) == ((wrap64 (1 + (Go.bits .and .i64 a0 16777215))) == (wrap64 (1 + (Go.bits .and .i64 a1 16777215)))))) else (none)) else (none)) else (none))) = some r := H
  have A5 := Aside0.mk A50
  clear A50
  replace H := Option.bind_eq_some_iff.mp H
  obtain ⟨t215, A60, H⟩ := H
  replace H : (if (t214.size : Int) = 6 then (if (t215.size : Int) = 6 then (if ((Op.bytesLess t214.toList t215.toList) == (decide ((wrap64 (1 + (Go.bits .and .i64 a0 16777215))) < (wrap64 (1 + (Go.bits .and .i64 a1 16777215)))))) = true then (some ((t214.toList == t215.toList) == ((wrap64 (1 + (Go.bits .and .i64 a0 16777215))) == (wrap64 (1 + (Go.bits .and .i64 a1 16777215)))))) else (none)) else (none)) else (none)) = some r := H
  have A6 := Aside0.mk A60
  clear A60
  by_cases c7 : (t214.size : Int) = 6
  ·rw [if_pos c7] at H
   have c7b0 : ((t214.size : Int) == 6) = true := beq_iff_eq.mpr c7
   have c7b1 : ((t214.size : Int) != 6) = false := bne_eq_false_iff_eq.mpr c7
   clear c7
   by_cases c8 : (t215.size : Int) = 6
   ·rw [if_pos c8] at H
    have c8b0 : ((t215.size : Int) == 6) = true := beq_iff_eq.mpr c8
    have c8b1 : ((t215.size : Int) != 6) = false := bne_eq_false_iff_eq.mpr c8
    clear c8
    by_cases c9 : ((Op.bytesLess t214.toList t215.toList) == (decide ((wrap64 (1 + (Go.bits .and .i64 a0 16777215))) < (wrap64 (1 + (Go.bits .and .i64 a1 16777215)))))) = true
    ·rw [if_pos c9] at H
     have c9b0 : ((Op.bytesLess t214.toList t215.toList) == (decide ((wrap64 (1 + (Go.bits .and .i64 a0 16777215))) < (wrap64 (1 + (Go.bits .and .i64 a1 16777215)))))) = true := c9
     (try (have c9b1 : decide ((Op.bytesLess t214.toList t215.toList) = (decide ((wrap64 (1 + (Go.bits .and .i64 a0 16777215))) < (wrap64 (1 + (Go.bits .and .i64 a1 16777215)))))) = true := by simpa using c9))
     (try (have c9b2 : ((Op.bytesLess t214.toList t215.toList) == (decide ((wrap64 (1 + (Go.bits .and .i64 a0 16777215))) < (wrap64 (1 + (Go.bits .and .i64 a1 16777215)))))) = true := by simpa using c9))
     clear c9
     obtain rfl := Option.some.inj H
     go_enter Tryd.func4, Tryd.ntmps4
     go_wp2_with (first | ((with_reducible refine gate_callee (f := 8) rfl ?_); refine goesL_ (some 7) rfl rfl Tryd.func8 (by kernel_rfl) rfl #[] rfl (by (try simp only [List.map_toArray, List.map_cons, List.map_nil]); first | done | rfl | (simp only [List.length_drop, List.length_take]; rfl)) ?_; (with_reducible refine (concordancelaw19_speaks.calls k  true _ A3.out).mono ?_); rintro e w10 ⟨rfl, hb⟩; refine ⟨_, rfl, ?_⟩; have n0_ := Aside0.mk (below_step (by repeat (first | (with_reducible first | exact HB.out | apply below_alloc | apply pw_below_drewN | apply below_drew1) | exact HB.out)) hb); clear HB; have HB := n0_; clear n0_; (try clear hb); (try clear hb2); (try clear hk); (try clear hi)) | ((with_reducible refine gate_callee (f := 11) rfl ?_); refine goesL_ (some 16) rfl rfl Tryd.func11 (by kernel_rfl) rfl #[.int .i64 (wrap64 (1 + (Go.bits .and .i64 a0 16777215)))] rfl (by (try simp only [List.map_toArray, List.map_cons, List.map_nil]); first | done | rfl | (simp only [List.length_drop, List.length_take]; rfl)) ?_; (with_reducible refine (tuple_ID.calls (wrap64 (1 + (Go.bits .and .i64 a0 16777215))) t214 _ A5.out).mono ?_); rintro e w11 ⟨rfl, hb⟩; refine ⟨_, rfl, ?_⟩; have n0_ := Aside0.mk (below_step (by repeat (first | (with_reducible first | exact HB.out | apply below_alloc | apply pw_below_drewN | apply below_drew1) | exact HB.out)) hb); clear HB; have HB := n0_; clear n0_; (try clear hb); (try clear hb2); (try clear hk); (try clear hi)) | ((with_reducible refine gate_callee (f := 11) rfl ?_); refine goesL_ (some 18) rfl rfl Tryd.func11 (by kernel_rfl) rfl #[.int .i64 (wrap64 (1 + (Go.bits .and .i64 a1 16777215)))] rfl (by (try simp only [List.map_toArray, List.map_cons, List.map_nil]); first | done | rfl | (simp only [List.length_drop, List.length_take]; rfl)) ?_; (with_reducible refine (tuple_ID.calls (wrap64 (1 + (Go.bits .and .i64 a1 16777215))) t215 _ A6.out).mono ?_); rintro e w12 ⟨rfl, hb⟩; refine ⟨_, rfl, ?_⟩; have n0_ := Aside0.mk (below_step (by repeat (first | (with_reducible first | exact HB.out | apply below_alloc | apply pw_below_drewN | apply below_drew1) | exact HB.out)) hb); clear HB; have HB := n0_; clear n0_; (try clear hb); (try clear hb2); (try clear hk); (try clear hi)))
     go_ret
     exact ⟨by first | rfl | (simp [errW_none, errW_some] <;> rfl) | (simp [*, errW_none, errW_some] <;> rfl), by repeat (first | (with_reducible first | exact HB.out | apply below_alloc | apply pw_below_drewN | apply below_drew1) | exact HB.out)⟩
    ·rw [if_neg c9] at H
     exact absurd H (by simp)
   ·rw [if_neg c8] at H
    exact absurd H (by simp)
  ·rw [if_neg c7] at H
   exact absurd H (by simp)
 ·replace c4 := Bool.eq_false_iff.mpr c4
  subst c4
  have H1 : (none) = some r := by rw [if_neg (show ¬ (false = true) by decide)] at H; exact H
  clear H
  have H := H1
  clear H1
  exact absurd H (by simp)

/-- THE ONE PURE STATEMENT of concordancelaw19_TupleIDs: yours. -/
def concordancelaw19_TupleIDs.Pure : Prop := ∀ (a0 : Int) (a1 : Int), (Lit.int .i64 a0).wf = true → (Lit.int .i64 a1).wf = true → ∃ k, concordancelaw19_TupleIDs.f k a0 a1 = some true
theorem concordancelaw19_TupleIDs.walk (P : concordancelaw19_TupleIDs.Pure) (a0 : Int) (a1 : Int) (w : World) (w0 : (Lit.int .i64 a0).wf = true) (w1 : (Lit.int .i64 a1).wf = true) :
  Calls Tryd.prog 4 #[.int .i64 a0, .int .i64 a1] w fun e w' => e = .returned (.bool true) ∧ Below w.heap.size w w' := by
 obtain ⟨k, h⟩ := P a0 a1 w0 w1
 refine (concordancelaw19_TupleIDs.calls k a0 a1 true w h).mono ?_
 rintro e w' ⟨rfl, hd⟩
 exact ⟨rfl, hd⟩

end Go.Proofs.YtcpehlllgfffkaaDoor.GT
