/- A log's Flush. Conditions: as write's. -/
import Derived.Test.YtegeaemkkbenfaaDoorWLogB
namespace Go.Proofs.YtegeaemkkbenfaaDoor.Ownd
open Go.RowKit Go.Proofs.YtegeaemkkbenfaaDoorW.PrintWords Go.Proofs.YtegeaemkkbenfaaDoorW.PrintLast Go.Proofs.YtegeaemkkbenfaaDoorW.PrintMore
set_option linter.unusedVariables false
set_option linter.unusedSimpArgs false
def fl_T : Bool × List (List Nat × List Nat) := (true, [([], []), ([], []), ([], []), ([2], [2]), ([3], [3]), ([4], [4]), ([], []), ([6], [6]), ([7], [7]), ([8], [8]), ([], []), ([10], [10]), ([11], [11]), ([12], [12]), ([1, 5, 9, 13], [1, 5, 9, 13]), ([0, 14, 14], [0, 14]), ([15, 15, 0, 1, 2, 3, 4, 5, 6, 7, 8, 9, 10, 11, 12, 13, 14, 15], [15])])
def fl_B : List Nat := [0, 0, 0, 4, 12, 28, 0, 64, 192, 448, 0, 1024, 3072, 7168, 16382, 32767, 65535]
theorem fl_tab : rtab .any (opsOf Tryd.f14 4) = fl_T := by kernel_rfl
theorem fl_bits : waitsOk fl_T.2 fl_B = true := by kernel_rfl
def fm_T : Bool × List (List Nat × List Nat) := (true, [([], []), ([], []), ([], []), ([2], [2]), ([3], [3]), ([4], [4]), ([5], [5]), ([], []), ([7], [7]), ([8], [8]), ([9], [9]), ([0, 0, 2, 3, 4, 5, 6, 10], [0]), ([11, 0, 2, 3, 4, 5, 6, 10], [11]), ([12, 6, 0, 2, 3, 4, 5, 6, 10], [6, 12]), ([1, 0, 1, 2, 3, 4, 5, 6, 7, 8, 9, 10, 11, 12, 13], [1]), ([14, 0, 1, 2, 3, 4, 5, 6, 7, 8, 9, 10, 11, 12, 13], [14]), ([15, 10, 13, 0, 1, 2, 3, 4, 5, 6, 7, 8, 9, 10, 11, 12, 13], [10, 15])])
def fm_B : List Nat := [0, 0, 0, 4, 12, 28, 60, 0, 128, 384, 896, 2045, 4093, 8189, 16383, 32767, 65535]
theorem fm_tab : rtab .any (opsOf Tryd.f14 7) = fm_T := by kernel_rfl
theorem fm_bits : waitsOk fm_T.2 fm_B = true := by kernel_rfl
variable {w W : World} {l1 l2 : List (Nat × Dev)} {rest : List Thing} {g d : Nat} {T : TD} {L : LG}
/-- The sectors that Flush writes. -/
def LG.wrF (L : LG) (T : TD) : Int × TD := TD.wr L.at_ L.half L.bytes L.epoch L.which (L.lasting.toNat / 242) (secs L.bytes.size - L.lasting.toNat / 242) T
def LG.flush (L : LG) (T : TD) : Int × LG × TD :=
  if readyE L T true ≠ 0 ∨ L.lasting = L.bytes.size then (readyE L T true, L, T) else
    if (L.wrF T).1 = 0 then (0, { L with lasting := L.bytes.size, flushed := L.last }, (L.wrF T).2) else ((L.wrF T).1, L.failed (L.wrF T).1, (L.wrF T).2)
theorem LG.failed0 (L : LG) : L.failed 0 = L := by
  unfold LG.failed
  rw [show ((0 : Int) != 0) = false from rfl, Bool.or_false]
set_option maxHeartbeats 8000000 in
set_option maxRecDepth 100000 in
theorem flush_calls (h : HL w W (l1 ++ (d, T.dev) :: l2) (LT g d L :: rest)) (he : 0 ≤ L.epoch ∧ L.epoch < 281474976710656) (hwh : 0 ≤ L.which ∧ L.which ≤ 1) (hat : 0 ≤ L.at_ ∧ L.at_ ≤ 5000) (hh : L.half ≤ 512) (hb : L.bytes.size ≤ L.half * 242) (hfr : 0 ≤ L.lasting ∧ L.lasting ≤ L.bytes.size) (hl : T.wait.length ≤ 100000) (hT : Tab w) :
    Calls Tryd.prog 14 #[.pointer (some ⟨g, 0, none⟩)] W fun ex W' => ex = .returned (.int .i64 (L.flush T).1) ∧ HL w W' (l1 ++ (d, (L.flush T).2.2.dev) :: l2) (LT g d (L.flush T).2.1 :: rest) := by
  have HR := Aside0.mk (ready_calls h true)
  have H := Aside0.mk h
  have HT := Aside0.mk hT
  unfold LG.flush
  clear h hT
  by_cases hr : readyE L T true = 0
  · rw [hr] at HR
    by_cases hz : L.lasting = L.bytes.size
    · rw [if_pos (Or.inr hz), hr]
      have c7 : W.cell? ⟨g, 7, none⟩ = some (.int .i64 L.lasting) := H.out.cell 0 rfl 7
      have c6 : W.cell? ⟨g, 6, none⟩ = some (.string L.bytes) := H.out.cell 0 rfl 6
      rw [hz] at c7
      clear hr hz
      go_enter Tryd.func14, Tryd.ntmps14
      go_upto_region 2 with (go_at_call 34; refine HR.out.mono ?_; rintro e w1 ⟨rfl, h1⟩; rw [h1]; clear h1)
      go_quiet (fail)
      go_wp2_with fail
      go_ret
      exact ⟨rfl, H.out.below (pw_below_drewN (Below.refl _ _) nq)⟩
    · rw [if_neg (by rw [hr]; simpa using hz)]
      have hz2 : (L.lasting == (L.bytes.size : Int)) = false := by rw [beq_eq_false_iff_ne]; exact hz
      obtain ⟨fr, hfe⟩ : ∃ fr : Nat, L.lasting = (fr : Int) := ⟨L.lasting.toNat, by omega⟩
      have HWR := Aside0.mk (fun (W' : World) (h' : HL w W' (l1 ++ (d, T.dev) :: l2) (LT g d L :: rest)) => write_calls h' L.epoch L.which fr he hwh hat hh hb (by omega) hl HT.out)
      rw [show TD.wr L.at_ L.half L.bytes L.epoch L.which (fr / 242) (secs L.bytes.size - fr / 242) T = L.wrF T by unfold LG.wrF; rw [hfe]; rfl] at HWR
      have HFE : Aside0 ((some (Value.int .i64 L.lasting)) = some (Value.int .i64 (fr : Int))) := ⟨by rw [hfe]⟩
      generalize L.wrF T = x at HWR ⊢
      obtain ⟨x1, x2⟩ := x
      dsimp only at HWR ⊢
      have c7 : W.cell? ⟨g, 7, none⟩ = some (.int .i64 L.lasting) := H.out.cell 0 rfl 7
      have c6 : W.cell? ⟨g, 6, none⟩ = some (.string L.bytes) := H.out.cell 0 rfl 6
      have HF := Aside0.mk (fun (W' : World) (h' : HL w W' (l1 ++ (d, x2.dev) :: l2) (LT g d L :: rest)) => failed_calls h' x1)
      clear hr
      go_enter Tryd.func14, Tryd.ntmps14
      go_upto_region 2 with (go_at_call 34; refine HR.out.mono ?_; rintro e w1 ⟨rfl, h1⟩; rw [h1]; clear h1)
      go_quiet (fail)
      have HO := Aside0.mk (H.out.below (pw_below_drewN (Below.refl _ _) nq))
      clear H c6 c7 HR hz
      go_upto_region 4 with fail
      clear hz2
      generalize W.drewN nq = wq at HO ⊢
      have HOd := Aside0.mk (HO.out.below (below_drew (Below.refl _ _)))
      clear HO
      have HO := HOd
      clear HOd
      refine start_ (n := 17) (S := fun w' => w'.cell? ⟨g, 3, none⟩ = some (.int .i64 L.epoch) ∧ w'.cell? ⟨g, 4, none⟩ = some (.int .i64 L.which) ∧ w'.cell? ⟨g, 7, none⟩ = some (.int .i64 (fr : Int))) (ds := []) #[false, false, false, false, false, false, false, false, false, false, false, false, false, false, false, false, false] (by kernel_rfl) rfl rfl ⟨(HO.out.cell 0 rfl 3).trans rfl, (HO.out.cell 0 rfl 4).trans rfl, (HO.out.cell 0 rfl 7).trans HFE.out⟩ (fun hHeld => ?_)
      refine with_tabW fl_tab fl_bits (fun HT_ HW_ => ?_)
      generalize World.drew _ = W0 at HO hHeld ⊢
      refine pure_ (i := 0) (N := some 22) (v := ?_) (a' := ?_) #[true, false, false, false, false, false, false, false, false, false, false, false, false, false, false, false, false] rfl rfl (any_of HT_.out (by kernel_rfl)) (fun _ _ _ h => h) (Or.inl ⟨by rfl, ?_⟩) ?_ ?_
      rotate_left
      · intro w'
        go_simp
        with_reducible rfl
      rotate_left
      · simp only [Act.put, List.setIfInBounds_toArray, List.set_cons_zero, List.set_cons_succ, i64_w, i32_w]
        rfl
      refine pure_ (i := 1) (N := some 23) (v := ?_) (a' := ?_) #[true, true, false, false, false, false, false, false, false, false, false, false, false, false, false, false, false] rfl rfl (any_of HT_.out (by kernel_rfl)) (fun _ _ _ h => h) (Or.inl ⟨by rfl, ?_⟩) ?_ ?_
      rotate_left
      · intro w'
        go_simp
        with_reducible rfl
      rotate_left
      · simp only [Act.put, List.setIfInBounds_toArray, List.set_cons_zero, List.set_cons_succ, i64_w, i32_w]
        rfl
      refine pure_ (i := 2) (N := some 24) (v := ?_) (a' := ?_) #[true, true, true, false, false, false, false, false, false, false, false, false, false, false, false, false, false] rfl rfl (any_of HT_.out (by kernel_rfl)) (fun _ _ _ h => h) (Or.inl ⟨by rfl, ?_⟩) ?_ ?_
      rotate_left
      · intro w'
        go_simp
        with_reducible rfl
      rotate_left
      · simp only [Act.put, List.setIfInBounds_toArray, List.set_cons_zero, List.set_cons_succ, i64_w, i32_w]
        rfl
      refine pure_ (i := 3) (N := some 25) (v := ?_) (a' := ?_) #[true, true, true, true, false, false, false, false, false, false, false, false, false, false, false, false, false] rfl rfl (any_of HT_.out (by kernel_rfl)) (fun _ _ _ h => h) (Or.inl ⟨by rfl, ?_⟩) ?_ ?_
      rotate_left
      · intro w'
        go_simp
        with_reducible rfl
      rotate_left
      · simp only [Act.put, List.setIfInBounds_toArray, List.set_cons_zero, List.set_cons_succ, i64_w, i32_w]
        rfl
      refine pure_ (i := 4) (N := some 26) (v := ?_) (a' := ?_) #[true, true, true, true, true, false, false, false, false, false, false, false, false, false, false, false, false] rfl rfl (any_of HT_.out (by kernel_rfl)) (fun _ _ _ h => h) (Or.inl ⟨by rfl, ?_⟩) ?_ ?_
      rotate_left
      · intro w'
        go_simp
        with_reducible rfl
      rotate_left
      · simp only [Act.put, List.setIfInBounds_toArray, List.set_cons_zero, List.set_cons_succ, i64_w, i32_w]
        rfl
      refine take_ (i := 5) (N := some 27) (v := ?_) (a' := ?_) #[true, true, true, true, true, true, false, false, false, false, false, false, false, false, false, false, false] rfl rfl (take_ofW HT_.out HW_.out (by kernel_rfl)) (fun _ _ _ h => h) (Or.inl ⟨by rfl, ?_⟩) hHeld ?_ ?_
      rotate_left
      · rintro w' ⟨s0, s1, s2⟩
        go_simp
        with_reducible rfl
      rotate_left
      · simp only [Act.put, List.setIfInBounds_toArray, List.set_cons_zero, List.set_cons_succ, i64_w, i32_w]
        rfl
      refine pure_ (i := 6) (N := some 28) (v := ?_) (a' := ?_) #[true, true, true, true, true, true, true, false, false, false, false, false, false, false, false, false, false] rfl rfl (any_of HT_.out (by kernel_rfl)) (fun _ _ _ h => h) (Or.inl ⟨by rfl, ?_⟩) ?_ ?_
      rotate_left
      · intro w'
        go_simp
        with_reducible rfl
      rotate_left
      · simp only [Act.put, List.setIfInBounds_toArray, List.set_cons_zero, List.set_cons_succ, i64_w, i32_w]
        rfl
      refine pure_ (i := 7) (N := some 29) (v := ?_) (a' := ?_) #[true, true, true, true, true, true, true, true, false, false, false, false, false, false, false, false, false] rfl rfl (any_of HT_.out (by kernel_rfl)) (fun _ _ _ h => h) (Or.inl ⟨by rfl, ?_⟩) ?_ ?_
      rotate_left
      · intro w'
        go_simp
        with_reducible rfl
      rotate_left
      · simp only [Act.put, List.setIfInBounds_toArray, List.set_cons_zero, List.set_cons_succ, i64_w, i32_w]
        rfl
      refine pure_ (i := 8) (N := some 30) (v := ?_) (a' := ?_) #[true, true, true, true, true, true, true, true, true, false, false, false, false, false, false, false, false] rfl rfl (any_of HT_.out (by kernel_rfl)) (fun _ _ _ h => h) (Or.inl ⟨by rfl, ?_⟩) ?_ ?_
      rotate_left
      · intro w'
        go_simp
        with_reducible rfl
      rotate_left
      · simp only [Act.put, List.setIfInBounds_toArray, List.set_cons_zero, List.set_cons_succ, i64_w, i32_w]
        rfl
      refine take_ (i := 9) (N := some 31) (v := ?_) (a' := ?_) #[true, true, true, true, true, true, true, true, true, true, false, false, false, false, false, false, false] rfl rfl (take_ofW HT_.out HW_.out (by kernel_rfl)) (fun _ _ _ h => h) (Or.inl ⟨by rfl, ?_⟩) hHeld ?_ ?_
      rotate_left
      · rintro w' ⟨s0, s1, s2⟩
        go_simp
        with_reducible rfl
      rotate_left
      · simp only [Act.put, List.setIfInBounds_toArray, List.set_cons_zero, List.set_cons_succ, i64_w, i32_w]
        rfl
      refine pure_ (i := 10) (N := some 32) (v := ?_) (a' := ?_) #[true, true, true, true, true, true, true, true, true, true, true, false, false, false, false, false, false] rfl rfl (any_of HT_.out (by kernel_rfl)) (fun _ _ _ h => h) (Or.inl ⟨by rfl, ?_⟩) ?_ ?_
      rotate_left
      · intro w'
        go_simp
        with_reducible rfl
      rotate_left
      · simp only [Act.put, List.setIfInBounds_toArray, List.set_cons_zero, List.set_cons_succ, i64_w, i32_w]
        rfl
      refine pure_ (i := 11) (N := some 33) (v := ?_) (a' := ?_) #[true, true, true, true, true, true, true, true, true, true, true, true, false, false, false, false, false] rfl rfl (any_of HT_.out (by kernel_rfl)) (fun _ _ _ h => h) (Or.inl ⟨by rfl, ?_⟩) ?_ ?_
      rotate_left
      · intro w'
        go_simp
        with_reducible rfl
      rotate_left
      · simp only [Act.put, List.setIfInBounds_toArray, List.set_cons_zero, List.set_cons_succ, i64_w, i32_w]
        rfl
      refine pure_ (i := 12) (N := some 34) (v := ?_) (a' := ?_) #[true, true, true, true, true, true, true, true, true, true, true, true, true, false, false, false, false] rfl rfl (any_of HT_.out (by kernel_rfl)) (fun _ _ _ h => h) (Or.inl ⟨by rfl, ?_⟩) ?_ ?_
      rotate_left
      · intro w'
        go_simp
        with_reducible rfl
      rotate_left
      · simp only [Act.put, List.setIfInBounds_toArray, List.set_cons_zero, List.set_cons_succ, i64_w, i32_w]
        rfl
      refine take_ (i := 13) (N := some 35) (v := ?_) (a' := ?_) #[true, true, true, true, true, true, true, true, true, true, true, true, true, true, false, false, false] rfl rfl (take_ofW HT_.out HW_.out (by kernel_rfl)) (fun _ _ _ h => h) (Or.inl ⟨by rfl, ?_⟩) hHeld ?_ ?_
      rotate_left
      · rintro w' ⟨s0, s1, s2⟩
        go_simp
        with_reducible rfl
      rotate_left
      · simp only [Act.put, List.setIfInBounds_toArray, List.set_cons_zero, List.set_cons_succ, i64_w, i32_w]
        rfl
      refine one_ (i := 14) (N := some 36) #[true, true, true, true, true, true, true, true, true, true, true, true, true, true, true, false, false] rfl rfl (one_of HT_.out (by kernel_rfl)) (by decide) (fun K hK => ?_)
      refine goes_ Tryd.func36 (by kernel_rfl) rfl #[.pointer (some ⟨g, 0, none⟩), .int .i64 L.epoch, .int .i64 L.which, .int .i64 (fr : Int)] (by rfl) rfl rfl (by first | rfl | (simp [Act.eval]; done) | (go_simp; done) | decide) ?_
      refine (HWR.out _ HO.out).mono ?_
      rintro e wA ⟨rfl, h5⟩
      refine ⟨_, rfl, ?_⟩
      have HO1 := Aside0.mk h5
      clear HO h5
      have HO := HO1
      clear HO1
      refine hK.out _ _ ⟨(HO.out.cell 0 rfl 3).trans rfl, (HO.out.cell 0 rfl 4).trans rfl, (HO.out.cell 0 rfl 7).trans HFE.out⟩ (fun hHeld => ?_)
      clear hK K
      refine norm_ (a' := ?_) ?_ ?_
      rotate_left
      · show Act.put _ (some 36) _ = _
        simp only [Act.put, List.setIfInBounds_toArray, List.set_cons_zero, List.set_cons_succ, i64_w, i32_w]
        rfl
      refine one_ (i := 15) (N := some 37) #[true, true, true, true, true, true, true, true, true, true, true, true, true, true, true, true, false] rfl rfl (one_of HT_.out (by kernel_rfl)) (by decide) (fun K hK => ?_)
      refine goes_ Tryd.func40 (by kernel_rfl) rfl #[.pointer (some ⟨g, 0, none⟩), .int .i64 x1] (by rfl) rfl rfl (by first | rfl | (simp [Act.eval]; done) | (go_simp; done) | decide) ?_
      refine (HF.out _ HO.out).mono ?_
      rintro e wA ⟨rfl, h5⟩
      refine ⟨_, rfl, ?_⟩
      have HO1 := Aside0.mk h5
      clear HO h5
      have HO := HO1
      clear HO1
      refine hK.out _ _ ⟨(HO.out.cell 0 rfl 3).trans rfl, (HO.out.cell 0 rfl 4).trans rfl, (HO.out.cell 0 rfl 7).trans HFE.out⟩ (fun hHeld => ?_)
      clear hK K
      refine norm_ (a' := ?_) ?_ ?_
      rotate_left
      · show Act.put _ (some 37) _ = _
        simp only [Act.put, List.setIfInBounds_toArray, List.set_cons_zero, List.set_cons_succ, i64_w, i32_w]
        rfl
      refine pure_ (i := 16) (N := some 4) (v := ?_) (a' := ?_) #[true, true, true, true, true, true, true, true, true, true, true, true, true, true, true, true, true] rfl rfl (any_of HT_.out (by kernel_rfl)) (fun _ _ _ h => h) (Or.inl ⟨by rfl, ?_⟩) ?_ ?_
      rotate_left
      · intro w'
        go_simp
        with_reducible rfl
      rotate_left
      · simp only [Act.put, List.setIfInBounds_toArray, List.set_cons_zero, List.set_cons_succ, i64_w, i32_w]
        rfl
      refine done_ (done_of HT_.out (by kernel_rfl)) ?_
      clear HWR HF
      by_cases hx : x1 = 0
      · subst hx
        rw [LG.failed0] at HO
        have HX : Aside0 ((if (0 : Int) = 0 then ((0 : Int), ({ L with lasting := L.bytes.size, flushed := L.last } : LG), x2) else (0, L.failed 0, x2)) = (0, { L with lasting := L.bytes.size, flushed := L.last }, x2)) := ⟨if_pos rfl⟩
        go_upto_region 7 with fail
        have HOd := Aside0.mk (HO.out.below (below_drew (Below.refl _ _)))
        clear HO
        have HO := HOd
        clear HOd
        refine start_ (n := 17) (S := fun w' => w'.cell? ⟨g, 6, none⟩ = some (.string L.bytes) ∧ w'.cell? ⟨g, 8, none⟩ = some (.int .i64 L.last)) (ds := [16]) #[false, false, false, false, false, false, false, false, false, false, false, false, false, false, false, false, false] (by kernel_rfl) rfl rfl ⟨(HO.out.cell 0 rfl 6).trans rfl, (HO.out.cell 0 rfl 8).trans rfl⟩ (fun hHeld => ?_)
        refine with_tabW fm_tab fm_bits (fun HT_ HW_ => ?_)
        generalize World.drew _ = W0 at HO hHeld ⊢
        refine pure_ (i := 0) (N := some 41) (v := ?_) (a' := ?_) #[true, false, false, false, false, false, false, false, false, false, false, false, false, false, false, false, false] rfl rfl (any_of HT_.out (by kernel_rfl)) (fun _ _ _ h => h) (Or.inl ⟨by rfl, ?_⟩) ?_ ?_
        rotate_left
        · intro w'
          go_simp
          with_reducible rfl
        rotate_left
        · simp only [Act.put, List.setIfInBounds_toArray, List.set_cons_zero, List.set_cons_succ, i64_w, i32_w]
          rfl
        refine pure_ (i := 1) (N := some 42) (v := ?_) (a' := ?_) #[true, true, false, false, false, false, false, false, false, false, false, false, false, false, false, false, false] rfl rfl (any_of HT_.out (by kernel_rfl)) (fun _ _ _ h => h) (Or.inl ⟨by rfl, ?_⟩) ?_ ?_
        rotate_left
        · intro w'
          go_simp
          with_reducible rfl
        rotate_left
        · simp only [Act.put, List.setIfInBounds_toArray, List.set_cons_zero, List.set_cons_succ, i64_w, i32_w]
          rfl
        refine pure_ (i := 2) (N := some 43) (v := ?_) (a' := ?_) #[true, true, true, false, false, false, false, false, false, false, false, false, false, false, false, false, false] rfl rfl (any_of HT_.out (by kernel_rfl)) (fun _ _ _ h => h) (Or.inl ⟨by rfl, ?_⟩) ?_ ?_
        rotate_left
        · intro w'
          go_simp
          with_reducible rfl
        rotate_left
        · simp only [Act.put, List.setIfInBounds_toArray, List.set_cons_zero, List.set_cons_succ, i64_w, i32_w]
          rfl
        refine pure_ (i := 3) (N := some 44) (v := ?_) (a' := ?_) #[true, true, true, true, false, false, false, false, false, false, false, false, false, false, false, false, false] rfl rfl (any_of HT_.out (by kernel_rfl)) (fun _ _ _ h => h) (Or.inl ⟨by rfl, ?_⟩) ?_ ?_
        rotate_left
        · intro w'
          go_simp
          with_reducible rfl
        rotate_left
        · simp only [Act.put, List.setIfInBounds_toArray, List.set_cons_zero, List.set_cons_succ, i64_w, i32_w]
          rfl
        refine pure_ (i := 4) (N := some 45) (v := ?_) (a' := ?_) #[true, true, true, true, true, false, false, false, false, false, false, false, false, false, false, false, false] rfl rfl (any_of HT_.out (by kernel_rfl)) (fun _ _ _ h => h) (Or.inl ⟨by rfl, ?_⟩) ?_ ?_
        rotate_left
        · intro w'
          go_simp
          with_reducible rfl
        rotate_left
        · simp only [Act.put, List.setIfInBounds_toArray, List.set_cons_zero, List.set_cons_succ, i64_w, i32_w]
          rfl
        refine take_ (i := 5) (N := some 46) (v := ?_) (a' := ?_) #[true, true, true, true, true, true, false, false, false, false, false, false, false, false, false, false, false] rfl rfl (take_ofW HT_.out HW_.out (by kernel_rfl)) (fun _ _ _ h => h) (Or.inl ⟨by rfl, ?_⟩) hHeld ?_ ?_
        rotate_left
        · rintro w' ⟨s0, s1⟩
          go_simp
          with_reducible rfl
        rotate_left
        · simp only [Act.put, List.setIfInBounds_toArray, List.set_cons_zero, List.set_cons_succ, i64_w, i32_w]
          rfl
        refine pure_ (i := 6) (N := some 47) (v := ?_) (a' := ?_) #[true, true, true, true, true, true, true, false, false, false, false, false, false, false, false, false, false] rfl rfl (any_of HT_.out (by kernel_rfl)) (fun _ _ _ h => h) (Or.inl ⟨by rfl, ?_⟩) ?_ ?_
        rotate_left
        · intro w'
          go_simp
          with_reducible rfl
        rotate_left
        · simp only [Act.put, List.setIfInBounds_toArray, List.set_cons_zero, List.set_cons_succ, i64_w, i32_w]
          rfl
        refine pure_ (i := 7) (N := some 48) (v := ?_) (a' := ?_) #[true, true, true, true, true, true, true, true, false, false, false, false, false, false, false, false, false] rfl rfl (any_of HT_.out (by kernel_rfl)) (fun _ _ _ h => h) (Or.inl ⟨by rfl, ?_⟩) ?_ ?_
        rotate_left
        · intro w'
          go_simp
          with_reducible rfl
        rotate_left
        · simp only [Act.put, List.setIfInBounds_toArray, List.set_cons_zero, List.set_cons_succ, i64_w, i32_w]
          rfl
        refine pure_ (i := 8) (N := some 49) (v := ?_) (a' := ?_) #[true, true, true, true, true, true, true, true, true, false, false, false, false, false, false, false, false] rfl rfl (any_of HT_.out (by kernel_rfl)) (fun _ _ _ h => h) (Or.inl ⟨by rfl, ?_⟩) ?_ ?_
        rotate_left
        · intro w'
          go_simp
          with_reducible rfl
        rotate_left
        · simp only [Act.put, List.setIfInBounds_toArray, List.set_cons_zero, List.set_cons_succ, i64_w, i32_w]
          rfl
        refine pure_ (i := 9) (N := some 50) (v := ?_) (a' := ?_) #[true, true, true, true, true, true, true, true, true, true, false, false, false, false, false, false, false] rfl rfl (any_of HT_.out (by kernel_rfl)) (fun _ _ _ h => h) (Or.inl ⟨by rfl, ?_⟩) ?_ ?_
        rotate_left
        · intro w'
          go_simp
          with_reducible rfl
        rotate_left
        · simp only [Act.put, List.setIfInBounds_toArray, List.set_cons_zero, List.set_cons_succ, i64_w, i32_w]
          rfl
        refine take_ (i := 10) (N := some 51) (v := ?_) (a' := ?_) #[true, true, true, true, true, true, true, true, true, true, true, false, false, false, false, false, false] rfl rfl (take_ofW HT_.out HW_.out (by kernel_rfl)) (fun _ _ _ h => h) (Or.inl ⟨by rfl, ?_⟩) hHeld ?_ ?_
        rotate_left
        · rintro w' ⟨s0, s1⟩
          go_simp
          with_reducible rfl
        rotate_left
        · simp only [Act.put, List.setIfInBounds_toArray, List.set_cons_zero, List.set_cons_succ, i64_w, i32_w]
          rfl
        refine pure_ (i := 11) (N := some 52) (v := ?_) (a' := ?_) #[true, true, true, true, true, true, true, true, true, true, true, true, false, false, false, false, false] rfl rfl (any_of HT_.out (by kernel_rfl)) (fun _ _ _ h => h) (Or.inl ⟨by rfl, ?_⟩) ?_ ?_
        rotate_left
        · intro w'
          go_simp
          with_reducible rfl
        rotate_left
        · simp only [Act.put, List.setIfInBounds_toArray, List.set_cons_zero, List.set_cons_succ, i64_w, i32_w]
          rfl
        refine pure_ (i := 12) (N := some 53) (v := ?_) (a' := ?_) #[true, true, true, true, true, true, true, true, true, true, true, true, true, false, false, false, false] rfl rfl (any_of HT_.out (by kernel_rfl)) (fun _ _ _ h => h) (Or.inl ⟨by rfl, ?_⟩) ?_ ?_
        rotate_left
        · intro w'
          go_simp
          with_reducible rfl
        rotate_left
        · simp only [Act.put, List.setIfInBounds_toArray, List.set_cons_zero, List.set_cons_succ, i64_w, i32_w]
          rfl
        refine one_ (i := 13) (N := none) #[true, true, true, true, true, true, true, true, true, true, true, true, true, true, false, false, false] rfl rfl (one_of HT_.out (by kernel_rfl)) (by decide) (fun K hK => ?_)
        have hs0 : W0.cell? ⟨g, 7, none⟩ = some (.int .i64 L.lasting) := (HO.out.cell 0 rfl 7).trans rfl
        have hf0 : W0.frozen? ⟨g, 7, none⟩ = false := HO.out.frozen 0 rfl 7
        have HO1 : Aside0 (HL w (W0.setCell ⟨g, 7, none⟩ (.int .i64 L.bytes.size)) (l1 ++ (d, x2.dev) :: l2) (LT g d { L with lasting := L.bytes.size } :: rest)) := ⟨HO.out.store 0 rfl 7 (.int .i64 L.bytes.size) rfl⟩
        refine skip_ (w1 := ?_) (by rfl) rfl ?_ ?_
        rotate_left
        · go_simp
          rfl
        refine hK.out _ _ ⟨(HO1.out.cell 0 rfl 6).trans rfl, (HO1.out.cell 0 rfl 8).trans rfl⟩ (fun hHeld => ?_)
        clear hK K
        clear hs0 hf0 HO
        have HO := HO1
        clear HO1
        generalize W0.setCell ⟨g, 7, none⟩ (.int .i64 L.bytes.size) = W1 at HO hHeld ⊢
        refine pure_ (i := 14) (N := some 54) (v := ?_) (a' := ?_) #[true, true, true, true, true, true, true, true, true, true, true, true, true, true, true, false, false] rfl rfl (any_of HT_.out (by kernel_rfl)) (fun _ _ _ h => h) (Or.inl ⟨by rfl, ?_⟩) ?_ ?_
        rotate_left
        · intro w'
          go_simp
          with_reducible rfl
        rotate_left
        · simp only [Act.put, List.setIfInBounds_toArray, List.set_cons_zero, List.set_cons_succ, i64_w, i32_w]
          rfl
        refine pure_ (i := 15) (N := some 55) (v := ?_) (a' := ?_) #[true, true, true, true, true, true, true, true, true, true, true, true, true, true, true, true, false] rfl rfl (any_of HT_.out (by kernel_rfl)) (fun _ _ _ h => h) (Or.inl ⟨by rfl, ?_⟩) ?_ ?_
        rotate_left
        · intro w'
          go_simp
          with_reducible rfl
        rotate_left
        · simp only [Act.put, List.setIfInBounds_toArray, List.set_cons_zero, List.set_cons_succ, i64_w, i32_w]
          rfl
        refine last_ (i := 16) (N := none) #[true, true, true, true, true, true, true, true, true, true, true, true, true, true, true, true, true] rfl rfl (one_of HT_.out (by kernel_rfl)) (by decide) (fun K hK => ?_)
        have hs0 : W1.cell? ⟨g, 9, none⟩ = some (.int .i64 L.flushed) := (HO.out.cell 0 rfl 9).trans rfl
        have hf0 : W1.frozen? ⟨g, 9, none⟩ = false := HO.out.frozen 0 rfl 9
        refine skip_ (w1 := ?_) (by rfl) rfl ?_ ?_
        rotate_left
        · go_simp
          rfl
        refine hK.out _ _ ?_
        clear hK K
        have HO1 : Aside0 (HL w (W1.setCell ⟨g, 9, none⟩ (.int .i64 L.last)) (l1 ++ (d, x2.dev) :: l2) (LT g d { L with lasting := L.bytes.size, flushed := L.last } :: rest)) := ⟨HO.out.store 0 rfl 9 (.int .i64 L.last) rfl⟩
        clear hs0 hf0 HO
        have HO := HO1
        clear HO1
        generalize W1.setCell ⟨g, 9, none⟩ (.int .i64 L.last) = W2 at HO ⊢
        refine done_ (done_of HT_.out (by kernel_rfl)) ?_
        go_wp2_with fail
        go_ret
        try rw [HX.out]
        exact ⟨rfl, HO.out⟩
      · have hx2 : (x1 != 0) = true := by simpa using hx
        have HX : Aside0 ((if x1 = 0 then ((0 : Int), ({ L with lasting := L.bytes.size, flushed := L.last } : LG), x2) else (x1, L.failed x1, x2)) = (x1, L.failed x1, x2)) := ⟨if_neg hx⟩
        go_wp2_with fail
        go_ret
        try rw [HX.out]
        exact ⟨rfl, HO.out⟩
  · rw [if_pos (Or.inl hr)]
    have hne : (readyE L T true != 0) = true := by simpa using hr
    go_enter Tryd.func14, Tryd.ntmps14
    go_upto_region 2 with (go_at_call 34; refine HR.out.mono ?_; rintro e w1 ⟨rfl, h1⟩; rw [h1]; clear h1)
    go_quiet (fail)
    go_wp2_with fail
    go_ret
    exact ⟨rfl, H.out.below (pw_below_drewN (Below.refl _ _) nq)⟩
set_option maxHeartbeats 4000000 in
set_option maxRecDepth 100000 in
theorem flush_nil : Calls Tryd.prog 14 #[.pointer none] W fun ex W' => ex = .returned (.int .i64 1) ∧ Below W.heap.size W W' := by
  go_enter Tryd.func14, Tryd.ntmps14
  go_upto_region 2 with (go_at_call 34; refine (ready_nil true).mono ?_; rintro e w1 ⟨rfl, h1⟩; rw [h1]; clear h1)
  go_quiet (fail)
  go_wp2_with fail
  go_ret
  exact ⟨rfl, pw_below_drewN (Below.refl _ _) nq⟩
set_option maxHeartbeats 4000000 in
set_option maxRecDepth 100000 in
theorem append_nil (lsn : Int) (s : ByteArray) : Calls Tryd.prog 13 #[.pointer none, .int .i64 lsn, .string s] W fun ex W' => ex = .returned (.int .i64 1) ∧ W' = W := by
  go_enter Tryd.func13, Tryd.ntmps13
  go_wp2_with (go_at_call 34; refine (ready_nil true).mono ?_; rintro e w1 ⟨rfl, h1⟩; rw [h1]; clear h1)
  go_ret
  exact ⟨rfl, rfl⟩
set_option maxHeartbeats 4000000 in
set_option maxRecDepth 100000 in
theorem marks_nil : Calls Tryd.prog 15 #[.pointer none] W fun ex W' => ex = .returned (.tuple #[.int .i64 0, .int .i64 0]) ∧ W' = W := by
  go_enter Tryd.func15, Tryd.ntmps15
  go_wp2_with fail
  go_ret2
  exact ⟨rfl, rfl⟩
end Go.Proofs.YtegeaemkkbenfaaDoor.Ownd
