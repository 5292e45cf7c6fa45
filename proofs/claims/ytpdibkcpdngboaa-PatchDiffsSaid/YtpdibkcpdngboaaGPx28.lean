-- Written by a program of this session (wip/pv.py, which turns the kit's print.py in a scratch copy): see NOTES.md.
import Derived.Test.YtpdibkcpdngboaaGPx0
import Derived.Test.YtpdibkcpdngboaaGPx11
import Derived.Test.YtpdibkcpdngboaaGPx27
namespace Go.Proofs.Ytpdibkcpdngboaa.GP
open Go.RowKit Go.Proofs.YtpdibkcpdngboaaW.PrintWords Go.Proofs.YtpdibkcpdngboaaW.PrintLast Go.Proofs.YtpdibkcpdngboaaW.PrintMore
attribute [local go_sem] max2_int min2_int max_two min_two max_three min_three max_four min_four   -- for this text's walks alone
set_option linter.unusedVariables false
set_option linter.unusedSimpArgs false

/-! ### concordanceref06_Get: function 18 -/
mutual
def concordanceref06_Get.l0 : Nat → ByteArray → Int → List (S53) → Int → Int → Option ((List (S53)) × Int × Int)
  | 0, _, _, _, _, _ => none
  | k + 1, x0, x5, x6, x7, x8 => if x8 < x5 then (if (wrap64 (x7 + 4)) > (x0.size : Int) then (concordanceref06_Get.j1 k x0 x5 x6 x7 x8 true) else (if 0 ≤ (wrap64 (x7 + 2)) then (if (wrap64 (x7 + 2)) ≤ (wrap64 (x7 + 4)) then (if (wrap64 (x7 + 4)) ≤ (x0.size : Int) then ((concordanceref02_Get.f k (x0.extract ((wrap64 (x7 + 2)) : Int).toNat ((wrap64 (x7 + 4)) : Int).toNat)).bind fun t221 => (concordanceref06_Get.j1 k x0 x5 x6 x7 x8 (decide ((wrap64 ((wrap64 (x7 + 4)) + t221)) > (x0.size : Int))))) else (none)) else (none)) else (none))) else ((concordanceref06_Right.f k x6).bind fun t220 => (if t220 = true then (some (x6, x7, 0)) else (some (([] : List (S53)), 0, 2))))
def concordanceref06_Get.j1 : Nat → ByteArray → Int → List (S53) → Int → Int → Bool → Option ((List (S53)) × Int × Int)
  | 0, _, _, _, _, _, _ => none
  | k + 1, x0, x5, x6, x7, x8, x40 => if x40 = true then (some (([] : List (S53)), 0, 3)) else (if 0 ≤ (wrap64 (x7 + 2)) then (if (wrap64 (x7 + 2)) ≤ (wrap64 (x7 + 4)) then (if (wrap64 (x7 + 4)) ≤ (x0.size : Int) then ((concordanceref02_Get.f k (x0.extract ((wrap64 (x7 + 2)) : Int).toNat ((wrap64 (x7 + 4)) : Int).toNat)).bind fun t222 => (if 0 ≤ x7 then (if x7 ≤ (wrap64 (x7 + 2)) then (if (wrap64 (x7 + 2)) ≤ (x0.size : Int) then ((concordanceref02_Get.f k (x0.extract (x7 : Int).toNat ((wrap64 (x7 + 2)) : Int).toNat)).bind fun t223 => (if 0 ≤ (wrap64 (x7 + 4)) then (if (wrap64 (x7 + 4)) ≤ (wrap64 ((wrap64 (x7 + 4)) + t222)) then (if (wrap64 ((wrap64 (x7 + 4)) + t222)) ≤ (x0.size : Int) then (if x6.length < 5864062014805 then (concordanceref06_Get.l0 k x0 x5 (x6 ++ [(⟨t223, x0.extract ((wrap64 (x7 + 4)) : Int).toNat ((wrap64 ((wrap64 (x7 + 4)) + t222)) : Int).toNat⟩ : S53)]) (wrap64 (x7 + (wrap64 (4 + t222)))) (wrap64 (x8 + 1))) else (none)) else (none)) else (none)) else (none))) else (none)) else (none)) else (none))) else (none)) else (none)) else (none))
end
def concordanceref06_Get.f (k : Nat) (a0 : ByteArray) : Option ((List (S53)) × Int × Int) := if (a0.size : Int) < 2 then (some (([] : List (S53)), 0, 3)) else (if 2 ≤ (a0.size : Int) then ((concordanceref02_Get.f k (a0.extract 0 2)).bind fun t219 => (concordanceref06_Get.l0 k a0 t219 ([] : List (S53)) 2 0)) else (none))
theorem concordanceref06_Get.mono_l : ∀ k, (∀ y0 y1 y2 y3 y4, LeO (concordanceref06_Get.l0 k y0 y1 y2 y3 y4) (concordanceref06_Get.l0 (k + 1) y0 y1 y2 y3 y4)) ∧ (∀ y0 y1 y2 y3 y4 y5, LeO (concordanceref06_Get.j1 k y0 y1 y2 y3 y4 y5) (concordanceref06_Get.j1 (k + 1) y0 y1 y2 y3 y4 y5))
  | 0 => ⟨fun _ _ _ _ _ r h => by simp [concordanceref06_Get.l0] at h, fun _ _ _ _ _ _ r h => by simp [concordanceref06_Get.j1] at h⟩
  | k + 1 => by
    obtain ⟨ih0, ih1⟩ := concordanceref06_Get.mono_l k
    refine ⟨?_, ?_⟩
    · intro y0 y1 y2 y3 y4
      unfold concordanceref06_Get.l0
      repeat' first
      | (with_reducible exact ih0 _ _ _ _ _)
      | (with_reducible exact ih1 _ _ _ _ _ _)
      | (with_reducible exact concordanceref02_Get.mono _ _)
      | (with_reducible exact concordanceref06_Right.mono _ _)
      | (with_reducible exact LeO.refl _)
      | (with_reducible exact LeO.none _)
      | (with_reducible refine LeO.ite ?_ ?_)
      | (with_reducible refine LeO.bind ?_ (fun _ => ?_))
      | exact ih0 _ _ _ _ _
      | exact ih1 _ _ _ _ _ _
      | exact concordanceref02_Get.mono _ _
      | exact concordanceref06_Right.mono _ _
      | exact LeO.none _
      | refine LeO.ite ?_ ?_
      | refine LeO.bind ?_ (fun _ => ?_)
    · intro y0 y1 y2 y3 y4 y5
      unfold concordanceref06_Get.j1
      repeat' first
      | (with_reducible exact ih0 _ _ _ _ _)
      | (with_reducible exact ih1 _ _ _ _ _ _)
      | (with_reducible exact concordanceref02_Get.mono _ _)
      | (with_reducible exact concordanceref06_Right.mono _ _)
      | (with_reducible exact LeO.refl _)
      | (with_reducible exact LeO.none _)
      | (with_reducible refine LeO.ite ?_ ?_)
      | (with_reducible refine LeO.bind ?_ (fun _ => ?_))
      | exact ih0 _ _ _ _ _
      | exact ih1 _ _ _ _ _ _
      | exact concordanceref02_Get.mono _ _
      | exact concordanceref06_Right.mono _ _
      | exact LeO.none _
      | refine LeO.ite ?_ ?_
      | refine LeO.bind ?_ (fun _ => ?_)
theorem concordanceref06_Get.mono : ∀ a0 k, LeO (concordanceref06_Get.f k a0) (concordanceref06_Get.f (k + 1) a0) := by
  intro a0 k
  obtain ⟨ih0, ih1⟩ := concordanceref06_Get.mono_l k
  unfold concordanceref06_Get.f
  repeat' first
      | (with_reducible exact ih0 _ _ _ _ _)
      | (with_reducible exact ih1 _ _ _ _ _ _)
      | (with_reducible exact concordanceref02_Get.mono _ _)
      | (with_reducible exact concordanceref06_Right.mono _ _)
      | (with_reducible exact LeO.refl _)
      | (with_reducible exact LeO.none _)
      | (with_reducible refine LeO.ite ?_ ?_)
      | (with_reducible refine LeO.bind ?_ (fun _ => ?_))
      | exact ih0 _ _ _ _ _
      | exact ih1 _ _ _ _ _ _
      | exact concordanceref02_Get.mono _ _
      | exact concordanceref06_Right.mono _ _
      | exact LeO.none _
      | refine LeO.ite ?_ ?_
      | refine LeO.bind ?_ (fun _ => ?_)
def concordanceref06_Get.T12 : Bool × List (List Nat × List Nat) := (true, [([], []), ([], []), ([], []), ([], []), ([3], [3]), ([1, 2, 4], [1, 2, 4]), ([5], [5]), ([], []), ([], []), ([8], [8]), ([], []), ([10], [10]), ([], []), ([11, 12], [11, 12]), ([7, 9, 13], [7, 9, 13]), ([6, 14], [6, 14]), ([15], [15]), ([0, 16, 6], [0, 16]), ([17, 17, 0, 1, 2, 3, 4, 5, 6, 7, 8, 9, 10, 11, 12, 13, 14, 15, 16, 17], [0, 17])])
def concordanceref06_Get.B12 : List Nat := [0, 0, 0, 0, 8, 30, 62, 0, 0, 256, 0, 1024, 0, 7168, 16256, 32766, 65534, 131071, 262143]
theorem concordanceref06_Get.tab12 : rtab .any (opsOf Try.f18 12) = concordanceref06_Get.T12 := by kernel_rfl
theorem concordanceref06_Get.bits12 : waitsOk concordanceref06_Get.T12.2 concordanceref06_Get.B12 = true := by kernel_rfl
set_option maxHeartbeats 8000000 in
set_option maxRecDepth 100000 in
theorem concordanceref06_Get.calls (k : Nat) (a0 : ByteArray) (r1 : List (S53)) (r2 : Int) (r3 : Int) (w : World) (h : concordanceref06_Get.f k a0 = some (r1, r2, r3)) :
    Calls Try.prog 18 #[.string a0] w fun e w' => ∃ v0_ : Value, e = .returned (.tuple #[v0_, .int .i64 r2, .int .i64 r3]) ∧ Kd.R k53 53 w' w.heap.size (fun _ => True) v0_ r1 ∧ Below w.heap.size w w' := by
  have hu53 := Try.underlying53
  have HB := Aside0.mk (Below.refl w.heap.size w)
  have H : (if (a0.size : Int) < 2 then (some (([] : List (S53)), 0, 3)) else (if 2 ≤ (a0.size : Int) then ((concordanceref02_Get.f k (a0.extract 0 2)).bind fun t219 => (concordanceref06_Get.l0 k a0 t219 ([] : List (S53)) 2 0)) else (none))) = some (r1, r2, r3) := h
  clear h
  by_cases c2 : (a0.size : Int) < 2
  · rw [if_pos c2] at H
    have c2b0 : decide ((a0.size : Int) < 2) = true := decide_eq_true c2
    have c2b1 : decide (a0.size < 2) = true := decide_eq_true (by omega)
    clear c2
    simp only [Option.some.injEq, Prod.mk.injEq] at H
    obtain ⟨rfl, rfl, rfl⟩ := H
    go_enter Try.func18, Try.ntmps18
    go_wp2
    go_ret3
    exact ⟨_, by first | rfl | (simp [errW_none, errW_some] <;> rfl) | (simp [*, errW_none, errW_some] <;> rfl), by first | exact Kd.R_nil _ _ _ _ _ | exact Kd.N_nil _ _ _ _ _ | exact Kd.V_nil _ _ _ _ _ | exact Kd.Q_nil _ _ _ _ _ | exact Kd.S_nil _ _ _ _ _, by repeat (first | (with_reducible first | exact HB.out | apply below_alloc | apply pw_below_drewN | apply below_drew1) | exact HB.out)⟩
  · rw [if_neg c2] at H
    have c2b0 : decide ((a0.size : Int) < 2) = false := decide_eq_false c2
    have c2b1 : decide (a0.size < 2) = false := decide_eq_false (by omega)
    clear c2
    by_cases c3 : 2 ≤ (a0.size : Int)
    · rw [if_pos c3] at H
      have c3b0 := eq_true c3
      have c3b1 : decide (2 ≤ (a0.size : Int)) = true := decide_eq_true c3
      clear c3
      replace H := Option.bind_eq_some_iff.mp H
      obtain ⟨t219, A40, H⟩ := H
      replace H : (concordanceref06_Get.l0 k a0 t219 ([] : List (S53)) 2 0) = some (r1, r2, r3) := H
      have A4 := Aside0.mk A40
      clear A40
      have H' := Aside0.mk H
      clear H
      go_enter Try.func18, Try.ntmps18
      go_wp2_with (first | ((with_reducible refine gate_callee (f := 27) rfl ?_); refine goesL_ (some 15) rfl rfl Try.func27 (by kernel_rfl) rfl #[.string (a0.extract 0 2)] rfl (by (try simp only [List.map_toArray, List.map_cons, List.map_nil]); first | done | rfl | (simp only [List.length_drop, List.length_take]; rfl)) ?_; (with_reducible refine (concordanceref02_Get.calls k (a0.extract 0 2) t219 _ A4.out).mono ?_); rintro e w' ⟨rfl, ⟨nd, rfl⟩⟩; refine ⟨_, rfl, ?_⟩))
      go_loopg [6, 7, 8] k (fun kq v6 v7 v8 w' => ∃ (x6_1 : List (S53)) (x7_1 : Int) (x8_1 : Int), v7 = .int .i64 x7_1 ∧ v8 = .int .i64 x8_1 ∧ Aside0 (concordanceref06_Get.l0 kq a0 t219 x6_1 x7_1 x8_1 = some (r1, r2, r3)) ∧ Aside0 (kq ≤ k) ∧ Aside0 (Kd.R k53 53 w' w.heap.size (fun _ => True) v6 x6_1) ∧ Aside0 (Below w.heap.size w w'))
      case atStart => exact ⟨(([] : List (S53))), (2), (0), (by first | rfl | (simp; done) | (simp [*]; done)), (by first | rfl | (simp; done) | (simp [*]; done)), H', ⟨Nat.le_refl _⟩, ⟨by first | exact Kd.R_nil _ _ _ _ _ | exact Kd.N_nil _ _ _ _ _ | exact Kd.V_nil _ _ _ _ _ | exact Kd.Q_nil _ _ _ _ _ | exact Kd.S_nil _ _ _ _ _⟩, ⟨by repeat (first | (with_reducible first | exact HB.out | apply below_alloc | apply pw_below_drewN | apply below_drew1) | exact HB.out)⟩⟩
      case round =>
        clear H'
        try clear c1
        try clear c2
        try clear c2b0
        try clear c2b1
        try clear p2
        try clear c3
        try clear c3b0
        try clear c3b1
        obtain ⟨x6_1, x7_1, x8_1, rfl, rfl, HA, HK1, HO_6, HB⟩ := hrel
        cases gk with
        | zero => exact absurd HA.out (by simp [concordanceref06_Get.l0])
        | succ k1 =>
          have H := HA.out
          clear HA
          simp only [concordanceref06_Get.l0] at H
          by_cases c5 : x8_1 < t219
          · rw [if_pos c5] at H
            have c5b0 : decide (x8_1 < t219) = true := decide_eq_true c5
            clear c5
            have HC6 := Aside0.mk H
            clear H
            go_upto_region 9 with (fail)
            go_cut [40] (fun v40 wc => ∃ (kq : Nat) (x40_5 : Bool), v40 = .bool x40_5 ∧ Aside0 (concordanceref06_Get.j1 kq a0 t219 x6_1 x7_1 x8_1 x40_5 = some (r1, r2, r3)) ∧ Aside0 (kq ≤ k1) ∧ Aside0 (Kd.R k53 53 wc w.heap.size (fun _ => True) u6 x6_1) ∧ Aside0 (Below w.heap.size w wc))
            case first =>
              have H := HC6.out
              clear HC6
              by_cases c7 : (wrap64 (x7_1 + 4)) > (a0.size : Int)
              · rw [if_pos c7] at H
                have c7b0 : decide ((a0.size : Int) < (wrap64 (x7_1 + 4))) = true := decide_eq_true c7
                clear c7
                (first | rw [c7b0] | (simp only [i64_w, i32_w]; rw [c7b0]) | skip)
                have H' := Aside0.mk H
                clear H
                go_wp2
                go_meet
                case rel => exact ⟨_, (true), (by first | rfl | (simp; done) | (simp [*]; done)), H', ⟨by have := HK1.out; first | omega | exact Nat.le_refl _⟩, ⟨by (with_reducible repeat (first | apply Kd.R_alloc | apply Kd.R_drewN | apply Kd.R_drew)); exact HO_6.out⟩, ⟨by repeat (first | (with_reducible first | exact HB.out | apply below_alloc | apply pw_below_drewN | apply below_drew1) | exact HB.out)⟩⟩
              · rw [if_neg c7] at H
                have c7b0 : decide ((a0.size : Int) < (wrap64 (x7_1 + 4))) = false := decide_eq_false c7
                clear c7
                (first | rw [c7b0] | (simp only [i64_w, i32_w]; rw [c7b0]) | skip)
                obtain ⟨ji8, hji8⟩ : ∃ j_ : Int, (wrap64 (x7_1 + 2)) = j_ := ⟨_, rfl⟩
                replace H : (if 0 ≤ (ji8) then (if (ji8) ≤ (wrap64 (x7_1 + 4)) then (if (wrap64 (x7_1 + 4)) ≤ (a0.size : Int) then ((concordanceref02_Get.f k1 (a0.extract ((ji8) : Int).toNat ((wrap64 (x7_1 + 4)) : Int).toNat)).bind fun t221 => (concordanceref06_Get.j1 k1 a0 t219 x6_1 x7_1 x8_1 (decide ((wrap64 ((wrap64 (x7_1 + 4)) + t221)) > (a0.size : Int))))) else (none)) else (none)) else (none)) = some (r1, r2, r3) := by first | (rw [hji8] at H; exact H) | (simp only [hji8] at H ⊢; exact H)
                have hji8w : (IntKind.i64.wrap (x7_1 + 2)) = ji8 := (i64_w _).trans hji8
                by_cases c9 : 0 ≤ (ji8)
                · rw [if_pos c9] at H
                  have c9b0 := eq_true c9
                  have c9b1 : decide (0 ≤ (ji8)) = true := decide_eq_true c9
                  clear c9
                  by_cases c10 : (ji8) ≤ (wrap64 (x7_1 + 4))
                  · rw [if_pos c10] at H
                    have c10b0 := eq_true c10
                    have c10b1 : decide ((ji8) ≤ (wrap64 (x7_1 + 4))) = true := decide_eq_true c10
                    by_cases c11 : (wrap64 (x7_1 + 4)) ≤ (a0.size : Int)
                    · rw [if_pos c11] at H
                      have c11b0 := eq_true c11
                      have c11b1 : decide ((wrap64 (x7_1 + 4)) ≤ (a0.size : Int)) = true := decide_eq_true c11
                      replace H := Option.bind_eq_some_iff.mp H
                      obtain ⟨t221, A120, H⟩ := H
                      replace H : (concordanceref06_Get.j1 k1 a0 t219 x6_1 x7_1 x8_1 (decide ((wrap64 ((wrap64 (x7_1 + 4)) + t221)) > (a0.size : Int)))) = some (r1, r2, r3) := H
                      have A12 := Aside0.mk A120
                      clear A120
                      have H' := Aside0.mk H
                      clear H
                      go_wp2_with (first | (go_at_call 27; (with_reducible refine (concordanceref02_Get.calls k1 (a0.extract ((ji8) : Int).toNat ((wrap64 (x7_1 + 4)) : Int).toNat) t221 _ A12.out).mono ?_); rintro e w' ⟨rfl, ⟨nd, rfl⟩⟩))
                      go_meet
                      case rel => exact ⟨_, (decide ((wrap64 ((wrap64 (x7_1 + 4)) + t221)) > (a0.size : Int))), (by first | rfl | (simp; done) | (simp [*]; done)), H', ⟨by have := HK1.out; first | omega | exact Nat.le_refl _⟩, ⟨by (with_reducible repeat (first | apply Kd.R_alloc | apply Kd.R_drewN | apply Kd.R_drew)); exact HO_6.out⟩, ⟨by repeat (first | (with_reducible first | exact HB.out | apply below_alloc | apply pw_below_drewN | apply below_drew1) | exact HB.out)⟩⟩
                    · rw [if_neg c11] at H
                      exact absurd H (by simp)
                  · rw [if_neg c10] at H
                    exact absurd H (by simp)
                · rw [if_neg c9] at H
                  exact absurd H (by simp)
            case rest =>
              clear HC6
              try clear c1
              try clear c2
              try clear c2b0
              try clear c2b1
              try clear p2
              try clear c3
              try clear c3b0
              try clear c3b1
              try clear c5
              try clear c5b0
              try clear p6
              try clear c7
              try clear c7b0
              try clear c9
              try clear c9b0
              try clear c9b1
              try clear c10
              try clear c10b0
              try clear c10b1
              try clear c11
              try clear c11b0
              try clear c11b1
              try clear p2
              obtain ⟨kq, x40_5, rfl, HA, HJ5, HO_6, HB⟩ := hcut
              cases kq with
              | zero => exact absurd HA.out (by simp [concordanceref06_Get.j1])
              | succ kj5 =>
                have H := HA.out
                clear HA
                simp only [concordanceref06_Get.j1] at H
                by_cases c13 : x40_5 = true
                · subst c13
                  have H1 : (some (([] : List (S53)), 0, 3)) = some (r1, r2, r3) := by rw [if_pos rfl] at H; exact H
                  clear H
                  have H := H1
                  clear H1
                  simp only [Option.some.injEq, Prod.mk.injEq] at H
                  obtain ⟨rfl, rfl, rfl⟩ := H
                  go_wp2
                  go_ret3
                  exact ⟨_, by first | rfl | (simp [errW_none, errW_some] <;> rfl) | (simp [*, errW_none, errW_some] <;> rfl), by first | exact Kd.R_nil _ _ _ _ _ | exact Kd.N_nil _ _ _ _ _ | exact Kd.V_nil _ _ _ _ _ | exact Kd.Q_nil _ _ _ _ _ | exact Kd.S_nil _ _ _ _ _, by repeat (first | (with_reducible first | exact HB.out | apply below_alloc | apply pw_below_drewN | apply below_drew1) | exact HB.out)⟩
                · replace c13 := Bool.eq_false_iff.mpr c13
                  subst c13
                  have H1 : (if 0 ≤ (wrap64 (x7_1 + 2)) then (if (wrap64 (x7_1 + 2)) ≤ (wrap64 (x7_1 + 4)) then (if (wrap64 (x7_1 + 4)) ≤ (a0.size : Int) then ((concordanceref02_Get.f kj5 (a0.extract ((wrap64 (x7_1 + 2)) : Int).toNat ((wrap64 (x7_1 + 4)) : Int).toNat)).bind fun t222 => (if 0 ≤ x7_1 then (if x7_1 ≤ (wrap64 (x7_1 + 2)) then (if (wrap64 (x7_1 + 2)) ≤ (a0.size : Int) then ((concordanceref02_Get.f kj5 (a0.extract (x7_1 : Int).toNat ((wrap64 (x7_1 + 2)) : Int).toNat)).bind fun t223 => (if 0 ≤ (wrap64 (x7_1 + 4)) then (if (wrap64 (x7_1 + 4)) ≤ (wrap64 ((wrap64 (x7_1 + 4)) + t222)) then (if (wrap64 ((wrap64 (x7_1 + 4)) + t222)) ≤ (a0.size : Int) then (if x6_1.length < 5864062014805 then (concordanceref06_Get.l0 kj5 a0 t219 (x6_1 ++ [(⟨t223, a0.extract ((wrap64 (x7_1 + 4)) : Int).toNat ((wrap64 ((wrap64 (x7_1 + 4)) + t222)) : Int).toNat⟩ : S53)]) (wrap64 (x7_1 + (wrap64 (4 + t222)))) (wrap64 (x8_1 + 1))) else (none)) else (none)) else (none)) else (none))) else (none)) else (none)) else (none))) else (none)) else (none)) else (none)) = some (r1, r2, r3) := by rw [if_neg (show ¬ (false = true) by decide)] at H; exact H
                  clear H
                  have H := H1
                  clear H1
                  obtain ⟨ji14, hji14⟩ : ∃ j_ : Int, (wrap64 (x7_1 + 2)) = j_ := ⟨_, rfl⟩
                  replace H : (if 0 ≤ (ji14) then (if (ji14) ≤ (wrap64 (x7_1 + 4)) then (if (wrap64 (x7_1 + 4)) ≤ (a0.size : Int) then ((concordanceref02_Get.f kj5 (a0.extract ((ji14) : Int).toNat ((wrap64 (x7_1 + 4)) : Int).toNat)).bind fun t222 => (if 0 ≤ x7_1 then (if x7_1 ≤ (ji14) then (if (ji14) ≤ (a0.size : Int) then ((concordanceref02_Get.f kj5 (a0.extract (x7_1 : Int).toNat ((ji14) : Int).toNat)).bind fun t223 => (if 0 ≤ (wrap64 (x7_1 + 4)) then (if (wrap64 (x7_1 + 4)) ≤ (wrap64 ((wrap64 (x7_1 + 4)) + t222)) then (if (wrap64 ((wrap64 (x7_1 + 4)) + t222)) ≤ (a0.size : Int) then (if x6_1.length < 5864062014805 then (concordanceref06_Get.l0 kj5 a0 t219 (x6_1 ++ [(⟨t223, a0.extract ((wrap64 (x7_1 + 4)) : Int).toNat ((wrap64 ((wrap64 (x7_1 + 4)) + t222)) : Int).toNat⟩ : S53)]) (wrap64 (x7_1 + (wrap64 (4 + t222)))) (wrap64 (x8_1 + 1))) else (none)) else (none)) else (none)) else (none))) else (none)) else (none)) else (none))) else (none)) else (none)) else (none)) = some (r1, r2, r3) := by first | (rw [hji14] at H; exact H) | (simp only [hji14] at H ⊢; exact H)
                  have hji14w : (IntKind.i64.wrap (x7_1 + 2)) = ji14 := (i64_w _).trans hji14
                  by_cases c15 : 0 ≤ (ji14)
                  · rw [if_pos c15] at H
                    have c15b0 := eq_true c15
                    have c15b1 : decide (0 ≤ (ji14)) = true := decide_eq_true c15
                    clear c15
                    by_cases c16 : (ji14) ≤ (wrap64 (x7_1 + 4))
                    · rw [if_pos c16] at H
                      have c16b0 := eq_true c16
                      have c16b1 : decide ((ji14) ≤ (wrap64 (x7_1 + 4))) = true := decide_eq_true c16
                      by_cases c17 : (wrap64 (x7_1 + 4)) ≤ (a0.size : Int)
                      · rw [if_pos c17] at H
                        have c17b0 := eq_true c17
                        have c17b1 : decide ((wrap64 (x7_1 + 4)) ≤ (a0.size : Int)) = true := decide_eq_true c17
                        replace H := Option.bind_eq_some_iff.mp H
                        obtain ⟨t222, A180, H⟩ := H
                        replace H : (if 0 ≤ x7_1 then (if x7_1 ≤ (ji14) then (if (ji14) ≤ (a0.size : Int) then ((concordanceref02_Get.f kj5 (a0.extract (x7_1 : Int).toNat ((ji14) : Int).toNat)).bind fun t223 => (if 0 ≤ (wrap64 (x7_1 + 4)) then (if (wrap64 (x7_1 + 4)) ≤ (wrap64 ((wrap64 (x7_1 + 4)) + t222)) then (if (wrap64 ((wrap64 (x7_1 + 4)) + t222)) ≤ (a0.size : Int) then (if x6_1.length < 5864062014805 then (concordanceref06_Get.l0 kj5 a0 t219 (x6_1 ++ [(⟨t223, a0.extract ((wrap64 (x7_1 + 4)) : Int).toNat ((wrap64 ((wrap64 (x7_1 + 4)) + t222)) : Int).toNat⟩ : S53)]) (wrap64 (x7_1 + (wrap64 (4 + t222)))) (wrap64 (x8_1 + 1))) else (none)) else (none)) else (none)) else (none))) else (none)) else (none)) else (none)) = some (r1, r2, r3) := H
                        have A18 := Aside0.mk A180
                        clear A180
                        by_cases c19 : 0 ≤ x7_1
                        · rw [if_pos c19] at H
                          have c19b0 := eq_true c19
                          have c19b1 : decide (0 ≤ x7_1) = true := decide_eq_true c19
                          clear c19
                          by_cases c20 : x7_1 ≤ (ji14)
                          · rw [if_pos c20] at H
                            have c20b0 := eq_true c20
                            have c20b1 : decide (x7_1 ≤ (ji14)) = true := decide_eq_true c20
                            clear c20
                            by_cases c21 : (ji14) ≤ (a0.size : Int)
                            · rw [if_pos c21] at H
                              have c21b0 := eq_true c21
                              have c21b1 : decide ((ji14) ≤ (a0.size : Int)) = true := decide_eq_true c21
                              clear c21
                              replace H := Option.bind_eq_some_iff.mp H
                              obtain ⟨t223, A220, H⟩ := H
                              replace H : (if 0 ≤ (wrap64 (x7_1 + 4)) then (if (wrap64 (x7_1 + 4)) ≤ (wrap64 ((wrap64 (x7_1 + 4)) + t222)) then (if (wrap64 ((wrap64 (x7_1 + 4)) + t222)) ≤ (a0.size : Int) then (if x6_1.length < 5864062014805 then (concordanceref06_Get.l0 kj5 a0 t219 (x6_1 ++ [(⟨t223, a0.extract ((wrap64 (x7_1 + 4)) : Int).toNat ((wrap64 ((wrap64 (x7_1 + 4)) + t222)) : Int).toNat⟩ : S53)]) (wrap64 (x7_1 + (wrap64 (4 + t222)))) (wrap64 (x8_1 + 1))) else (none)) else (none)) else (none)) else (none)) = some (r1, r2, r3) := H
                              have A22 := Aside0.mk A220
                              clear A220
                              obtain ⟨ji23, hji23⟩ : ∃ j_ : Int, (wrap64 (x7_1 + 4)) = j_ := ⟨_, rfl⟩
                              replace H : (if 0 ≤ (ji23) then (if (ji23) ≤ (wrap64 ((ji23) + t222)) then (if (wrap64 ((ji23) + t222)) ≤ (a0.size : Int) then (if x6_1.length < 5864062014805 then (concordanceref06_Get.l0 kj5 a0 t219 (x6_1 ++ [(⟨t223, a0.extract ((ji23) : Int).toNat ((wrap64 ((ji23) + t222)) : Int).toNat⟩ : S53)]) (wrap64 (x7_1 + (wrap64 (4 + t222)))) (wrap64 (x8_1 + 1))) else (none)) else (none)) else (none)) else (none)) = some (r1, r2, r3) := by first | (rw [hji23] at H; exact H) | (simp only [hji23] at H ⊢; exact H)
                              (try rw [hji23] at c16b0)
                              (try rw [hji23] at c16b1)
                              (try rw [hji23] at c16)
                              (try rw [hji23] at c17b0)
                              (try rw [hji23] at c17b1)
                              (try rw [hji23] at c17)
                              (try rw [hji23] at A18)
                              (try rw [hji23] at A22)
                              have hji23w : (IntKind.i64.wrap (x7_1 + 4)) = ji23 := (i64_w _).trans hji23
                              by_cases c24 : 0 ≤ (ji23)
                              · rw [if_pos c24] at H
                                have c24b0 := eq_true c24
                                have c24b1 : decide (0 ≤ (ji23)) = true := decide_eq_true c24
                                clear c24
                                by_cases c25 : (ji23) ≤ (wrap64 ((ji23) + t222))
                                · rw [if_pos c25] at H
                                  have c25b0 := eq_true c25
                                  have c25b1 : decide ((ji23) ≤ (wrap64 ((ji23) + t222))) = true := decide_eq_true c25
                                  by_cases c26 : (wrap64 ((ji23) + t222)) ≤ (a0.size : Int)
                                  · rw [if_pos c26] at H
                                    have c26b0 := eq_true c26
                                    have c26b1 : decide ((wrap64 ((ji23) + t222)) ≤ (a0.size : Int)) = true := decide_eq_true c26
                                    by_cases c27 : x6_1.length < 5864062014805
                                    · rw [if_pos c27] at H
                                      have LMc27 := Aside0.mk c27
                                      clear c27
                                      obtain ⟨y224, hy224⟩ : ∃ y_ : List (S53), y_ = (x6_1 ++ [(⟨t223, a0.extract ((ji23) : Int).toNat ((wrap64 ((ji23) + t222)) : Int).toNat⟩ : S53)]) := ⟨_, rfl⟩
                                      replace H : (concordanceref06_Get.l0 kj5 a0 t219 y224 (wrap64 (x7_1 + (wrap64 (4 + t222)))) (wrap64 (x8_1 + 1))) = some (r1, r2, r3) := by first | (rw [hy224]; with_reducible exact H) | (have H2_ := (Option.bind_some _ _).symm.trans H; rw [hy224]; with_reducible exact H2_) | (have H2_ := (Option.bind_some _ _).symm.trans H; with_reducible exact H2_) | with_reducible exact H | (rw [hy224]; exact H) | exact H
                                      have Ny224 := Aside0.mk hy224
                                      clear hy224
                                      have H' := Aside0.mk H
                                      clear H
                                      try go_wp2_with (first | ((with_reducible refine gate_callee (f := 27) rfl ?_); refine goesL_ (some 47) rfl rfl Try.func27 (by kernel_rfl) rfl #[.string (a0.extract ((ji14) : Int).toNat ((ji23) : Int).toNat)] rfl (by (try simp only [List.map_toArray, List.map_cons, List.map_nil]); first | done | (simp only [hji14, hji23]; rfl) | rfl | (simp only [List.length_drop, List.length_take]; rfl)) ?_; (with_reducible refine (concordanceref02_Get.calls kj5 (a0.extract ((ji14) : Int).toNat ((ji23) : Int).toNat) t222 _ A18.out).mono ?_); rintro e w' ⟨rfl, ⟨nd, rfl⟩⟩; refine ⟨_, rfl, ?_⟩))
                                      (try (rw [drewN_self wc]; generalize hq_ : World.drewN wc _ = wc; have n0_ : Aside0 (Kd.R k53 53 wc w.heap.size (fun _ => True) u6 x6_1) := ⟨by rw [← hq_]; exact (by (with_reducible repeat (first | apply Kd.R_alloc | apply Kd.R_drewN | apply Kd.R_drew)); exact HO_6.out)⟩; have n1_ : Aside0 (Below w.heap.size w wc) := ⟨by rw [← hq_]; exact (by repeat (first | (with_reducible first | exact HB.out | apply below_alloc | apply pw_below_drewN | apply below_drew1) | exact HB.out))⟩; clear HO_6 HB hq_; have HO_6 := n0_; have HB := n1_; clear n0_ n1_))
                                      have n0_ := Aside0.mk (Kd.R_drew HO_6.out)
                                      have n1_ := Aside0.mk (below_drew1 HB.out)
                                      clear HO_6
                                      clear HB
                                      have HO_6 := n0_
                                      have HB := n1_
                                      clear n0_ n1_
                                      refine start_ (n := 19) (S := fun w' => True) (ds := []) #[false, false, false, false, false, false, false, false, false, false, false, false, false, false, false, false, false, false, false] (by kernel_rfl) rfl rfl trivial (fun hHeld => ?_); refine with_tabW concordanceref06_Get.tab12 concordanceref06_Get.bits12 (fun HT_ HW_ => ?_)
                                      generalize wc.drew = w28 at HO_6 HB hHeld ⊢
                                      refine pure_ (i := 0) (N := some 48) (v := ?_) (a' := ?_) #[true, false, false, false, false, false, false, false, false, false, false, false, false, false, false, false, false, false, false] rfl rfl (any_of HT_.out (by kernel_rfl)) (fun _ _ _ h => h) (Or.inl ⟨by rfl, ?_⟩) ?_ ?_
                                      rotate_left
                                      · intro w'
                                        go_simp
                                        with_reducible rfl
                                      rotate_left
                                      · simp only [Act.put, List.setIfInBounds_toArray, List.set_cons_zero, List.set_cons_succ, i64_w, i32_w]
                                        rfl
                                      refine pure_ (i := 1) (N := some 49) (v := ?_) (a' := ?_) #[true, true, false, false, false, false, false, false, false, false, false, false, false, false, false, false, false, false, false] rfl rfl (any_of HT_.out (by kernel_rfl)) (fun _ _ _ h => h) (Or.inl ⟨by rfl, ?_⟩) ?_ ?_
                                      rotate_left
                                      · intro w'
                                        go_simp
                                        with_reducible rfl
                                      rotate_left
                                      · simp only [Act.put, List.setIfInBounds_toArray, List.set_cons_zero, List.set_cons_succ, i64_w, i32_w]
                                        rfl
                                      refine pure_ (i := 2) (N := some 50) (v := ?_) (a' := ?_) #[true, true, true, false, false, false, false, false, false, false, false, false, false, false, false, false, false, false, false] rfl rfl (any_of HT_.out (by kernel_rfl)) (fun _ _ _ h => h) (Or.inl ⟨by rfl, ?_⟩) ?_ ?_
                                      rotate_left
                                      · intro w'
                                        go_simp
                                        with_reducible rfl
                                      rotate_left
                                      · simp only [Act.put, List.setIfInBounds_toArray, List.set_cons_zero, List.set_cons_succ, i64_w, i32_w]
                                        rfl
                                      refine pure_ (i := 3) (N := some 51) (v := ?_) (a' := ?_) #[true, true, true, true, false, false, false, false, false, false, false, false, false, false, false, false, false, false, false] rfl rfl (any_of HT_.out (by kernel_rfl)) (fun _ _ _ h => h) (Or.inl ⟨by rfl, ?_⟩) ?_ ?_
                                      rotate_left
                                      · intro w'
                                        go_simp
                                        with_reducible rfl
                                      rotate_left
                                      · simp only [Act.put, List.setIfInBounds_toArray, List.set_cons_zero, List.set_cons_succ, i64_w, i32_w]
                                        rfl
                                      refine pure_ (i := 4) (N := some 52) (v := ?_) (a' := ?_) #[true, true, true, true, true, false, false, false, false, false, false, false, false, false, false, false, false, false, false] rfl rfl (any_of HT_.out (by kernel_rfl)) (fun _ _ _ h => h) (Or.inl ⟨by rfl, ?_⟩) ?_ ?_
                                      rotate_left
                                      · intro w'
                                        go_simp
                                        with_reducible rfl
                                      rotate_left
                                      · simp only [Act.put, List.setIfInBounds_toArray, List.set_cons_zero, List.set_cons_succ, i64_w, i32_w]
                                        rfl
                                      refine pure_ (i := 5) (N := some 53) (v := ?_) (a' := ?_) #[true, true, true, true, true, true, false, false, false, false, false, false, false, false, false, false, false, false, false] rfl rfl (any_of HT_.out (by kernel_rfl)) (fun _ _ _ h => h) (Or.inl ⟨by rfl, ?_⟩) ?_ ?_
                                      rotate_left
                                      · intro w'
                                        go_simp
                                        with_reducible rfl
                                      rotate_left
                                      · simp only [Act.put, List.setIfInBounds_toArray, List.set_cons_zero, List.set_cons_succ, i64_w, i32_w]
                                        rfl
                                      refine pure_ (i := 7) (N := some 55) (v := ?_) (a' := ?_) #[true, true, true, true, true, true, false, true, false, false, false, false, false, false, false, false, false, false, false] rfl rfl (any_of HT_.out (by kernel_rfl)) (fun _ _ _ h => h) (Or.inl ⟨by rfl, ?_⟩) ?_ ?_
                                      rotate_left
                                      · intro w'
                                        go_simp
                                        with_reducible rfl
                                      rotate_left
                                      · simp only [Act.put, List.setIfInBounds_toArray, List.set_cons_zero, List.set_cons_succ, i64_w, i32_w]
                                        rfl
                                      refine pure_ (i := 8) (N := some 56) (v := ?_) (a' := ?_) #[true, true, true, true, true, true, false, true, true, false, false, false, false, false, false, false, false, false, false] rfl rfl (any_of HT_.out (by kernel_rfl)) (fun _ _ _ h => h) (Or.inl ⟨by rfl, ?_⟩) ?_ ?_
                                      rotate_left
                                      · intro w'
                                        go_simp
                                        with_reducible rfl
                                      rotate_left
                                      · simp only [Act.put, List.setIfInBounds_toArray, List.set_cons_zero, List.set_cons_succ, i64_w, i32_w]
                                        rfl
                                      refine pure_ (i := 9) (N := some 57) (v := ?_) (a' := ?_) #[true, true, true, true, true, true, false, true, true, true, false, false, false, false, false, false, false, false, false] rfl rfl (any_of HT_.out (by kernel_rfl)) (fun _ _ _ h => h) (Or.inl ⟨by rfl, ?_⟩) ?_ ?_
                                      rotate_left
                                      · intro w'
                                        go_simp
                                        with_reducible rfl
                                      rotate_left
                                      · simp only [Act.put, List.setIfInBounds_toArray, List.set_cons_zero, List.set_cons_succ, i64_w, i32_w]
                                        rfl
                                      refine pure_ (i := 10) (N := some 58) (v := ?_) (a' := ?_) #[true, true, true, true, true, true, false, true, true, true, true, false, false, false, false, false, false, false, false] rfl rfl (any_of HT_.out (by kernel_rfl)) (fun _ _ _ h => h) (Or.inl ⟨by rfl, ?_⟩) ?_ ?_
                                      rotate_left
                                      · intro w'
                                        go_simp
                                        with_reducible rfl
                                      rotate_left
                                      · simp only [Act.put, List.setIfInBounds_toArray, List.set_cons_zero, List.set_cons_succ, i64_w, i32_w]
                                        rfl
                                      refine pure_ (i := 11) (N := some 59) (v := ?_) (a' := ?_) #[true, true, true, true, true, true, false, true, true, true, true, true, false, false, false, false, false, false, false] rfl rfl (any_of HT_.out (by kernel_rfl)) (fun _ _ _ h => h) (Or.inl ⟨by rfl, ?_⟩) ?_ ?_
                                      rotate_left
                                      · intro w'
                                        go_simp
                                        with_reducible rfl
                                      rotate_left
                                      · simp only [Act.put, List.setIfInBounds_toArray, List.set_cons_zero, List.set_cons_succ, i64_w, i32_w]
                                        rfl
                                      refine pure_ (i := 12) (N := some 60) (v := ?_) (a' := ?_) #[true, true, true, true, true, true, false, true, true, true, true, true, true, false, false, false, false, false, false] rfl rfl (any_of HT_.out (by kernel_rfl)) (fun _ _ _ h => h) (Or.inl ⟨by rfl, ?_⟩) ?_ ?_
                                      rotate_left
                                      · intro w'
                                        go_simp
                                        with_reducible rfl
                                      rotate_left
                                      · simp only [Act.put, List.setIfInBounds_toArray, List.set_cons_zero, List.set_cons_succ, i64_w, i32_w]
                                        rfl
                                      refine pure_ (i := 13) (N := some 61) (v := ?_) (a' := ?_) #[true, true, true, true, true, true, false, true, true, true, true, true, true, true, false, false, false, false, false] rfl rfl (any_of HT_.out (by kernel_rfl)) (fun _ _ _ h => h) (Or.inl ⟨by rfl, ?_⟩) ?_ ?_
                                      rotate_left
                                      · intro w'
                                        go_simp
                                        with_reducible rfl
                                      rotate_left
                                      · simp only [Act.put, List.setIfInBounds_toArray, List.set_cons_zero, List.set_cons_succ, i64_w, i32_w]
                                        rfl
                                      refine pure_ (i := 14) (N := some 62) (v := ?_) (a' := ?_) #[true, true, true, true, true, true, false, true, true, true, true, true, true, true, true, false, false, false, false] rfl rfl (any_of HT_.out (by kernel_rfl)) (fun _ _ _ h => h) (Or.inl ⟨by rfl, ?_⟩) ?_ ?_
                                      rotate_left
                                      · intro w'
                                        go_simp
                                        with_reducible rfl
                                      rotate_left
                                      · simp only [Act.put, List.setIfInBounds_toArray, List.set_cons_zero, List.set_cons_succ, i64_w, i32_w]
                                        rfl
                                      refine one_ (i := 6) (N := some 54) #[true, true, true, true, true, true, true, true, true, true, true, true, true, true, true, false, false, false, false] rfl rfl (one_of HT_.out (by kernel_rfl)) (by decide) (fun K hK => ?_)
                                      refine goes_ Try.func27 (by kernel_rfl) rfl #[.string (a0.extract (x7_1 : Int).toNat ((ji14) : Int).toNat)] (by rfl) rfl rfl (by (try simp only [List.map_toArray, List.map_cons, List.map_nil]); first | done | (simp only [hji14]; rfl) | rfl | (simp only [List.length_drop, List.length_take]; rfl)) ?_
                                      with_reducible refine (concordanceref02_Get.calls kj5 (a0.extract (x7_1 : Int).toNat ((ji14) : Int).toNat) t223 _ A22.out).mono ?_
                                      rintro e w' ⟨rfl, ⟨nd, rfl⟩⟩
                                      refine ⟨_, rfl, ?_⟩
                                      refine hK.out _ _ trivial (fun hHeld => ?_)
                                      clear hK K
                                      refine norm_ (a' := ?_) ?_ ?_
                                      rotate_left
                                      · show Act.put _ (some 54) _ = _
                                        simp only [Act.put, List.setIfInBounds_toArray, List.set_cons_zero, List.set_cons_succ, i64_w, i32_w]
                                        rfl
                                      refine pure_ (i := 15) (N := some 63) (v := ?_) (a' := ?_) #[true, true, true, true, true, true, true, true, true, true, true, true, true, true, true, true, false, false, false] rfl rfl (any_of HT_.out (by kernel_rfl)) (fun _ _ _ h => h) (Or.inl ⟨by rfl, ?_⟩) ?_ ?_
                                      rotate_left
                                      · intro w'
                                        go_simp
                                        with_reducible rfl
                                      rotate_left
                                      · simp only [Act.put, List.setIfInBounds_toArray, List.set_cons_zero, List.set_cons_succ, i64_w, i32_w]
                                        rfl
                                      refine one_ (i := 16) (N := some 64) #[true, true, true, true, true, true, true, true, true, true, true, true, true, true, true, true, true, false, false] rfl rfl (one_of HT_.out (by kernel_rfl)) (by decide) (fun K hK => ?_)
                                      refine value_ (w1 := ?_) (v := ?_) (by rfl) rfl ?_ ?_
                                      rotate_left 2
                                      · go_simp
                                        constructor
                                        · rfl
                                        · rfl
                                      refine hK.out _ _ trivial (fun hHeld => ?_)
                                      clear hK K
                                      refine norm_ (a' := ?_) ?_ ?_
                                      rotate_left
                                      · show Act.put _ (some 64) _ = _
                                        simp only [Act.put, List.setIfInBounds_toArray, List.set_cons_zero, List.set_cons_succ, i64_w, i32_w]
                                        rfl
                                      refine one_ (i := 17) (N := some 65) #[true, true, true, true, true, true, true, true, true, true, true, true, true, true, true, true, true, true, false] rfl rfl (one_of HT_.out (by kernel_rfl)) (by decide) (fun K hK => ?_)
                                      refine Kd.R_append_step k53 (w0 := w) w.heap.size (by rfl) (.tmp 48) (.tmp 64) 34 53 (.agg #[(.int .i64 0), (.string ⟨#[]⟩)]) 24 rfl Try.underlying34 info53 rfl (by decide) (by omega) u6 x6_1 (⟨t223, a0.extract ((ji23) : Int).toNat ((wrap64 ((ji23) + t222)) : Int).toNat⟩ : S53) [.int .i64 t223, .string (a0.extract ((ji23) : Int).toNat ((wrap64 ((ji23) + t222)) : Int).toNat)] (fun _ => True) (fun _ => False) rfl rfl ?aP (fun _ hk => hk.elim) ?aF ?aO ?aB ?aS ?aL ?_
                                      (case aP => exact k53_mkM _ _ _ (⟨t223, a0.extract ((ji23) : Int).toNat ((wrap64 ((ji23) + t222)) : Int).toNat⟩ : S53))
                                      (case aB => exact (by repeat (first | (with_reducible first | exact HB.out | apply below_alloc | apply pw_below_drewN | apply below_drew1) | exact HB.out)))
                                      (case aF => exact (fun _ _ => trivial))
                                      (case aO => exact (by (with_reducible repeat (first | apply Kd.R_alloc | apply Kd.R_drewN | apply Kd.R_drew)); exact HO_6.out))
                                      (case aS => exact (below_size (by repeat (first | (with_reducible first | exact HB.out | apply below_alloc | apply pw_below_drewN | apply below_drew1) | exact HB.out))))
                                      (case aL => have := LMc27.out; omega)
                                      intro v225 w29 ho hb hg hat
                                      rw [← Ny224.out] at ho
                                      have n0_ := Aside0.mk (hb)
                                      have n1_ := Aside0.mk (ho)
                                      clear HB
                                      clear HO_6
                                      have HB := n0_
                                      have HO226 := n1_
                                      clear n0_ n1_
                                      clear ho hb hg hat
                                      refine hK.out _ _ trivial (fun hHeld => ?_)
                                      clear hK K
                                      refine norm_ (a' := ?_) ?_ ?_
                                      rotate_left
                                      · show Act.put _ (some 65) _ = _
                                        simp only [Act.put, List.setIfInBounds_toArray, List.set_cons_zero, List.set_cons_succ, i64_w, i32_w]
                                        rfl
                                      refine pure_ (i := 18) (N := some 6) (v := ?_) (a' := ?_) #[true, true, true, true, true, true, true, true, true, true, true, true, true, true, true, true, true, true, true] rfl rfl (any_of HT_.out (by kernel_rfl)) (fun _ _ _ h => h) (Or.inl ⟨by rfl, ?_⟩) ?_ ?_
                                      rotate_left
                                      · intro w'
                                        go_simp
                                        with_reducible rfl
                                      rotate_left
                                      · simp only [Act.put, List.setIfInBounds_toArray, List.set_cons_zero, List.set_cons_succ, i64_w, i32_w]
                                        rfl
                                      refine done_ (done_of HT_.out (by kernel_rfl)) ?_
                                      try go_wp2
                                      go_roundg kj5
                                      case measure => have := HK1.out; have := HJ5.out; omega
                                      case rel => exact ⟨(y224), (wrap64 (x7_1 + (wrap64 (4 + t222)))), (wrap64 (x8_1 + 1)), (by first | rfl | (simp; done) | (simp [*]; done)), (by first | rfl | (simp; done) | (simp [*]; done)), H', ⟨by have := HK1.out; have := HJ5.out; omega⟩, ⟨by (with_reducible repeat (first | apply Kd.R_alloc | apply Kd.R_drewN | apply Kd.R_drew)); exact HO226.out⟩, ⟨by repeat (first | (with_reducible first | exact HB.out | apply below_alloc | apply pw_below_drewN | apply below_drew1) | exact HB.out)⟩⟩
                                    · rw [if_neg c27] at H
                                      exact absurd H (by simp)
                                  · rw [if_neg c26] at H
                                    exact absurd H (by simp)
                                · rw [if_neg c25] at H
                                  exact absurd H (by simp)
                              · rw [if_neg c24] at H
                                exact absurd H (by simp)
                            · rw [if_neg c21] at H
                              exact absurd H (by simp)
                          · rw [if_neg c20] at H
                            exact absurd H (by simp)
                        · rw [if_neg c19] at H
                          exact absurd H (by simp)
                      · rw [if_neg c17] at H
                        exact absurd H (by simp)
                    · rw [if_neg c16] at H
                      exact absurd H (by simp)
                  · rw [if_neg c15] at H
                    exact absurd H (by simp)
          · rw [if_neg c5] at H
            have c5b0 : decide (x8_1 < t219) = false := decide_eq_false c5
            clear c5
            replace H := Option.bind_eq_some_iff.mp H
            obtain ⟨t220, A300, H⟩ := H
            replace H : (if t220 = true then (some (x6_1, x7_1, 0)) else (some (([] : List (S53)), 0, 2))) = some (r1, r2, r3) := H
            have A30 := Aside0.mk A300
            clear A300
            by_cases c31 : t220 = true
            · subst c31
              have H1 : (some (x6_1, x7_1, 0)) = some (r1, r2, r3) := by rw [if_pos rfl] at H; exact H
              clear H
              have H := H1
              clear H1
              simp only [Option.some.injEq, Prod.mk.injEq] at H
              obtain ⟨rfl, rfl, rfl⟩ := H
              obtain ⟨Ao32, co32, eo32⟩ := Kd.R_slice HO_6.out
              subst eo32
              go_wp2_with (first | ((with_reducible refine gate_callee (f := 21) rfl ?_); refine goesL_ (some 71) rfl rfl Try.func21 (by kernel_rfl) rfl #[.slice Ao32 x6_1.length co32] rfl (by (try simp only [List.map_toArray, List.map_cons, List.map_nil]); first | done | rfl | (simp only [List.length_drop, List.length_take]; rfl)) ?_; (with_reducible refine (concordanceref06_Right.calls k1 _ _ x6_1 true _ ?side1 ?side2 A30.out).mono ?_); (case side1 => repeat (first | exact (Kd.R_reads' HO_6.out).2.2 | (with_reducible refine Kd.C_alloc ?_ _) | (with_reducible refine Kd.C_drewN ?_ _) | (with_reducible refine Kd.C_drew ?_))); (case side2 => exact (Kd.R_reads' HO_6.out).2.1); rintro e w' ⟨rfl, ⟨nd, rfl⟩⟩; refine ⟨_, rfl, ?_⟩))
              go_ret3
              exact ⟨_, by first | rfl | (simp [errW_none, errW_some] <;> rfl) | (simp [*, errW_none, errW_some] <;> rfl), by (with_reducible repeat (first | apply Kd.R_alloc | apply Kd.R_drewN | apply Kd.R_drew)); exact HO_6.out, by repeat (first | (with_reducible first | exact HB.out | apply below_alloc | apply pw_below_drewN | apply below_drew1) | exact HB.out)⟩
            · replace c31 := Bool.eq_false_iff.mpr c31
              subst c31
              have H1 : (some (([] : List (S53)), 0, 2)) = some (r1, r2, r3) := by rw [if_neg (show ¬ (false = true) by decide)] at H; exact H
              clear H
              have H := H1
              clear H1
              simp only [Option.some.injEq, Prod.mk.injEq] at H
              obtain ⟨rfl, rfl, rfl⟩ := H
              obtain ⟨Ao33, co33, eo33⟩ := Kd.R_slice HO_6.out
              subst eo33
              go_wp2_with (first | ((with_reducible refine gate_callee (f := 21) rfl ?_); refine goesL_ (some 71) rfl rfl Try.func21 (by kernel_rfl) rfl #[.slice Ao33 x6_1.length co33] rfl (by (try simp only [List.map_toArray, List.map_cons, List.map_nil]); first | done | rfl | (simp only [List.length_drop, List.length_take]; rfl)) ?_; (with_reducible refine (concordanceref06_Right.calls k1 _ _ x6_1 false _ ?side1 ?side2 A30.out).mono ?_); (case side1 => repeat (first | exact (Kd.R_reads' HO_6.out).2.2 | (with_reducible refine Kd.C_alloc ?_ _) | (with_reducible refine Kd.C_drewN ?_ _) | (with_reducible refine Kd.C_drew ?_))); (case side2 => exact (Kd.R_reads' HO_6.out).2.1); rintro e w' ⟨rfl, ⟨nd, rfl⟩⟩; refine ⟨_, rfl, ?_⟩))
              go_ret3
              exact ⟨_, by first | rfl | (simp [errW_none, errW_some] <;> rfl) | (simp [*, errW_none, errW_some] <;> rfl), by first | exact Kd.R_nil _ _ _ _ _ | exact Kd.N_nil _ _ _ _ _ | exact Kd.V_nil _ _ _ _ _ | exact Kd.Q_nil _ _ _ _ _ | exact Kd.S_nil _ _ _ _ _, by repeat (first | (with_reducible first | exact HB.out | apply below_alloc | apply pw_below_drewN | apply below_drew1) | exact HB.out)⟩
    · rw [if_neg c3] at H
      exact absurd H (by simp)

end Go.Proofs.Ytpdibkcpdngboaa.GP
