-- Written by a program of this session (wip/pv.py, which turns the kit's print.py in a scratch copy): see NOTES.md.
import Derived.Test.YtpdibkcpdngboaaGPx0
namespace Go.Proofs.Ytpdibkcpdngboaa.GP
open Go.RowKit Go.Proofs.YtpdibkcpdngboaaW.PrintWords Go.Proofs.YtpdibkcpdngboaaW.PrintLast Go.Proofs.YtpdibkcpdngboaaW.PrintMore
attribute [local go_sem] max2_int min2_int max_two min_two max_three min_three max_four min_four   -- for this text's walks alone
set_option linter.unusedVariables false
set_option linter.unusedSimpArgs false

/-! ### concordanceref06_Right: function 21 -/
mutual
def concordanceref06_Right.l0 : Nat → List (S53) → Int → Option (Bool)
  | 0, _, _ => none
  | k + 1, x0, x3 => if x3 < (x0.length : Int) then (if 0 ≤ x3 then (if (((rd_T53 x0 x3).f1).size : Int) = 0 then (concordanceref06_Right.j1 k x0 x3 true) else (if (((rd_T53 x0 x3).f1).size : Int) > 65535 then (concordanceref06_Right.j1 k x0 x3 true) else (if ((rd_T53 x0 x3).f0) < 0 then (concordanceref06_Right.j1 k x0 x3 true) else (concordanceref06_Right.j1 k x0 x3 (decide (((rd_T53 x0 x3).f0) > 65535)))))) else (none)) else (some (decide ((x0.length : Int) ≤ 65535)))
def concordanceref06_Right.j1 : Nat → List (S53) → Int → Bool → Option (Bool)
  | 0, _, _, _ => none
  | k + 1, x0, x3, x41 => if x41 = true then (some false) else (if x3 > 0 then (if 0 ≤ x3 then (if x3 < (x0.length : Int) then (if 0 ≤ (wrap64 (x3 - 1)) then (if (wrap64 (x3 - 1)) < (x0.length : Int) then (if ((rd_T53 x0 x3).f0) < (wrap64 (((rd_T53 x0 (wrap64 (x3 - 1))).f0) + (((rd_T53 x0 (wrap64 (x3 - 1))).f1).size : Int))) then (some false) else (concordanceref06_Right.l0 k x0 (wrap64 (x3 + 1)))) else (none)) else (none)) else (none)) else (none)) else (concordanceref06_Right.l0 k x0 (wrap64 (x3 + 1))))
end
def concordanceref06_Right.f (k : Nat) (l0 : List (S53)) : Option (Bool) := concordanceref06_Right.l0 k l0 0
theorem concordanceref06_Right.mono_l : ∀ k, (∀ y0 y1, LeO (concordanceref06_Right.l0 k y0 y1) (concordanceref06_Right.l0 (k + 1) y0 y1)) ∧ (∀ y0 y1 y2, LeO (concordanceref06_Right.j1 k y0 y1 y2) (concordanceref06_Right.j1 (k + 1) y0 y1 y2))
  | 0 => ⟨fun _ _ r h => by simp [concordanceref06_Right.l0] at h, fun _ _ _ r h => by simp [concordanceref06_Right.j1] at h⟩
  | k + 1 => by
    obtain ⟨ih0, ih1⟩ := concordanceref06_Right.mono_l k
    refine ⟨?_, ?_⟩
    · intro y0 y1
      unfold concordanceref06_Right.l0
      repeat' first
      | (with_reducible exact ih0 _ _)
      | (with_reducible exact ih1 _ _ _)
      | (with_reducible exact LeO.refl _)
      | (with_reducible exact LeO.none _)
      | (with_reducible refine LeO.ite ?_ ?_)
      | (with_reducible refine LeO.bind ?_ (fun _ => ?_))
      | exact ih0 _ _
      | exact ih1 _ _ _
      | exact LeO.none _
      | refine LeO.ite ?_ ?_
      | refine LeO.bind ?_ (fun _ => ?_)
    · intro y0 y1 y2
      unfold concordanceref06_Right.j1
      repeat' first
      | (with_reducible exact ih0 _ _)
      | (with_reducible exact ih1 _ _ _)
      | (with_reducible exact LeO.refl _)
      | (with_reducible exact LeO.none _)
      | (with_reducible refine LeO.ite ?_ ?_)
      | (with_reducible refine LeO.bind ?_ (fun _ => ?_))
      | exact ih0 _ _
      | exact ih1 _ _ _
      | exact LeO.none _
      | refine LeO.ite ?_ ?_
      | refine LeO.bind ?_ (fun _ => ?_)
theorem concordanceref06_Right.mono : ∀ a0 k, LeO (concordanceref06_Right.f k a0) (concordanceref06_Right.f (k + 1) a0) := by
  intro a0 k
  obtain ⟨ih0, ih1⟩ := concordanceref06_Right.mono_l k
  unfold concordanceref06_Right.f
  repeat' first
      | (with_reducible exact ih0 _ _)
      | (with_reducible exact ih1 _ _ _)
      | (with_reducible exact LeO.refl _)
      | (with_reducible exact LeO.none _)
      | (with_reducible refine LeO.ite ?_ ?_)
      | (with_reducible refine LeO.bind ?_ (fun _ => ?_))
      | exact ih0 _ _
      | exact ih1 _ _ _
      | exact LeO.none _
      | refine LeO.ite ?_ ?_
      | refine LeO.bind ?_ (fun _ => ?_)
set_option maxHeartbeats 8000000 in
set_option maxRecDepth 100000 in
theorem concordanceref06_Right.calls (k : Nat) (A0 : Option Addr) (c0 : Nat) (l0 : List (S53)) (r : Bool) (w : World) (hr0 : Kd.C k53 w A0 l0.length l0) (hc0 : l0.length ≤ c0) (h : concordanceref06_Right.f k l0 = some r) :
    Calls Try.prog 21 #[.slice A0 l0.length c0] w fun e w' => e = .returned (.bool r) ∧ Drawn0 w w' := by
  have HR0 := Aside0.mk hr0
  have HC0 := Aside0.mk hc0
  clear hr0 hc0
  have H : (concordanceref06_Right.l0 k l0 0) = some r := h
  clear h
  have H' := Aside0.mk H
  clear H
  go_enter Try.func21, Try.ntmps21
  go_wp2
  repeat (go_quiet (fail); try go_wp2)
  go_loopg [3] k (fun kq v3 w' => ∃ (x3_1 : Int), v3 = .int .i64 x3_1 ∧ Aside0 (concordanceref06_Right.l0 kq l0 x3_1 = some r) ∧ Aside0 (kq ≤ k) ∧ Drawn0 w w')
  case atStart => exact ⟨(0), (by first | rfl | (simp; done) | (simp [*]; done)), H', ⟨Nat.le_refl _⟩, by repeat (first | exact Drawn0.refl _ | apply Drawn0.step)⟩
  case round =>
    clear H'
    obtain ⟨x3_1, rfl, HA, HK1, ⟨m1, rfl⟩⟩ := hrel
    cases gk with
    | zero => exact absurd HA.out (by simp [concordanceref06_Right.l0])
    | succ k1 =>
      have H := HA.out
      clear HA
      simp only [concordanceref06_Right.l0] at H
      by_cases c2 : x3_1 < (l0.length : Int)
      · rw [if_pos c2] at H
        have c2b0 : decide (x3_1 < (l0.length : Int)) = true := decide_eq_true c2
        clear c2
        have HC3 := Aside0.mk H
        clear H
        go_upto_region 4 with (fail)
        repeat (go_quiet (fail); go_upto_region 4 with (fail))
        go_cut [41] (fun v41 wc => ∃ (kq : Nat) (x41_2 : Bool), v41 = .bool x41_2 ∧ Aside0 (concordanceref06_Right.j1 kq l0 x3_1 x41_2 = some r) ∧ Aside0 (kq ≤ k1) ∧ Drawn0 w wc)
        case first =>
          have H := HC3.out
          clear HC3
          by_cases c4 : 0 ≤ x3_1
          · rw [if_pos c4] at H
            have c4b0 : decide (0 ≤ x3_1) = true := decide_eq_true c4
            clear c4
            (first | rw [c4b0] | (simp only [i64_w, i32_w]; rw [c4b0]) | skip)
            by_cases c5 : (((rd_T53 l0 x3_1).f1).size : Int) = 0
            · rw [if_pos c5] at H
              have c5b0 : ((((rd_T53 l0 x3_1).f1).size : Int) == 0) = true := beq_iff_eq.mpr c5
              have c5b1 : ((((rd_T53 l0 x3_1).f1).size : Int) != 0) = false := bne_eq_false_iff_eq.mpr c5
              clear c5
              have H' := Aside0.mk H
              clear H
              have p159 : 0 ≤ (x3_1 : Int) := of_decide_eq_true (by first | (with_reducible assumption) | assumption)
              have q159 : x3_1 < (l0.length : Int) := of_decide_eq_true (by first | (with_reducible assumption) | assumption)
              obtain ⟨ad159, e159, hx159_0, hx159_1⟩ := at_T53 HR0.out x3_1 p159 q159
              cases e159
              replace p159 := eq_true p159
              replace q159 := eq_true q159
              go_wp2
              repeat (go_quiet (fail); try go_wp2)
              go_meet
              case rel => exact ⟨_, (true), (by first | rfl | (simp; done) | (simp [*]; done)), H', ⟨by have := HK1.out; first | omega | exact Nat.le_refl _⟩, by repeat (first | exact Drawn0.refl _ | apply Drawn0.step)⟩
            · rw [if_neg c5] at H
              have c5b0 : ((((rd_T53 l0 x3_1).f1).size : Int) == 0) = false := beq_eq_false_iff_ne.mpr c5
              have c5b1 : ((((rd_T53 l0 x3_1).f1).size : Int) != 0) = true := bne_iff_ne.mpr c5
              by_cases c6 : (((rd_T53 l0 x3_1).f1).size : Int) > 65535
              · rw [if_pos c6] at H
                have c6b0 : decide (65535 < (((rd_T53 l0 x3_1).f1).size : Int)) = true := decide_eq_true c6
                have c6b1 : decide (65535 < ((rd_T53 l0 x3_1).f1).size) = true := decide_eq_true (by omega)
                clear c6
                have H' := Aside0.mk H
                clear H
                have p159 : 0 ≤ (x3_1 : Int) := of_decide_eq_true (by first | (with_reducible assumption) | assumption)
                have q159 : x3_1 < (l0.length : Int) := of_decide_eq_true (by first | (with_reducible assumption) | assumption)
                obtain ⟨ad159, e159, hx159_0, hx159_1⟩ := at_T53 HR0.out x3_1 p159 q159
                cases e159
                replace p159 := eq_true p159
                replace q159 := eq_true q159
                have p160 : 0 ≤ (x3_1 : Int) := of_decide_eq_true (by first | (with_reducible assumption) | assumption)
                have q160 : x3_1 < (l0.length : Int) := of_decide_eq_true (by first | (with_reducible assumption) | assumption)
                obtain ⟨ad160, e160, hx160_0, hx160_1⟩ := at_T53 HR0.out x3_1 p160 q160
                obtain rfl : ad159 = ad160 := (by injection e160)
                replace p160 := eq_true p160
                replace q160 := eq_true q160
                go_wp2
                repeat (go_quiet (fail); try go_wp2)
                go_meet
                case rel => exact ⟨_, (true), (by first | rfl | (simp; done) | (simp [*]; done)), H', ⟨by have := HK1.out; first | omega | exact Nat.le_refl _⟩, by repeat (first | exact Drawn0.refl _ | apply Drawn0.step)⟩
              · rw [if_neg c6] at H
                have c6b0 : decide (65535 < (((rd_T53 l0 x3_1).f1).size : Int)) = false := decide_eq_false c6
                have c6b1 : decide (65535 < ((rd_T53 l0 x3_1).f1).size) = false := decide_eq_false (by omega)
                clear c6
                by_cases c7 : ((rd_T53 l0 x3_1).f0) < 0
                · rw [if_pos c7] at H
                  have c7b0 : decide (((rd_T53 l0 x3_1).f0) < 0) = true := decide_eq_true c7
                  clear c7
                  have H' := Aside0.mk H
                  clear H
                  have p159 : 0 ≤ (x3_1 : Int) := of_decide_eq_true (by first | (with_reducible assumption) | assumption)
                  have q159 : x3_1 < (l0.length : Int) := of_decide_eq_true (by first | (with_reducible assumption) | assumption)
                  obtain ⟨ad159, e159, hx159_0, hx159_1⟩ := at_T53 HR0.out x3_1 p159 q159
                  cases e159
                  replace p159 := eq_true p159
                  replace q159 := eq_true q159
                  have p160 : 0 ≤ (x3_1 : Int) := of_decide_eq_true (by first | (with_reducible assumption) | assumption)
                  have q160 : x3_1 < (l0.length : Int) := of_decide_eq_true (by first | (with_reducible assumption) | assumption)
                  obtain ⟨ad160, e160, hx160_0, hx160_1⟩ := at_T53 HR0.out x3_1 p160 q160
                  obtain rfl : ad159 = ad160 := (by injection e160)
                  replace p160 := eq_true p160
                  replace q160 := eq_true q160
                  have p161 : 0 ≤ (x3_1 : Int) := of_decide_eq_true (by first | (with_reducible assumption) | assumption)
                  have q161 : x3_1 < (l0.length : Int) := of_decide_eq_true (by first | (with_reducible assumption) | assumption)
                  obtain ⟨ad161, e161, hx161_0, hx161_1⟩ := at_T53 HR0.out x3_1 p161 q161
                  obtain rfl : ad159 = ad161 := (by injection e161)
                  replace p161 := eq_true p161
                  replace q161 := eq_true q161
                  go_wp2
                  repeat (go_quiet (fail); try go_wp2)
                  go_meet
                  case rel => exact ⟨_, (true), (by first | rfl | (simp; done) | (simp [*]; done)), H', ⟨by have := HK1.out; first | omega | exact Nat.le_refl _⟩, by repeat (first | exact Drawn0.refl _ | apply Drawn0.step)⟩
                · rw [if_neg c7] at H
                  have c7b0 : decide (((rd_T53 l0 x3_1).f0) < 0) = false := decide_eq_false c7
                  clear c7
                  have H' := Aside0.mk H
                  clear H
                  have p159 : 0 ≤ (x3_1 : Int) := of_decide_eq_true (by first | (with_reducible assumption) | assumption)
                  have q159 : x3_1 < (l0.length : Int) := of_decide_eq_true (by first | (with_reducible assumption) | assumption)
                  obtain ⟨ad159, e159, hx159_0, hx159_1⟩ := at_T53 HR0.out x3_1 p159 q159
                  cases e159
                  replace p159 := eq_true p159
                  replace q159 := eq_true q159
                  have p160 : 0 ≤ (x3_1 : Int) := of_decide_eq_true (by first | (with_reducible assumption) | assumption)
                  have q160 : x3_1 < (l0.length : Int) := of_decide_eq_true (by first | (with_reducible assumption) | assumption)
                  obtain ⟨ad160, e160, hx160_0, hx160_1⟩ := at_T53 HR0.out x3_1 p160 q160
                  obtain rfl : ad159 = ad160 := (by injection e160)
                  replace p160 := eq_true p160
                  replace q160 := eq_true q160
                  have p161 : 0 ≤ (x3_1 : Int) := of_decide_eq_true (by first | (with_reducible assumption) | assumption)
                  have q161 : x3_1 < (l0.length : Int) := of_decide_eq_true (by first | (with_reducible assumption) | assumption)
                  obtain ⟨ad161, e161, hx161_0, hx161_1⟩ := at_T53 HR0.out x3_1 p161 q161
                  obtain rfl : ad159 = ad161 := (by injection e161)
                  replace p161 := eq_true p161
                  replace q161 := eq_true q161
                  have p162 : 0 ≤ (x3_1 : Int) := of_decide_eq_true (by first | (with_reducible assumption) | assumption)
                  have q162 : x3_1 < (l0.length : Int) := of_decide_eq_true (by first | (with_reducible assumption) | assumption)
                  obtain ⟨ad162, e162, hx162_0, hx162_1⟩ := at_T53 HR0.out x3_1 p162 q162
                  obtain rfl : ad159 = ad162 := (by injection e162)
                  replace p162 := eq_true p162
                  replace q162 := eq_true q162
                  go_wp2
                  repeat (go_quiet (fail); try go_wp2)
                  go_meet
                  case rel => exact ⟨_, (decide (((rd_T53 l0 x3_1).f0) > 65535)), (by first | rfl | (simp; done) | (simp [*]; done)), H', ⟨by have := HK1.out; first | omega | exact Nat.le_refl _⟩, by repeat (first | exact Drawn0.refl _ | apply Drawn0.step)⟩
          · rw [if_neg c4] at H
            exact absurd H (by simp)
        case rest =>
          clear HC3
          try clear p1
          try clear q1
          try clear hx1
          try clear c2
          try clear c2b0
          try clear p2
          try clear c4
          try clear c4b0
          try clear c5
          try clear c5b0
          try clear c5b1
          try clear c6
          try clear c6b0
          try clear c6b1
          try clear c7
          try clear c7b0
          try clear hx159_0
          try clear hx159_1
          try clear hx160_0
          try clear hx160_1
          try clear hx161_0
          try clear hx161_1
          try clear hx162_0
          try clear hx162_1
          try clear p159
          try clear p160
          try clear p161
          try clear p162
          try clear q159
          try clear q160
          try clear q161
          try clear q162
          obtain ⟨kq, x41_2, rfl, HA, HJ2, ⟨mc2, rfl⟩⟩ := hcut
          cases kq with
          | zero => exact absurd HA.out (by simp [concordanceref06_Right.j1])
          | succ kj2 =>
            have H := HA.out
            clear HA
            simp only [concordanceref06_Right.j1] at H
            by_cases c8 : x41_2 = true
            · subst c8
              have H1 : (some false) = some r := by rw [if_pos rfl] at H; exact H
              clear H
              have H := H1
              clear H1
              obtain rfl := Option.some.inj H
              go_wp2
              repeat (go_quiet (fail); try go_wp2)
              go_ret
              exact ⟨by first | rfl | (simp; done) | (simp [*]; done), by repeat (first | exact Drawn0.refl _ | apply Drawn0.step)⟩
            · replace c8 := Bool.eq_false_iff.mpr c8
              subst c8
              have H1 : (if x3_1 > 0 then (if 0 ≤ x3_1 then (if x3_1 < (l0.length : Int) then (if 0 ≤ (wrap64 (x3_1 - 1)) then (if (wrap64 (x3_1 - 1)) < (l0.length : Int) then (if ((rd_T53 l0 x3_1).f0) < (wrap64 (((rd_T53 l0 (wrap64 (x3_1 - 1))).f0) + (((rd_T53 l0 (wrap64 (x3_1 - 1))).f1).size : Int))) then (some false) else (concordanceref06_Right.l0 kj2 l0 (wrap64 (x3_1 + 1)))) else (none)) else (none)) else (none)) else (none)) else (concordanceref06_Right.l0 kj2 l0 (wrap64 (x3_1 + 1)))) = some r := by rw [if_neg (show ¬ (false = true) by decide)] at H; exact H
              clear H
              have H := H1
              clear H1
              by_cases c9 : x3_1 > 0
              · rw [if_pos c9] at H
                have c9b0 : decide (0 < x3_1) = true := decide_eq_true c9
                clear c9
                by_cases c10 : 0 ≤ x3_1
                · rw [if_pos c10] at H
                  have c10b0 : decide (0 ≤ x3_1) = true := decide_eq_true c10
                  clear c10
                  by_cases c11 : x3_1 < (l0.length : Int)
                  · rw [if_pos c11] at H
                    have c11b0 : decide (x3_1 < (l0.length : Int)) = true := decide_eq_true c11
                    clear c11
                    obtain ⟨ji12, hji12⟩ : ∃ j_ : Int, (wrap64 (x3_1 - 1)) = j_ := ⟨_, rfl⟩
                    replace H : (if 0 ≤ (ji12) then (if (ji12) < (l0.length : Int) then (if ((rd_T53 l0 x3_1).f0) < (wrap64 (((rd_T53 l0 (ji12)).f0) + (((rd_T53 l0 (ji12)).f1).size : Int))) then (some false) else (concordanceref06_Right.l0 kj2 l0 (wrap64 (x3_1 + 1)))) else (none)) else (none)) = some r := by first | (rw [hji12] at H; exact H) | (simp only [hji12] at H ⊢; exact H)
                    have hji12w : (IntKind.i64.wrap (x3_1 - 1)) = ji12 := (i64_w _).trans hji12
                    by_cases c13 : 0 ≤ (ji12)
                    · rw [if_pos c13] at H
                      have c13b0 : decide (0 ≤ (ji12)) = true := decide_eq_true c13
                      clear c13
                      by_cases c14 : (ji12) < (l0.length : Int)
                      · rw [if_pos c14] at H
                        have c14b0 : decide ((ji12) < (l0.length : Int)) = true := decide_eq_true c14
                        clear c14
                        by_cases c15 : ((rd_T53 l0 x3_1).f0) < (wrap64 (((rd_T53 l0 (ji12)).f0) + (((rd_T53 l0 (ji12)).f1).size : Int)))
                        · rw [if_pos c15] at H
                          have c15b0 : decide (((rd_T53 l0 x3_1).f0) < (wrap64 (((rd_T53 l0 (ji12)).f0) + (((rd_T53 l0 (ji12)).f1).size : Int)))) = true := decide_eq_true c15
                          clear c15
                          obtain rfl := Option.some.inj H
                          have p163 : 0 ≤ (x3_1 : Int) := of_decide_eq_true (by first | (with_reducible assumption) | assumption)
                          have q163 : x3_1 < (l0.length : Int) := of_decide_eq_true (by first | (with_reducible assumption) | assumption)
                          obtain ⟨ad163, e163, hx163_0, hx163_1⟩ := at_T53 HR0.out x3_1 p163 q163
                          cases e163
                          replace p163 := eq_true p163
                          replace q163 := eq_true q163
                          have p164 : 0 ≤ ((ji12) : Int) := of_decide_eq_true (by first | (with_reducible assumption) | assumption)
                          have q164 : (ji12) < (l0.length : Int) := of_decide_eq_true (by first | (with_reducible assumption) | assumption)
                          obtain ⟨ad164, e164, hx164_0, hx164_1⟩ := at_T53 HR0.out (ji12) p164 q164
                          obtain rfl : ad163 = ad164 := (by injection e164)
                          replace p164 := eq_true p164
                          replace q164 := eq_true q164
                          have p165 : 0 ≤ ((ji12) : Int) := of_decide_eq_true (by first | (with_reducible assumption) | assumption)
                          have q165 : (ji12) < (l0.length : Int) := of_decide_eq_true (by first | (with_reducible assumption) | assumption)
                          obtain ⟨ad165, e165, hx165_0, hx165_1⟩ := at_T53 HR0.out (ji12) p165 q165
                          obtain rfl : ad163 = ad165 := (by injection e165)
                          replace p165 := eq_true p165
                          replace q165 := eq_true q165
                          go_wp2
                          repeat (go_quiet (fail); try go_wp2)
                          go_ret
                          exact ⟨by first | rfl | (simp; done) | (simp only [← hji12] <;> (first | rfl | simp)) | (simp [*]; done), by repeat (first | exact Drawn0.refl _ | apply Drawn0.step)⟩
                        · rw [if_neg c15] at H
                          have c15b0 : decide (((rd_T53 l0 x3_1).f0) < (wrap64 (((rd_T53 l0 (ji12)).f0) + (((rd_T53 l0 (ji12)).f1).size : Int)))) = false := decide_eq_false c15
                          clear c15
                          have H' := Aside0.mk H
                          clear H
                          have p163 : 0 ≤ (x3_1 : Int) := of_decide_eq_true (by first | (with_reducible assumption) | assumption)
                          have q163 : x3_1 < (l0.length : Int) := of_decide_eq_true (by first | (with_reducible assumption) | assumption)
                          obtain ⟨ad163, e163, hx163_0, hx163_1⟩ := at_T53 HR0.out x3_1 p163 q163
                          cases e163
                          replace p163 := eq_true p163
                          replace q163 := eq_true q163
                          have p164 : 0 ≤ ((ji12) : Int) := of_decide_eq_true (by first | (with_reducible assumption) | assumption)
                          have q164 : (ji12) < (l0.length : Int) := of_decide_eq_true (by first | (with_reducible assumption) | assumption)
                          obtain ⟨ad164, e164, hx164_0, hx164_1⟩ := at_T53 HR0.out (ji12) p164 q164
                          obtain rfl : ad163 = ad164 := (by injection e164)
                          replace p164 := eq_true p164
                          replace q164 := eq_true q164
                          have p165 : 0 ≤ ((ji12) : Int) := of_decide_eq_true (by first | (with_reducible assumption) | assumption)
                          have q165 : (ji12) < (l0.length : Int) := of_decide_eq_true (by first | (with_reducible assumption) | assumption)
                          obtain ⟨ad165, e165, hx165_0, hx165_1⟩ := at_T53 HR0.out (ji12) p165 q165
                          obtain rfl : ad163 = ad165 := (by injection e165)
                          replace p165 := eq_true p165
                          replace q165 := eq_true q165
                          go_wp2
                          repeat (go_quiet (fail); try go_wp2)
                          go_roundg kj2
                          case measure => have := HK1.out; have := HJ2.out; omega
                          case rel => exact ⟨(wrap64 (x3_1 + 1)), (by first | rfl | (simp; done) | (simp [*]; done)), H', ⟨by have := HK1.out; have := HJ2.out; omega⟩, by repeat (first | exact Drawn0.refl _ | apply Drawn0.step)⟩
                      · rw [if_neg c14] at H
                        exact absurd H (by simp)
                    · rw [if_neg c13] at H
                      exact absurd H (by simp)
                  · rw [if_neg c11] at H
                    exact absurd H (by simp)
                · rw [if_neg c10] at H
                  exact absurd H (by simp)
              · rw [if_neg c9] at H
                have c9b0 : decide (0 < x3_1) = false := decide_eq_false c9
                clear c9
                have H' := Aside0.mk H
                clear H
                go_wp2
                repeat (go_quiet (fail); try go_wp2)
                go_roundg kj2
                case measure => have := HK1.out; have := HJ2.out; omega
                case rel => exact ⟨(wrap64 (x3_1 + 1)), (by first | rfl | (simp; done) | (simp [*]; done)), H', ⟨by have := HK1.out; have := HJ2.out; omega⟩, by repeat (first | exact Drawn0.refl _ | apply Drawn0.step)⟩
      · rw [if_neg c2] at H
        have c2b0 : decide (x3_1 < (l0.length : Int)) = false := decide_eq_false c2
        clear c2
        obtain rfl := Option.some.inj H
        go_wp2
        repeat (go_quiet (fail); try go_wp2)
        go_ret
        exact ⟨by first | rfl | (simp; done) | (simp [*]; done), by repeat (first | exact Drawn0.refl _ | apply Drawn0.step)⟩

end Go.Proofs.Ytpdibkcpdngboaa.GP
