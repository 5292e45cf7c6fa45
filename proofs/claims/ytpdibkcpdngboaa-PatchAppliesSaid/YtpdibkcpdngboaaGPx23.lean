-- Written by a program of this session (wip/pv.py, which turns the kit's print.py in a scratch copy): see NOTES.md.
import Derived.Test.YtpdibkcpdngboaaGPx0
namespace Go.Proofs.Ytpdibkcpdngboaa.GP
open Go.RowKit Go.Proofs.YtpdibkcpdngboaaW.PrintWords Go.Proofs.YtpdibkcpdngboaaW.PrintLast Go.Proofs.YtpdibkcpdngboaaW.PrintMore
attribute [local go_sem] max2_int min2_int max_two min_two max_three min_three max_four min_four   -- for this text's walks alone
set_option linter.unusedVariables false
set_option linter.unusedSimpArgs false

/-! ### concordanceref06_Diff: function 16 -/
mutual
def concordanceref06_Diff.j0 : Nat → ByteArray → ByteArray → Bool → Option ((List (S53)))
  | 0, _, _, _ => none
  | k + 1, x0, x1, x19 => if x19 = true then (some ([] : List (S53))) else (concordanceref06_Diff.l0 k x0 x1 ([] : List (S53)) 0)
def concordanceref06_Diff.l0 : Nat → ByteArray → ByteArray → List (S53) → Int → Option ((List (S53)))
  | 0, _, _, _, _ => none
  | k + 1, x0, x1, x5, x6 => if x6 < (x1.size : Int) then (if 0 ≤ x6 then (if x6 < (x0.size : Int) then (if (bt x0 x6) = (bt x1 x6) then (concordanceref06_Diff.l0 k x0 x1 x5 (wrap64 (x6 + 1))) else (concordanceref06_Diff.l1 k x0 x1 x5 x6 (wrap64 (x6 + 1)) true)) else (none)) else (none)) else (some x5)
def concordanceref06_Diff.l1 : Nat → ByteArray → ByteArray → List (S53) → Int → Int → Bool → Option ((List (S53)))
  | 0, _, _, _, _, _, _ => none
  | k + 1, x0, x1, x5, x6, x7, x8 => if x8 = true then (concordanceref06_Diff.l2 k x0 x1 x5 x6 x7 false x7) else (if 0 ≤ x6 then (if x6 ≤ x7 then (if x7 ≤ (x1.size : Int) then (if x5.length < 5864062014805 then (concordanceref06_Diff.l0 k x0 x1 (x5 ++ [(⟨x6, x1.extract (x6 : Int).toNat (x7 : Int).toNat⟩ : S53)]) x7) else (none)) else (none)) else (none)) else (none))
def concordanceref06_Diff.l2 : Nat → ByteArray → ByteArray → List (S53) → Int → Int → Bool → Int → Option ((List (S53)))
  | 0, _, _, _, _, _, _, _ => none
  | k + 1, x0, x1, x5, x6, x7, x8, x9 => if x9 < (wrap64 (x7 + 4)) then (concordanceref06_Diff.j4 k x0 x1 x5 x6 x7 x8 x9 (decide (x9 < (x1.size : Int)))) else (concordanceref06_Diff.j4 k x0 x1 x5 x6 x7 x8 x9 false)
def concordanceref06_Diff.j4 : Nat → ByteArray → ByteArray → List (S53) → Int → Int → Bool → Int → Bool → Option ((List (S53)))
  | 0, _, _, _, _, _, _, _, _ => none
  | k + 1, x0, x1, x5, x6, x7, x8, x9, x46 => if x46 = true then (if 0 ≤ x9 then (if x9 < (x0.size : Int) then (if x9 < (x1.size : Int) then (if (bt x0 x9) = (bt x1 x9) then (concordanceref06_Diff.l2 k x0 x1 x5 x6 x7 x8 (wrap64 (x9 + 1))) else (concordanceref06_Diff.l1 k x0 x1 x5 x6 (wrap64 (x9 + 1)) true)) else (none)) else (none)) else (none)) else (concordanceref06_Diff.l1 k x0 x1 x5 x6 x7 x8)
end
def concordanceref06_Diff.f (k : Nat) (a0 : ByteArray) (a1 : ByteArray) : Option ((List (S53))) := if (a0.size : Int) = (a1.size : Int) then (concordanceref06_Diff.j0 k a0 a1 (decide ((a1.size : Int) > 65535))) else (concordanceref06_Diff.j0 k a0 a1 true)
theorem concordanceref06_Diff.mono_l : ∀ k, (∀ y0 y1 y2, LeO (concordanceref06_Diff.j0 k y0 y1 y2) (concordanceref06_Diff.j0 (k + 1) y0 y1 y2)) ∧ (∀ y0 y1 y2 y3, LeO (concordanceref06_Diff.l0 k y0 y1 y2 y3) (concordanceref06_Diff.l0 (k + 1) y0 y1 y2 y3)) ∧ (∀ y0 y1 y2 y3 y4 y5, LeO (concordanceref06_Diff.l1 k y0 y1 y2 y3 y4 y5) (concordanceref06_Diff.l1 (k + 1) y0 y1 y2 y3 y4 y5)) ∧ (∀ y0 y1 y2 y3 y4 y5 y6, LeO (concordanceref06_Diff.l2 k y0 y1 y2 y3 y4 y5 y6) (concordanceref06_Diff.l2 (k + 1) y0 y1 y2 y3 y4 y5 y6)) ∧ (∀ y0 y1 y2 y3 y4 y5 y6 y7, LeO (concordanceref06_Diff.j4 k y0 y1 y2 y3 y4 y5 y6 y7) (concordanceref06_Diff.j4 (k + 1) y0 y1 y2 y3 y4 y5 y6 y7))
  | 0 => ⟨fun _ _ _ r h => by simp [concordanceref06_Diff.j0] at h, fun _ _ _ _ r h => by simp [concordanceref06_Diff.l0] at h, fun _ _ _ _ _ _ r h => by simp [concordanceref06_Diff.l1] at h, fun _ _ _ _ _ _ _ r h => by simp [concordanceref06_Diff.l2] at h, fun _ _ _ _ _ _ _ _ r h => by simp [concordanceref06_Diff.j4] at h⟩
  | k + 1 => by
    obtain ⟨ih0, ih1, ih2, ih3, ih4⟩ := concordanceref06_Diff.mono_l k
    refine ⟨?_, ?_, ?_, ?_, ?_⟩
    · intro y0 y1 y2
      unfold concordanceref06_Diff.j0
      repeat' first
      | (with_reducible exact ih0 _ _ _)
      | (with_reducible exact ih1 _ _ _ _)
      | (with_reducible exact ih2 _ _ _ _ _ _)
      | (with_reducible exact ih3 _ _ _ _ _ _ _)
      | (with_reducible exact ih4 _ _ _ _ _ _ _ _)
      | (with_reducible exact LeO.refl _)
      | (with_reducible exact LeO.none _)
      | (with_reducible refine LeO.ite ?_ ?_)
      | (with_reducible refine LeO.bind ?_ (fun _ => ?_))
      | exact ih0 _ _ _
      | exact ih1 _ _ _ _
      | exact ih2 _ _ _ _ _ _
      | exact ih3 _ _ _ _ _ _ _
      | exact ih4 _ _ _ _ _ _ _ _
      | exact LeO.none _
      | refine LeO.ite ?_ ?_
      | refine LeO.bind ?_ (fun _ => ?_)
    · intro y0 y1 y2 y3
      unfold concordanceref06_Diff.l0
      repeat' first
      | (with_reducible exact ih0 _ _ _)
      | (with_reducible exact ih1 _ _ _ _)
      | (with_reducible exact ih2 _ _ _ _ _ _)
      | (with_reducible exact ih3 _ _ _ _ _ _ _)
      | (with_reducible exact ih4 _ _ _ _ _ _ _ _)
      | (with_reducible exact LeO.refl _)
      | (with_reducible exact LeO.none _)
      | (with_reducible refine LeO.ite ?_ ?_)
      | (with_reducible refine LeO.bind ?_ (fun _ => ?_))
      | exact ih0 _ _ _
      | exact ih1 _ _ _ _
      | exact ih2 _ _ _ _ _ _
      | exact ih3 _ _ _ _ _ _ _
      | exact ih4 _ _ _ _ _ _ _ _
      | exact LeO.none _
      | refine LeO.ite ?_ ?_
      | refine LeO.bind ?_ (fun _ => ?_)
    · intro y0 y1 y2 y3 y4 y5
      unfold concordanceref06_Diff.l1
      repeat' first
      | (with_reducible exact ih0 _ _ _)
      | (with_reducible exact ih1 _ _ _ _)
      | (with_reducible exact ih2 _ _ _ _ _ _)
      | (with_reducible exact ih3 _ _ _ _ _ _ _)
      | (with_reducible exact ih4 _ _ _ _ _ _ _ _)
      | (with_reducible exact LeO.refl _)
      | (with_reducible exact LeO.none _)
      | (with_reducible refine LeO.ite ?_ ?_)
      | (with_reducible refine LeO.bind ?_ (fun _ => ?_))
      | exact ih0 _ _ _
      | exact ih1 _ _ _ _
      | exact ih2 _ _ _ _ _ _
      | exact ih3 _ _ _ _ _ _ _
      | exact ih4 _ _ _ _ _ _ _ _
      | exact LeO.none _
      | refine LeO.ite ?_ ?_
      | refine LeO.bind ?_ (fun _ => ?_)
    · intro y0 y1 y2 y3 y4 y5 y6
      unfold concordanceref06_Diff.l2
      repeat' first
      | (with_reducible exact ih0 _ _ _)
      | (with_reducible exact ih1 _ _ _ _)
      | (with_reducible exact ih2 _ _ _ _ _ _)
      | (with_reducible exact ih3 _ _ _ _ _ _ _)
      | (with_reducible exact ih4 _ _ _ _ _ _ _ _)
      | (with_reducible exact LeO.refl _)
      | (with_reducible exact LeO.none _)
      | (with_reducible refine LeO.ite ?_ ?_)
      | (with_reducible refine LeO.bind ?_ (fun _ => ?_))
      | exact ih0 _ _ _
      | exact ih1 _ _ _ _
      | exact ih2 _ _ _ _ _ _
      | exact ih3 _ _ _ _ _ _ _
      | exact ih4 _ _ _ _ _ _ _ _
      | exact LeO.none _
      | refine LeO.ite ?_ ?_
      | refine LeO.bind ?_ (fun _ => ?_)
    · intro y0 y1 y2 y3 y4 y5 y6 y7
      unfold concordanceref06_Diff.j4
      repeat' first
      | (with_reducible exact ih0 _ _ _)
      | (with_reducible exact ih1 _ _ _ _)
      | (with_reducible exact ih2 _ _ _ _ _ _)
      | (with_reducible exact ih3 _ _ _ _ _ _ _)
      | (with_reducible exact ih4 _ _ _ _ _ _ _ _)
      | (with_reducible exact LeO.refl _)
      | (with_reducible exact LeO.none _)
      | (with_reducible refine LeO.ite ?_ ?_)
      | (with_reducible refine LeO.bind ?_ (fun _ => ?_))
      | exact ih0 _ _ _
      | exact ih1 _ _ _ _
      | exact ih2 _ _ _ _ _ _
      | exact ih3 _ _ _ _ _ _ _
      | exact ih4 _ _ _ _ _ _ _ _
      | exact LeO.none _
      | refine LeO.ite ?_ ?_
      | refine LeO.bind ?_ (fun _ => ?_)
theorem concordanceref06_Diff.mono : ∀ a0 a1 k, LeO (concordanceref06_Diff.f k a0 a1) (concordanceref06_Diff.f (k + 1) a0 a1) := by
  intro a0 a1 k
  obtain ⟨ih0, ih1, ih2, ih3, ih4⟩ := concordanceref06_Diff.mono_l k
  unfold concordanceref06_Diff.f
  repeat' first
      | (with_reducible exact ih0 _ _ _)
      | (with_reducible exact ih1 _ _ _ _)
      | (with_reducible exact ih2 _ _ _ _ _ _)
      | (with_reducible exact ih3 _ _ _ _ _ _ _)
      | (with_reducible exact ih4 _ _ _ _ _ _ _ _)
      | (with_reducible exact LeO.refl _)
      | (with_reducible exact LeO.none _)
      | (with_reducible refine LeO.ite ?_ ?_)
      | (with_reducible refine LeO.bind ?_ (fun _ => ?_))
      | exact ih0 _ _ _
      | exact ih1 _ _ _ _
      | exact ih2 _ _ _ _ _ _
      | exact ih3 _ _ _ _ _ _ _
      | exact ih4 _ _ _ _ _ _ _ _
      | exact LeO.none _
      | refine LeO.ite ?_ ?_
      | refine LeO.bind ?_ (fun _ => ?_)
set_option maxHeartbeats 8000000 in
set_option maxRecDepth 100000 in
theorem concordanceref06_Diff.calls (k : Nat) (a0 : ByteArray) (a1 : ByteArray) (r : List (S53)) (w : World) (h : concordanceref06_Diff.f k a0 a1 = some r) :
    Calls Try.prog 16 #[.string a0, .string a1] w fun e w' => ∃ v0_ : Value, e = .returned (v0_) ∧ Kd.R k53 53 w' w.heap.size (fun _ => True) v0_ r ∧ Below w.heap.size w w' := by
  have hu53 := Try.underlying53
  have HB := Aside0.mk (Below.refl w.heap.size w)
  have H : (if (a0.size : Int) = (a1.size : Int) then (concordanceref06_Diff.j0 k a0 a1 (decide ((a1.size : Int) > 65535))) else (concordanceref06_Diff.j0 k a0 a1 true)) = some r := h
  clear h
  have HC3 := Aside0.mk H
  clear H
  go_enter Try.func16, Try.ntmps16
  go_upto_region 1 with (fail)
  repeat (go_quiet (fail); go_upto_region 1 with (fail))
  go_cut [19] (fun v19 wc => ∃ (kq : Nat) (x19_2 : Bool), v19 = .bool x19_2 ∧ Aside0 (concordanceref06_Diff.j0 kq a0 a1 x19_2 = some r) ∧ Aside0 (kq ≤ k) ∧ Aside0 (Below w.heap.size w wc))
  case first =>
    have H := HC3.out
    clear HC3
    by_cases c4 : (a0.size : Int) = (a1.size : Int)
    · rw [if_pos c4] at H
      have c4b0 : ((a0.size : Int) == (a1.size : Int)) = true := beq_iff_eq.mpr c4
      have c4b1 : ((a0.size : Int) != (a1.size : Int)) = false := bne_eq_false_iff_eq.mpr c4
      have c4b2 : (a0.size == a1.size) = true := by first | simpa using c4 | (simp at c4 ⊢; omega)
      clear c4
      (first | rw [c4b0] | (simp only [i64_w, i32_w]; rw [c4b0]) | skip)
      have H' := Aside0.mk H
      clear H
      go_wp2
      repeat (go_quiet (fail); try go_wp2)
      go_meet
      case rel => exact ⟨_, (decide ((a1.size : Int) > 65535)), (by first | rfl | (simp; done) | (simp [*]; done)), H', ⟨by first | omega | exact Nat.le_refl _⟩, ⟨by repeat (first | (with_reducible first | exact HB.out | apply below_alloc | apply pw_below_drewN | apply below_drew1) | exact HB.out)⟩⟩
    · rw [if_neg c4] at H
      have c4b0 : ((a0.size : Int) == (a1.size : Int)) = false := beq_eq_false_iff_ne.mpr c4
      have c4b1 : ((a0.size : Int) != (a1.size : Int)) = true := bne_iff_ne.mpr c4
      have c4b2 : (a0.size == a1.size) = false := by first | simpa using c4 | (simp at c4 ⊢; omega)
      (first | rw [c4b0] | (simp only [i64_w, i32_w]; rw [c4b0]) | skip)
      have H' := Aside0.mk H
      clear H
      go_wp2
      repeat (go_quiet (fail); try go_wp2)
      go_meet
      case rel => exact ⟨_, (true), (by first | rfl | (simp; done) | (simp [*]; done)), H', ⟨by first | omega | exact Nat.le_refl _⟩, ⟨by repeat (first | (with_reducible first | exact HB.out | apply below_alloc | apply pw_below_drewN | apply below_drew1) | exact HB.out)⟩⟩
  case rest =>
    clear HC3
    try clear c1
    try clear p2
    try clear c4
    try clear c4b0
    try clear c4b1
    try clear c4b2
    obtain ⟨kq, x19_2, rfl, HA, HJ2, HB⟩ := hcut
    cases kq with
    | zero => exact absurd HA.out (by simp [concordanceref06_Diff.j0])
    | succ kj2 =>
      have H := HA.out
      clear HA
      simp only [concordanceref06_Diff.j0] at H
      by_cases c5 : x19_2 = true
      · subst c5
        have H1 : (some ([] : List (S53))) = some r := by rw [if_pos rfl] at H; exact H
        clear H
        have H := H1
        clear H1
        obtain rfl := Option.some.inj H
        go_wp2
        repeat (go_quiet (fail); try go_wp2)
        go_ret
        exact ⟨_, by first | rfl | (simp [errW_none, errW_some] <;> rfl) | (simp [*, errW_none, errW_some] <;> rfl), by first | exact Kd.R_nil _ _ _ _ _ | exact Kd.N_nil _ _ _ _ _ | exact Kd.V_nil _ _ _ _ _ | exact Kd.Q_nil _ _ _ _ _ | exact Kd.S_nil _ _ _ _ _, by repeat (first | (with_reducible first | exact HB.out | apply below_alloc | apply pw_below_drewN | apply below_drew1) | exact HB.out)⟩
      · replace c5 := Bool.eq_false_iff.mpr c5
        subst c5
        have H1 : (concordanceref06_Diff.l0 kj2 a0 a1 ([] : List (S53)) 0) = some r := by rw [if_neg (show ¬ (false = true) by decide)] at H; exact H
        clear H
        have H := H1
        clear H1
        have H' := Aside0.mk H
        clear H
        go_wp2
        repeat (go_quiet (fail); try go_wp2)
        go_loopg [5, 6] kj2 (fun kq v5 v6 w' => ∃ (x5_2 : List (S53)) (x6_2 : Int), v6 = .int .i64 x6_2 ∧ Aside0 (concordanceref06_Diff.l0 kq a0 a1 x5_2 x6_2 = some r) ∧ Aside0 (kq ≤ kj2) ∧ Aside0 (Kd.R k53 53 w' w.heap.size (fun _ => True) v5 x5_2) ∧ Aside0 (Below w.heap.size w w'))
        case atStart => exact ⟨(([] : List (S53))), (0), (by first | rfl | (simp; done) | (simp [*]; done)), H', ⟨Nat.le_refl _⟩, ⟨by first | exact Kd.R_nil _ _ _ _ _ | exact Kd.N_nil _ _ _ _ _ | exact Kd.V_nil _ _ _ _ _ | exact Kd.Q_nil _ _ _ _ _ | exact Kd.S_nil _ _ _ _ _⟩, ⟨by repeat (first | (with_reducible first | exact HB.out | apply below_alloc | apply pw_below_drewN | apply below_drew1) | exact HB.out)⟩⟩
        case round =>
          clear H'
          try clear c1
          try clear p2
          try clear c4
          try clear c4b0
          try clear c4b1
          try clear c4b2
          try clear c5
          try clear p2
          obtain ⟨x5_2, x6_2, rfl, HA, HK2, HO_5, HB⟩ := hrel
          cases gk with
          | zero => exact absurd HA.out (by simp [concordanceref06_Diff.l0])
          | succ k2 =>
            have H := HA.out
            clear HA
            simp only [concordanceref06_Diff.l0] at H
            by_cases c6 : x6_2 < (a1.size : Int)
            · rw [if_pos c6] at H
              have c6b0 : decide (x6_2 < (a1.size : Int)) = true := decide_eq_true c6
              clear c6
              by_cases c7 : 0 ≤ x6_2
              · rw [if_pos c7] at H
                have c7b0 : decide (0 ≤ x6_2) = true := decide_eq_true c7
                clear c7
                by_cases c8 : x6_2 < (a0.size : Int)
                · rw [if_pos c8] at H
                  have c8b0 : decide (x6_2 < (a0.size : Int)) = true := decide_eq_true c8
                  clear c8
                  by_cases c11 : (bt a0 x6_2) = (bt a1 x6_2)
                  · rw [if_pos c11] at H
                    have c11b0 : ((bt a0 x6_2) == (bt a1 x6_2)) = true := beq_iff_eq.mpr c11
                    have c11b1 : ((bt a0 x6_2) != (bt a1 x6_2)) = false := bne_eq_false_iff_eq.mpr c11
                    clear c11
                    have H' := Aside0.mk H
                    clear H
                    have p9 : 0 ≤ (x6_2 : Int) := of_decide_eq_true (by first | (with_reducible assumption) | assumption)
                    have q9 : x6_2 < (a0.size : Int) := of_decide_eq_true (by first | (with_reducible assumption) | assumption)
                    have hx9 := bt_at a0 x6_2
                    replace p9 := eq_true p9
                    replace q9 := eq_true q9
                    have p10 : 0 ≤ (x6_2 : Int) := of_decide_eq_true (by first | (with_reducible assumption) | assumption)
                    have q10 : x6_2 < (a1.size : Int) := of_decide_eq_true (by first | (with_reducible assumption) | assumption)
                    have hx10 := bt_at a1 x6_2
                    replace p10 := eq_true p10
                    replace q10 := eq_true q10
                    go_wp2
                    repeat (go_quiet (fail); try go_wp2)
                    go_roundg k2
                    case measure => have := HJ2.out; have := HK2.out; omega
                    case rel => exact ⟨(x5_2), (wrap64 (x6_2 + 1)), (by first | rfl | (simp; done) | (simp [*]; done)), H', ⟨by have := HJ2.out; have := HK2.out; omega⟩, ⟨by (with_reducible repeat (first | apply Kd.R_alloc | apply Kd.R_drewN | apply Kd.R_drew)); exact HO_5.out⟩, ⟨by repeat (first | (with_reducible first | exact HB.out | apply below_alloc | apply pw_below_drewN | apply below_drew1) | exact HB.out)⟩⟩
                  · rw [if_neg c11] at H
                    have c11b0 : ((bt a0 x6_2) == (bt a1 x6_2)) = false := beq_eq_false_iff_ne.mpr c11
                    have c11b1 : ((bt a0 x6_2) != (bt a1 x6_2)) = true := bne_iff_ne.mpr c11
                    have H' := Aside0.mk H
                    clear H
                    have p9 : 0 ≤ (x6_2 : Int) := of_decide_eq_true (by first | (with_reducible assumption) | assumption)
                    have q9 : x6_2 < (a0.size : Int) := of_decide_eq_true (by first | (with_reducible assumption) | assumption)
                    have hx9 := bt_at a0 x6_2
                    replace p9 := eq_true p9
                    replace q9 := eq_true q9
                    have p10 : 0 ≤ (x6_2 : Int) := of_decide_eq_true (by first | (with_reducible assumption) | assumption)
                    have q10 : x6_2 < (a1.size : Int) := of_decide_eq_true (by first | (with_reducible assumption) | assumption)
                    have hx10 := bt_at a1 x6_2
                    replace p10 := eq_true p10
                    replace q10 := eq_true q10
                    go_wp2
                    repeat (go_quiet (fail); try go_wp2)
                    go_loopg [7, 8] k2 (fun kq v7 v8 w' => ∃ (x7_3 : Int) (x8_3 : Bool), v7 = .int .i64 x7_3 ∧ v8 = .bool x8_3 ∧ Aside0 (concordanceref06_Diff.l1 kq a0 a1 x5_2 x6_2 x7_3 x8_3 = some r) ∧ Aside0 (kq ≤ k2) ∧ Aside0 (Kd.R k53 53 w' w.heap.size (fun _ => True) u5 x5_2) ∧ Aside0 (Below w.heap.size w w'))
                    case atStart => exact ⟨(wrap64 (x6_2 + 1)), (true), (by first | rfl | (simp; done) | (simp [*]; done)), (by first | rfl | (simp; done) | (simp [*]; done)), H', ⟨Nat.le_refl _⟩, ⟨by (with_reducible repeat (first | apply Kd.R_alloc | apply Kd.R_drewN | apply Kd.R_drew)); exact HO_5.out⟩, ⟨by repeat (first | (with_reducible first | exact HB.out | apply below_alloc | apply pw_below_drewN | apply below_drew1) | exact HB.out)⟩⟩
                    case round =>
                      clear H'
                      try clear c1
                      try clear p1
                      try clear q1
                      try clear hx1
                      try clear p2
                      try clear c4
                      try clear c4b0
                      try clear c4b1
                      try clear c4b2
                      try clear c5
                      try clear c6
                      try clear c6b0
                      try clear p6
                      try clear c7
                      try clear c7b0
                      try clear c8
                      try clear c8b0
                      try clear p9
                      try clear q9
                      try clear hx9
                      try clear p10
                      try clear q10
                      try clear hx10
                      try clear c11
                      try clear c11b0
                      try clear c11b1
                      try clear p10
                      try clear p2
                      try clear p9
                      try clear q10
                      try clear q9
                      obtain ⟨x7_3, x8_3, rfl, rfl, HA, HK3, HO_5, HB⟩ := hrel
                      cases gk with
                      | zero => exact absurd HA.out (by simp [concordanceref06_Diff.l1])
                      | succ k3 =>
                        have H := HA.out
                        clear HA
                        simp only [concordanceref06_Diff.l1] at H
                        by_cases c12 : x8_3 = true
                        · subst c12
                          have H1 : (concordanceref06_Diff.l2 k3 a0 a1 x5_2 x6_2 x7_3 false x7_3) = some r := by rw [if_pos rfl] at H; exact H
                          clear H
                          have H := H1
                          clear H1
                          have H' := Aside0.mk H
                          clear H
                          go_wp2
                          repeat (go_quiet (fail); try go_wp2)
                          go_loopg [7, 8, 9] k3 (fun kq v7 v8 v9 w' => ∃ (x7_4 : Int) (x8_4 : Bool) (x9_4 : Int), v7 = .int .i64 x7_4 ∧ v8 = .bool x8_4 ∧ v9 = .int .i64 x9_4 ∧ Aside0 (concordanceref06_Diff.l2 kq a0 a1 x5_2 x6_2 x7_4 x8_4 x9_4 = some r) ∧ Aside0 (kq ≤ k3) ∧ Aside0 (Kd.R k53 53 w' w.heap.size (fun _ => True) u5 x5_2) ∧ Aside0 (Below w.heap.size w w'))
                          case atStart => exact ⟨(x7_3), (false), (x7_3), (by first | rfl | (simp; done) | (simp [*]; done)), (by first | rfl | (simp; done) | (simp [*]; done)), (by first | rfl | (simp; done) | (simp [*]; done)), H', ⟨Nat.le_refl _⟩, ⟨by (with_reducible repeat (first | apply Kd.R_alloc | apply Kd.R_drewN | apply Kd.R_drew)); exact HO_5.out⟩, ⟨by repeat (first | (with_reducible first | exact HB.out | apply below_alloc | apply pw_below_drewN | apply below_drew1) | exact HB.out)⟩⟩
                          case round =>
                            clear H'
                            try clear c1
                            try clear p1
                            try clear q1
                            try clear hx1
                            try clear p2
                            try clear c4
                            try clear c4b0
                            try clear c4b1
                            try clear c4b2
                            try clear c5
                            try clear c6
                            try clear c6b0
                            try clear p6
                            try clear c7
                            try clear c7b0
                            try clear c8
                            try clear c8b0
                            try clear p9
                            try clear q9
                            try clear hx9
                            try clear p10
                            try clear q10
                            try clear hx10
                            try clear c11
                            try clear c11b0
                            try clear c11b1
                            try clear c12
                            try clear p1
                            try clear p10
                            try clear p2
                            try clear p6
                            try clear p9
                            try clear q1
                            try clear q10
                            try clear q9
                            obtain ⟨x7_4, x8_4, x9_4, rfl, rfl, rfl, HA, HK4, HO_5, HB⟩ := hrel
                            cases gk with
                            | zero => exact absurd HA.out (by simp [concordanceref06_Diff.l2])
                            | succ k4 =>
                              have H := HA.out
                              clear HA
                              simp only [concordanceref06_Diff.l2] at H
                              have HC13 := Aside0.mk H
                              clear H
                              go_upto_region 13 with (fail)
                              repeat (go_quiet (fail); go_upto_region 13 with (fail))
                              go_cut [46] (fun v46 wc => ∃ (kq : Nat) (x46_12 : Bool), v46 = .bool x46_12 ∧ Aside0 (concordanceref06_Diff.j4 kq a0 a1 x5_2 x6_2 x7_4 x8_4 x9_4 x46_12 = some r) ∧ Aside0 (kq ≤ k4) ∧ Aside0 (Kd.R k53 53 wc w.heap.size (fun _ => True) u5 x5_2) ∧ Aside0 (Below w.heap.size w wc))
                              case first =>
                                have H := HC13.out
                                clear HC13
                                by_cases c14 : x9_4 < (wrap64 (x7_4 + 4))
                                · rw [if_pos c14] at H
                                  have c14b0 : decide (x9_4 < (wrap64 (x7_4 + 4))) = true := decide_eq_true c14
                                  clear c14
                                  (first | rw [c14b0] | (simp only [i64_w, i32_w]; rw [c14b0]) | skip)
                                  have H' := Aside0.mk H
                                  clear H
                                  go_wp2
                                  repeat (go_quiet (fail); try go_wp2)
                                  go_meet
                                  case rel => exact ⟨_, (decide (x9_4 < (a1.size : Int))), (by first | rfl | (simp; done) | (simp [*]; done)), H', ⟨by have := HJ2.out; have := HK2.out; have := HK3.out; have := HK4.out; first | omega | exact Nat.le_refl _⟩, ⟨by (with_reducible repeat (first | apply Kd.R_alloc | apply Kd.R_drewN | apply Kd.R_drew)); exact HO_5.out⟩, ⟨by repeat (first | (with_reducible first | exact HB.out | apply below_alloc | apply pw_below_drewN | apply below_drew1) | exact HB.out)⟩⟩
                                · rw [if_neg c14] at H
                                  have c14b0 : decide (x9_4 < (wrap64 (x7_4 + 4))) = false := decide_eq_false c14
                                  clear c14
                                  (first | rw [c14b0] | (simp only [i64_w, i32_w]; rw [c14b0]) | skip)
                                  have H' := Aside0.mk H
                                  clear H
                                  go_wp2
                                  repeat (go_quiet (fail); try go_wp2)
                                  go_meet
                                  case rel => exact ⟨_, (false), (by first | rfl | (simp; done) | (simp [*]; done)), H', ⟨by have := HJ2.out; have := HK2.out; have := HK3.out; have := HK4.out; first | omega | exact Nat.le_refl _⟩, ⟨by (with_reducible repeat (first | apply Kd.R_alloc | apply Kd.R_drewN | apply Kd.R_drew)); exact HO_5.out⟩, ⟨by repeat (first | (with_reducible first | exact HB.out | apply below_alloc | apply pw_below_drewN | apply below_drew1) | exact HB.out)⟩⟩
                              case rest =>
                                clear HC13
                                try clear c1
                                try clear p1
                                try clear q1
                                try clear hx1
                                try clear p2
                                try clear c4
                                try clear c4b0
                                try clear c4b1
                                try clear c4b2
                                try clear c5
                                try clear c6
                                try clear c6b0
                                try clear p6
                                try clear c7
                                try clear c7b0
                                try clear c8
                                try clear c8b0
                                try clear p9
                                try clear q9
                                try clear hx9
                                try clear p10
                                try clear q10
                                try clear hx10
                                try clear c11
                                try clear c11b0
                                try clear c11b1
                                try clear c12
                                try clear c14
                                try clear c14b0
                                try clear p1
                                try clear p10
                                try clear p2
                                try clear p6
                                try clear p9
                                try clear q1
                                try clear q10
                                try clear q9
                                obtain ⟨kq, x46_12, rfl, HA, HJ12, HO_5, HB⟩ := hcut
                                cases kq with
                                | zero => exact absurd HA.out (by simp [concordanceref06_Diff.j4])
                                | succ kj12 =>
                                  have H := HA.out
                                  clear HA
                                  simp only [concordanceref06_Diff.j4] at H
                                  by_cases c15 : x46_12 = true
                                  · subst c15
                                    have H1 : (if 0 ≤ x9_4 then (if x9_4 < (a0.size : Int) then (if x9_4 < (a1.size : Int) then (if (bt a0 x9_4) = (bt a1 x9_4) then (concordanceref06_Diff.l2 kj12 a0 a1 x5_2 x6_2 x7_4 x8_4 (wrap64 (x9_4 + 1))) else (concordanceref06_Diff.l1 kj12 a0 a1 x5_2 x6_2 (wrap64 (x9_4 + 1)) true)) else (none)) else (none)) else (none)) = some r := by rw [if_pos rfl] at H; exact H
                                    clear H
                                    have H := H1
                                    clear H1
                                    by_cases c16 : 0 ≤ x9_4
                                    · rw [if_pos c16] at H
                                      have c16b0 : decide (0 ≤ x9_4) = true := decide_eq_true c16
                                      clear c16
                                      by_cases c17 : x9_4 < (a0.size : Int)
                                      · rw [if_pos c17] at H
                                        have c17b0 : decide (x9_4 < (a0.size : Int)) = true := decide_eq_true c17
                                        clear c17
                                        by_cases c19 : x9_4 < (a1.size : Int)
                                        · rw [if_pos c19] at H
                                          have c19b0 : decide (x9_4 < (a1.size : Int)) = true := decide_eq_true c19
                                          clear c19
                                          by_cases c21 : (bt a0 x9_4) = (bt a1 x9_4)
                                          · rw [if_pos c21] at H
                                            have c21b0 : ((bt a0 x9_4) == (bt a1 x9_4)) = true := beq_iff_eq.mpr c21
                                            have c21b1 : ((bt a0 x9_4) != (bt a1 x9_4)) = false := bne_eq_false_iff_eq.mpr c21
                                            clear c21
                                            have H' := Aside0.mk H
                                            clear H
                                            have p18 : 0 ≤ (x9_4 : Int) := of_decide_eq_true (by first | (with_reducible assumption) | assumption)
                                            have q18 : x9_4 < (a0.size : Int) := of_decide_eq_true (by first | (with_reducible assumption) | assumption)
                                            have hx18 := bt_at a0 x9_4
                                            replace p18 := eq_true p18
                                            replace q18 := eq_true q18
                                            have p20 : 0 ≤ (x9_4 : Int) := of_decide_eq_true (by first | (with_reducible assumption) | assumption)
                                            have q20 : x9_4 < (a1.size : Int) := of_decide_eq_true (by first | (with_reducible assumption) | assumption)
                                            have hx20 := bt_at a1 x9_4
                                            replace p20 := eq_true p20
                                            replace q20 := eq_true q20
                                            go_wp2
                                            repeat (go_quiet (fail); try go_wp2)
                                            go_roundg kj12
                                            case measure => have := HJ2.out; have := HK2.out; have := HK3.out; have := HK4.out; have := HJ12.out; omega
                                            case rel => exact ⟨(x7_4), (x8_4), (wrap64 (x9_4 + 1)), (by first | rfl | (simp; done) | (simp [*]; done)), (by first | rfl | (simp; done) | (simp [*]; done)), (by first | rfl | (simp; done) | (simp [*]; done)), H', ⟨by have := HJ2.out; have := HK2.out; have := HK3.out; have := HK4.out; have := HJ12.out; omega⟩, ⟨by (with_reducible repeat (first | apply Kd.R_alloc | apply Kd.R_drewN | apply Kd.R_drew)); exact HO_5.out⟩, ⟨by repeat (first | (with_reducible first | exact HB.out | apply below_alloc | apply pw_below_drewN | apply below_drew1) | exact HB.out)⟩⟩
                                          · rw [if_neg c21] at H
                                            have c21b0 : ((bt a0 x9_4) == (bt a1 x9_4)) = false := beq_eq_false_iff_ne.mpr c21
                                            have c21b1 : ((bt a0 x9_4) != (bt a1 x9_4)) = true := bne_iff_ne.mpr c21
                                            have H' := Aside0.mk H
                                            clear H
                                            have p18 : 0 ≤ (x9_4 : Int) := of_decide_eq_true (by first | (with_reducible assumption) | assumption)
                                            have q18 : x9_4 < (a0.size : Int) := of_decide_eq_true (by first | (with_reducible assumption) | assumption)
                                            have hx18 := bt_at a0 x9_4
                                            replace p18 := eq_true p18
                                            replace q18 := eq_true q18
                                            have p20 : 0 ≤ (x9_4 : Int) := of_decide_eq_true (by first | (with_reducible assumption) | assumption)
                                            have q20 : x9_4 < (a1.size : Int) := of_decide_eq_true (by first | (with_reducible assumption) | assumption)
                                            have hx20 := bt_at a1 x9_4
                                            replace p20 := eq_true p20
                                            replace q20 := eq_true q20
                                            go_wp2
                                            repeat (go_quiet (fail); try go_wp2)
                                            go_roundg kj12
                                            case measure => have := HJ2.out; have := HK2.out; have := HK3.out; have := HK4.out; have := HJ12.out; omega
                                            case rel => exact ⟨(wrap64 (x9_4 + 1)), (true), (by first | rfl | (simp; done) | (simp [*]; done)), (by first | rfl | (simp; done) | (simp [*]; done)), H', ⟨by have := HJ2.out; have := HK2.out; have := HK3.out; have := HK4.out; have := HJ12.out; omega⟩, ⟨by (with_reducible repeat (first | apply Kd.R_alloc | apply Kd.R_drewN | apply Kd.R_drew)); exact HO_5.out⟩, ⟨by repeat (first | (with_reducible first | exact HB.out | apply below_alloc | apply pw_below_drewN | apply below_drew1) | exact HB.out)⟩⟩
                                        · rw [if_neg c19] at H
                                          exact absurd H (by simp)
                                      · rw [if_neg c17] at H
                                        exact absurd H (by simp)
                                    · rw [if_neg c16] at H
                                      exact absurd H (by simp)
                                  · replace c15 := Bool.eq_false_iff.mpr c15
                                    subst c15
                                    have H1 : (concordanceref06_Diff.l1 kj12 a0 a1 x5_2 x6_2 x7_4 x8_4) = some r := by rw [if_neg (show ¬ (false = true) by decide)] at H; exact H
                                    clear H
                                    have H := H1
                                    clear H1
                                    have H' := Aside0.mk H
                                    clear H
                                    go_wp2
                                    repeat (go_quiet (fail); try go_wp2)
                                    go_roundg kj12
                                    case measure => have := HJ2.out; have := HK2.out; have := HK3.out; have := HK4.out; have := HJ12.out; omega
                                    case rel => exact ⟨(x7_4), (x8_4), (by first | rfl | (simp; done) | (simp [*]; done)), (by first | rfl | (simp; done) | (simp [*]; done)), H', ⟨by have := HJ2.out; have := HK2.out; have := HK3.out; have := HK4.out; have := HJ12.out; omega⟩, ⟨by (with_reducible repeat (first | apply Kd.R_alloc | apply Kd.R_drewN | apply Kd.R_drew)); exact HO_5.out⟩, ⟨by repeat (first | (with_reducible first | exact HB.out | apply below_alloc | apply pw_below_drewN | apply below_drew1) | exact HB.out)⟩⟩
                        · replace c12 := Bool.eq_false_iff.mpr c12
                          subst c12
                          have H1 : (if 0 ≤ x6_2 then (if x6_2 ≤ x7_3 then (if x7_3 ≤ (a1.size : Int) then (if x5_2.length < 5864062014805 then (concordanceref06_Diff.l0 k3 a0 a1 (x5_2 ++ [(⟨x6_2, a1.extract (x6_2 : Int).toNat (x7_3 : Int).toNat⟩ : S53)]) x7_3) else (none)) else (none)) else (none)) else (none)) = some r := by rw [if_neg (show ¬ (false = true) by decide)] at H; exact H
                          clear H
                          have H := H1
                          clear H1
                          by_cases c22 : 0 ≤ x6_2
                          · rw [if_pos c22] at H
                            have c22b0 := eq_true c22
                            have c22b1 : decide (0 ≤ x6_2) = true := decide_eq_true c22
                            clear c22
                            by_cases c23 : x6_2 ≤ x7_3
                            · rw [if_pos c23] at H
                              have c23b0 := eq_true c23
                              have c23b1 : decide (x6_2 ≤ x7_3) = true := decide_eq_true c23
                              clear c23
                              by_cases c24 : x7_3 ≤ (a1.size : Int)
                              · rw [if_pos c24] at H
                                have c24b0 := eq_true c24
                                have c24b1 : decide (x7_3 ≤ (a1.size : Int)) = true := decide_eq_true c24
                                clear c24
                                by_cases c25 : x5_2.length < 5864062014805
                                · rw [if_pos c25] at H
                                  have LMc25 := Aside0.mk c25
                                  clear c25
                                  obtain ⟨y191, hy191⟩ : ∃ y_ : List (S53), y_ = (x5_2 ++ [(⟨x6_2, a1.extract (x6_2 : Int).toNat (x7_3 : Int).toNat⟩ : S53)]) := ⟨_, rfl⟩
                                  replace H : (concordanceref06_Diff.l0 k3 a0 a1 y191 x7_3) = some r := by first | (rw [hy191]; with_reducible exact H) | (have H2_ := (Option.bind_some _ _).symm.trans H; rw [hy191]; with_reducible exact H2_) | (have H2_ := (Option.bind_some _ _).symm.trans H; with_reducible exact H2_) | with_reducible exact H | (rw [hy191]; exact H) | exact H
                                  have Ny191 := Aside0.mk hy191
                                  clear hy191
                                  have H' := Aside0.mk H
                                  clear H
                                  go_wp2_with (first | ((with_reducible refine gate_builtin (b := .append) (xs := #[.tmp 58, .tmp 65]) rfl ?_); (try (refine gate_guard (by rfl) ?_; dsimp only)); at_builtin; refine Kd.R_append k53 (w0 := w) w.heap.size rfl (.tmp 58) (.tmp 65) 34 53 (.agg #[(.int .i64 0), (.string ⟨#[]⟩)]) 24 rfl Try.underlying34 info53 rfl (by decide) (by omega) u5 x5_2 (⟨x6_2, a1.extract (x6_2 : Int).toNat (x7_3 : Int).toNat⟩ : S53) [.int .i64 x6_2, .string (a1.extract (x6_2 : Int).toNat (x7_3 : Int).toNat)] (fun _ => True) (fun _ => False) rfl rfl ?aP (fun _ hk => hk.elim) ?aF ?aO ?aB ?aS ?aL ?_; (case aP => exact k53_mkM _ _ _ (⟨x6_2, a1.extract (x6_2 : Int).toNat (x7_3 : Int).toNat⟩ : S53)); (case aB => exact (by repeat (first | (with_reducible first | exact HB.out | apply below_alloc | apply pw_below_drewN | apply below_drew1) | exact HB.out))); (case aF => exact (fun _ _ => trivial)); (case aO => exact (by (with_reducible repeat (first | apply Kd.R_alloc | apply Kd.R_drewN | apply Kd.R_drew)); exact HO_5.out)); (case aS => exact (below_size (by repeat (first | (with_reducible first | exact HB.out | apply below_alloc | apply pw_below_drewN | apply below_drew1) | exact HB.out)))); (case aL => have := LMc25.out; omega); intro v192 w26 ho hb hg hat; rw [← Ny191.out] at ho; have n0_ := Aside0.mk (hb); have n1_ := Aside0.mk (ho); clear HB; clear HO_5; have HB := n0_; have HO193 := n1_; clear n0_ n1_; clear ho hb hg hat))
                                  repeat (go_quiet (first | ((with_reducible refine gate_builtin (b := .append) (xs := #[.tmp 58, .tmp 65]) rfl ?_); (try (refine gate_guard (by rfl) ?_; dsimp only)); at_builtin; refine Kd.R_append k53 (w0 := w) w.heap.size rfl (.tmp 58) (.tmp 65) 34 53 (.agg #[(.int .i64 0), (.string ⟨#[]⟩)]) 24 rfl Try.underlying34 info53 rfl (by decide) (by omega) u5 x5_2 (⟨x6_2, a1.extract (x6_2 : Int).toNat (x7_3 : Int).toNat⟩ : S53) [.int .i64 x6_2, .string (a1.extract (x6_2 : Int).toNat (x7_3 : Int).toNat)] (fun _ => True) (fun _ => False) rfl rfl ?aP (fun _ hk => hk.elim) ?aF ?aO ?aB ?aS ?aL ?_; (case aP => exact k53_mkM _ _ _ (⟨x6_2, a1.extract (x6_2 : Int).toNat (x7_3 : Int).toNat⟩ : S53)); (case aB => exact (by repeat (first | (with_reducible first | exact HB.out | apply below_alloc | apply pw_below_drewN | apply below_drew1) | exact HB.out))); (case aF => exact (fun _ _ => trivial)); (case aO => exact (by (with_reducible repeat (first | apply Kd.R_alloc | apply Kd.R_drewN | apply Kd.R_drew)); exact HO_5.out)); (case aS => exact (below_size (by repeat (first | (with_reducible first | exact HB.out | apply below_alloc | apply pw_below_drewN | apply below_drew1) | exact HB.out)))); (case aL => have := LMc25.out; omega); intro v192 w26 ho hb hg hat; rw [← Ny191.out] at ho; have n0_ := Aside0.mk (hb); have n1_ := Aside0.mk (ho); clear HB; clear HO_5; have HB := n0_; have HO193 := n1_; clear n0_ n1_; clear ho hb hg hat)); try go_wp2_with (first | ((with_reducible refine gate_builtin (b := .append) (xs := #[.tmp 58, .tmp 65]) rfl ?_); (try (refine gate_guard (by rfl) ?_; dsimp only)); at_builtin; refine Kd.R_append k53 (w0 := w) w.heap.size rfl (.tmp 58) (.tmp 65) 34 53 (.agg #[(.int .i64 0), (.string ⟨#[]⟩)]) 24 rfl Try.underlying34 info53 rfl (by decide) (by omega) u5 x5_2 (⟨x6_2, a1.extract (x6_2 : Int).toNat (x7_3 : Int).toNat⟩ : S53) [.int .i64 x6_2, .string (a1.extract (x6_2 : Int).toNat (x7_3 : Int).toNat)] (fun _ => True) (fun _ => False) rfl rfl ?aP (fun _ hk => hk.elim) ?aF ?aO ?aB ?aS ?aL ?_; (case aP => exact k53_mkM _ _ _ (⟨x6_2, a1.extract (x6_2 : Int).toNat (x7_3 : Int).toNat⟩ : S53)); (case aB => exact (by repeat (first | (with_reducible first | exact HB.out | apply below_alloc | apply pw_below_drewN | apply below_drew1) | exact HB.out))); (case aF => exact (fun _ _ => trivial)); (case aO => exact (by (with_reducible repeat (first | apply Kd.R_alloc | apply Kd.R_drewN | apply Kd.R_drew)); exact HO_5.out)); (case aS => exact (below_size (by repeat (first | (with_reducible first | exact HB.out | apply below_alloc | apply pw_below_drewN | apply below_drew1) | exact HB.out)))); (case aL => have := LMc25.out; omega); intro v192 w26 ho hb hg hat; rw [← Ny191.out] at ho; have n0_ := Aside0.mk (hb); have n1_ := Aside0.mk (ho); clear HB; clear HO_5; have HB := n0_; have HO193 := n1_; clear n0_ n1_; clear ho hb hg hat)))
                                  go_roundg k3
                                  case measure => have := HJ2.out; have := HK2.out; have := HK3.out; omega
                                  case rel => exact ⟨(y191), (x7_3), (by first | rfl | (simp; done) | (simp [*]; done)), H', ⟨by have := HJ2.out; have := HK2.out; have := HK3.out; omega⟩, ⟨by (with_reducible repeat (first | apply Kd.R_alloc | apply Kd.R_drewN | apply Kd.R_drew)); exact HO193.out⟩, ⟨by repeat (first | (with_reducible first | exact HB.out | apply below_alloc | apply pw_below_drewN | apply below_drew1) | exact HB.out)⟩⟩
                                · rw [if_neg c25] at H
                                  exact absurd H (by simp)
                              · rw [if_neg c24] at H
                                exact absurd H (by simp)
                            · rw [if_neg c23] at H
                              exact absurd H (by simp)
                          · rw [if_neg c22] at H
                            exact absurd H (by simp)
                · rw [if_neg c8] at H
                  exact absurd H (by simp)
              · rw [if_neg c7] at H
                exact absurd H (by simp)
            · rw [if_neg c6] at H
              have c6b0 : decide (x6_2 < (a1.size : Int)) = false := decide_eq_false c6
              clear c6
              obtain rfl := Option.some.inj H
              go_wp2
              repeat (go_quiet (fail); try go_wp2)
              go_ret
              exact ⟨_, by first | rfl | (simp [errW_none, errW_some] <;> rfl) | (simp [*, errW_none, errW_some] <;> rfl), by (with_reducible repeat (first | apply Kd.R_alloc | apply Kd.R_drewN | apply Kd.R_drew)); exact HO_5.out, by repeat (first | (with_reducible first | exact HB.out | apply below_alloc | apply pw_below_drewN | apply below_drew1) | exact HB.out)⟩

end Go.Proofs.Ytpdibkcpdngboaa.GP
