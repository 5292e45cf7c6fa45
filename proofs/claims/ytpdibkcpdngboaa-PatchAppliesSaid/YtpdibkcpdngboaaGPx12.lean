-- Written by a program of this session (wip/pv.py, which turns the kit's print.py in a scratch copy): see NOTES.md.
import Derived.Test.YtpdibkcpdngboaaGPx0
import Derived.Test.YtpdibkcpdngboaaGPx11
namespace Go.Proofs.Ytpdibkcpdngboaa.GP
open Go.RowKit Go.Proofs.YtpdibkcpdngboaaW.PrintWords Go.Proofs.YtpdibkcpdngboaaW.PrintLast Go.Proofs.YtpdibkcpdngboaaW.PrintMore
attribute [local go_sem] max2_int min2_int max_two min_two max_three min_three max_four min_four   -- for this text's walks alone
set_option linter.unusedVariables false
set_option linter.unusedSimpArgs false

/-! ### concordanceref06_Apply: function 12 -/
mutual
def concordanceref06_Apply.l0 : Nat → ByteArray → List (S53) → Int → Option (ByteArray × Int)
  | 0, _, _, _ => none
  | k + 1, x0, x1, x6 => if x6 < (x1.length : Int) then (if 0 ≤ x6 then (if (wrap64 (((rd_T53 x1 x6).f0) + (((rd_T53 x1 x6).f1).size : Int))) > (x0.size : Int) then (some ((⟨#[]⟩ : ByteArray), 6)) else (concordanceref06_Apply.l0 k x0 x1 (wrap64 (x6 + 1)))) else (none)) else (concordanceref06_Apply.l1 k x0 x1 0)
def concordanceref06_Apply.l1 : Nat → ByteArray → List (S53) → Int → Option (ByteArray × Int)
  | 0, _, _, _ => none
  | k + 1, x0, x1, x7 => if x7 < (x1.length : Int) then (if 0 ≤ x7 then (if 0 ≤ ((rd_T53 x1 x7).f0) then (if ((rd_T53 x1 x7).f0) ≤ (x0.size : Int) then (if (x0.extract 0 (((rd_T53 x1 x7).f0) : Int).toNat).size + ((rd_T53 x1 x7).f1).size ≤ 9223372036854775807 then (if 0 ≤ (wrap64 (((rd_T53 x1 x7).f0) + (((rd_T53 x1 x7).f1).size : Int))) then (if (wrap64 (((rd_T53 x1 x7).f0) + (((rd_T53 x1 x7).f1).size : Int))) ≤ (x0.size : Int) then (if ((x0.extract 0 (((rd_T53 x1 x7).f0) : Int).toNat) ++ ((rd_T53 x1 x7).f1)).size + (x0.extract ((wrap64 (((rd_T53 x1 x7).f0) + (((rd_T53 x1 x7).f1).size : Int))) : Int).toNat x0.size).size ≤ 9223372036854775807 then (concordanceref06_Apply.l1 k (((x0.extract 0 (((rd_T53 x1 x7).f0) : Int).toNat) ++ ((rd_T53 x1 x7).f1)) ++ (x0.extract ((wrap64 (((rd_T53 x1 x7).f0) + (((rd_T53 x1 x7).f1).size : Int))) : Int).toNat x0.size)) x1 (wrap64 (x7 + 1))) else (none)) else (none)) else (none)) else (none)) else (none)) else (none)) else (none)) else (some (x0, 0))
end
def concordanceref06_Apply.f (k : Nat) (a0 : ByteArray) (l1 : List (S53)) : Option (ByteArray × Int) := (concordanceref06_Right.f k l1).bind fun t166 => (if t166 = true then (concordanceref06_Apply.l0 k a0 l1 0) else (some ((⟨#[]⟩ : ByteArray), 1)))
theorem concordanceref06_Apply.mono_l : ∀ k, (∀ y0 y1 y2, LeO (concordanceref06_Apply.l0 k y0 y1 y2) (concordanceref06_Apply.l0 (k + 1) y0 y1 y2)) ∧ (∀ y0 y1 y2, LeO (concordanceref06_Apply.l1 k y0 y1 y2) (concordanceref06_Apply.l1 (k + 1) y0 y1 y2))
  | 0 => ⟨fun _ _ _ r h => by simp [concordanceref06_Apply.l0] at h, fun _ _ _ r h => by simp [concordanceref06_Apply.l1] at h⟩
  | k + 1 => by
    obtain ⟨ih0, ih1⟩ := concordanceref06_Apply.mono_l k
    refine ⟨?_, ?_⟩
    · intro y0 y1 y2
      unfold concordanceref06_Apply.l0
      repeat' first
      | (with_reducible exact ih0 _ _ _)
      | (with_reducible exact ih1 _ _ _)
      | (with_reducible exact concordanceref06_Right.mono _ _)
      | (with_reducible exact LeO.refl _)
      | (with_reducible exact LeO.none _)
      | (with_reducible refine LeO.ite ?_ ?_)
      | (with_reducible refine LeO.bind ?_ (fun _ => ?_))
      | exact ih0 _ _ _
      | exact ih1 _ _ _
      | exact concordanceref06_Right.mono _ _
      | exact LeO.none _
      | refine LeO.ite ?_ ?_
      | refine LeO.bind ?_ (fun _ => ?_)
    · intro y0 y1 y2
      unfold concordanceref06_Apply.l1
      repeat' first
      | (with_reducible exact ih0 _ _ _)
      | (with_reducible exact ih1 _ _ _)
      | (with_reducible exact concordanceref06_Right.mono _ _)
      | (with_reducible exact LeO.refl _)
      | (with_reducible exact LeO.none _)
      | (with_reducible refine LeO.ite ?_ ?_)
      | (with_reducible refine LeO.bind ?_ (fun _ => ?_))
      | exact ih0 _ _ _
      | exact ih1 _ _ _
      | exact concordanceref06_Right.mono _ _
      | exact LeO.none _
      | refine LeO.ite ?_ ?_
      | refine LeO.bind ?_ (fun _ => ?_)
theorem concordanceref06_Apply.mono : ∀ a0 a1 k, LeO (concordanceref06_Apply.f k a0 a1) (concordanceref06_Apply.f (k + 1) a0 a1) := by
  intro a0 a1 k
  obtain ⟨ih0, ih1⟩ := concordanceref06_Apply.mono_l k
  unfold concordanceref06_Apply.f
  repeat' first
      | (with_reducible exact ih0 _ _ _)
      | (with_reducible exact ih1 _ _ _)
      | (with_reducible exact concordanceref06_Right.mono _ _)
      | (with_reducible exact LeO.refl _)
      | (with_reducible exact LeO.none _)
      | (with_reducible refine LeO.ite ?_ ?_)
      | (with_reducible refine LeO.bind ?_ (fun _ => ?_))
      | exact ih0 _ _ _
      | exact ih1 _ _ _
      | exact concordanceref06_Right.mono _ _
      | exact LeO.none _
      | refine LeO.ite ?_ ?_
      | refine LeO.bind ?_ (fun _ => ?_)
set_option maxHeartbeats 8000000 in
set_option maxRecDepth 100000 in
theorem concordanceref06_Apply.calls (k : Nat) (a0 : ByteArray) (A1 : Option Addr) (c1 : Nat) (l1 : List (S53)) (r1 : ByteArray) (r2 : Int) (w : World) (hr1 : Kd.C k53 w A1 l1.length l1) (hc1 : l1.length ≤ c1) (h : concordanceref06_Apply.f k a0 l1 = some (r1, r2)) :
    Calls Try.prog 12 #[.string a0, .slice A1 l1.length c1] w fun e w' => e = .returned (.tuple #[.string r1, .int .i64 r2]) ∧ Drawn0 w w' := by
  have HR1 := Aside0.mk hr1
  have HC1 := Aside0.mk hc1
  clear hr1 hc1
  have H : ((concordanceref06_Right.f k l1).bind fun t166 => (if t166 = true then (concordanceref06_Apply.l0 k a0 l1 0) else (some ((⟨#[]⟩ : ByteArray), 1)))) = some (r1, r2) := h
  clear h
  replace H := Option.bind_eq_some_iff.mp H
  obtain ⟨t166, A30, H⟩ := H
  replace H : (if t166 = true then (concordanceref06_Apply.l0 k a0 l1 0) else (some ((⟨#[]⟩ : ByteArray), 1))) = some (r1, r2) := H
  have A3 := Aside0.mk A30
  clear A30
  by_cases c4 : t166 = true
  · subst c4
    have H1 : (concordanceref06_Apply.l0 k a0 l1 0) = some (r1, r2) := by rw [if_pos rfl] at H; exact H
    clear H
    have H := H1
    clear H1
    have H' := Aside0.mk H
    clear H
    go_enter Try.func12, Try.ntmps12
    go_wp2_with (first | (go_at_call 21; (with_reducible refine (concordanceref06_Right.calls k _ _ l1 true _ ?side1 ?side2 A3.out).mono ?_); (case side1 => repeat (first | exact HR1.out | (with_reducible refine Kd.C_alloc ?_ _) | (with_reducible refine Kd.C_drewN ?_ _) | (with_reducible refine Kd.C_drew ?_))); (case side2 => exact HC1.out); rintro e w' ⟨rfl, ⟨nd, rfl⟩⟩; (try first | exact ⟨rfl, _, World.drewN_drewN _ _ _⟩ | exact ⟨rfl, _, Eq.trans (World.drewN_drewN _ _ _) (congrArg (World.drewN _) (Nat.add_assoc _ _ _))⟩)))
    repeat (go_quiet (first | (go_at_call 21; (with_reducible refine (concordanceref06_Right.calls k _ _ l1 true _ ?side1 ?side2 A3.out).mono ?_); (case side1 => repeat (first | exact HR1.out | (with_reducible refine Kd.C_alloc ?_ _) | (with_reducible refine Kd.C_drewN ?_ _) | (with_reducible refine Kd.C_drew ?_))); (case side2 => exact HC1.out); rintro e w' ⟨rfl, ⟨nd, rfl⟩⟩; (try first | exact ⟨rfl, _, World.drewN_drewN _ _ _⟩ | exact ⟨rfl, _, Eq.trans (World.drewN_drewN _ _ _) (congrArg (World.drewN _) (Nat.add_assoc _ _ _))⟩))); try go_wp2_with (first | (go_at_call 21; (with_reducible refine (concordanceref06_Right.calls k _ _ l1 true _ ?side1 ?side2 A3.out).mono ?_); (case side1 => repeat (first | exact HR1.out | (with_reducible refine Kd.C_alloc ?_ _) | (with_reducible refine Kd.C_drewN ?_ _) | (with_reducible refine Kd.C_drew ?_))); (case side2 => exact HC1.out); rintro e w' ⟨rfl, ⟨nd, rfl⟩⟩; (try first | exact ⟨rfl, _, World.drewN_drewN _ _ _⟩ | exact ⟨rfl, _, Eq.trans (World.drewN_drewN _ _ _) (congrArg (World.drewN _) (Nat.add_assoc _ _ _))⟩))))
    go_loopg [6] k (fun kq v6 w' => ∃ (x6_1 : Int), v6 = .int .i64 x6_1 ∧ Aside0 (concordanceref06_Apply.l0 kq a0 l1 x6_1 = some (r1, r2)) ∧ Aside0 (kq ≤ k) ∧ Drawn0 w w')
    case atStart => exact ⟨(0), (by first | rfl | (simp; done) | (simp [*]; done)), H', ⟨Nat.le_refl _⟩, by repeat (first | exact Drawn0.refl _ | apply Drawn0.step)⟩
    case round =>
      clear H'
      try clear c1
      try clear p2
      try clear c4
      obtain ⟨x6_1, rfl, HA, HK1, ⟨m1, rfl⟩⟩ := hrel
      cases gk with
      | zero => exact absurd HA.out (by simp [concordanceref06_Apply.l0])
      | succ k1 =>
        have H := HA.out
        clear HA
        simp only [concordanceref06_Apply.l0] at H
        by_cases c5 : x6_1 < (l1.length : Int)
        · rw [if_pos c5] at H
          have c5b0 : decide (x6_1 < (l1.length : Int)) = true := decide_eq_true c5
          clear c5
          by_cases c6 : 0 ≤ x6_1
          · rw [if_pos c6] at H
            have c6b0 : decide (0 ≤ x6_1) = true := decide_eq_true c6
            clear c6
            by_cases c7 : (wrap64 (((rd_T53 l1 x6_1).f0) + (((rd_T53 l1 x6_1).f1).size : Int))) > (a0.size : Int)
            · rw [if_pos c7] at H
              have c7b0 : decide ((a0.size : Int) < (wrap64 (((rd_T53 l1 x6_1).f0) + (((rd_T53 l1 x6_1).f1).size : Int)))) = true := decide_eq_true c7
              clear c7
              simp only [Option.some.injEq, Prod.mk.injEq] at H
              obtain ⟨rfl, rfl⟩ := H
              have p167 : 0 ≤ (x6_1 : Int) := of_decide_eq_true (by first | (with_reducible assumption) | assumption)
              have q167 : x6_1 < (l1.length : Int) := of_decide_eq_true (by first | (with_reducible assumption) | assumption)
              obtain ⟨ad167, e167, hx167_0, hx167_1⟩ := at_T53 HR1.out x6_1 p167 q167
              cases e167
              replace p167 := eq_true p167
              replace q167 := eq_true q167
              have p168 : 0 ≤ (x6_1 : Int) := of_decide_eq_true (by first | (with_reducible assumption) | assumption)
              have q168 : x6_1 < (l1.length : Int) := of_decide_eq_true (by first | (with_reducible assumption) | assumption)
              obtain ⟨ad168, e168, hx168_0, hx168_1⟩ := at_T53 HR1.out x6_1 p168 q168
              obtain rfl : ad167 = ad168 := (by injection e168)
              replace p168 := eq_true p168
              replace q168 := eq_true q168
              go_wp2
              repeat (go_quiet (fail); try go_wp2)
              go_ret2
              exact ⟨by first | rfl | (simp; done) | (simp [*]; done), by repeat (first | exact Drawn0.refl _ | apply Drawn0.step)⟩
            · rw [if_neg c7] at H
              have c7b0 : decide ((a0.size : Int) < (wrap64 (((rd_T53 l1 x6_1).f0) + (((rd_T53 l1 x6_1).f1).size : Int)))) = false := decide_eq_false c7
              clear c7
              have H' := Aside0.mk H
              clear H
              have p167 : 0 ≤ (x6_1 : Int) := of_decide_eq_true (by first | (with_reducible assumption) | assumption)
              have q167 : x6_1 < (l1.length : Int) := of_decide_eq_true (by first | (with_reducible assumption) | assumption)
              obtain ⟨ad167, e167, hx167_0, hx167_1⟩ := at_T53 HR1.out x6_1 p167 q167
              cases e167
              replace p167 := eq_true p167
              replace q167 := eq_true q167
              have p168 : 0 ≤ (x6_1 : Int) := of_decide_eq_true (by first | (with_reducible assumption) | assumption)
              have q168 : x6_1 < (l1.length : Int) := of_decide_eq_true (by first | (with_reducible assumption) | assumption)
              obtain ⟨ad168, e168, hx168_0, hx168_1⟩ := at_T53 HR1.out x6_1 p168 q168
              obtain rfl : ad167 = ad168 := (by injection e168)
              replace p168 := eq_true p168
              replace q168 := eq_true q168
              go_wp2
              repeat (go_quiet (fail); try go_wp2)
              go_roundg k1
              case measure => have := HK1.out; omega
              case rel => exact ⟨(wrap64 (x6_1 + 1)), (by first | rfl | (simp; done) | (simp [*]; done)), H', ⟨by have := HK1.out; omega⟩, by repeat (first | exact Drawn0.refl _ | apply Drawn0.step)⟩
          · rw [if_neg c6] at H
            exact absurd H (by simp)
        · rw [if_neg c5] at H
          have c5b0 : decide (x6_1 < (l1.length : Int)) = false := decide_eq_false c5
          clear c5
          have H' := Aside0.mk H
          clear H
          go_wp2
          repeat (go_quiet (fail); try go_wp2)
          go_loopg [0, 7] k1 (fun kq v0 v7 w' => ∃ (x0_2 : ByteArray) (x7_2 : Int), v0 = .string x0_2 ∧ v7 = .int .i64 x7_2 ∧ Aside0 (concordanceref06_Apply.l1 kq x0_2 l1 x7_2 = some (r1, r2)) ∧ Aside0 (kq ≤ k1) ∧ Drawn0 w w')
          case atStart => exact ⟨(a0), (0), (by first | rfl | (simp; done) | (simp [*]; done)), (by first | rfl | (simp; done) | (simp [*]; done)), H', ⟨Nat.le_refl _⟩, by repeat (first | exact Drawn0.refl _ | apply Drawn0.step)⟩
          case round =>
            clear H'
            try clear c1
            try clear p1
            try clear q1
            try clear hx1
            try clear p2
            try clear c4
            try clear c5
            try clear c5b0
            try clear c6
            try clear c6b0
            try clear p6
            try clear c7
            try clear c7b0
            try clear hx167_0
            try clear hx167_1
            try clear hx168_0
            try clear hx168_1
            try clear p167
            try clear p168
            try clear p2
            try clear q167
            try clear q168
            obtain ⟨x0_2, x7_2, rfl, rfl, HA, HK2, ⟨m2, rfl⟩⟩ := hrel
            cases gk with
            | zero => exact absurd HA.out (by simp [concordanceref06_Apply.l1])
            | succ k2 =>
              have H := HA.out
              clear HA
              simp only [concordanceref06_Apply.l1] at H
              by_cases c8 : x7_2 < (l1.length : Int)
              · rw [if_pos c8] at H
                have c8b0 : decide (x7_2 < (l1.length : Int)) = true := decide_eq_true c8
                clear c8
                by_cases c9 : 0 ≤ x7_2
                · rw [if_pos c9] at H
                  have c9b0 : decide (0 ≤ x7_2) = true := decide_eq_true c9
                  clear c9
                  by_cases c10 : 0 ≤ ((rd_T53 l1 x7_2).f0)
                  · rw [if_pos c10] at H
                    have c10b0 := eq_true c10
                    have c10b1 : decide (0 ≤ ((rd_T53 l1 x7_2).f0)) = true := decide_eq_true c10
                    clear c10
                    by_cases c11 : ((rd_T53 l1 x7_2).f0) ≤ (x0_2.size : Int)
                    · rw [if_pos c11] at H
                      have c11b0 := eq_true c11
                      have c11b1 : decide (((rd_T53 l1 x7_2).f0) ≤ (x0_2.size : Int)) = true := decide_eq_true c11
                      clear c11
                      by_cases c12 : (x0_2.extract 0 (((rd_T53 l1 x7_2).f0) : Int).toNat).size + ((rd_T53 l1 x7_2).f1).size ≤ 9223372036854775807
                      · rw [if_pos c12] at H
                        have c12b0 := eq_true c12
                        have c12b1 : decide ((x0_2.extract 0 (((rd_T53 l1 x7_2).f0) : Int).toNat).size + ((rd_T53 l1 x7_2).f1).size ≤ 9223372036854775807) = true := decide_eq_true c12
                        try have c12b2 : (9223372036854775807 < (x0_2.extract 0 (((rd_T53 l1 x7_2).f0) : Int).toNat).size + ((rd_T53 l1 x7_2).f1).size) = False := eq_false (Nat.not_lt.2 c12)
                        obtain ⟨ji13, hji13⟩ : ∃ j_ : Int, (wrap64 (((rd_T53 l1 x7_2).f0) + (((rd_T53 l1 x7_2).f1).size : Int))) = j_ := ⟨_, rfl⟩
                        replace H : (if 0 ≤ (ji13) then (if (ji13) ≤ (x0_2.size : Int) then (if ((x0_2.extract 0 (((rd_T53 l1 x7_2).f0) : Int).toNat) ++ ((rd_T53 l1 x7_2).f1)).size + (x0_2.extract ((ji13) : Int).toNat x0_2.size).size ≤ 9223372036854775807 then (concordanceref06_Apply.l1 k2 (((x0_2.extract 0 (((rd_T53 l1 x7_2).f0) : Int).toNat) ++ ((rd_T53 l1 x7_2).f1)) ++ (x0_2.extract ((ji13) : Int).toNat x0_2.size)) l1 (wrap64 (x7_2 + 1))) else (none)) else (none)) else (none)) = some (r1, r2) := by first | (rw [hji13] at H; exact H) | (simp only [hji13] at H ⊢; exact H)
                        have hji13w : (IntKind.i64.wrap (((rd_T53 l1 x7_2).f0) + (((rd_T53 l1 x7_2).f1).size : Int))) = ji13 := (i64_w _).trans hji13
                        by_cases c14 : 0 ≤ (ji13)
                        · rw [if_pos c14] at H
                          have c14b0 := eq_true c14
                          have c14b1 : decide (0 ≤ (ji13)) = true := decide_eq_true c14
                          clear c14
                          by_cases c15 : (ji13) ≤ (x0_2.size : Int)
                          · rw [if_pos c15] at H
                            have c15b0 := eq_true c15
                            have c15b1 : decide ((ji13) ≤ (x0_2.size : Int)) = true := decide_eq_true c15
                            clear c15
                            by_cases c16 : ((x0_2.extract 0 (((rd_T53 l1 x7_2).f0) : Int).toNat) ++ ((rd_T53 l1 x7_2).f1)).size + (x0_2.extract ((ji13) : Int).toNat x0_2.size).size ≤ 9223372036854775807
                            · rw [if_pos c16] at H
                              have c16b0 := eq_true c16
                              have c16b1 : decide (((x0_2.extract 0 (((rd_T53 l1 x7_2).f0) : Int).toNat) ++ ((rd_T53 l1 x7_2).f1)).size + (x0_2.extract ((ji13) : Int).toNat x0_2.size).size ≤ 9223372036854775807) = true := decide_eq_true c16
                              try have c16b2 : (9223372036854775807 < ((x0_2.extract 0 (((rd_T53 l1 x7_2).f0) : Int).toNat) ++ ((rd_T53 l1 x7_2).f1)).size + (x0_2.extract ((ji13) : Int).toNat x0_2.size).size) = False := eq_false (Nat.not_lt.2 c16)
                              have H' := Aside0.mk H
                              clear H
                              have p169 : 0 ≤ (x7_2 : Int) := of_decide_eq_true (by first | (with_reducible assumption) | assumption)
                              have q169 : x7_2 < (l1.length : Int) := of_decide_eq_true (by first | (with_reducible assumption) | assumption)
                              obtain ⟨ad169, e169, hx169_0, hx169_1⟩ := at_T53 HR1.out x7_2 p169 q169
                              cases e169
                              replace p169 := eq_true p169
                              replace q169 := eq_true q169
                              have p170 : 0 ≤ (x7_2 : Int) := of_decide_eq_true (by first | (with_reducible assumption) | assumption)
                              have q170 : x7_2 < (l1.length : Int) := of_decide_eq_true (by first | (with_reducible assumption) | assumption)
                              obtain ⟨ad170, e170, hx170_0, hx170_1⟩ := at_T53 HR1.out x7_2 p170 q170
                              obtain rfl : ad169 = ad170 := (by injection e170)
                              replace p170 := eq_true p170
                              replace q170 := eq_true q170
                              have p171 : 0 ≤ (x7_2 : Int) := of_decide_eq_true (by first | (with_reducible assumption) | assumption)
                              have q171 : x7_2 < (l1.length : Int) := of_decide_eq_true (by first | (with_reducible assumption) | assumption)
                              obtain ⟨ad171, e171, hx171_0, hx171_1⟩ := at_T53 HR1.out x7_2 p171 q171
                              obtain rfl : ad169 = ad171 := (by injection e171)
                              replace p171 := eq_true p171
                              replace q171 := eq_true q171
                              have p172 : 0 ≤ (x7_2 : Int) := of_decide_eq_true (by first | (with_reducible assumption) | assumption)
                              have q172 : x7_2 < (l1.length : Int) := of_decide_eq_true (by first | (with_reducible assumption) | assumption)
                              obtain ⟨ad172, e172, hx172_0, hx172_1⟩ := at_T53 HR1.out x7_2 p172 q172
                              obtain rfl : ad169 = ad172 := (by injection e172)
                              replace p172 := eq_true p172
                              replace q172 := eq_true q172
                              go_wp2
                              repeat (go_quiet (fail); try go_wp2)
                              go_roundg k2
                              case measure => have := HK1.out; have := HK2.out; omega
                              case rel => exact ⟨(((x0_2.extract 0 (((rd_T53 l1 x7_2).f0) : Int).toNat) ++ ((rd_T53 l1 x7_2).f1)) ++ (x0_2.extract ((ji13) : Int).toNat x0_2.size)), (wrap64 (x7_2 + 1)), (by first | rfl | (simp; done) | (simp only [← hji13] <;> (first | rfl | simp)) | (simp [*]; done)), (by first | rfl | (simp; done) | (simp [*]; done)), H', ⟨by have := HK1.out; have := HK2.out; omega⟩, by repeat (first | exact Drawn0.refl _ | apply Drawn0.step)⟩
                            · rw [if_neg c16] at H
                              exact absurd H (by simp)
                          · rw [if_neg c15] at H
                            exact absurd H (by simp)
                        · rw [if_neg c14] at H
                          exact absurd H (by simp)
                      · rw [if_neg c12] at H
                        exact absurd H (by simp)
                    · rw [if_neg c11] at H
                      exact absurd H (by simp)
                  · rw [if_neg c10] at H
                    exact absurd H (by simp)
                · rw [if_neg c9] at H
                  exact absurd H (by simp)
              · rw [if_neg c8] at H
                have c8b0 : decide (x7_2 < (l1.length : Int)) = false := decide_eq_false c8
                clear c8
                simp only [Option.some.injEq, Prod.mk.injEq] at H
                obtain ⟨rfl, rfl⟩ := H
                go_wp2
                repeat (go_quiet (fail); try go_wp2)
                go_ret2
                exact ⟨by first | rfl | (simp; done) | (simp [*]; done), by repeat (first | exact Drawn0.refl _ | apply Drawn0.step)⟩
  · replace c4 := Bool.eq_false_iff.mpr c4
    subst c4
    have H1 : (some ((⟨#[]⟩ : ByteArray), 1)) = some (r1, r2) := by rw [if_neg (show ¬ (false = true) by decide)] at H; exact H
    clear H
    have H := H1
    clear H1
    simp only [Option.some.injEq, Prod.mk.injEq] at H
    obtain ⟨rfl, rfl⟩ := H
    go_enter Try.func12, Try.ntmps12
    go_wp2_with (first | (go_at_call 21; (with_reducible refine (concordanceref06_Right.calls k _ _ l1 false _ ?side1 ?side2 A3.out).mono ?_); (case side1 => repeat (first | exact HR1.out | (with_reducible refine Kd.C_alloc ?_ _) | (with_reducible refine Kd.C_drewN ?_ _) | (with_reducible refine Kd.C_drew ?_))); (case side2 => exact HC1.out); rintro e w' ⟨rfl, ⟨nd, rfl⟩⟩; (try first | exact ⟨rfl, _, World.drewN_drewN _ _ _⟩ | exact ⟨rfl, _, Eq.trans (World.drewN_drewN _ _ _) (congrArg (World.drewN _) (Nat.add_assoc _ _ _))⟩)))
    repeat (go_quiet (first | (go_at_call 21; (with_reducible refine (concordanceref06_Right.calls k _ _ l1 false _ ?side1 ?side2 A3.out).mono ?_); (case side1 => repeat (first | exact HR1.out | (with_reducible refine Kd.C_alloc ?_ _) | (with_reducible refine Kd.C_drewN ?_ _) | (with_reducible refine Kd.C_drew ?_))); (case side2 => exact HC1.out); rintro e w' ⟨rfl, ⟨nd, rfl⟩⟩; (try first | exact ⟨rfl, _, World.drewN_drewN _ _ _⟩ | exact ⟨rfl, _, Eq.trans (World.drewN_drewN _ _ _) (congrArg (World.drewN _) (Nat.add_assoc _ _ _))⟩))); try go_wp2_with (first | (go_at_call 21; (with_reducible refine (concordanceref06_Right.calls k _ _ l1 false _ ?side1 ?side2 A3.out).mono ?_); (case side1 => repeat (first | exact HR1.out | (with_reducible refine Kd.C_alloc ?_ _) | (with_reducible refine Kd.C_drewN ?_ _) | (with_reducible refine Kd.C_drew ?_))); (case side2 => exact HC1.out); rintro e w' ⟨rfl, ⟨nd, rfl⟩⟩; (try first | exact ⟨rfl, _, World.drewN_drewN _ _ _⟩ | exact ⟨rfl, _, Eq.trans (World.drewN_drewN _ _ _) (congrArg (World.drewN _) (Nat.add_assoc _ _ _))⟩))))
    go_ret2
    exact ⟨by first | rfl | (simp; done) | (simp [*]; done), by repeat (first | exact Drawn0.refl _ | apply Drawn0.step)⟩

end Go.Proofs.Ytpdibkcpdngboaa.GP
