-- Written by a program of this session (wip/pv.py, which turns the kit's print.py in a scratch copy): see NOTES.md.
import Derived.Test.YteehchhmonlkkaaGPx0
import Derived.Test.YteehchhmonlkkaaGPx3
namespace Go.Proofs.Yteehchhmonlkkaa.GP
open Go.RowKit Go.Proofs.YteehchhmonlkkaaW.PrintWords Go.Proofs.YteehchhmonlkkaaW.PrintLast Go.Proofs.YteehchhmonlkkaaW.PrintMore
attribute [local go_sem] max2_int min2_int max_two min_two max_three min_three max_four min_four   -- for this text's walks alone
set_option linter.unusedVariables false
set_option linter.unusedSimpArgs false

/-! ### concordanceref02_Get: function 41 -/
def concordanceref02_Get.l0 : Nat → ByteArray → Int → Int → Option (Int)
 | 0, _, _, _ => none
 | k + 1, x0, x3, x4 => if x4 < (x0.size : Int) then (if (x0.size : Int) < 8 then (if 0 ≤ x4 then (concordanceref02_Get.l0 k x0 (wrap64 ((wrap64 (256 * x3)) + (wrap64 (bt x0 x4)))) (wrap64 (x4 + 1))) else (none)) else (some x3)) else (some x3)
def concordanceref02_Get.f (k : Nat) (a0 : ByteArray) : Option (Int) := concordanceref02_Get.l0 k a0 0 0
theorem concordanceref02_Get.mono_l : ∀ k, (∀ y0 y1 y2, LeO (concordanceref02_Get.l0 k y0 y1 y2) (concordanceref02_Get.l0 (k + 1) y0 y1 y2))
 | 0 => fun _ _ _ r h => by simp [concordanceref02_Get.l0] at h
 | k + 1 => by
  have ih0 := concordanceref02_Get.mono_l k
  ·intro y0 y1 y2
   unfold concordanceref02_Get.l0
   repeat' first
   | (with_reducible exact ih0 _ _ _)
   | (with_reducible exact LeO.refl _)
   | (with_reducible exact LeO.none _)
   | (with_reducible refine LeO.ite ?_ ?_)
   | (with_reducible refine LeO.bind ?_ (fun _ => ?_))
   | exact ih0 _ _ _
   | exact LeO.none _
   | refine LeO.ite ?_ ?_
   | refine LeO.bind ?_ (fun _ => ?_)
theorem concordanceref02_Get.mono : ∀ a0 k, LeO (concordanceref02_Get.f k a0) (concordanceref02_Get.f (k + 1) a0) := by
 intro a0 k
 have ih0 := concordanceref02_Get.mono_l k
 unfold concordanceref02_Get.f
 repeat' first
   | (with_reducible exact ih0 _ _ _)
   | (with_reducible exact LeO.refl _)
   | (with_reducible exact LeO.none _)
   | (with_reducible refine LeO.ite ?_ ?_)
   | (with_reducible refine LeO.bind ?_ (fun _ => ?_))
   | exact ih0 _ _ _
   | exact LeO.none _
   | refine LeO.ite ?_ ?_
   | refine LeO.bind ?_ (fun _ => ?_)
set_option maxHeartbeats 8000000 in
set_option maxRecDepth 100000 in
theorem concordanceref02_Get.calls (k : Nat) (a0 : ByteArray) (r : Int) (w : World) (h : concordanceref02_Get.f k a0 = some r) :
  Calls Try.prog 41 #[.string a0] w fun e w' => e = .returned (.int .i64 r) ∧ Drawn0 w w' := by
 have H : (concordanceref02_Get.l0 k a0 0 0) = some r := h
 clear h
 have H' := Aside0.mk H
 clear H
 go_enter Try.func41, Try.ntmps41
 go_wp2
 go_loopg [3, 4] k (fun kq v3 v4 w' => ∃ (x3_1 : Int) (x4_1 : Int), v3 = .int .i64 x3_1 ∧ v4 = .int .i64 x4_1 ∧ Aside0 (concordanceref02_Get.l0 kq a0 x3_1 x4_1 = some r) ∧ Aside0 (kq ≤ k) ∧ Drawn0 w w')
 case atStart => exact ⟨(0), (0), (by first | rfl | (simp; done) | (simp [*]; done)), (by first | rfl | (simp; done) | (simp [*]; done)), H', ⟨Nat.le_refl _⟩, by repeat (first | exact Drawn0.refl _ | apply Drawn0.step)⟩
 case round =>
  clear H'
  obtain ⟨x3_1, x4_1, rfl, rfl, HA, HK1, ⟨m1, rfl⟩⟩ := hrel
  cases gk with
  | zero => exact absurd HA.out (by simp [concordanceref02_Get.l0])
  | succ k1 =>
   have H := HA.out
   clear HA
   simp only [concordanceref02_Get.l0] at H
   by_cases c2 : x4_1 < (a0.size : Int)
   ·rw [if_pos c2] at H
    have c2b0 : decide (x4_1 < (a0.size : Int)) = true := decide_eq_true c2
    clear c2
    by_cases c3 : (a0.size : Int) < 8
    ·rw [if_pos c3] at H
     have c3b0 : decide ((a0.size : Int) < 8) = true := decide_eq_true c3
     have c3b1 : decide (a0.size < 8) = true := decide_eq_true (by omega)
     clear c3
     by_cases c4 : 0 ≤ x4_1
     ·rw [if_pos c4] at H
      have c4b0 : decide (0 ≤ x4_1) = true := decide_eq_true c4
      clear c4
      have H' := Aside0.mk H
      clear H
      have p5 : 0 ≤ (x4_1 : Int) := of_decide_eq_true (by first | (with_reducible assumption) | assumption)
      have q5 : x4_1 < (a0.size : Int) := of_decide_eq_true (by first | (with_reducible assumption) | assumption)
      have hx5 := bt_at a0 x4_1
      replace p5 := eq_true p5
      replace q5 := eq_true q5
      go_wp2
      go_roundg k1
      case measure => have := HK1.out; omega
      case rel => exact ⟨(wrap64 ((wrap64 (256 * x3_1)) + (wrap64 (bt a0 x4_1)))), (wrap64 (x4_1 + 1)), (by first | rfl | (simp; done) | (simp [*]; done)), (by first | rfl | (simp; done) | (simp [*]; done)), H', ⟨by have := HK1.out; omega⟩, by repeat (first | exact Drawn0.refl _ | apply Drawn0.step)⟩
     ·rw [if_neg c4] at H
      exact absurd H (by simp)
    ·rw [if_neg c3] at H
     have c3b0 : decide ((a0.size : Int) < 8) = false := decide_eq_false c3
     have c3b1 : decide (a0.size < 8) = false := decide_eq_false (by omega)
     clear c3
     obtain rfl := Option.some.inj H
     go_wp2
     go_ret
     exact ⟨by first | rfl | (simp; done) | (simp [*]; done), by repeat (first | exact Drawn0.refl _ | apply Drawn0.step)⟩
   ·rw [if_neg c2] at H
    have c2b0 : decide (x4_1 < (a0.size : Int)) = false := decide_eq_false c2
    clear c2
    obtain rfl := Option.some.inj H
    go_wp2
    go_ret
    exact ⟨by first | rfl | (simp; done) | (simp [*]; done), by repeat (first | exact Drawn0.refl _ | apply Drawn0.step)⟩

/-! ### concordanceref07_Number: function 30 -/
def concordanceref07_Number.f (k : Nat) (s0_0 : ByteArray) (s0_1 : Int) (a1 : Int) : Option (Int × ByteArray × Int) := (concordanceref07_Take.f k s0_0 s0_1 a1).bind fun bt169 => ((concordanceref02_Get.f k bt169.1).bind fun t172 => (some (t172, bt169.2.1, bt169.2.2)))
theorem concordanceref07_Number.mono : ∀ a0 a1 a2 k, LeO (concordanceref07_Number.f k a0 a1 a2) (concordanceref07_Number.f (k + 1) a0 a1 a2) := by
 intro a0 a1 a2 k
 unfold concordanceref07_Number.f
 repeat' first
   | (with_reducible exact concordanceref02_Get.mono _ _)
   | (with_reducible exact concordanceref07_Take.mono _ _ _ _)
   | (with_reducible exact LeO.refl _)
   | (with_reducible exact LeO.none _)
   | (with_reducible refine LeO.ite ?_ ?_)
   | (with_reducible refine LeO.bind ?_ (fun _ => ?_))
   | exact concordanceref02_Get.mono _ _
   | exact concordanceref07_Take.mono _ _ _ _
   | exact LeO.none _
   | refine LeO.ite ?_ ?_
   | refine LeO.bind ?_ (fun _ => ?_)
set_option maxHeartbeats 8000000 in
set_option maxRecDepth 100000 in
theorem concordanceref07_Number.calls (k : Nat) (g : Nat) (s0_0 : ByteArray) (s0_1 : Int) (a1 : Int) (r1 : Int) (r2 : ByteArray) (r3 : Int) (w0 w : World) (hI : IsS89 w0 w g s0_0 s0_1) (hB : Below w0.heap.size w0 w) (h : concordanceref07_Number.f k s0_0 s0_1 a1 = some (r1, r2, r3)) :
  Calls Try.prog 30 #[.pointer (some ⟨g, 0, none⟩), .int .i64 a1] w fun e w' => e = .returned (.int .i64 r1) ∧ IsS89 w0 w' g r2 r3 ∧ Below w0.heap.size w0 w' ∧ KeepBut w w' g none := by
 have HI0 := Aside0.mk hI
 have HK := Aside0.mk (KeepBut.refl w g none)
 have HL := Aside0.mk hB.size
 clear hI
 have HW0 := Aside0.mk hB.size
 have HB := Aside0.mk hB
 clear hB
 have H : ((concordanceref07_Take.f k s0_0 s0_1 a1).bind fun bt169 => ((concordanceref02_Get.f k bt169.1).bind fun t172 => (some (t172, bt169.2.1, bt169.2.2)))) = some (r1, r2, r3) := h
 clear h
 replace H := Option.bind_eq_some_iff.mp H
 obtain ⟨⟨t169, t170, t171⟩, A30, H⟩ := H
 replace H : ((concordanceref02_Get.f k t169).bind fun t172 => (some (t172, t170, t171))) = some (r1, r2, r3) := H
 have A3 := Aside0.mk A30
 clear A30
 replace H := Option.bind_eq_some_iff.mp H
 obtain ⟨t172, A40, H⟩ := H
 replace H : (some (t172, t170, t171)) = some (r1, r2, r3) := H
 have A4 := Aside0.mk A40
 clear A40
 simp only [Option.some.injEq, Prod.mk.injEq] at H
 obtain ⟨rfl, rfl, rfl⟩ := H
 go_enter Try.func30, Try.ntmps30
 go_wp2_with (first | ((with_reducible refine gate_callee (f := 31) rfl ?_); refine goesL_ (some 7) rfl rfl Try.func31 (by kernel_rfl) rfl #[.pointer (some ⟨g, 0, none⟩), .int .i64 a1] rfl (by (try simp only [List.map_toArray, List.map_cons, List.map_nil]); first | done | rfl | (simp only [List.length_drop, List.length_take]; rfl)) ?_; (with_reducible refine (concordanceref07_Take.calls k g s0_0 s0_1 a1 t169 t170 t171 w0 _ ?side1 ?side2 A3.out).mono ?_); (case side1 => repeat (first | (with_reducible first | exact HI0.out | apply IsS89.alloc | apply IsS89.drewN | apply IsS89.drew | apply IsS89.set_0 | apply IsS89.set_1) | exact HI0.out)); (case side2 => repeat (first | (with_reducible first | exact HB.out | apply below_alloc | apply pw_below_drewN | apply below_drew1 | refine below_set ?_ (IsS89.ge HI0.out)) | exact HB.out)); rintro e w5 ⟨rfl, hi, hb, hk⟩; refine ⟨_, rfl, ?_⟩; have n0_ := Aside0.mk (KeepBut.trans (by repeat (first | (with_reducible first | exact HK.out | apply KeepBut.set_ | apply keep_drewN | apply keep_drew | apply keep_alloc) | exact HK.out)) hk (.inl rfl)); have n1_ := Aside0.mk (hb); have n2_ := Aside0.mk (hi); clear HK; clear HB; clear HI0; have HK := n0_; have HB := n1_; have HI0 := n2_; clear n0_ n1_ n2_; (try clear hb); (try clear hb2); (try clear hk); (try clear hi)) | ((with_reducible refine gate_callee (f := 41) rfl ?_); refine goesL_ (some 8) rfl rfl Try.func41 (by kernel_rfl) rfl #[.string t169] rfl (by (try simp only [List.map_toArray, List.map_cons, List.map_nil]); first | done | rfl | (simp only [List.length_drop, List.length_take]; rfl)) ?_; (with_reducible refine (concordanceref02_Get.calls k t169 t172 _ A4.out).mono ?_); rintro e w' ⟨rfl, ⟨nd, rfl⟩⟩; refine ⟨_, rfl, ?_⟩))
 go_ret
 exact ⟨by first | rfl | (simp [errW_none, errW_some] <;> rfl) | (simp [*, errW_none, errW_some] <;> rfl), by repeat (first | (with_reducible first | exact HI0.out | apply IsS89.alloc | apply IsS89.drewN | apply IsS89.drew | apply IsS89.set_0 | apply IsS89.set_1) | exact HI0.out), by repeat (first | (with_reducible first | exact HB.out | apply below_alloc | apply pw_below_drewN | apply below_drew1 | refine below_set ?_ (IsS89.ge HI0.out)) | exact HB.out), by repeat (first | (with_reducible first | exact HK.out | apply KeepBut.set_ | apply keep_drewN | apply keep_drew | apply keep_alloc) | exact HK.out)⟩

/-! ### concordanceref06_Right: function 25 -/
mutual
def concordanceref06_Right.l0 : Nat → List (S67) → Int → Option (Bool)
 | 0, _, _ => none
 | k + 1, x0, x3 => if x3 < (x0.length : Int) then (if 0 ≤ x3 then (if (((rd_T67 x0 x3).f1).size : Int) = 0 then (concordanceref06_Right.j1 k x0 x3 true) else (if (((rd_T67 x0 x3).f1).size : Int) > 65535 then (concordanceref06_Right.j1 k x0 x3 true) else (if ((rd_T67 x0 x3).f0) < 0 then (concordanceref06_Right.j1 k x0 x3 true) else (concordanceref06_Right.j1 k x0 x3 (decide (((rd_T67 x0 x3).f0) > 65535)))))) else (none)) else (some (decide ((x0.length : Int) ≤ 65535)))
def concordanceref06_Right.j1 : Nat → List (S67) → Int → Bool → Option (Bool)
 | 0, _, _, _ => none
 | k + 1, x0, x3, x41 => if x41 = true then (some false) else (if x3 > 0 then (if 0 ≤ x3 then (if x3 < (x0.length : Int) then (if 0 ≤ (wrap64 (x3 - 1)) then (if (wrap64 (x3 - 1)) < (x0.length : Int) then (if ((rd_T67 x0 x3).f0) < (wrap64 (((rd_T67 x0 (wrap64 (x3 - 1))).f0) + (((rd_T67 x0 (wrap64 (x3 - 1))).f1).size : Int))) then (some false) else (concordanceref06_Right.l0 k x0 (wrap64 (x3 + 1)))) else (none)) else (none)) else (none)) else (none)) else (concordanceref06_Right.l0 k x0 (wrap64 (x3 + 1))))
end
def concordanceref06_Right.f (k : Nat) (l0 : List (S67)) : Option (Bool) := concordanceref06_Right.l0 k l0 0
theorem concordanceref06_Right.mono_l : ∀ k, (∀ y0 y1, LeO (concordanceref06_Right.l0 k y0 y1) (concordanceref06_Right.l0 (k + 1) y0 y1)) ∧ (∀ y0 y1 y2, LeO (concordanceref06_Right.j1 k y0 y1 y2) (concordanceref06_Right.j1 (k + 1) y0 y1 y2))
 | 0 => ⟨fun _ _ r h => by simp [concordanceref06_Right.l0] at h, fun _ _ _ r h => by simp [concordanceref06_Right.j1] at h⟩
 | k + 1 => by
  obtain ⟨ih0, ih1⟩ := concordanceref06_Right.mono_l k
  refine ⟨?_, ?_⟩
  ·intro y0 y1
   unfold concordanceref06_Right.l0
   repeat' first
   | (with_reducible exact ih0 _ _)
   | (with_reducible exact ih1 _ _ _)
   | (with_reducible exact LeO.refl _)
   | (with_reducible exact LeO.none _)
   | (with_reducible refine LeO.ite ?_ ?_)
   | (with_reducible refine LeO.bind ?_ (fun _ => ?_))
   | exact ih0 _ _
   | exact ih1 _ _ _
   | exact LeO.none _
   | refine LeO.ite ?_ ?_
   | refine LeO.bind ?_ (fun _ => ?_)
  ·intro y0 y1 y2
   unfold concordanceref06_Right.j1
   repeat' first
   | (with_reducible exact ih0 _ _)
   | (with_reducible exact ih1 _ _ _)
   | (with_reducible exact LeO.refl _)
   | (with_reducible exact LeO.none _)
   | (with_reducible refine LeO.ite ?_ ?_)
   | (with_reducible refine LeO.bind ?_ (fun _ => ?_))
   | exact ih0 _ _
   | exact ih1 _ _ _
   | exact LeO.none _
   | refine LeO.ite ?_ ?_
   | refine LeO.bind ?_ (fun _ => ?_)
theorem concordanceref06_Right.mono : ∀ a0 k, LeO (concordanceref06_Right.f k a0) (concordanceref06_Right.f (k + 1) a0) := by
 intro a0 k
 obtain ⟨ih0, ih1⟩ := concordanceref06_Right.mono_l k
 unfold concordanceref06_Right.f
 repeat' first
   | (with_reducible exact ih0 _ _)
   | (with_reducible exact ih1 _ _ _)
   | (with_reducible exact LeO.refl _)
   | (with_reducible exact LeO.none _)
   | (with_reducible refine LeO.ite ?_ ?_)
   | (with_reducible refine LeO.bind ?_ (fun _ => ?_))
   | exact ih0 _ _
   | exact ih1 _ _ _
   | exact LeO.none _
   | refine LeO.ite ?_ ?_
   | refine LeO.bind ?_ (fun _ => ?_)
set_option maxHeartbeats 8000000 in
set_option maxRecDepth 100000 in
theorem concordanceref06_Right.calls (k : Nat) (A0 : Option Addr) (c0 : Nat) (l0 : List (S67)) (r : Bool) (w : World) (hr0 : Kd.C k67 w A0 l0.length l0) (hc0 : l0.length ≤ c0) (h : concordanceref06_Right.f k l0 = some r) :
  Calls Try.prog 25 #[.slice A0 l0.length c0] w fun e w' => e = .returned (.bool r) ∧ Drawn0 w w' := by
 have HR0 := Aside0.mk hr0
 have HC0 := Aside0.mk hc0
 clear hr0 hc0
 have H : (concordanceref06_Right.l0 k l0 0) = some r := h
 clear h
 have H' := Aside0.mk H
 clear H
 go_enter Try.func25, Try.ntmps25
 go_wp2
 repeat (go_quiet (fail); try go_wp2)
 go_loopg [3] k (fun kq v3 w' => ∃ (x3_1 : Int), v3 = .int .i64 x3_1 ∧ Aside0 (concordanceref06_Right.l0 kq l0 x3_1 = some r) ∧ Aside0 (kq ≤ k) ∧ Drawn0 w w')
 case atStart => exact ⟨(0), (by first | rfl | (simp; done) | (simp [*]; done)), H', ⟨Nat.le_refl _⟩, by repeat (first | exact Drawn0.refl _ | apply Drawn0.step)⟩
 case round =>
  clear H'
  obtain ⟨x3_1, rfl, HA, HK1, ⟨m1, rfl⟩⟩ := hrel
  cases gk with
  | zero => exact absurd HA.out (by simp [concordanceref06_Right.l0])
  | succ k1 =>
   have H := HA.out
   clear HA
   simp only [concordanceref06_Right.l0] at H
   by_cases c2 : x3_1 < (l0.length : Int)
   ·rw [if_pos c2] at H
    have c2b0 : decide (x3_1 < (l0.length : Int)) = true := decide_eq_true c2
    clear c2
    have HC3 := Aside0.mk H
    clear H
    go_upto_region 4 with (fail)
    repeat (go_quiet (fail); go_upto_region 4 with (fail))
    go_cut [41] (fun v41 wc => ∃ (kq : Nat) (x41_2 : Bool), v41 = .bool x41_2 ∧ Aside0 (concordanceref06_Right.j1 kq l0 x3_1 x41_2 = some r) ∧ Aside0 (kq ≤ k1) ∧ Drawn0 w wc)
    case first =>
     have H := HC3.out
     clear HC3
     by_cases c4 : 0 ≤ x3_1
     ·rw [if_pos c4] at H
      have c4b0 : decide (0 ≤ x3_1) = true := decide_eq_true c4
      clear c4
      (first | rw [c4b0] | (simp only [i64_w, i32_w]; rw [c4b0]) | skip)
      by_cases c5 : (((rd_T67 l0 x3_1).f1).size : Int) = 0
      ·rw [if_pos c5] at H
       have c5b0 : ((((rd_T67 l0 x3_1).f1).size : Int) == 0) = true := beq_iff_eq.mpr c5
       have c5b1 : ((((rd_T67 l0 x3_1).f1).size : Int) != 0) = false := bne_eq_false_iff_eq.mpr c5
       clear c5
       have H' := Aside0.mk H
       clear H
       have p173 : 0 ≤ (x3_1 : Int) := of_decide_eq_true (by first | (with_reducible assumption) | assumption)
       have q173 : x3_1 < (l0.length : Int) := of_decide_eq_true (by first | (with_reducible assumption) | assumption)
       obtain ⟨ad173, e173, hx173_0, hx173_1⟩ := at_T67 HR0.out x3_1 p173 q173
       cases e173
       replace p173 := eq_true p173
       replace q173 := eq_true q173
       go_wp2
       repeat (go_quiet (fail); try go_wp2)
       go_meet
       case rel => exact ⟨_, (true), (by first | rfl | (simp; done) | (simp [*]; done)), H', ⟨by have := HK1.out; first | omega | exact Nat.le_refl _⟩, by repeat (first | exact Drawn0.refl _ | apply Drawn0.step)⟩
      ·rw [if_neg c5] at H
       have c5b0 : ((((rd_T67 l0 x3_1).f1).size : Int) == 0) = false := beq_eq_false_iff_ne.mpr c5
       have c5b1 : ((((rd_T67 l0 x3_1).f1).size : Int) != 0) = true := bne_iff_ne.mpr c5
       by_cases c6 : (((rd_T67 l0 x3_1).f1).size : Int) > 65535
       ·rw [if_pos c6] at H
        have c6b0 : decide (65535 < (((rd_T67 l0 x3_1).f1).size : Int)) = true := decide_eq_true c6
        have c6b1 : decide (65535 < ((rd_T67 l0 x3_1).f1).size) = true := decide_eq_true (by omega)
        clear c6
        have H' := Aside0.mk H
        clear H
        have p173 : 0 ≤ (x3_1 : Int) := of_decide_eq_true (by first | (with_reducible assumption) | assumption)
        have q173 : x3_1 < (l0.length : Int) := of_decide_eq_true (by first | (with_reducible assumption) | assumption)
        obtain ⟨ad173, e173, hx173_0, hx173_1⟩ := at_T67 HR0.out x3_1 p173 q173
        cases e173
        replace p173 := eq_true p173
        replace q173 := eq_true q173
        have p174 : 0 ≤ (x3_1 : Int) := of_decide_eq_true (by first | (with_reducible assumption) | assumption)
        have q174 : x3_1 < (l0.length : Int) := of_decide_eq_true (by first | (with_reducible assumption) | assumption)
        obtain ⟨ad174, e174, hx174_0, hx174_1⟩ := at_T67 HR0.out x3_1 p174 q174
        obtain rfl : ad173 = ad174 := (by injection e174)
        replace p174 := eq_true p174
        replace q174 := eq_true q174
        go_wp2
        repeat (go_quiet (fail); try go_wp2)
        go_meet
        case rel => exact ⟨_, (true), (by first | rfl | (simp; done) | (simp [*]; done)), H', ⟨by have := HK1.out; first | omega | exact Nat.le_refl _⟩, by repeat (first | exact Drawn0.refl _ | apply Drawn0.step)⟩
       ·rw [if_neg c6] at H
        have c6b0 : decide (65535 < (((rd_T67 l0 x3_1).f1).size : Int)) = false := decide_eq_false c6
        have c6b1 : decide (65535 < ((rd_T67 l0 x3_1).f1).size) = false := decide_eq_false (by omega)
        clear c6
        by_cases c7 : ((rd_T67 l0 x3_1).f0) < 0
        ·rw [if_pos c7] at H
         have c7b0 : decide (((rd_T67 l0 x3_1).f0) < 0) = true := decide_eq_true c7
         clear c7
         have H' := Aside0.mk H
         clear H
         have p173 : 0 ≤ (x3_1 : Int) := of_decide_eq_true (by first | (with_reducible assumption) | assumption)
         have q173 : x3_1 < (l0.length : Int) := of_decide_eq_true (by first | (with_reducible assumption) | assumption)
         obtain ⟨ad173, e173, hx173_0, hx173_1⟩ := at_T67 HR0.out x3_1 p173 q173
         cases e173
         replace p173 := eq_true p173
         replace q173 := eq_true q173
         have p174 : 0 ≤ (x3_1 : Int) := of_decide_eq_true (by first | (with_reducible assumption) | assumption)
         have q174 : x3_1 < (l0.length : Int) := of_decide_eq_true (by first | (with_reducible assumption) | assumption)
         obtain ⟨ad174, e174, hx174_0, hx174_1⟩ := at_T67 HR0.out x3_1 p174 q174
         obtain rfl : ad173 = ad174 := (by injection e174)
         replace p174 := eq_true p174
         replace q174 := eq_true q174
         have p175 : 0 ≤ (x3_1 : Int) := of_decide_eq_true (by first | (with_reducible assumption) | assumption)
         have q175 : x3_1 < (l0.length : Int) := of_decide_eq_true (by first | (with_reducible assumption) | assumption)
         obtain ⟨ad175, e175, hx175_0, hx175_1⟩ := at_T67 HR0.out x3_1 p175 q175
         obtain rfl : ad173 = ad175 := (by injection e175)
         replace p175 := eq_true p175
         replace q175 := eq_true q175
         go_wp2
         repeat (go_quiet (fail); try go_wp2)
         go_meet
         case rel => exact ⟨_, (true), (by first | rfl | (simp; done) | (simp [*]; done)), H', ⟨by have := HK1.out; first | omega | exact Nat.le_refl _⟩, by repeat (first | exact Drawn0.refl _ | apply Drawn0.step)⟩
        ·rw [if_neg c7] at H
         have c7b0 : decide (((rd_T67 l0 x3_1).f0) < 0) = false := decide_eq_false c7
         clear c7
         have H' := Aside0.mk H
         clear H
         have p173 : 0 ≤ (x3_1 : Int) := of_decide_eq_true (by first | (with_reducible assumption) | assumption)
         have q173 : x3_1 < (l0.length : Int) := of_decide_eq_true (by first | (with_reducible assumption) | assumption)
         obtain ⟨ad173, e173, hx173_0, hx173_1⟩ := at_T67 HR0.out x3_1 p173 q173
         cases e173
         replace p173 := eq_true p173
         replace q173 := eq_true q173
         have p174 : 0 ≤ (x3_1 : Int) := of_decide_eq_true (by first | (with_reducible assumption) | assumption)
         have q174 : x3_1 < (l0.length : Int) := of_decide_eq_true (by first | (with_reducible assumption) | assumption)
         obtain ⟨ad174, e174, hx174_0, hx174_1⟩ := at_T67 HR0.out x3_1 p174 q174
         obtain rfl : ad173 = ad174 := (by injection e174)
         replace p174 := eq_true p174
         replace q174 := eq_true q174
         have p175 : 0 ≤ (x3_1 : Int) := of_decide_eq_true (by first | (with_reducible assumption) | assumption)
         have q175 : x3_1 < (l0.length : Int) := of_decide_eq_true (by first | (with_reducible assumption) | assumption)
         obtain ⟨ad175, e175, hx175_0, hx175_1⟩ := at_T67 HR0.out x3_1 p175 q175
         obtain rfl : ad173 = ad175 := (by injection e175)
         replace p175 := eq_true p175
         replace q175 := eq_true q175
         have p176 : 0 ≤ (x3_1 : Int) := of_decide_eq_true (by first | (with_reducible assumption) | assumption)
         have q176 : x3_1 < (l0.length : Int) := of_decide_eq_true (by first | (with_reducible assumption) | assumption)
         obtain ⟨ad176, e176, hx176_0, hx176_1⟩ := at_T67 HR0.out x3_1 p176 q176
         obtain rfl : ad173 = ad176 := (by injection e176)
         replace p176 := eq_true p176
         replace q176 := eq_true q176
         go_wp2
         repeat (go_quiet (fail); try go_wp2)
         go_meet
         case rel => exact ⟨_, (decide (((rd_T67 l0 x3_1).f0) > 65535)), (by first | rfl | (simp; done) | (simp [*]; done)), H', ⟨by have := HK1.out; first | omega | exact Nat.le_refl _⟩, by repeat (first | exact Drawn0.refl _ | apply Drawn0.step)⟩
     ·rw [if_neg c4] at H
      exact absurd H (by simp)
    case rest =>
     clear HC3
     try clear p1
     try clear q1
     try clear hx1
     try clear c2
     try clear c2b0
     try clear p2
     try clear c4
     try clear c4b0
     try clear c5
     try clear c5b0
     try clear c5b1
     try clear c6
     try clear c6b0
     try clear c6b1
     try clear c7
     try clear c7b0
     try clear hx173_0
     try clear hx173_1
     try clear hx174_0
     try clear hx174_1
     try clear hx175_0
     try clear hx175_1
     try clear hx176_0
     try clear hx176_1
     try clear p173
     try clear p174
     try clear p175
     try clear p176
     try clear q173
     try clear q174
     try clear q175
     try clear q176
     obtain ⟨kq, x41_2, rfl, HA, HJ2, ⟨mc2, rfl⟩⟩ := hcut
     cases kq with
     | zero => exact absurd HA.out (by simp [concordanceref06_Right.j1])
     | succ kj2 =>
      have H := HA.out
      clear HA
      simp only [concordanceref06_Right.j1] at H
      by_cases c8 : x41_2 = true
      ·subst c8
       have H1 : (some false) = some r := by rw [if_pos rfl] at H; exact H
       clear H
       have H := H1
       clear H1
       obtain rfl := Option.some.inj H
       go_wp2
       repeat (go_quiet (fail); try go_wp2)
       go_ret
       exact ⟨by first | rfl | (simp; done) | (simp [*]; done), by repeat (first | exact Drawn0.refl _ | apply Drawn0.step)⟩
      ·replace c8 := Bool.eq_false_iff.mpr c8
       subst c8
       have H1 : (if x3_1 > 0 then (if 0 ≤ x3_1 then (if x3_1 < (l0.length : Int) then (if 0 ≤ (wrap64 (x3_1 - 1)) then (if (wrap64 (x3_1 - 1)) < (l0.length : Int) then (if ((rd_T67 l0 x3_1).f0) < (wrap64 (((rd_T67 l0 (wrap64 (x3_1 - 1))).f0) + (((rd_T67 l0 (wrap64 (x3_1 - 1))).f1).size : Int))) then (some false) else (concordanceref06_Right.l0 kj2 l0 (wrap64 (x3_1 + 1)))) else (none)) else (none)) else (none)) else (none)) else (concordanceref06_Right.l0 kj2 l0 (wrap64 (x3_1 + 1)))) = some r := by rw [if_neg (show ¬ (false = true) by decide)] at H; exact H
       clear H
       have H := H1
       clear H1
       by_cases c9 : x3_1 > 0
       ·rw [if_pos c9] at H
        have c9b0 : decide (0 < x3_1) = true := decide_eq_true c9
        clear c9
        by_cases c10 : 0 ≤ x3_1
        ·rw [if_pos c10] at H
         have c10b0 : decide (0 ≤ x3_1) = true := decide_eq_true c10
         clear c10
         by_cases c11 : x3_1 < (l0.length : Int)
         ·rw [if_pos c11] at H
          have c11b0 : decide (x3_1 < (l0.length : Int)) = true := decide_eq_true c11
          clear c11
          obtain ⟨ji12, hji12⟩ : ∃ j_ : Int, (wrap64 (x3_1 - 1)) = j_ := ⟨_, rfl⟩
          replace H : (if 0 ≤ (ji12) then (if (ji12) < (l0.length : Int) then (if ((rd_T67 l0 x3_1).f0) < (wrap64 (((rd_T67 l0 (ji12)).f0) + (((rd_T67 l0 (ji12)).f1).size : Int))) then (some false) else (concordanceref06_Right.l0 kj2 l0 (wrap64 (x3_1 + 1)))) else (none)) else (none)) = some r := by first | (rw [hji12] at H; exact H) | (simp only [hji12] at H ⊢; exact H)
          have hji12w : (IntKind.i64.wrap (x3_1 - 1)) = ji12 := (i64_w _).trans hji12
          by_cases c13 : 0 ≤ (ji12)
          ·rw [if_pos c13] at H
           have c13b0 : decide (0 ≤ (ji12)) = true := decide_eq_true c13
           clear c13
           by_cases c14 : (ji12) < (l0.length : Int)
           ·rw [if_pos c14] at H
            have c14b0 : decide ((ji12) < (l0.length : Int)) = true := decide_eq_true c14
            clear c14
            by_cases c15 : ((rd_T67 l0 x3_1).f0) < (wrap64 (((rd_T67 l0 (ji12)).f0) + (((rd_T67 l0 (ji12)).f1).size : Int)))
            ·rw [if_pos c15] at H
             have c15b0 : decide (((rd_T67 l0 x3_1).f0) < (wrap64 (((rd_T67 l0 (ji12)).f0) + (((rd_T67 l0 (ji12)).f1).size : Int)))) = true := decide_eq_true c15
             clear c15
             obtain rfl := Option.some.inj H
             have p177 : 0 ≤ (x3_1 : Int) := of_decide_eq_true (by first | (with_reducible assumption) | assumption)
             have q177 : x3_1 < (l0.length : Int) := of_decide_eq_true (by first | (with_reducible assumption) | assumption)
             obtain ⟨ad177, e177, hx177_0, hx177_1⟩ := at_T67 HR0.out x3_1 p177 q177
             cases e177
             replace p177 := eq_true p177
             replace q177 := eq_true q177
             have p178 : 0 ≤ ((ji12) : Int) := of_decide_eq_true (by first | (with_reducible assumption) | assumption)
             have q178 : (ji12) < (l0.length : Int) := of_decide_eq_true (by first | (with_reducible assumption) | assumption)
             obtain ⟨ad178, e178, hx178_0, hx178_1⟩ := at_T67 HR0.out (ji12) p178 q178
             obtain rfl : ad177 = ad178 := (by injection e178)
             replace p178 := eq_true p178
             replace q178 := eq_true q178
             have p179 : 0 ≤ ((ji12) : Int) := of_decide_eq_true (by first | (with_reducible assumption) | assumption)
             have q179 : (ji12) < (l0.length : Int) := of_decide_eq_true (by first | (with_reducible assumption) | assumption)
             obtain ⟨ad179, e179, hx179_0, hx179_1⟩ := at_T67 HR0.out (ji12) p179 q179
             obtain rfl : ad177 = ad179 := (by injection e179)
             replace p179 := eq_true p179
             replace q179 := eq_true q179
             go_wp2
             repeat (go_quiet (fail); try go_wp2)
             go_ret
             exact ⟨by first | rfl | (simp; done) | (simp only [← hji12] <;> (first | rfl | simp)) | (simp [*]; done), by repeat (first | exact Drawn0.refl _ | apply Drawn0.step)⟩
            ·rw [if_neg c15] at H
             have c15b0 : decide (((rd_T67 l0 x3_1).f0) < (wrap64 (((rd_T67 l0 (ji12)).f0) + (((rd_T67 l0 (ji12)).f1).size : Int)))) = false := decide_eq_false c15
             clear c15
             have H' := Aside0.mk H
             clear H
             have p177 : 0 ≤ (x3_1 : Int) := of_decide_eq_true (by first | (with_reducible assumption) | assumption)
             have q177 : x3_1 < (l0.length : Int) := of_decide_eq_true (by first | (with_reducible assumption) | assumption)
             obtain ⟨ad177, e177, hx177_0, hx177_1⟩ := at_T67 HR0.out x3_1 p177 q177
             cases e177
             replace p177 := eq_true p177
             replace q177 := eq_true q177
             have p178 : 0 ≤ ((ji12) : Int) := of_decide_eq_true (by first | (with_reducible assumption) | assumption)
             have q178 : (ji12) < (l0.length : Int) := of_decide_eq_true (by first | (with_reducible assumption) | assumption)
             obtain ⟨ad178, e178, hx178_0, hx178_1⟩ := at_T67 HR0.out (ji12) p178 q178
             obtain rfl : ad177 = ad178 := (by injection e178)
             replace p178 := eq_true p178
             replace q178 := eq_true q178
             have p179 : 0 ≤ ((ji12) : Int) := of_decide_eq_true (by first | (with_reducible assumption) | assumption)
             have q179 : (ji12) < (l0.length : Int) := of_decide_eq_true (by first | (with_reducible assumption) | assumption)
             obtain ⟨ad179, e179, hx179_0, hx179_1⟩ := at_T67 HR0.out (ji12) p179 q179
             obtain rfl : ad177 = ad179 := (by injection e179)
             replace p179 := eq_true p179
             replace q179 := eq_true q179
             go_wp2
             repeat (go_quiet (fail); try go_wp2)
             go_roundg kj2
             case measure => have := HK1.out; have := HJ2.out; omega
             case rel => exact ⟨(wrap64 (x3_1 + 1)), (by first | rfl | (simp; done) | (simp [*]; done)), H', ⟨by have := HK1.out; have := HJ2.out; omega⟩, by repeat (first | exact Drawn0.refl _ | apply Drawn0.step)⟩
           ·rw [if_neg c14] at H
            exact absurd H (by simp)
          ·rw [if_neg c13] at H
           exact absurd H (by simp)
         ·rw [if_neg c11] at H
          exact absurd H (by simp)
        ·rw [if_neg c10] at H
         exact absurd H (by simp)
       ·rw [if_neg c9] at H
        have c9b0 : decide (0 < x3_1) = false := decide_eq_false c9
        clear c9
        have H' := Aside0.mk H
        clear H
        go_wp2
        repeat (go_quiet (fail); try go_wp2)
        go_roundg kj2
        case measure => have := HK1.out; have := HJ2.out; omega
        case rel => exact ⟨(wrap64 (x3_1 + 1)), (by first | rfl | (simp; done) | (simp [*]; done)), H', ⟨by have := HK1.out; have := HJ2.out; omega⟩, by repeat (first | exact Drawn0.refl _ | apply Drawn0.step)⟩
   ·rw [if_neg c2] at H
    have c2b0 : decide (x3_1 < (l0.length : Int)) = false := decide_eq_false c2
    clear c2
    obtain rfl := Option.some.inj H
    go_wp2
    repeat (go_quiet (fail); try go_wp2)
    go_ret
    exact ⟨by first | rfl | (simp; done) | (simp [*]; done), by repeat (first | exact Drawn0.refl _ | apply Drawn0.step)⟩

/-! ### concordanceref06_Get: function 32 -/
mutual
def concordanceref06_Get.l0 : Nat → ByteArray → Int → List (S67) → Int → Int → Option ((List (S67)) × Int × Int)
 | 0, _, _, _, _, _ => none
 | k + 1, x0, x5, x6, x7, x8 => if x8 < x5 then (if (wrap64 (x7 + 4)) > (x0.size : Int) then (concordanceref06_Get.j1 k x0 x5 x6 x7 x8 true) else (if 0 ≤ (wrap64 (x7 + 2)) then (if (wrap64 (x7 + 2)) ≤ (wrap64 (x7 + 4)) then (if (wrap64 (x7 + 4)) ≤ (x0.size : Int) then ((concordanceref02_Get.f k (x0.extract ((wrap64 (x7 + 2)) : Int).toNat ((wrap64 (x7 + 4)) : Int).toNat)).bind fun t182 => (concordanceref06_Get.j1 k x0 x5 x6 x7 x8 (decide ((wrap64 ((wrap64 (x7 + 4)) + t182)) > (x0.size : Int))))) else (none)) else (none)) else (none))) else ((concordanceref06_Right.f k x6).bind fun t181 => (if t181 = true then (some (x6, x7, 0)) else (some (([] : List (S67)), 0, 2))))
def concordanceref06_Get.j1 : Nat → ByteArray → Int → List (S67) → Int → Int → Bool → Option ((List (S67)) × Int × Int)
 | 0, _, _, _, _, _, _ => none
 | k + 1, x0, x5, x6, x7, x8, x40 => if x40 = true then (some (([] : List (S67)), 0, 3)) else (if 0 ≤ (wrap64 (x7 + 2)) then (if (wrap64 (x7 + 2)) ≤ (wrap64 (x7 + 4)) then (if (wrap64 (x7 + 4)) ≤ (x0.size : Int) then ((concordanceref02_Get.f k (x0.extract ((wrap64 (x7 + 2)) : Int).toNat ((wrap64 (x7 + 4)) : Int).toNat)).bind fun t183 => (if 0 ≤ x7 then (if x7 ≤ (wrap64 (x7 + 2)) then (if (wrap64 (x7 + 2)) ≤ (x0.size : Int) then ((concordanceref02_Get.f k (x0.extract (x7 : Int).toNat ((wrap64 (x7 + 2)) : Int).toNat)).bind fun t184 => (if 0 ≤ (wrap64 (x7 + 4)) then (if (wrap64 (x7 + 4)) ≤ (wrap64 ((wrap64 (x7 + 4)) + t183)) then (if (wrap64 ((wrap64 (x7 + 4)) + t183)) ≤ (x0.size : Int) then (if x6.length < 5864062014805 then (concordanceref06_Get.l0 k x0 x5 (x6 ++ [(⟨t184, x0.extract ((wrap64 (x7 + 4)) : Int).toNat ((wrap64 ((wrap64 (x7 + 4)) + t183)) : Int).toNat⟩ : S67)]) (wrap64 (x7 + (wrap64 (4 + t183)))) (wrap64 (x8 + 1))) else (none)) else (none)) else (none)) else (none))) else (none)) else (none)) else (none))) else (none)) else (none)) else (none))
end
def concordanceref06_Get.f (k : Nat) (a0 : ByteArray) : Option ((List (S67)) × Int × Int) := if (a0.size : Int) < 2 then (some (([] : List (S67)), 0, 3)) else (if 2 ≤ (a0.size : Int) then ((concordanceref02_Get.f k (a0.extract 0 2)).bind fun t180 => (concordanceref06_Get.l0 k a0 t180 ([] : List (S67)) 2 0)) else (none))
theorem concordanceref06_Get.mono_l : ∀ k, (∀ y0 y1 y2 y3 y4, LeO (concordanceref06_Get.l0 k y0 y1 y2 y3 y4) (concordanceref06_Get.l0 (k + 1) y0 y1 y2 y3 y4)) ∧ (∀ y0 y1 y2 y3 y4 y5, LeO (concordanceref06_Get.j1 k y0 y1 y2 y3 y4 y5) (concordanceref06_Get.j1 (k + 1) y0 y1 y2 y3 y4 y5))
 | 0 => ⟨fun _ _ _ _ _ r h => by simp [concordanceref06_Get.l0] at h, fun _ _ _ _ _ _ r h => by simp [concordanceref06_Get.j1] at h⟩
 | k + 1 => by
  obtain ⟨ih0, ih1⟩ := concordanceref06_Get.mono_l k
  refine ⟨?_, ?_⟩
  ·intro y0 y1 y2 y3 y4
   unfold concordanceref06_Get.l0
   repeat' first
   | (with_reducible exact ih0 _ _ _ _ _)
   | (with_reducible exact ih1 _ _ _ _ _ _)
   | (with_reducible exact concordanceref02_Get.mono _ _)
   | (with_reducible exact concordanceref06_Right.mono _ _)
   | (with_reducible exact LeO.refl _)
   | (with_reducible exact LeO.none _)
   | (with_reducible refine LeO.ite ?_ ?_)
   | (with_reducible refine LeO.bind ?_ (fun _ => ?_))
   | exact ih0 _ _ _ _ _
   | exact ih1 _ _ _ _ _ _
   | exact concordanceref02_Get.mono _ _
   | exact concordanceref06_Right.mono _ _
   | exact LeO.none _
   | refine LeO.ite ?_ ?_
   | refine LeO.bind ?_ (fun _ => ?_)
  ·intro y0 y1 y2 y3 y4 y5
   unfold concordanceref06_Get.j1
   repeat' first
   | (with_reducible exact ih0 _ _ _ _ _)
   | (with_reducible exact ih1 _ _ _ _ _ _)
   | (with_reducible exact concordanceref02_Get.mono _ _)
   | (with_reducible exact concordanceref06_Right.mono _ _)
   | (with_reducible exact LeO.refl _)
   | (with_reducible exact LeO.none _)
   | (with_reducible refine LeO.ite ?_ ?_)
   | (with_reducible refine LeO.bind ?_ (fun _ => ?_))
   | exact ih0 _ _ _ _ _
   | exact ih1 _ _ _ _ _ _
   | exact concordanceref02_Get.mono _ _
   | exact concordanceref06_Right.mono _ _
   | exact LeO.none _
   | refine LeO.ite ?_ ?_
   | refine LeO.bind ?_ (fun _ => ?_)
theorem concordanceref06_Get.mono : ∀ a0 k, LeO (concordanceref06_Get.f k a0) (concordanceref06_Get.f (k + 1) a0) := by
 intro a0 k
 obtain ⟨ih0, ih1⟩ := concordanceref06_Get.mono_l k
 unfold concordanceref06_Get.f
 repeat' first
   | (with_reducible exact ih0 _ _ _ _ _)
   | (with_reducible exact ih1 _ _ _ _ _ _)
   | (with_reducible exact concordanceref02_Get.mono _ _)
   | (with_reducible exact concordanceref06_Right.mono _ _)
   | (with_reducible exact LeO.refl _)
   | (with_reducible exact LeO.none _)
   | (with_reducible refine LeO.ite ?_ ?_)
   | (with_reducible refine LeO.bind ?_ (fun _ => ?_))
   | exact ih0 _ _ _ _ _
   | exact ih1 _ _ _ _ _ _
   | exact concordanceref02_Get.mono _ _
   | exact concordanceref06_Right.mono _ _
   | exact LeO.none _
   | refine LeO.ite ?_ ?_
   | refine LeO.bind ?_ (fun _ => ?_)
def concordanceref06_Get.T12 : Bool × List (List Nat × List Nat) := (true, [([], []), ([], []), ([], []), ([], []), ([3], [3]), ([1, 2, 4], [1, 2, 4]), ([5], [5]), ([], []), ([], []), ([8], [8]), ([], []), ([10], [10]), ([], []), ([11, 12], [11, 12]), ([7, 9, 13], [7, 9, 13]), ([6, 14], [6, 14]), ([15], [15]), ([0, 16, 6], [0, 16]), ([17, 17, 0, 1, 2, 3, 4, 5, 6, 7, 8, 9, 10, 11, 12, 13, 14, 15, 16, 17], [0, 17])])
def concordanceref06_Get.B12 : List Nat := [0, 0, 0, 0, 8, 30, 62, 0, 0, 256, 0, 1024, 0, 7168, 16256, 32766, 65534, 131071, 262143]
theorem concordanceref06_Get.tab12 : rtab .any (opsOf Try.f32 12) = concordanceref06_Get.T12 := by kernel_rfl
theorem concordanceref06_Get.bits12 : waitsOk concordanceref06_Get.T12.2 concordanceref06_Get.B12 = true := by kernel_rfl
set_option maxHeartbeats 8000000 in
set_option maxRecDepth 100000 in
theorem concordanceref06_Get.calls (k : Nat) (a0 : ByteArray) (r1 : List (S67)) (r2 : Int) (r3 : Int) (w : World) (h : concordanceref06_Get.f k a0 = some (r1, r2, r3)) :
  Calls Try.prog 32 #[.string a0] w fun e w' => ∃ v0_ : Value, e = .returned (.tuple #[v0_, .int .i64 r2, .int .i64 r3]) ∧ Kd.R k67 67 w' w.heap.size (fun _ => True) v0_ r1 ∧ Below w.heap.size w w' := by
 have hu67 := Try.underlying67
 have HB := Aside0.mk (Below.refl w.heap.size w)
 have H : (if (a0.size : Int) < 2 then (some (([] : List (S67)), 0, 3)) else (if 2 ≤ (a0.size : Int) then ((concordanceref02_Get.f k (a0.extract 0 2)).bind fun t180 => (concordanceref06_Get.l0 k a0 t180 ([] : List (S67)) 2 0)) else (none))) = some (r1, r2, r3) := h
 clear h
 by_cases c2 : (a0.size : Int) < 2
 ·rw [if_pos c2] at H
  have c2b0 : decide ((a0.size : Int) < 2) = true := decide_eq_true c2
  have c2b1 : decide (a0.size < 2) = true := decide_eq_true (by omega)
  clear c2
  simp only [Option.some.injEq, Prod.mk.injEq] at H
  obtain ⟨rfl, rfl, rfl⟩ := H
  go_enter Try.func32, Try.ntmps32
  go_wp2
  go_ret3
  exact ⟨_, by first | rfl | (simp [errW_none, errW_some] <;> rfl) | (simp [*, errW_none, errW_some] <;> rfl), by first | exact Kd.R_nil _ _ _ _ _ | exact Kd.N_nil _ _ _ _ _ | exact Kd.V_nil _ _ _ _ _ | exact Kd.Q_nil _ _ _ _ _ | exact Kd.S_nil _ _ _ _ _, by repeat (first | (with_reducible first | exact HB.out | apply below_alloc | apply pw_below_drewN | apply below_drew1) | exact HB.out)⟩
 ·rw [if_neg c2] at H
  have c2b0 : decide ((a0.size : Int) < 2) = false := decide_eq_false c2
  have c2b1 : decide (a0.size < 2) = false := decide_eq_false (by omega)
  clear c2
  by_cases c3 : 2 ≤ (a0.size : Int)
  ·rw [if_pos c3] at H
   have c3b0 := eq_true c3
   have c3b1 : decide (2 ≤ (a0.size : Int)) = true := decide_eq_true c3
   clear c3
   replace H := Option.bind_eq_some_iff.mp H
   obtain ⟨t180, A40, H⟩ := H
   replace H : (concordanceref06_Get.l0 k a0 t180 ([] : List (S67)) 2 0) = some (r1, r2, r3) := H
   have A4 := Aside0.mk A40
   clear A40
   have H' := Aside0.mk H
   clear H
   go_enter Try.func32, Try.ntmps32
   go_wp2_with (first | ((with_reducible refine gate_callee (f := 41) rfl ?_); refine goesL_ (some 15) rfl rfl Try.func41 (by kernel_rfl) rfl #[.string (a0.extract 0 2)] rfl (by (try simp only [List.map_toArray, List.map_cons, List.map_nil]); first | done | rfl | (simp only [List.length_drop, List.length_take]; rfl)) ?_; (with_reducible refine (concordanceref02_Get.calls k (a0.extract 0 2) t180 _ A4.out).mono ?_); rintro e w' ⟨rfl, ⟨nd, rfl⟩⟩; refine ⟨_, rfl, ?_⟩))
   go_loopg [6, 7, 8] k (fun kq v6 v7 v8 w' => ∃ (x6_1 : List (S67)) (x7_1 : Int) (x8_1 : Int), v7 = .int .i64 x7_1 ∧ v8 = .int .i64 x8_1 ∧ Aside0 (concordanceref06_Get.l0 kq a0 t180 x6_1 x7_1 x8_1 = some (r1, r2, r3)) ∧ Aside0 (kq ≤ k) ∧ Aside0 (Kd.R k67 67 w' w.heap.size (fun _ => True) v6 x6_1) ∧ Aside0 (Below w.heap.size w w'))
   case atStart => exact ⟨(([] : List (S67))), (2), (0), (by first | rfl | (simp; done) | (simp [*]; done)), (by first | rfl | (simp; done) | (simp [*]; done)), H', ⟨Nat.le_refl _⟩, ⟨by first | exact Kd.R_nil _ _ _ _ _ | exact Kd.N_nil _ _ _ _ _ | exact Kd.V_nil _ _ _ _ _ | exact Kd.Q_nil _ _ _ _ _ | exact Kd.S_nil _ _ _ _ _⟩, ⟨by repeat (first | (with_reducible first | exact HB.out | apply below_alloc | apply pw_below_drewN | apply below_drew1) | exact HB.out)⟩⟩
   case round =>
    clear H'
    try clear c2
    try clear c2b0
    try clear c2b1
    try clear p2
    try clear c3
    try clear c3b0
    try clear c3b1
    try clear c4
    obtain ⟨x6_1, x7_1, x8_1, rfl, rfl, HA, HK1, HO_6, HB⟩ := hrel
    cases gk with
    | zero => exact absurd HA.out (by simp [concordanceref06_Get.l0])
    | succ k1 =>
     have H := HA.out
     clear HA
     simp only [concordanceref06_Get.l0] at H
     by_cases c5 : x8_1 < t180
     ·rw [if_pos c5] at H
      have c5b0 : decide (x8_1 < t180) = true := decide_eq_true c5
      clear c5
      have HC6 := Aside0.mk H
      clear H
      go_upto_region 9 with (fail)
      go_cut [40] (fun v40 wc => ∃ (kq : Nat) (x40_5 : Bool), v40 = .bool x40_5 ∧ Aside0 (concordanceref06_Get.j1 kq a0 t180 x6_1 x7_1 x8_1 x40_5 = some (r1, r2, r3)) ∧ Aside0 (kq ≤ k1) ∧ Aside0 (Kd.R k67 67 wc w.heap.size (fun _ => True) u6 x6_1) ∧ Aside0 (Below w.heap.size w wc))
      case first =>
       have H := HC6.out
       clear HC6
       by_cases c7 : (wrap64 (x7_1 + 4)) > (a0.size : Int)
       ·rw [if_pos c7] at H
        have c7b0 : decide ((a0.size : Int) < (wrap64 (x7_1 + 4))) = true := decide_eq_true c7
        clear c7
        (first | rw [c7b0] | (simp only [i64_w, i32_w]; rw [c7b0]) | skip)
        have H' := Aside0.mk H
        clear H
        go_wp2
        go_meet
        case rel => exact ⟨_, (true), (by first | rfl | (simp; done) | (simp [*]; done)), H', ⟨by have := HK1.out; first | omega | exact Nat.le_refl _⟩, ⟨by (with_reducible repeat (first | apply Kd.R_alloc | apply Kd.R_drewN | apply Kd.R_drew)); exact HO_6.out⟩, ⟨by repeat (first | (with_reducible first | exact HB.out | apply below_alloc | apply pw_below_drewN | apply below_drew1) | exact HB.out)⟩⟩
       ·rw [if_neg c7] at H
        have c7b0 : decide ((a0.size : Int) < (wrap64 (x7_1 + 4))) = false := decide_eq_false c7
        clear c7
        (first | rw [c7b0] | (simp only [i64_w, i32_w]; rw [c7b0]) | skip)
        obtain ⟨ji8, hji8⟩ : ∃ j_ : Int, (wrap64 (x7_1 + 2)) = j_ := ⟨_, rfl⟩
        replace H : (if 0 ≤ (ji8) then (if (ji8) ≤ (wrap64 (x7_1 + 4)) then (if (wrap64 (x7_1 + 4)) ≤ (a0.size : Int) then ((concordanceref02_Get.f k1 (a0.extract ((ji8) : Int).toNat ((wrap64 (x7_1 + 4)) : Int).toNat)).bind fun t182 => (concordanceref06_Get.j1 k1 a0 t180 x6_1 x7_1 x8_1 (decide ((wrap64 ((wrap64 (x7_1 + 4)) + t182)) > (a0.size : Int))))) else (none)) else (none)) else (none)) = some (r1, r2, r3) := by first | (rw [hji8] at H; exact H) | (simp only [hji8] at H ⊢; exact H)
        have hji8w : (IntKind.i64.wrap (x7_1 + 2)) = ji8 := (i64_w _).trans hji8
        by_cases c9 : 0 ≤ (ji8)
        ·rw [if_pos c9] at H
         have c9b0 := eq_true c9
         have c9b1 : decide (0 ≤ (ji8)) = true := decide_eq_true c9
         clear c9
         by_cases c10 : (ji8) ≤ (wrap64 (x7_1 + 4))
         ·rw [if_pos c10] at H
          have c10b0 := eq_true c10
          have c10b1 : decide ((ji8) ≤ (wrap64 (x7_1 + 4))) = true := decide_eq_true c10
          by_cases c11 : (wrap64 (x7_1 + 4)) ≤ (a0.size : Int)
          ·rw [if_pos c11] at H
           have c11b0 := eq_true c11
           have c11b1 : decide ((wrap64 (x7_1 + 4)) ≤ (a0.size : Int)) = true := decide_eq_true c11
           replace H := Option.bind_eq_some_iff.mp H
           obtain ⟨t182, A120, H⟩ := H
           replace H : (concordanceref06_Get.j1 k1 a0 t180 x6_1 x7_1 x8_1 (decide ((wrap64 ((wrap64 (x7_1 + 4)) + t182)) > (a0.size : Int)))) = some (r1, r2, r3) := H
           have A12 := Aside0.mk A120
           clear A120
           have H' := Aside0.mk H
           clear H
           go_wp2_with (first | (go_at_call 41; (with_reducible refine (concordanceref02_Get.calls k1 (a0.extract ((ji8) : Int).toNat ((wrap64 (x7_1 + 4)) : Int).toNat) t182 _ A12.out).mono ?_); rintro e w' ⟨rfl, ⟨nd, rfl⟩⟩))
           go_meet
           case rel => exact ⟨_, (decide ((wrap64 ((wrap64 (x7_1 + 4)) + t182)) > (a0.size : Int))), (by first | rfl | (simp; done) | (simp [*]; done)), H', ⟨by have := HK1.out; first | omega | exact Nat.le_refl _⟩, ⟨by (with_reducible repeat (first | apply Kd.R_alloc | apply Kd.R_drewN | apply Kd.R_drew)); exact HO_6.out⟩, ⟨by repeat (first | (with_reducible first | exact HB.out | apply below_alloc | apply pw_below_drewN | apply below_drew1) | exact HB.out)⟩⟩
          ·rw [if_neg c11] at H
           exact absurd H (by simp)
         ·rw [if_neg c10] at H
          exact absurd H (by simp)
        ·rw [if_neg c9] at H
         exact absurd H (by simp)
      case rest =>
       clear HC6
       try clear c1
       try clear c2
       try clear c2b0
       try clear c2b1
       try clear p2
       try clear c3
       try clear c3b0
       try clear c3b1
       try clear c4
       try clear c5
       try clear c5b0
       try clear p6
       try clear c7
       try clear c7b0
       try clear c9
       try clear c9b0
       try clear c9b1
       try clear c10
       try clear c10b0
       try clear c10b1
       try clear c11
       try clear c11b0
       try clear c11b1
       try clear p2
       obtain ⟨kq, x40_5, rfl, HA, HJ5, HO_6, HB⟩ := hcut
       cases kq with
       | zero => exact absurd HA.out (by simp [concordanceref06_Get.j1])
       | succ kj5 =>
        have H := HA.out
        clear HA
        simp only [concordanceref06_Get.j1] at H
        by_cases c13 : x40_5 = true
        ·subst c13
         have H1 : (some (([] : List (S67)), 0, 3)) = some (r1, r2, r3) := by rw [if_pos rfl] at H; exact H
         clear H
         have H := H1
         clear H1
         simp only [Option.some.injEq, Prod.mk.injEq] at H
         obtain ⟨rfl, rfl, rfl⟩ := H
         go_wp2
         go_ret3
         exact ⟨_, by first | rfl | (simp [errW_none, errW_some] <;> rfl) | (simp [*, errW_none, errW_some] <;> rfl), by first | exact Kd.R_nil _ _ _ _ _ | exact Kd.N_nil _ _ _ _ _ | exact Kd.V_nil _ _ _ _ _ | exact Kd.Q_nil _ _ _ _ _ | exact Kd.S_nil _ _ _ _ _, by repeat (first | (with_reducible first | exact HB.out | apply below_alloc | apply pw_below_drewN | apply below_drew1) | exact HB.out)⟩
        ·replace c13 := Bool.eq_false_iff.mpr c13
         subst c13
         have H1 : (if 0 ≤ (wrap64 (x7_1 + 2)) then (if (wrap64 (x7_1 + 2)) ≤ (wrap64 (x7_1 + 4)) then (if (wrap64 (x7_1 + 4)) ≤ (a0.size : Int) then ((concordanceref02_Get.f kj5 (a0.extract ((wrap64 (x7_1 + 2)) : Int).toNat ((wrap64 (x7_1 + 4)) : Int).toNat)).bind fun t183 => (if 0 ≤ x7_1 then (if x7_1 ≤ (wrap64 (x7_1 + 2)) then (if (wrap64 (x7_1 + 2)) ≤ (a0.size : Int) then ((concordanceref02_Get.f kj5 (a0.extract (x7_1 : Int).toNat ((wrap64 (x7_1 + 2)) : Int).toNat)).bind fun t184 => (if 0 ≤ (wrap64 (x7_1 + 4)) then (if (wrap64 (x7_1 + 4)) ≤ (wrap64 ((wrap64 (x7_1 + 4)) + t183)) then (if (wrap64 ((wrap64 (x7_1 + 4)) + t183)) ≤ (a0.size : Int) then (if x6_1.length < 5864062014805 then (concordanceref06_Get.l0 kj5 a0 t180 (x6_1 ++ [(⟨t184, a0.extract ((wrap64 (x7_1 + 4)) : Int).toNat ((wrap64 ((wrap64 (x7_1 + 4)) + t183)) : Int).toNat⟩ : S67)]) (wrap64 (x7_1 + (wrap64 (4 + t183)))) (wrap64 (x8_1 + 1))) else (none)) else (none)) else (none)) else (none))) else (none)) else (none)) else (none))) else (none)) else (none)) else (none)) = some (r1, r2, r3) := by rw [if_neg (show ¬ (false = true) by decide)] at H; exact H
         clear H
         have H := H1
         clear H1
         obtain ⟨ji14, hji14⟩ : ∃ j_ : Int, (wrap64 (x7_1 + 2)) = j_ := ⟨_, rfl⟩
         replace H : (if 0 ≤ (ji14) then (if (ji14) ≤ (wrap64 (x7_1 + 4)) then (if (wrap64 (x7_1 + 4)) ≤ (a0.size : Int) then ((concordanceref02_Get.f kj5 (a0.extract ((ji14) : Int).toNat ((wrap64 (x7_1 + 4)) : Int).toNat)).bind fun t183 => (if 0 ≤ x7_1 then (if x7_1 ≤ (ji14) then (if (ji14) ≤ (a0.size : Int) then ((concordanceref02_Get.f kj5 (a0.extract (x7_1 : Int).toNat ((ji14) : Int).toNat)).bind fun t184 => (if 0 ≤ (wrap64 (x7_1 + 4)) then (if (wrap64 (x7_1 + 4)) ≤ (wrap64 ((wrap64 (x7_1 + 4)) + t183)) then (if (wrap64 ((wrap64 (x7_1 + 4)) + t183)) ≤ (a0.size : Int) then (if x6_1.length < 5864062014805 then (concordanceref06_Get.l0 kj5 a0 t180 (x6_1 ++ [(⟨t184, a0.extract ((wrap64 (x7_1 + 4)) : Int).toNat ((wrap64 ((wrap64 (x7_1 + 4)) + t183)) : Int).toNat⟩ : S67)]) (wrap64 (x7_1 + (wrap64 (4 + t183)))) (wrap64 (x8_1 + 1))) else (none)) else (none)) else (none)) else (none))) else (none)) else (none)) else (none))) else (none)) else (none)) else (none)) = some (r1, r2, r3) := by first | (rw [hji14] at H; exact H) | (simp only [hji14] at H ⊢; exact H)
         have hji14w : (IntKind.i64.wrap (x7_1 + 2)) = ji14 := (i64_w _).trans hji14
         by_cases c15 : 0 ≤ (ji14)
         ·rw [if_pos c15] at H
          have c15b0 := eq_true c15
          have c15b1 : decide (0 ≤ (ji14)) = true := decide_eq_true c15
          clear c15
          by_cases c16 : (ji14) ≤ (wrap64 (x7_1 + 4))
          ·rw [if_pos c16] at H
           have c16b0 := eq_true c16
           have c16b1 : decide ((ji14) ≤ (wrap64 (x7_1 + 4))) = true := decide_eq_true c16
           by_cases c17 : (wrap64 (x7_1 + 4)) ≤ (a0.size : Int)
           ·rw [if_pos c17] at H
            have c17b0 := eq_true c17
            have c17b1 : decide ((wrap64 (x7_1 + 4)) ≤ (a0.size : Int)) = true := decide_eq_true c17
            replace H := Option.bind_eq_some_iff.mp H
            obtain ⟨t183, A180, H⟩ := H
            replace H : (if 0 ≤ x7_1 then (if x7_1 ≤ (ji14) then (if (ji14) ≤ (a0.size : Int) then ((concordanceref02_Get.f kj5 (a0.extract (x7_1 : Int).toNat ((ji14) : Int).toNat)).bind fun t184 => (if 0 ≤ (wrap64 (x7_1 + 4)) then (if (wrap64 (x7_1 + 4)) ≤ (wrap64 ((wrap64 (x7_1 + 4)) + t183)) then (if (wrap64 ((wrap64 (x7_1 + 4)) + t183)) ≤ (a0.size : Int) then (if x6_1.length < 5864062014805 then (concordanceref06_Get.l0 kj5 a0 t180 (x6_1 ++ [(⟨t184, a0.extract ((wrap64 (x7_1 + 4)) : Int).toNat ((wrap64 ((wrap64 (x7_1 + 4)) + t183)) : Int).toNat⟩ : S67)]) (wrap64 (x7_1 + (wrap64 (4 + t183)))) (wrap64 (x8_1 + 1))) else (none)) else (none)) else (none)) else (none))) else (none)) else (none)) else (none)) = some (r1, r2, r3) := H
            have A18 := Aside0.mk A180
            clear A180
            by_cases c19 : 0 ≤ x7_1
            ·rw [if_pos c19] at H
             have c19b0 := eq_true c19
             have c19b1 : decide (0 ≤ x7_1) = true := decide_eq_true c19
             clear c19
             by_cases c20 : x7_1 ≤ (ji14)
             ·rw [if_pos c20] at H
              have c20b0 := eq_true c20
              have c20b1 : decide (x7_1 ≤ (ji14)) = true := decide_eq_true c20
              clear c20
              by_cases c21 : (ji14) ≤ (a0.size : Int)
              ·rw [if_pos c21] at H
               have c21b0 := eq_true c21
               have c21b1 : decide ((ji14) ≤ (a0.size : Int)) = true := decide_eq_true c21
               clear c21
               replace H := Option.bind_eq_some_iff.mp H
               obtain ⟨t184, A220, H⟩ := H
               replace H : (if 0 ≤ (wrap64 (x7_1 + 4)) then (if (wrap64 (x7_1 + 4)) ≤ (wrap64 ((wrap64 (x7_1 + 4)) + t183)) then (if (wrap64 ((wrap64 (x7_1 + 4)) + t183)) ≤ (a0.size : Int) then (if x6_1.length < 5864062014805 then (concordanceref06_Get.l0 kj5 a0 t180 (x6_1 ++ [(⟨t184, a0.extract ((wrap64 (x7_1 + 4)) : Int).toNat ((wrap64 ((wrap64 (x7_1 + 4)) + t183)) : Int).toNat⟩ : S67)]) (wrap64 (x7_1 + (wrap64 (4 + t183)))) (wrap64 (x8_1 + 1))) else (none)) else (none)) else (none)) else (none)) = some (r1, r2, r3) := H
               have A22 := Aside0.mk A220
               clear A220
               obtain ⟨ji23, hji23⟩ : ∃ j_ : Int, (wrap64 (x7_1 + 4)) = j_ := ⟨_, rfl⟩
               replace H : (if 0 ≤ (ji23) then (if (ji23) ≤ (wrap64 ((ji23) + t183)) then (if (wrap64 ((ji23) + t183)) ≤ (a0.size : Int) then (if x6_1.length < 5864062014805 then (concordanceref06_Get.l0 kj5 a0 t180 (x6_1 ++ [(⟨t184, a0.extract ((ji23) : Int).toNat ((wrap64 ((ji23) + t183)) : Int).toNat⟩ : S67)]) (wrap64 (x7_1 + (wrap64 (4 + t183)))) (wrap64 (x8_1 + 1))) else (none)) else (none)) else (none)) else (none)) = some (r1, r2, r3) := by first | (rw [hji23] at H; exact H) | (simp only [hji23] at H ⊢; exact H)
               (try rw [hji23] at c16b0)
               (try rw [hji23] at c16b1)
               (try rw [hji23] at c16)
               (try rw [hji23] at c17b0)
               (try rw [hji23] at c17b1)
               (try rw [hji23] at c17)
               (try rw [hji23] at A18)
               (try rw [hji23] at A22)
               have hji23w : (IntKind.i64.wrap (x7_1 + 4)) = ji23 := (i64_w _).trans hji23
               by_cases c24 : 0 ≤ (ji23)
               ·rw [if_pos c24] at H
                have c24b0 := eq_true c24
                have c24b1 : decide (0 ≤ (ji23)) = true := decide_eq_true c24
                clear c24
                by_cases c25 : (ji23) ≤ (wrap64 ((ji23) + t183))
                ·rw [if_pos c25] at H
                 have c25b0 := eq_true c25
                 have c25b1 : decide ((ji23) ≤ (wrap64 ((ji23) + t183))) = true := decide_eq_true c25
                 by_cases c26 : (wrap64 ((ji23) + t183)) ≤ (a0.size : Int)
                 ·rw [if_pos c26] at H
                  have c26b0 := eq_true c26
                  have c26b1 : decide ((wrap64 ((ji23) + t183)) ≤ (a0.size : Int)) = true := decide_eq_true c26
                  by_cases c27 : x6_1.length < 5864062014805
                  ·rw [if_pos c27] at H
                   have LMc27 := Aside0.mk c27
                   clear c27
                   obtain ⟨y185, hy185⟩ : ∃ y_ : List (S67), y_ = (x6_1 ++ [(⟨t184, a0.extract ((ji23) : Int).toNat ((wrap64 ((ji23) + t183)) : Int).toNat⟩ : S67)]) := ⟨_, rfl⟩
                   replace H : (concordanceref06_Get.l0 kj5 a0 t180 y185 (wrap64 (x7_1 + (wrap64 (4 + t183)))) (wrap64 (x8_1 + 1))) = some (r1, r2, r3) := by first | (rw [hy185]; with_reducible exact H) | (have H2_ := (Option.bind_some _ _).symm.trans H; rw [hy185]; with_reducible exact H2_) | (have H2_ := (Option.bind_some _ _).symm.trans H; with_reducible exact H2_) | with_reducible exact H | (rw [hy185]; exact H) | exact H
                   have Ny185 := Aside0.mk hy185
                   clear hy185
                   have H' := Aside0.mk H
                   clear H
                   try go_wp2_with (first | ((with_reducible refine gate_callee (f := 41) rfl ?_); refine goesL_ (some 47) rfl rfl Try.func41 (by kernel_rfl) rfl #[.string (a0.extract ((ji14) : Int).toNat ((ji23) : Int).toNat)] rfl (by (try simp only [List.map_toArray, List.map_cons, List.map_nil]); first | done | (simp only [hji14, hji23]; rfl) | rfl | (simp only [List.length_drop, List.length_take]; rfl)) ?_; (with_reducible refine (concordanceref02_Get.calls kj5 (a0.extract ((ji14) : Int).toNat ((ji23) : Int).toNat) t183 _ A18.out).mono ?_); rintro e w' ⟨rfl, ⟨nd, rfl⟩⟩; refine ⟨_, rfl, ?_⟩))
                   (try (rw [drewN_self wc]; generalize hq_ : World.drewN wc _ = wc; have n0_ : Aside0 (Kd.R k67 67 wc w.heap.size (fun _ => True) u6 x6_1) := ⟨by rw [← hq_]; exact (by (with_reducible repeat (first | apply Kd.R_alloc | apply Kd.R_drewN | apply Kd.R_drew)); exact HO_6.out)⟩; have n1_ : Aside0 (Below w.heap.size w wc) := ⟨by rw [← hq_]; exact (by repeat (first | (with_reducible first | exact HB.out | apply below_alloc | apply pw_below_drewN | apply below_drew1) | exact HB.out))⟩; clear HO_6 HB hq_; have HO_6 := n0_; have HB := n1_; clear n0_ n1_))
                   have n0_ := Aside0.mk (Kd.R_drew HO_6.out)
                   have n1_ := Aside0.mk (below_drew1 HB.out)
                   clear HO_6
                   clear HB
                   have HO_6 := n0_
                   have HB := n1_
                   clear n0_ n1_
                   refine start_ (n := 19) (S := fun w' => True) (ds := []) #[false, false, false, false, false, false, false, false, false, false, false, false, false, false, false, false, false, false, false] (by kernel_rfl) rfl rfl trivial (fun hHeld => ?_); refine with_tabW concordanceref06_Get.tab12 concordanceref06_Get.bits12 (fun HT_ HW_ => ?_)
                   generalize wc.drew = w28 at HO_6 HB hHeld ⊢
                   refine pure_ (i := 0) (N := some 48) (v := ?_) (a' := ?_) #[true, false, false, false, false, false, false, false, false, false, false, false, false, false, false, false, false, false, false] rfl rfl (any_of HT_.out (by kernel_rfl)) (fun _ _ _ h => h) (Or.inl ⟨by rfl, ?_⟩) ?_ ?_
                   rotate_left
                   ·intro w'
                    go_simp
                    with_reducible rfl
                   rotate_left
                   ·simp only [Act.put, List.setIfInBounds_toArray, List.set_cons_zero, List.set_cons_succ, i64_w, i32_w]
                    rfl
                   refine pure_ (i := 1) (N := some 49) (v := ?_) (a' := ?_) #[true, true, false, false, false, false, false, false, false, false, false, false, false, false, false, false, false, false, false] rfl rfl (any_of HT_.out (by kernel_rfl)) (fun _ _ _ h => h) (Or.inl ⟨by rfl, ?_⟩) ?_ ?_
                   rotate_left
                   ·intro w'
                    go_simp
                    with_reducible rfl
                   rotate_left
                   ·simp only [Act.put, List.setIfInBounds_toArray, List.set_cons_zero, List.set_cons_succ, i64_w, i32_w]
                    rfl
                   refine pure_ (i := 2) (N := some 50) (v := ?_) (a' := ?_) #[true, true, true, false, false, false, false, false, false, false, false, false, false, false, false, false, false, false, false] rfl rfl (any_of HT_.out (by kernel_rfl)) (fun _ _ _ h => h) (Or.inl ⟨by rfl, ?_⟩) ?_ ?_
                   rotate_left
                   ·intro w'
                    go_simp
                    with_reducible rfl
                   rotate_left
                   ·simp only [Act.put, List.setIfInBounds_toArray, List.set_cons_zero, List.set_cons_succ, i64_w, i32_w]
                    rfl
                   refine pure_ (i := 3) (N := some 51) (v := ?_) (a' := ?_) #[true, true, true, true, false, false, false, false, false, false, false, false, false, false, false, false, false, false, false] rfl rfl (any_of HT_.out (by kernel_rfl)) (fun _ _ _ h => h) (Or.inl ⟨by rfl, ?_⟩) ?_ ?_
                   rotate_left
                   ·intro w'
                    go_simp
                    with_reducible rfl
                   rotate_left
                   ·simp only [Act.put, List.setIfInBounds_toArray, List.set_cons_zero, List.set_cons_succ, i64_w, i32_w]
                    rfl
                   refine pure_ (i := 4) (N := some 52) (v := ?_) (a' := ?_) #[true, true, true, true, true, false, false, false, false, false, false, false, false, false, false, false, false, false, false] rfl rfl (any_of HT_.out (by kernel_rfl)) (fun _ _ _ h => h) (Or.inl ⟨by rfl, ?_⟩) ?_ ?_
                   rotate_left
                   ·intro w'
                    go_simp
                    with_reducible rfl
                   rotate_left
                   ·simp only [Act.put, List.setIfInBounds_toArray, List.set_cons_zero, List.set_cons_succ, i64_w, i32_w]
                    rfl
                   refine pure_ (i := 5) (N := some 53) (v := ?_) (a' := ?_) #[true, true, true, true, true, true, false, false, false, false, false, false, false, false, false, false, false, false, false] rfl rfl (any_of HT_.out (by kernel_rfl)) (fun _ _ _ h => h) (Or.inl ⟨by rfl, ?_⟩) ?_ ?_
                   rotate_left
                   ·intro w'
                    go_simp
                    with_reducible rfl
                   rotate_left
                   ·simp only [Act.put, List.setIfInBounds_toArray, List.set_cons_zero, List.set_cons_succ, i64_w, i32_w]
                    rfl
                   refine pure_ (i := 7) (N := some 55) (v := ?_) (a' := ?_) #[true, true, true, true, true, true, false, true, false, false, false, false, false, false, false, false, false, false, false] rfl rfl (any_of HT_.out (by kernel_rfl)) (fun _ _ _ h => h) (Or.inl ⟨by rfl, ?_⟩) ?_ ?_
                   rotate_left
                   ·intro w'
                    go_simp
                    with_reducible rfl
                   rotate_left
                   ·simp only [Act.put, List.setIfInBounds_toArray, List.set_cons_zero, List.set_cons_succ, i64_w, i32_w]
                    rfl
                   refine pure_ (i := 8) (N := some 56) (v := ?_) (a' := ?_) #[true, true, true, true, true, true, false, true, true, false, false, false, false, false, false, false, false, false, false] rfl rfl (any_of HT_.out (by kernel_rfl)) (fun _ _ _ h => h) (Or.inl ⟨by rfl, ?_⟩) ?_ ?_
                   rotate_left
                   ·intro w'
                    go_simp
                    with_reducible rfl
                   rotate_left
                   ·simp only [Act.put, List.setIfInBounds_toArray, List.set_cons_zero, List.set_cons_succ, i64_w, i32_w]
                    rfl
                   refine pure_ (i := 9) (N := some 57) (v := ?_) (a' := ?_) #[true, true, true, true, true, true, false, true, true, true, false, false, false, false, false, false, false, false, false] rfl rfl (any_of HT_.out (by kernel_rfl)) (fun _ _ _ h => h) (Or.inl ⟨by rfl, ?_⟩) ?_ ?_
                   rotate_left
                   ·intro w'
                    go_simp
                    with_reducible rfl
                   rotate_left
                   ·simp only [Act.put, List.setIfInBounds_toArray, List.set_cons_zero, List.set_cons_succ, i64_w, i32_w]
                    rfl
                   refine pure_ (i := 10) (N := some 58) (v := ?_) (a' := ?_) #[true, true, true, true, true, true, false, true, true, true, true, false, false, false, false, false, false, false, false] rfl rfl (any_of HT_.out (by kernel_rfl)) (fun _ _ _ h => h) (Or.inl ⟨by rfl, ?_⟩) ?_ ?_
                   rotate_left
                   ·intro w'
                    go_simp
                    with_reducible rfl
                   rotate_left
                   ·simp only [Act.put, List.setIfInBounds_toArray, List.set_cons_zero, List.set_cons_succ, i64_w, i32_w]
                    rfl
                   refine pure_ (i := 11) (N := some 59) (v := ?_) (a' := ?_) #[true, true, true, true, true, true, false, true, true, true, true, true, false, false, false, false, false, false, false] rfl rfl (any_of HT_.out (by kernel_rfl)) (fun _ _ _ h => h) (Or.inl ⟨by rfl, ?_⟩) ?_ ?_
                   rotate_left
                   ·intro w'
                    go_simp
                    with_reducible rfl
                   rotate_left
                   ·simp only [Act.put, List.setIfInBounds_toArray, List.set_cons_zero, List.set_cons_succ, i64_w, i32_w]
                    rfl
                   refine pure_ (i := 12) (N := some 60) (v := ?_) (a' := ?_) #[true, true, true, true, true, true, false, true, true, true, true, true, true, false, false, false, false, false, false] rfl rfl (any_of HT_.out (by kernel_rfl)) (fun _ _ _ h => h) (Or.inl ⟨by rfl, ?_⟩) ?_ ?_
                   rotate_left
                   ·intro w'
                    go_simp
                    with_reducible rfl
                   rotate_left
                   ·simp only [Act.put, List.setIfInBounds_toArray, List.set_cons_zero, List.set_cons_succ, i64_w, i32_w]
                    rfl
                   refine pure_ (i := 13) (N := some 61) (v := ?_) (a' := ?_) #[true, true, true, true, true, true, false, true, true, true, true, true, true, true, false, false, false, false, false] rfl rfl (any_of HT_.out (by kernel_rfl)) (fun _ _ _ h => h) (Or.inl ⟨by rfl, ?_⟩) ?_ ?_
                   rotate_left
                   ·intro w'
                    go_simp
                    with_reducible rfl
                   rotate_left
                   ·simp only [Act.put, List.setIfInBounds_toArray, List.set_cons_zero, List.set_cons_succ, i64_w, i32_w]
                    rfl
                   refine pure_ (i := 14) (N := some 62) (v := ?_) (a' := ?_) #[true, true, true, true, true, true, false, true, true, true, true, true, true, true, true, false, false, false, false] rfl rfl (any_of HT_.out (by kernel_rfl)) (fun _ _ _ h => h) (Or.inl ⟨by rfl, ?_⟩) ?_ ?_
                   rotate_left
                   ·intro w'
                    go_simp
                    with_reducible rfl
                   rotate_left
                   ·simp only [Act.put, List.setIfInBounds_toArray, List.set_cons_zero, List.set_cons_succ, i64_w, i32_w]
                    rfl
                   refine one_ (i := 6) (N := some 54) #[true, true, true, true, true, true, true, true, true, true, true, true, true, true, true, false, false, false, false] rfl rfl (one_of HT_.out (by kernel_rfl)) (by decide) (fun K hK => ?_)
                   refine goes_ Try.func41 (by kernel_rfl) rfl #[.string (a0.extract (x7_1 : Int).toNat ((ji14) : Int).toNat)] (by rfl) rfl rfl (by (try simp only [List.map_toArray, List.map_cons, List.map_nil]); first | done | (simp only [hji14]; rfl) | rfl | (simp only [List.length_drop, List.length_take]; rfl)) ?_
                   with_reducible refine (concordanceref02_Get.calls kj5 (a0.extract (x7_1 : Int).toNat ((ji14) : Int).toNat) t184 _ A22.out).mono ?_
                   rintro e w' ⟨rfl, ⟨nd, rfl⟩⟩
                   refine ⟨_, rfl, ?_⟩
                   refine hK.out _ _ trivial (fun hHeld => ?_)
                   clear hK K
                   refine norm_ (a' := ?_) ?_ ?_
                   rotate_left
                   ·show Act.put _ (some 54) _ = _
                    simp only [Act.put, List.setIfInBounds_toArray, List.set_cons_zero, List.set_cons_succ, i64_w, i32_w]
                    rfl
                   refine pure_ (i := 15) (N := some 63) (v := ?_) (a' := ?_) #[true, true, true, true, true, true, true, true, true, true, true, true, true, true, true, true, false, false, false] rfl rfl (any_of HT_.out (by kernel_rfl)) (fun _ _ _ h => h) (Or.inl ⟨by rfl, ?_⟩) ?_ ?_
                   rotate_left
                   ·intro w'
                    go_simp
                    with_reducible rfl
                   rotate_left
                   ·simp only [Act.put, List.setIfInBounds_toArray, List.set_cons_zero, List.set_cons_succ, i64_w, i32_w]
                    rfl
                   refine one_ (i := 16) (N := some 64) #[true, true, true, true, true, true, true, true, true, true, true, true, true, true, true, true, true, false, false] rfl rfl (one_of HT_.out (by kernel_rfl)) (by decide) (fun K hK => ?_)
                   refine value_ (w1 := ?_) (v := ?_) (by rfl) rfl ?_ ?_
                   rotate_left 2
                   ·go_simp
                    constructor
                    ·rfl
                    ·rfl
                   refine hK.out _ _ trivial (fun hHeld => ?_)
                   clear hK K
                   refine norm_ (a' := ?_) ?_ ?_
                   rotate_left
                   ·show Act.put _ (some 64) _ = _
                    simp only [Act.put, List.setIfInBounds_toArray, List.set_cons_zero, List.set_cons_succ, i64_w, i32_w]
                    rfl
                   refine one_ (i := 17) (N := some 65) #[true, true, true, true, true, true, true, true, true, true, true, true, true, true, true, true, true, true, false] rfl rfl (one_of HT_.out (by kernel_rfl)) (by decide) (fun K hK => ?_)
                   refine Kd.R_append_step k67 (w0 := w) w.heap.size (by rfl) (.tmp 48) (.tmp 64) 61 67 (.agg #[(.int .i64 0), (.string ⟨#[]⟩)]) 24 rfl Try.underlying61 info67 rfl (by decide) (by omega) u6 x6_1 (⟨t184, a0.extract ((ji23) : Int).toNat ((wrap64 ((ji23) + t183)) : Int).toNat⟩ : S67) [.int .i64 t184, .string (a0.extract ((ji23) : Int).toNat ((wrap64 ((ji23) + t183)) : Int).toNat)] (fun _ => True) (fun _ => False) rfl rfl ?aP (fun _ hk => hk.elim) ?aF ?aO ?aB ?aS ?aL ?_
                   (case aP => exact k67_mkM _ _ _ (⟨t184, a0.extract ((ji23) : Int).toNat ((wrap64 ((ji23) + t183)) : Int).toNat⟩ : S67))
                   (case aB => exact (by repeat (first | (with_reducible first | exact HB.out | apply below_alloc | apply pw_below_drewN | apply below_drew1) | exact HB.out)))
                   (case aF => exact (fun _ _ => trivial))
                   (case aO => exact (by (with_reducible repeat (first | apply Kd.R_alloc | apply Kd.R_drewN | apply Kd.R_drew)); exact HO_6.out))
                   (case aS => exact (below_size (by repeat (first | (with_reducible first | exact HB.out | apply below_alloc | apply pw_below_drewN | apply below_drew1) | exact HB.out))))
                   (case aL => have := LMc27.out; omega)
                   intro v186 w29 ho hb hg hat
                   rw [← Ny185.out] at ho
                   have n0_ := Aside0.mk (hb)
                   have n1_ := Aside0.mk (ho)
                   clear HB
                   clear HO_6
                   have HB := n0_
                   have HO187 := n1_
                   clear n0_ n1_
                   clear ho hb hg hat
                   refine hK.out _ _ trivial (fun hHeld => ?_)
                   clear hK K
                   refine norm_ (a' := ?_) ?_ ?_
                   rotate_left
                   ·show Act.put _ (some 65) _ = _
                    simp only [Act.put, List.setIfInBounds_toArray, List.set_cons_zero, List.set_cons_succ, i64_w, i32_w]
                    rfl
                   refine pure_ (i := 18) (N := some 6) (v := ?_) (a' := ?_) #[true, true, true, true, true, true, true, true, true, true, true, true, true, true, true, true, true, true, true] rfl rfl (any_of HT_.out (by kernel_rfl)) (fun _ _ _ h => h) (Or.inl ⟨by rfl, ?_⟩) ?_ ?_
                   rotate_left
                   ·intro w'
                    go_simp
                    with_reducible rfl
                   rotate_left
                   ·simp only [Act.put, List.setIfInBounds_toArray, List.set_cons_zero, List.set_cons_succ, i64_w, i32_w]
                    rfl
                   refine done_ (done_of HT_.out (by kernel_rfl)) ?_
                   try go_wp2
                   go_roundg kj5
                   case measure => have := HK1.out; have := HJ5.out; omega
                   case rel => exact ⟨(y185), (wrap64 (x7_1 + (wrap64 (4 + t183)))), (wrap64 (x8_1 + 1)), (by first | rfl | (simp; done) | (simp [*]; done)), (by first | rfl | (simp; done) | (simp [*]; done)), H', ⟨by have := HK1.out; have := HJ5.out; omega⟩, ⟨by (with_reducible repeat (first | apply Kd.R_alloc | apply Kd.R_drewN | apply Kd.R_drew)); exact HO187.out⟩, ⟨by repeat (first | (with_reducible first | exact HB.out | apply below_alloc | apply pw_below_drewN | apply below_drew1) | exact HB.out)⟩⟩
                  ·rw [if_neg c27] at H
                   exact absurd H (by simp)
                 ·rw [if_neg c26] at H
                  exact absurd H (by simp)
                ·rw [if_neg c25] at H
                 exact absurd H (by simp)
               ·rw [if_neg c24] at H
                exact absurd H (by simp)
              ·rw [if_neg c21] at H
               exact absurd H (by simp)
             ·rw [if_neg c20] at H
              exact absurd H (by simp)
            ·rw [if_neg c19] at H
             exact absurd H (by simp)
           ·rw [if_neg c17] at H
            exact absurd H (by simp)
          ·rw [if_neg c16] at H
           exact absurd H (by simp)
         ·rw [if_neg c15] at H
          exact absurd H (by simp)
     ·rw [if_neg c5] at H
      have c5b0 : decide (x8_1 < t180) = false := decide_eq_false c5
      clear c5
      replace H := Option.bind_eq_some_iff.mp H
      obtain ⟨t181, A300, H⟩ := H
      replace H : (if t181 = true then (some (x6_1, x7_1, 0)) else (some (([] : List (S67)), 0, 2))) = some (r1, r2, r3) := H
      have A30 := Aside0.mk A300
      clear A300
      by_cases c31 : t181 = true
      ·subst c31
       have H1 : (some (x6_1, x7_1, 0)) = some (r1, r2, r3) := by rw [if_pos rfl] at H; exact H
       clear H
       have H := H1
       clear H1
       simp only [Option.some.injEq, Prod.mk.injEq] at H
       obtain ⟨rfl, rfl, rfl⟩ := H
       obtain ⟨Ao32, co32, eo32⟩ := Kd.R_slice HO_6.out
       subst eo32
       go_wp2_with (first | ((with_reducible refine gate_callee (f := 25) rfl ?_); refine goesL_ (some 71) rfl rfl Try.func25 (by kernel_rfl) rfl #[.slice Ao32 x6_1.length co32] rfl (by (try simp only [List.map_toArray, List.map_cons, List.map_nil]); first | done | rfl | (simp only [List.length_drop, List.length_take]; rfl)) ?_; (with_reducible refine (concordanceref06_Right.calls k1 _ _ x6_1 true _ ?side1 ?side2 A30.out).mono ?_); (case side1 => repeat (first | exact (Kd.R_reads' HO_6.out).2.2 | (with_reducible refine Kd.C_alloc ?_ _) | (with_reducible refine Kd.C_drewN ?_ _) | (with_reducible refine Kd.C_drew ?_))); (case side2 => exact (Kd.R_reads' HO_6.out).2.1); rintro e w' ⟨rfl, ⟨nd, rfl⟩⟩; refine ⟨_, rfl, ?_⟩))
       go_ret3
       exact ⟨_, by first | rfl | (simp [errW_none, errW_some] <;> rfl) | (simp [*, errW_none, errW_some] <;> rfl), by (with_reducible repeat (first | apply Kd.R_alloc | apply Kd.R_drewN | apply Kd.R_drew)); exact HO_6.out, by repeat (first | (with_reducible first | exact HB.out | apply below_alloc | apply pw_below_drewN | apply below_drew1) | exact HB.out)⟩
      ·replace c31 := Bool.eq_false_iff.mpr c31
       subst c31
       have H1 : (some (([] : List (S67)), 0, 2)) = some (r1, r2, r3) := by rw [if_neg (show ¬ (false = true) by decide)] at H; exact H
       clear H
       have H := H1
       clear H1
       simp only [Option.some.injEq, Prod.mk.injEq] at H
       obtain ⟨rfl, rfl, rfl⟩ := H
       obtain ⟨Ao33, co33, eo33⟩ := Kd.R_slice HO_6.out
       subst eo33
       go_wp2_with (first | ((with_reducible refine gate_callee (f := 25) rfl ?_); refine goesL_ (some 71) rfl rfl Try.func25 (by kernel_rfl) rfl #[.slice Ao33 x6_1.length co33] rfl (by (try simp only [List.map_toArray, List.map_cons, List.map_nil]); first | done | rfl | (simp only [List.length_drop, List.length_take]; rfl)) ?_; (with_reducible refine (concordanceref06_Right.calls k1 _ _ x6_1 false _ ?side1 ?side2 A30.out).mono ?_); (case side1 => repeat (first | exact (Kd.R_reads' HO_6.out).2.2 | (with_reducible refine Kd.C_alloc ?_ _) | (with_reducible refine Kd.C_drewN ?_ _) | (with_reducible refine Kd.C_drew ?_))); (case side2 => exact (Kd.R_reads' HO_6.out).2.1); rintro e w' ⟨rfl, ⟨nd, rfl⟩⟩; refine ⟨_, rfl, ?_⟩))
       go_ret3
       exact ⟨_, by first | rfl | (simp [errW_none, errW_some] <;> rfl) | (simp [*, errW_none, errW_some] <;> rfl), by first | exact Kd.R_nil _ _ _ _ _ | exact Kd.N_nil _ _ _ _ _ | exact Kd.V_nil _ _ _ _ _ | exact Kd.Q_nil _ _ _ _ _ | exact Kd.S_nil _ _ _ _ _, by repeat (first | (with_reducible first | exact HB.out | apply below_alloc | apply pw_below_drewN | apply below_drew1) | exact HB.out)⟩
  ·rw [if_neg c3] at H
   exact absurd H (by simp)

end Go.Proofs.Yteehchhmonlkkaa.GP
