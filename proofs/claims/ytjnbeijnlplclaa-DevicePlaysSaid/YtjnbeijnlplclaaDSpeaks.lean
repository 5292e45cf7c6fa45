/- law03.speaks says true. Condition: none. -/
import Derived.Test.YtjnbeijnlplclaaDHL
namespace Go.Proofs.Ytjnbeijnlplclaa.Ownd
open Go.RowKit Go.Proofs.YtjnbeijnlplclaaW.PrintWords Go.Proofs.YtjnbeijnlplclaaW.PrintLast Go.Proofs.YtjnbeijnlplclaaW.PrintMore
set_option linter.unusedVariables false
set_option linter.unusedSimpArgs false
variable {w W : World}
def sp0 : Dev := Dev.new 3
def sp1 : Dev := (sp0.write 0 ⟨#[97]⟩).2
def sp2 : Dev := (sp1.write 1 ⟨#[98]⟩).2
def sp3 : Dev := sp2.blow [0, 1]
def sp4 : Dev := sp3.on
theorem sp1_len : sp1.wait.length ≤ 1000000 := by decide
theorem sp2_len : sp2.wait.length ≤ 1000000 := by decide
theorem sp3_off : sp3.off = true := by decide
theorem sp4_len : sp4.wait.length ≤ 1000000 := by decide
theorem sp4_size : sp4.size = 3 := by decide
theorem sp4_read0 : sp4.read 0 = (Bld.zs 256, 0) := rfl
theorem sp4_read1 : sp4.read 1 = (pad ⟨#[98]⟩, 0) := rfl
set_option maxHeartbeats 4000000 in
set_option maxRecDepth 100000 in
theorem speaks_calls (W : World) : Calls Try.prog 8 #[] W fun ex W' => ex = .returned (.bool true) ∧ Below W.heap.size W W' := by
  have H0 := Aside0.mk (HL.start W)
  have hz : (Bld.zs 256).size = 256 := Bld.zs_size 256
  have hp : (pad ⟨#[98]⟩).size = 256 := pad_size (by decide)
  have hz0 : (Bld.zs 256)[0]'(by rw [Bld.zs_size]; decide) = 0 := by decide
  have hp0 : (pad ⟨#[98]⟩)[0]'(by rw [pad_size (by decide)]; decide) = 98 := by decide
  go_enter Try.func8, Try.ntmps8
  go_wp2_with (first
    | (go_at_call 9; refine (new_HL H0.out 3 (by decide) (by decide)).mono ?_; rintro e w1 ⟨d, rfl, h1⟩; have H1 : Aside0 (HL W w1 ([] ++ (d, sp0) :: []) []) := ⟨h1⟩; clear h1 H0)
    | (go_at_call 10; refine (write_HL H1.out (by decide) 0 ⟨#[97]⟩).mono ?_; rintro e w2 ⟨rfl, h2⟩; have H2 : Aside0 (HL W w2 ([] ++ (d, sp1) :: []) []) := ⟨h2⟩; clear h2 H1)
    | (go_at_call 10; refine (write_HL H2.out sp1_len 1 ⟨#[98]⟩).mono ?_; rintro e w3 ⟨rfl, h3⟩; have H3 : Aside0 (HL W w3 ([] ++ (d, sp2) :: []) []) := ⟨h3⟩; clear h3 H2)
    | (go_at_call 12; refine (blow_HL (H3.out.below (below_alloc (Below.refl _ _) _)) sp2_len _ 2 [0, 1] (C_lit w3 3 [0, 1] (by decide))).mono ?_; rintro e w4 ⟨rfl, h4⟩; have H4 : Aside0 (HL W w4 ([] ++ (d, sp3) :: []) []) := ⟨h4⟩; clear h4 H3))
  have hof : sp3.off = true := sp3_off
  have HF := Aside0.mk (off_HL H4.out)
  rw [hof] at HF
  go_wp2_with (first
    | (go_at_call 18; refine HF.out.mono ?_; rintro e w5 ⟨rfl, hw5⟩; rw [hw5]; clear hw5 HF)
    | (go_at_call 13; refine (on_HL H4.out).mono ?_; rintro e w6 ⟨rfl, h6⟩; have H6 : Aside0 (HL W w6 ([] ++ (d, sp4) :: []) []) := ⟨h6⟩; clear h6 H4)
    | (go_at_call 14; refine (read_HL H6.out sp4_len 0).mono ?_; rw [sp4_read0]; rintro e w7 ⟨rfl, h7⟩; have H7 : Aside0 (HL W w7 ([] ++ (d, sp4) :: []) []) := ⟨h7⟩; clear h7 H6)
    | (go_at_call 14; refine (read_HL H7.out sp4_len 1).mono ?_; rw [sp4_read1]; rintro e w8 ⟨rfl, h8⟩; have H8 : Aside0 (HL W w8 ([] ++ (d, sp4) :: []) []) := ⟨h8⟩; clear h8 H7)
    | (go_at_call 24; refine (size_HL H8.out).mono ?_; rw [sp4_size]; rintro e w9 ⟨rfl, hw9⟩; rw [hw9]; clear hw9))
  go_ret
  exact ⟨rfl, H8.out.bel⟩
end Go.Proofs.Ytjnbeijnlplclaa.Ownd
