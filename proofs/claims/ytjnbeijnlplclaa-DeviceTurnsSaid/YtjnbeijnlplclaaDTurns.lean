/- law03.DeviceTurns, walked: it says true. Condition: none. -/
import Derived.Test.YtjnbeijnlplclaaDPure
import Derived.Test.YtjnbeijnlplclaaDSpeaks
namespace Go.Proofs.Ytjnbeijnlplclaa.Ownd
open Go.RowKit Go.Proofs.YtjnbeijnlplclaaW.PrintWords Go.Proofs.YtjnbeijnlplclaaW.PrintLast Go.Proofs.YtjnbeijnlplclaaW.PrintMore
set_option linter.unusedVariables false
set_option linter.unusedSimpArgs false
theorem tmin (n : Nat) : min (n : Int) 256 = ((min n 256 : Nat) : Int) := by omega
theorem tge (n : Nat) : (0 : Int) ≤ ((min n 256 : Nat) : Int) := by omega
theorem tle (n : Nat) : ((min n 256 : Nat) : Int) ≤ (n : Int) := by omega
set_option maxHeartbeats 8000000 in
set_option maxRecDepth 100000 in
theorem turns_calls (a b : ByteArray) (at_ : Int) (W : World) : Calls Try.prog 3 #[.string a, .string b, .int .i64 at_] W fun ex W' => ex = .returned (.bool true) ∧ Below W.heap.size W W' := by
  have m1 := tmin a.size
  have m2 := tmin b.size
  have g1 := tge a.size
  have g2 := tge b.size
  have k1 := tle a.size
  have k2 := tle b.size
  go_enter Try.func3, Try.ntmps3
  go_upto_region 3 with (go_at_call 8; refine (speaks_calls W).mono ?_; rintro e w1 ⟨rfl, hb1⟩; have HB1 := Aside0.mk hb1; clear hb1)
  go_quiet (fail)
  have HB2 := Aside0.mk (HB1.out.trans (pw_below_drewN (Below.refl _ w1) nq))
  clear HB1 m1 m2 g1 g2 k1 k2
  generalize w1.drewN nq = w2 at HB2 ⊢
  go_upto_region 5 with fail
  rw [and3]
  obtain ⟨hi0, hi4⟩ := mod4 at_
  have hA := ext_size a
  have hB := ext_size b
  generalize at_ % 4 = i at hi0 hi4
  generalize a.extract 0 (min a.size 256) = A at hA
  generalize b.extract 0 (min b.size 256) = B at hB
  have hw : wrap64 (i + 1) = i + 1 := by unfold wrap64; omega
  have H0 := Aside0.mk (HL.start2 HB2.out)
  clear HB2
  go_upto_region 7 with (first
    | (go_at_call 9; refine (new_HL H0.out 5 (by decide) (by decide)).mono ?_; rintro e w3 ⟨x, rfl, h1⟩; have H1 : Aside0 (HL W w3 ([] ++ (x, Dev.new 5) :: []) []) := ⟨h1⟩; clear h1 H0)
    | (go_at_call 9; refine (new_HL H1.out 5 (by decide) (by decide)).mono ?_; rintro e w4 ⟨y, rfl, h2⟩; have H2 : Aside0 (HL W w4 ([(y, Dev.new 5)] ++ (x, Dev.new 5) :: []) []) := ⟨h2⟩; clear h2 H1))
  go_upto_region 9 with (first
    | (go_at_call 10; refine (write_HL H2.out (by decide) i A).mono ?_; rintro e w5 ⟨rfl, h3⟩; have H3 := Aside0.mk h3; clear h3 H2)
    | (go_at_call 10; refine (write_HL H3.out (Nat.le_trans (Dev.write_len _ _ _) (by decide)) (i + 1) B).mono ?_; rintro e w6 ⟨rfl, h4⟩; have H4 : Aside0 (HL W w6 ([] ++ (y, Dev.new 5) :: [(x, _)]) []) := ⟨h4⟩; clear h4 H3))
  go_upto_region 11 with (first
    | (go_at_call 10; refine (write_HL H4.out (by decide) (i + 1) B).mono ?_; rintro e w7 ⟨rfl, h5⟩; have H5 := Aside0.mk h5; clear h5 H4)
    | (go_at_call 10; refine (write_HL H5.out (Nat.le_trans (Dev.write_len _ _ _) (by decide)) i A).mono ?_; rintro e w8 ⟨rfl, h6⟩; have H6 : Aside0 (HL W w8 ([(y, _)] ++ (x, _) :: []) []) := ⟨h6⟩; clear h6 H5))
  go_upto_region 13 with (first
    | (go_at_call 11; refine (sync_HL H6.out (Nat.le_trans (chain_len _ _ _ _) (by decide))).mono ?_; rintro e w9 ⟨rfl, h7⟩; have H7 : Aside0 (HL W w9 ([] ++ (y, _) :: [(x, _)]) []) := ⟨h7⟩; clear h7 H6)
    | (go_at_call 11; refine (sync_HL H7.out (Nat.le_trans (chain_len _ _ _ _) (by decide))).mono ?_; rintro e w10 ⟨rfl, h8⟩; have H8 : Aside0 (HL W w10 ([(y, _)] ++ (x, _) :: []) []) := ⟨h8⟩; clear h8 H7))
  go_upto_region 15 with (first
    | (go_at_call 12; refine (blow_HL H8.out (Nat.le_trans (Dev.sync_len _) (Nat.le_trans (chain_len _ _ _ _) (by decide))) none 0 [] (Kd.C_nil _ _)).mono ?_; rintro e w11 ⟨rfl, h9⟩; have H9 : Aside0 (HL W w11 ([] ++ (y, _) :: [(x, _)]) []) := ⟨h9⟩; clear h9 H8)
    | (go_at_call 12; refine (blow_HL H9.out (Nat.le_trans (Dev.sync_len _) (Nat.le_trans (chain_len _ _ _ _) (by decide))) none 0 [] (Kd.C_nil _ _)).mono ?_; rintro e w12 ⟨rfl, h10⟩; have H10 : Aside0 (HL W w12 ([(y, _)] ++ (x, _) :: []) []) := ⟨h10⟩; clear h10 H9))
  have hi := And.intro hi0 (show i < 5 by omega)
  have hj := And.intro (show 0 ≤ i + 1 by omega) (show i + 1 < 5 by omega)
  have HSW := Aside0.mk (chain_swap hi hj (show i ≠ i + 1 by omega) hA hB)
  have HRD := Aside0.mk (chain_read hi hj hA hB)
  have HWT := Aside0.mk (chain_wait hi hj hA hB)
  go_upto_block 0 with (first
    | (go_at_call 13; refine (on_HL H10.out).mono ?_; rintro e w13 ⟨rfl, h11⟩; have H11 : Aside0 (HL W w13 ([] ++ (y, _) :: [(x, chain i A (i + 1) B)]) []) := ⟨h11⟩; clear h11 H10)
    | (go_at_call 13; refine (on_HL H11.out).mono ?_; rintro e w14 ⟨rfl, h12⟩; have H12 : Aside0 (HL W w14 ([(y, chain (i + 1) B i A)] ++ (x, chain i A (i + 1) B) :: []) []) := ⟨h12⟩; clear h12 H11))
  rw [HSW.out] at H12
  generalize chain i A (i + 1) B = X at H12 HRD HWT
  clear HSW hi hj hA hB hi0 hi4 hw
  go_wp2_with fail
  go_loopg [11] 5 (fun gg s11 wr => ∃ k : Nat, k ≤ 5 ∧ 5 - k ≤ gg ∧ s11 = .int .i64 k ∧ Aside0 (HL W wr ([(y, X)] ++ (x, X) :: []) []))
  case atStart => exact ⟨0, Nat.zero_le _, Nat.le_refl _, rfl, H12⟩
  case round =>
    clear H12
    obtain ⟨k, hk, hg, rfl, HO⟩ := hrel
    by_cases hlt : k < 5
    · have d1 : decide ((k : Int) < 5) = true := decide_eq_true (by omega)
      have hw : wrap64 ((k : Int) + 1) = ((k + 1 : Nat) : Int) := by unfold wrap64; omega
      have hr := HRD.out k hlt
      have HR1 := Aside0.mk (read_HL HO.out HWT.out (k : Int))
      rw [hr] at HR1
      have HR2 := Aside0.mk (fun (w' : World) (h : HL W w' ([] ++ (y, X) :: [(x, X)]) []) => read_HL h HWT.out (k : Int))
      simp only [hr] at HR2
      generalize (X.read (k : Int)).1 = s at HR1 HR2
      go_wp2_with (first
        | (go_at_call 14; refine HR1.out.mono ?_; rintro e w15 ⟨rfl, h13⟩; have H13 : Aside0 (HL W w15 ([] ++ (y, X) :: [(x, X)]) []) := ⟨h13⟩; clear h13 HR1)
        | (go_at_call 14; refine (HR2.out _ H13.out).mono ?_; rintro e w16 ⟨rfl, h14⟩; have H14 := Aside0.mk h14; clear h14 HR2 H13))
      go_roundg (5 - (k + 1))
      case measure => omega
      case rel => exact ⟨k + 1, hlt, Nat.le_refl _, by first | rfl | rw [hw], H14⟩
    · obtain rfl : k = 5 := by omega
      go_wp2
      go_ret
      exact ⟨rfl, HO.out.bel⟩
end Go.Proofs.Ytjnbeijnlplclaa.Ownd
