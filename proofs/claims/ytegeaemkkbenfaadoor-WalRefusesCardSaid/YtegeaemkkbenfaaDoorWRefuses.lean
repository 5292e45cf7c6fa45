/- law08.WalRefuses, walked: it says true. Condition: the table lies as the program lays it. -/
import Derived.Test.YtegeaemkkbenfaaDoorWFull
namespace Go.Proofs.YtegeaemkkbenfaaDoor.Ownd
open Go.Shelf Go.RowKit Go.Proofs.YtegeaemkkbenfaaDoorW.PrintWords Go.Proofs.YtegeaemkkbenfaaDoorW.PrintLast Go.Proofs.YtegeaemkkbenfaaDoorW.PrintMore
set_option linter.unusedVariables false
set_option linter.unusedSimpArgs false
def chX : ByteArray := ⟨#[120]⟩
theorem rightX : Right chX := ⟨by decide, by decide⟩
def okB (at_ half : Int) : Bool := rightB 20 at_ half
theorem okB_yes {at_ half : Int} (h : okB at_ half = true) : 0 ≤ at_ ∧ 1 ≤ half ∧ half ≤ 9 ∧ at_ ≤ 18 - 2 * half := by
  unfold okB rightB at h
  simp only [Bool.and_eq_true, decide_eq_true_eq] at h
  omega
theorem okB_mk {at_ half : Int} (h : 0 ≤ at_ ∧ 1 ≤ half ∧ half ≤ 9 ∧ at_ ≤ 18 - 2 * half) : okB at_ half = true := by
  unfold okB rightB
  simp only [Bool.and_eq_true, decide_eq_true_eq]
  omega
theorem okB_no {at_ half : Int} (h : ¬ (0 ≤ at_ ∧ 1 ≤ half ∧ half ≤ 9 ∧ at_ ≤ 18 - 2 * half)) : okB at_ half = false := by
  cases hb : okB at_ half with
  | false => rfl
  | true => exact absurd (okB_yes hb) h
set_option maxHeartbeats 8000000 in
set_option maxRecDepth 100000 in
theorem refuses_calls {W : World} (hT : Tab W) (x y z : Int) : Calls Tryd.prog 4 #[.int .i64 x, .int .i64 y, .int .i64 z] W fun ex W' => ex = .returned (.bool true) ∧ Below W.heap.size W W' := by
  have HT := Aside0.mk hT
  clear hT
  go_enter Tryd.func4, Tryd.ntmps4
  go_upto_region 4 with (first
    | (go_at_call 8; refine (speaks_calls HT.out).mono ?_; rintro e w1 ⟨rfl, hb1⟩; have H0 := Aside0.mk (HL.start2 hb1); clear hb1)
    | (go_at_call 9; refine (new_HL H0.out 20 (by decide) (by decide)).mono ?_; rintro e w2 ⟨d, rfl, h2⟩; have H1 : Aside0 (HL W w2 ([] ++ (d, (TD.new 20).dev) :: []) []) := ⟨h2⟩; clear h2 H0))
  go_cut [9] (fun s9 wx => s9 = .bool (okB x y) ∧ Aside0 (HL W wx ([] ++ (d, (TD.new 20).dev) :: []) []))
  case first =>
    by_cases h1 : 0 ≤ x
    · have d1 : decide (0 ≤ x) = true := decide_eq_true h1
      by_cases h2 : 1 ≤ y
      · have d2 : decide (1 ≤ y) = true := decide_eq_true h2
        by_cases h3 : y ≤ 9
        · have d3 : decide (y ≤ 9) = true := decide_eq_true h3
          have h512 : y ≤ 512 := by omega
          have d4 : decide (y ≤ 512) = true := decide_eq_true h512
          by_cases h4 : x ≤ 18 - 2 * y
          · have hk := okB_mk ⟨h1, h2, h3, h4⟩
            go_wp2_with fail
            go_meet
            case rel => exact ⟨by rw [hk], H1⟩
          · have hk := okB_no (at_ := x) (half := y) (fun h => h4 h.2.2.2)
            go_wp2_with fail
            go_meet
            case rel => exact ⟨by rw [hk], H1⟩
        · have hk := okB_no (at_ := x) (half := y) (fun h => h3 h.2.2.1)
          by_cases h5 : y ≤ 512
          · go_wp2_with fail
            go_meet
            case rel => exact ⟨by rw [hk], H1⟩
          · go_wp2_with fail
            go_meet
            case rel => exact ⟨by rw [hk], H1⟩
      · have hk := okB_no (at_ := x) (half := y) (fun h => h2 h.2.1)
        go_wp2_with fail
        go_meet
        case rel => exact ⟨by rw [hk], H1⟩
    · have hk := okB_no (at_ := x) (half := y) (fun h => h1 h.1)
      go_wp2_with fail
      go_meet
      case rel => exact ⟨by rw [hk], H1⟩
  case rest =>
    obtain ⟨rfl, HD⟩ := hcut
    clear H1
    generalize hok : okB x y = ok at *
    have HOK := Aside0.mk hok
    clear hok
    go_upto_region 5 with fail
    go_cut [10] (fun s10 wx => s10 = .int .i64 (if ok = true then 0 else 1) ∧ Aside0 (∃ D, HL W wx ([] ++ (d, D) :: []) [] ∧ (ok = true → ∃ T hf, y = ((hf : Nat) : Int) ∧ D = TD.dev T ∧ Kept T x hf [chX] 1) ∧ (ok = false → D.size = 20)))
    case first =>
      cases ok with
      | true =>
        have hy := okB_yes HOK.out
        obtain ⟨hf, rfl⟩ := Int.eq_ofNat_of_zero_le (show 0 ≤ y by omega)
        go_wp2_with (go_at_call 10; refine (format_use HD.out (at_ := x) (half := hf) (siteNew hy.1 (by omega) (by omega) (by decide)) chX rightX (by decide) (show 1 + 2 ≤ hf * 242 by omega) HT.out).mono ?_; rintro e w3 ⟨rfl, T, h3, hk, hfu⟩; have H2 := Aside0.mk h3; have HK := Aside0.mk hk; clear h3 hk hfu HD)
        go_meet
        case rel => exact ⟨rfl, ⟨_, H2.out, fun _ => ⟨T, hf, rfl, rfl, HK.out⟩, fun h => by cases h⟩⟩
      | false =>
        go_wp2_with (go_at_call 10; refine (format_bad HD.out x y (by decide) chX (by decide) (Or.inl HOK.out)).mono ?_; rintro e w3 ⟨rfl, h3⟩; have H2 := Aside0.mk h3; clear h3 HD)
        go_meet
        case rel => exact ⟨rfl, ⟨⟨_, H2.out, ⟨fun h => absurd h (by decide), fun _ => rfl⟩⟩⟩⟩
    case rest =>
      obtain ⟨rfl, hD⟩ := hcut
      clear HD
      have HD := hD
      clear hD
      go_upto_region 6 with fail
      go_cut [11, 12, 13] (fun s11 s12 s13 wx => s13 = .int .i64 (if ok = true then 0 else 1) ∧ Aside0 (∃ D R, HL W wx ([] ++ (d, D) :: []) R))
      case first =>
        obtain ⟨D, hD, hyes, hno⟩ := HD.out
        have HE := Aside0.mk hD
        clear hD HD
        cases ok with
        | true =>
          obtain ⟨T, hf, rfl, rfl, hk⟩ := hyes rfl
          clear hno hyes
          go_wp2_with (go_at_call 11; refine (open_use HE.out hk HT.out).mono ?_; rintro e w4 ⟨g, A1, c, rfl, L, h4, -, -, -, -, -⟩; have H3 := Aside0.mk h4; clear h4 HE)
          go_meet
          case rel => exact ⟨rfl, ⟨_, _, H3.out⟩⟩
        | false =>
          have hsz := hno rfl
          clear hno hyes
          go_wp2_with (go_at_call 11; refine (open_bad' HE.out x y (by rw [hsz]; decide) (by rw [hsz]; exact HOK.out)).mono ?_; rintro e w4 ⟨rfl, h4⟩; have H3 := Aside0.mk h4; clear h4 HE)
          go_meet
          case rel => exact ⟨rfl, ⟨_, _, H3.out⟩⟩
      case rest =>
        obtain ⟨rfl, hD⟩ := hcut
        clear HD
        obtain ⟨D, R, hD⟩ := hD.out
        have HD := Aside0.mk hD
        clear hD
        have ha := and1023 z
        obtain ⟨n, hn, hw⟩ : ∃ n : Nat, n ≤ 1023 ∧ z % 1024 = (n : Int) := ⟨(z % 1024).toNat, by omega, by omega⟩
        go_upto_region 10 with (go_at_call 15; refine marks_nil.mono ?_; rintro e w5 ⟨rfl, h5⟩; rw [h5]; clear h5)
        clear ha hw
        have hsl : ∃ D R, HL W wc ([] ++ (d, D) :: []) R := ⟨D, R, HD.out⟩
        go_cut [90] (fun s90 wx => s90 = .bool false ∧ Aside0 (HL W wx ([] ++ (d, D) :: []) R))
        case first =>
          cases ok with
          | true =>
            go_wp2_with fail
            go_meet
            case rel => exact ⟨rfl, HD⟩
          | false =>
            go_wp2_with fail
            go_meet
            case rel => exact ⟨rfl, HD⟩
        case rest =>
          obtain ⟨rfl, HE⟩ := hcut
          clear HD hsl
          generalize (if ok = true then (0 : Int) else 1) = ee
          have hmk := zeros_make n (by omega)
          have hcv := zeros_text n (by omega)
          go_upto_region 14 with (first
            | (go_at_call 9; refine (new_HL HE.out 20 (by decide) (by decide)).mono ?_; rintro e w6 ⟨d2, rfl, h6⟩; have H6 : Aside0 (HL W w6 ([] ++ (d2, (TD.new 20).dev) :: [(d, D)]) R) := ⟨h6⟩; clear h6 HE)
            | (go_at_call 11; refine (open_form H6.out (at_ := 0) (half := 2) (new_all 20 0).where rfl (by decide) (by decide) (by decide) (by decide) (Nat.zero_le _) HT.out (by rw [new_fk])).mono ?_; rintro e w7 ⟨rfl, h7⟩; have H7 := Aside0.mk h7; clear h7 H6))
          have H8 := Aside0.mk (fun (w' : World) (hb : Below w7.heap.size w7 w') => H7.out.below hb)
          by_cases hr : 1 ≤ n ∧ n ≤ 482
          · have d1 : (0 : Int) < (n : Int) := by omega
            have d2' : (n : Int) ≤ 482 := by omega
            have hzs : (Bld.zs n).size = n := Bld.zs_size n
            go_wp2_with (first
              | (go_at_call 10; refine (format_use (H8.out _ (below_alloc (Below.refl _ _) _)) (at_ := 0) (half := 2) (siteNew (by decide) (by decide) (by decide) (by decide)) (Bld.zs n) ⟨by omega, by omega⟩ (by omega) (by omega) HT.out).mono ?_; rintro e w8 ⟨rfl, T8, h8, -, -⟩; have H9 := Aside0.mk h8; clear h8 H8 H7)
              | (go_at_call 13; refine (append_nil 1 chX).mono ?_; rintro e w9 ⟨rfl, h9⟩; rw [h9]; clear h9)
              | (go_at_call 14; refine flush_nil.mono ?_; rintro e w10 ⟨rfl, h10⟩; have H10 := Aside0.mk (H9.out.below h10); clear h10 H9)
              | (go_at_call 12; refine (switch_nil 1 chX).mono ?_; rintro e w11 ⟨rfl, h11⟩; rw [h11]; clear h11)
              | (go_at_call 16; refine room_nil.mono ?_; rintro e w12 ⟨rfl, h12⟩; rw [h12]; clear h12))
            go_ret
            exact ⟨rfl, H10.out.bel⟩
          · have hzs : (Bld.zs n).size = n := Bld.zs_size n
            have hbad : (Bld.zs n).size = 0 ∨ (2 : Int) * 242 < ((Bld.zs n).size : Int) + 2 := by rw [hzs]; omega
            by_cases h0 : n = 0
            · have d1 : ¬ (0 : Int) < (n : Int) := by omega
              clear hr h0
              go_wp2_with (first
              | (go_at_call 10; refine (format_bad (H8.out _ (below_alloc (Below.refl _ _) _)) 0 2 (by decide) (Bld.zs n) (by omega) (Or.inr hbad)).mono ?_; rintro e w8 ⟨rfl, h8⟩; have H9 := Aside0.mk h8; clear h8 H8 H7)
              | (go_at_call 13; refine (append_nil 1 chX).mono ?_; rintro e w9 ⟨rfl, h9⟩; rw [h9]; clear h9)
              | (go_at_call 14; refine flush_nil.mono ?_; rintro e w10 ⟨rfl, h10⟩; have H10 := Aside0.mk (H9.out.below h10); clear h10 H9)
              | (go_at_call 12; refine (switch_nil 1 chX).mono ?_; rintro e w11 ⟨rfl, h11⟩; rw [h11]; clear h11)
              | (go_at_call 16; refine room_nil.mono ?_; rintro e w12 ⟨rfl, h12⟩; rw [h12]; clear h12))
              go_ret
              exact ⟨rfl, H10.out.bel⟩
            · have d1 : (0 : Int) < (n : Int) := by omega
              have d2' : ¬ (n : Int) ≤ 482 := by omega
              have d3 : decide ((n : Int) ≤ 482) = false := decide_eq_false d2'
              clear hr h0
              go_wp2_with (first
              | (go_at_call 10; refine (format_bad (H8.out _ (below_alloc (Below.refl _ _) _)) 0 2 (by decide) (Bld.zs n) (by omega) (Or.inr hbad)).mono ?_; rintro e w8 ⟨rfl, h8⟩; have H9 := Aside0.mk h8; clear h8 H8 H7)
              | (go_at_call 13; refine (append_nil 1 chX).mono ?_; rintro e w9 ⟨rfl, h9⟩; rw [h9]; clear h9)
              | (go_at_call 14; refine flush_nil.mono ?_; rintro e w10 ⟨rfl, h10⟩; have H10 := Aside0.mk (H9.out.below h10); clear h10 H9)
              | (go_at_call 12; refine (switch_nil 1 chX).mono ?_; rintro e w11 ⟨rfl, h11⟩; rw [h11]; clear h11)
              | (go_at_call 16; refine room_nil.mono ?_; rintro e w12 ⟨rfl, h12⟩; rw [h12]; clear h12))
              go_ret
              exact ⟨rfl, H10.out.bel⟩
end Go.Proofs.YtegeaemkkbenfaaDoor.Ownd
