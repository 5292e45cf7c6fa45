/- law08.WalSwitches, walked: it says true. Conditions: the texts are read at the slice that is handed in; the table lies as the program lays it. -/
import Derived.Test.YtegeaemkkbenfaaDoorWFull
namespace Go.Proofs.YtegeaemkkbenfaaDoor.Ownd
open Go.Shelf Go.RowKit Go.Proofs.YtegeaemkkbenfaaDoorW.PrintWords Go.Proofs.YtegeaemkkbenfaaDoorW.PrintLast Go.Proofs.YtegeaemkkbenfaaDoorW.PrintMore
set_option linter.unusedVariables false
set_option linter.unusedSimpArgs false
variable {w W : World} {l1 l2 : List (Nat × Dev)} {rest : List Thing} {g d : Nat} {T : TD} {L : LG} {at_ G : Int} {half q : Nat} {l : List ByteArray}
theorem blow_use (h : HL w W (l1 ++ (d, T.dev) :: l2) rest) (hw : T.wait = []) (A : Option Addr) (c : Nat) (keep : List Int) (hK : Kd.C (Kd.int .i64) W A keep.length keep) :
    Calls Tryd.prog 17 #[.pointer (some ⟨d, 0, none⟩), .slice A keep.length c] W fun ex W' => ex = .returned (.tuple #[]) ∧ HL w W' (l1 ++ (d, (T.blow keep).dev) :: l2) rest := by
  have := blow_HL h (by show T.dev.wait.length ≤ _; show (T.wait.map encW).length ≤ _; rw [hw]; exact Nat.zero_le _) A c keep hK
  rwa [← TD.dev_blow] at this
theorem on_use (h : HL w W (l1 ++ (d, T.dev) :: l2) rest) : Calls Tryd.prog 18 #[.pointer (some ⟨d, 0, none⟩)] W fun ex W' => ex = .returned (.tuple #[]) ∧ HL w W' (l1 ++ (d, T.on.dev) :: l2) rest := by
  have := on_HL h
  rwa [← TD.dev_on] at this
def chMore : ByteArray := ⟨#[109, 111, 114, 101]⟩
def chLost : ByteArray := ⟨#[108, 111, 115, 116]⟩
def swTold (k : Nat) (s : ByteArray) : List ByteArray := if k = 0 then [s] else [s, chMore]
theorem sw_enc1 (s : ByteArray) : (encT [s]).size = s.size + 2 := by rw [enc_one, textB_size]
theorem sw_enc2 (s : ByteArray) : (encT ([s] ++ [chMore])).size = s.size + 8 := by rw [encT_snoc, ByteArray.size_append, textB_size, sw_enc1]; rfl
theorem sw_d12 {k : Nat} (h : k < 12) : decide ((k : Int) < 12) = true := decide_eq_true (by omega)
theorem sw_n12 {n : Nat} (h : min 12 n < n) : decide (((min 12 n : Nat) : Int) < 12) = false := decide_eq_false (by omega)
theorem sw_w12 {k : Nat} (h : k < 12) : wrap64 ((k : Int) + 1) = ((k + 1 : Nat) : Int) := by unfold wrap64; omega
set_option maxHeartbeats 8000000 in
set_option maxRecDepth 100000 in
theorem switches_calls {W : World} (hT : Tab W) (A : Option Addr) (ca : Nat) (l : List ByteArray) (hA : Kd.C Kd.string W A l.length l) (hca : l.length ≤ ca) : Calls Tryd.prog 6 #[.slice A l.length ca] W fun ex W' => ex = .returned (.bool true) ∧ Below W.heap.size W W' := by
  have HT := Aside0.mk hT
  have HA := Aside0.mk hA
  clear hT hA
  go_enter Tryd.func6, Tryd.ntmps6
  go_upto_block 0 with (first
    | (go_at_call 8; refine (speaks_calls HT.out).mono ?_; rintro e w1 ⟨rfl, hb1⟩; have H0 := Aside0.mk (HL.start2 hb1); clear hb1)
    | (go_at_call 9; refine (new_HL H0.out 14 (by decide) (by decide)).mono ?_; rintro e w2 ⟨d, rfl, h2⟩; have H1 : Aside0 (HL W w2 ([] ++ (d, (TD.new 14).dev) :: []) []) := ⟨h2⟩; clear h2 H0)
    | (go_at_call 10; refine (format_use H1.out (at_ := 1) (half := 4) (siteNew (by decide) (by decide) (by decide) (by decide)) chF rightF (by decide) (by decide) HT.out).mono ?_; rintro e w3 ⟨rfl, T, h3, hk, hfu⟩; have H2 := Aside0.mk h3; have HK := Aside0.mk hk; have HFU := Aside0.mk hfu; clear h3 hk hfu H1)
    | (go_at_call 11; refine (open_use H2.out HK.out HT.out).mono ?_; rintro e w4 ⟨g, A1, c, rfl, L, h4, ho, hg, -, -, -⟩; have H3 := Aside0.mk h4; have HO := Aside0.mk ho; have HG := Aside0.mk hg; clear h4 ho hg H2))
  obtain ⟨R, hR⟩ : ∃ R : List Thing, [Thing.row Kd.string 9 (Value.slice A1 [chF].length c) [chF]] = R := ⟨_, rfl⟩
  rw [hR] at H3
  clear hR
  go_cut [8] (fun s8 wx => ∃ last, s8 = .string last ∧ Aside0 (∃ T, HL W wx ([] ++ (d, TD.dev T) :: []) R ∧ Kept T 1 4 (swTold l.length last) 20))
  case first =>
    go_wp2_with fail
    go_loopg [8, 9] (min 12 l.length) (fun gg s8 s9 wr => ∃ k : Nat, k ≤ min 12 l.length ∧ min 12 l.length - k ≤ gg ∧ s9 = .int .i64 k ∧ ∃ last, s8 = .string last ∧ Aside0 (∃ T L, HL W wr ([] ++ (d, TD.dev T) :: []) (LT g d L :: R) ∧ Opened T L 1 4 ∧ T.fuse = 0 ∧ L.greatest ≤ 1 + (k : Int) ∧ Kept T 1 4 (swTold k last) 20))
    case atStart => exact ⟨0, Nat.zero_le _, Nat.le_refl _, rfl, chF, rfl, ⟨T, L, H3.out, HO.out, HFU.out, HG.out, HK.out.mono (by decide)⟩⟩
    case round =>
      clear H3 HO HFU HG HK
      obtain ⟨k, hk, hg, rfl, last, rfl, ⟨T, L, hO, hop, hfu, hgr, hkp⟩⟩ := hrel
      by_cases hlt : k < min 12 l.length
      · clear hkp
        have hk1 : k < l.length := Nat.lt_of_lt_of_le hlt (Nat.min_le_right _ _)
        have hk2 : k < 12 := Nat.lt_of_lt_of_le hlt (Nat.min_le_left _ _)
        obtain ⟨ad, rfl, x0⟩ := str_at HA.out k hk1 rfl
        have y0 := (hO.bel.cell (World.block_lt_of_cell? W _ x0)).trans x0
        clear x0
        generalize l[k] = x at y0
        have d1 := sz_lt hk1
        have d2 := sw_d12 hk2
        have hw := sw_w12 hk2
        have HTX := Aside0.mk (text_calls (W := wr) 0 0 (.slice none 0 0) x k (Nat.lt_trans hk2 (by decide)))
        have hsz := tx_size x k
        have hrt := tx_right x k
        generalize tx x k = t at HTX hsz hrt
        have HSW := Aside0.mk (fun (w' : World) (h : HL W w' ([] ++ (d, TD.dev T) :: []) (LT g d L :: R)) => switch_use h hop hfu hgr (by omega) (k : Int) t hrt (by omega) (by omega) HT.out)
        have HO := Aside0.mk hO
        clear hO hop hfu hgr
        go_upto_region 14 with (go_at_call 20; refine HTX.out.mono ?_; rintro e w6 ⟨rfl, h6⟩; have H6 := Aside0.mk (HO.out.below h6); clear h6 HO HTX)
        clear y0 d1 d2
        go_wp2_with (first
          | (go_at_call 12; refine (HSW.out _ H6.out).mono ?_; rintro e w7 ⟨rfl, T7, L7, h7, hu7, hf7, hE7⟩; have H7 := Aside0.mk h7; have HU7 := Aside0.mk hu7; have HF7 := Aside0.mk hf7; have HE7 := Aside0.mk hE7; clear h7 hu7 hf7 hE7 HSW H6)
          | (go_at_call 13; refine (append_ok H7.out HU7.out (k : Int) chMore (by decide) (by decide) (by rw [sw_enc1]; show t.size + 2 + 6 ≤ 968; omega)).mono ?_; rintro e w8 ⟨rfl, L8, h8, hu8, hE8⟩; have H8 := Aside0.mk h8; have HU8 := Aside0.mk hu8; have HE8 := Aside0.mk (Int.le_trans (Int.le_of_eq hE8) HE7.out); clear h8 hu8 hE8 H7 HU7 HE7)
          | (go_at_call 14; refine (flush_use H8.out HU8.out HF7.out HE8.out (by omega) HT.out).mono ?_; rintro e w9 ⟨rfl, T9, L9, h9, hu9, hf9, hE9⟩; have H9 := Aside0.mk h9; have HU9 := Aside0.mk hu9; have HF9 := Aside0.mk hf9; have HE9 := Aside0.mk hE9; clear h9 hu9 hf9 hE9 H8 HU8 HE8 HF7)
          | (go_at_call 13; refine (append_ok H9.out HU9.out (k : Int) chLost (by decide) (by decide) (by rw [sw_enc2]; show t.size + 8 + 6 ≤ 968; omega)).mono ?_; rintro e w10 ⟨rfl, L10, h10, hu10, hE10⟩; have H10 := Aside0.mk h10; have HU10 := Aside0.mk hu10; have HE10 := Aside0.mk (Int.le_trans (Int.le_of_eq hE10) HE9.out); clear h10 hu10 hE10 H9 HU9 HE9))
        have hk3 : Kept T9 1 4 (swTold (k + 1) t) 20 := (HU10.out.kept (Nat.le_add_left 1 1) HE10.out).mono (by omega)
        have HK3 := Aside0.mk hk3
        clear hk3
        go_roundg (min 12 l.length - (k + 1))
        case measure => omega
        case rel => exact ⟨k + 1, hlt, Nat.le_refl _, by first | rfl | rw [hw], t, rfl, ⟨T9, L10, H10.out, HU10.out.opened, HF9.out, by rw [HU10.out.great]; have := HE10.out; omega, HK3.out⟩⟩
      · obtain rfl : k = min 12 l.length := Nat.le_antisymm hk (Nat.not_lt.mp hlt)
        have hst : swTold (min 12 l.length) last = swTold l.length last := by
          unfold swTold
          by_cases h0 : l.length = 0
          · rw [if_pos (by omega), if_pos h0]
          · rw [if_neg (by omega), if_neg h0]
        rw [hst] at hkp
        have HO : Aside0 (∃ T, HL W wr ([] ++ (d, TD.dev T) :: []) R ∧ Kept T 1 4 (swTold l.length last) 20) := ⟨T, hO.drop1, hkp⟩
        clear hO hop hfu hgr hkp hst
        by_cases h1 : min 12 l.length < l.length
        · have d1 := sz_lt h1
          have d2 := sw_n12 h1
          generalize min 12 l.length = k at *
          go_wp2_with fail
          go_meet
          case rel => exact ⟨last, rfl, HO⟩
        · have d1 : decide (((min 12 l.length : Nat) : Int) < (l.length : Int)) = false := decide_eq_false (by omega)
          generalize min 12 l.length = k at *
          go_wp2_with fail
          go_meet
          case rel => exact ⟨last, rfl, HO⟩
  case rest =>
    obtain ⟨last, rfl, ⟨T, hO, hkp⟩⟩ := hcut
    have HO := Aside0.mk hO
    have HK := Aside0.mk hkp
    clear hO hkp H3 HFU HG HA
    by_cases h0 : l.length = 0
    · rw [show swTold l.length last = [last] from if_pos h0] at HK
      rw [h0]
      have HK2 := Aside0.mk (HK.out.turned [1]).1
      go_upto_region 19 with (first
        | (go_at_call 17; refine (blow_use (HO.out.below (below_alloc (Below.refl _ _) _)) HK.out.wait _ 1 [1] (C_lit wc 3 [1] (by decide))).mono ?_; rintro e w7 ⟨rfl, h7⟩; have H7 := Aside0.mk h7; clear h7)
        | (go_at_call 18; refine (on_use H7.out).mono ?_; rintro e w8 ⟨rfl, h8⟩; have H8 := Aside0.mk h8; clear h8 H7)
        | (go_at_call 11; refine (open_use H8.out HK2.out HT.out).mono ?_; rintro e w9 ⟨g2, A2, c2, rfl, L9, h9, -, -, -, -, -⟩; have H9 := Aside0.mk h9; clear h9 H8))
      obtain ⟨b, rfl, hc1, -, z0⟩ := H9.out.str_at 1 rfl 0 (Nat.succ_pos _)
      replace z0 : w9.cell? ⟨b, 0, none⟩ = some (.string last) := z0
      replace hc1 : 1 ≤ c2 := hc1
      go_wp2_with fail
      go_ret
      exact ⟨rfl, H9.out.bel⟩
    · rw [show swTold l.length last = [last, chMore] from if_neg h0] at HK
      have HK2 := Aside0.mk (HK.out.turned [1]).1
      go_upto_region 19 with (first
        | (go_at_call 17; refine (blow_use (HO.out.below (below_alloc (Below.refl _ _) _)) HK.out.wait _ 1 [1] (C_lit wc 3 [1] (by decide))).mono ?_; rintro e w7 ⟨rfl, h7⟩; have H7 := Aside0.mk h7; clear h7)
        | (go_at_call 18; refine (on_use H7.out).mono ?_; rintro e w8 ⟨rfl, h8⟩; have H8 := Aside0.mk h8; clear h8 H7)
        | (go_at_call 11; refine (open_use H8.out HK2.out HT.out).mono ?_; rintro e w9 ⟨g2, A2, c2, rfl, L9, h9, -, -, -, -, -⟩; have H9 := Aside0.mk h9; clear h9 H8))
      obtain ⟨b, rfl, hc1, -, z0⟩ := H9.out.str_at 1 rfl 0 (Nat.succ_pos _)
      obtain ⟨b', e', -, -, z1⟩ := H9.out.str_at 1 rfl 1 (Nat.lt_succ_self _)
      obtain rfl : b = b' := by injection e' with e'; injection e'
      replace z0 : w9.cell? ⟨b, 0, none⟩ = some (.string last) := z0
      replace z1 : w9.cell? ⟨b, 1, none⟩ = some (.string ⟨#[109, 111, 114, 101]⟩) := z1
      replace hc1 : 2 ≤ c2 := hc1
      have d1 : ((l.length : Int) == 0) = false := by rw [beq_eq_false_iff_ne]; omega
      have d2 : (0 : Int) < (l.length : Int) := by omega
      go_wp2_with fail
      go_ret
      exact ⟨rfl, H9.out.bel⟩
end Go.Proofs.YtegeaemkkbenfaaDoor.Ownd
