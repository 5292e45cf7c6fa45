/- law08.WalFull, walked: it says true. Condition: the table lies as the program lays it. -/
import Derived.Test.YtegeaemkkbenfaaDoorWUse
namespace Go.Proofs.YtegeaemkkbenfaaDoor.Ownd
open Go.Shelf Go.RowKit Go.Proofs.YtegeaemkkbenfaaDoorW.PrintWords Go.Proofs.YtegeaemkkbenfaaDoorW.PrintLast Go.Proofs.YtegeaemkkbenfaaDoorW.PrintMore
set_option linter.unusedVariables false
set_option linter.unusedSimpArgs false
theorem strs_zero (m : Nat) : strOfNums (List.replicate m 0) = Bld.zs m := by
  unfold strOfNums Bld.zs
  rw [List.map_replicate]; rfl
theorem zeros_make (m : Nat) (hm : m ≤ 1000000) : ∀ W : World, (Instr.makeSlice 32 (.int .i64 (m : Int)) (.int .i64 (m : Int))).run Tryd.prog W = .ok (.slice (some ⟨W.heap.size, 0, none⟩) m m) (W.alloc (.cells (madeCells #[.int .u8 0] m) 5)) :=
  print_make 32 5 .u8 1 Tryd.underlying32 (by kernel_rfl) (by decide) m (by omega)
theorem zeros_text (m : Nat) (hm : m ≤ 1000000) (W : World) : (convert 32 9 (.slice (some ⟨W.heap.size, 0, none⟩) m m)).run Tryd.prog (W.alloc (.cells (madeCells #[.int .u8 0] m) 5)) = .ok (.string (Bld.zs m)) (W.alloc (.cells (madeCells #[.int .u8 0] m) 5)) := by
  rw [← strs_zero]
  exact run_convert_bytes_arg (P := Tryd.prog) _ 32 5 Tryd.underlying32 Tryd.underlying5 W.heap.size 0 m m (List.replicate m 0) (by rw [List.length_replicate]) (fun i hi => by
    have hb := blk_cell (blk_new W (.cells (madeCells #[.int .u8 0] m) 5)) (0 + i)
    rw [hb]
    simp only [madeCells, Nat.zero_add]
    simp [Nat.mod_one, show i < m by omega, List.getElem_replicate]) 9 Tryd.underlying9
def chF : ByteArray := ⟨#[102]⟩
theorem rightF : Right chF := ⟨by decide, by decide⟩
theorem full_h (n : Int) : ∃ m : Nat, 1 ≤ m ∧ m ≤ 8 ∧ 1 + n % 8 = (m : Int) := ⟨(1 + n % 8).toNat, by omega, by omega, by omega⟩
theorem full_s (n : Int) : ∃ m : Nat, 1 ≤ m ∧ m ≤ 128 ∧ 1 + n % 128 = (m : Int) := ⟨(1 + n % 128).toNat, by omega, by omega, by omega⟩
theorem enc_rep (z : ByteArray) : ∀ i : Nat, (encT (chB :: List.replicate i z)).size = 3 + i * (z.size + 2)
  | 0 => by rw [Nat.zero_mul]; rfl
  | i + 1 => by
    rw [List.replicate_succ', ← List.cons_append, encT_snoc, ByteArray.size_append, textB_size, enc_rep z i, Nat.succ_mul]
    omega
theorem full_fits (hf sz : Nat) (h1 : 1 ≤ hf) (h2 : hf ≤ 8) (s1 : 1 ≤ sz) (s2 : sz ≤ 128) : ∃ m : Nat, (242 * (hf : Int) - 3) / ((sz : Int) + 2) = (m : Int) ∧ 1 ≤ m ∧ m ≤ 1000 ∧ 3 + m * (sz + 2) ≤ hf * 242 ∧ hf * 242 < 3 + m * (sz + 2) + (sz + 2) := by
  refine ⟨(242 * hf - 3) / (sz + 2), ?_, ?_, ?_, ?_, ?_⟩
  · rw [show 242 * (hf : Int) - 3 = ((242 * hf - 3 : Nat) : Int) by omega, show (sz : Int) + 2 = ((sz + 2 : Nat) : Int) by omega, Int.natCast_ediv]
  · rw [Nat.le_div_iff_mul_le (by omega)]; omega
  · exact Nat.le_of_lt_succ (Nat.div_lt_of_lt_mul (by omega))
  · have := Nat.div_mul_le_self (242 * hf - 3) (sz + 2); omega
  · have := Nat.lt_div_mul_add (a := 242 * hf - 3) (show 0 < sz + 2 by omega); omega
theorem full_room {i m sz hf : Nat} (hi : i < m) (h : 3 + m * (sz + 2) ≤ hf * 242) : 3 + i * (sz + 2) + (sz + 2) ≤ hf * 242 := by
  have : (i + 1) * (sz + 2) ≤ m * (sz + 2) := Nat.mul_le_mul_right _ hi
  rw [Nat.succ_mul] at this
  omega
set_option maxHeartbeats 8000000 in
set_option maxRecDepth 100000 in
theorem full_calls {W : World} (hT : Tab W) (x y : Int) : Calls Tryd.prog 3 #[.int .i64 x, .int .i64 y] W fun ex W' => ex = .returned (.bool true) ∧ Below W.heap.size W W' := by
  have HT := Aside0.mk hT
  clear hT
  have ha := and7 x
  have hb := and127 y
  obtain ⟨hf, h1, h2, hw⟩ := full_h x
  obtain ⟨sz, s1, s2, sw⟩ := full_s y
  go_enter Tryd.func3, Tryd.ntmps3
  go_upto_region 5 with (first
    | (go_at_call 8; refine (speaks_calls HT.out).mono ?_; rintro e w1 ⟨rfl, hb1⟩; have H0 := Aside0.mk (HL.start2 hb1); clear hb1))

  clear ha hb hw sw
  have hn : (2 : Int) + 2 * (hf : Int) = ((2 + 2 * hf : Nat) : Int) := by omega
  have HN := Aside0.mk (new_HL H0.out (2 + 2 * hf) (by omega) (by omega))
  rw [← hn] at HN
  have hSite : Site (TD.new (2 + 2 * hf)) 0 hf := siteNew (by decide) (by omega) (by omega) (by omega)
  have HS := Aside0.mk hSite
  have HF := Aside0.mk (fun (d : Nat) (w' : World) (h : HL W w' ([] ++ (d, (TD.new (2 + 2 * hf)).dev) :: []) []) => format_use h HS.out chF rightF (by decide) (show chF.size + 2 ≤ hf * 242 by rw [show chF.size = 1 from rfl]; omega) HT.out)
  clear hn hSite HS
  have hmk := zeros_make sz (by omega)
  have hcv := zeros_text sz (by omega)
  go_upto_region 12 with (first
    | (go_at_call 9; refine HN.out.mono ?_; rintro e w2 ⟨d, rfl, h2⟩; have H1 : Aside0 (HL W w2 ([] ++ (d, (TD.new (2 + 2 * hf)).dev) :: []) []) := ⟨h2⟩; clear h2 H0 HN)
    | (go_at_call 10; refine (HF.out _ _ H1.out).mono ?_; rintro e w3 ⟨rfl, T, h3, hk, hfu⟩; have H2 := Aside0.mk h3; have HK := Aside0.mk hk; have HFU := Aside0.mk hfu; clear h3 hk hfu H1 HF)
    | (go_at_call 11; refine (open_use H2.out HK.out HT.out).mono ?_; rintro e w4 ⟨g, A, c, rfl, L, h4, ho, hg, -, -, -⟩; have H3 := Aside0.mk h4; have HO := Aside0.mk ho; have HG := Aside0.mk hg; clear h4 ho hg H2 HK))
  clear hmk hcv
  have H4 := Aside0.mk (H3.out.below (below_alloc (Below.refl _ _) (.cells (madeCells #[.int .u8 0] sz) 5)))
  clear H3
  generalize w4.alloc (.cells (madeCells #[.int .u8 0] sz) 5) = w5 at H4 ⊢
  obtain ⟨R, hR⟩ : ∃ R : List Thing, [Thing.row Kd.string 9 (Value.slice A [chF].length c) [chF]] = R := ⟨_, rfl⟩
  rw [hR] at H4
  clear hR
  obtain ⟨z, hz⟩ : ∃ z, Bld.zs sz = z := ⟨_, rfl⟩
  have hzs : z.size = sz := by rw [← hz]; exact Bld.zs_size sz
  rw [hz]
  clear hz
  go_wp2_with fail
  go_loopg [11] 3 (fun gg s11 wr => ∃ k : Nat, k ≤ 3 ∧ 3 - k ≤ gg ∧ s11 = .int .i64 k ∧ Aside0 (∃ T L, HL W wr ([] ++ (d, TD.dev T) :: []) (LT g d L :: R) ∧ Opened T L 0 hf ∧ T.fuse = 0 ∧ L.greatest ≤ 1 + (k : Int)))
  case atStart => exact ⟨0, Nat.zero_le _, Nat.le_refl _, rfl, ⟨T, L, H4.out, HO.out, HFU.out, HG.out⟩⟩
  case round =>
    clear H4 HO HFU HG
    obtain ⟨k, hk, hg, rfl, ⟨T, L, hO, hop, hfu, hgr⟩⟩ := hrel
    by_cases hlt : k < 3
    · have d1 : decide ((k : Int) < 3) = true := decide_eq_true (by omega)
      have HSW := Aside0.mk (switch_use hO hop hfu hgr (by omega) (k : Int) chB rightB' (by decide) (show chB.size + 2 ≤ hf * 242 by rw [show chB.size = 1 from rfl]; omega) HT.out)
      clear hO hop hfu hgr
      go_upto_region 18 with (go_at_call 12; refine HSW.out.mono ?_; rintro e w6 ⟨rfl, T6, L6, h6, hu6, hf6, hE6⟩; have H6 := Aside0.mk h6; have HU6 := Aside0.mk hu6; have HF6 := Aside0.mk hf6; have HE6 := Aside0.mk hE6; clear h6 hu6 hf6 hE6 HSW)
      obtain ⟨m, hm, m1, m2, m3, m4⟩ := full_fits hf sz h1 h2 s1 s2
      rw [hm]
      clear hm
      go_wp2_with fail
      go_loopg [13] m (fun gg s13 wr => ∃ i : Nat, i ≤ m ∧ m - i ≤ gg ∧ s13 = .int .i64 i ∧ Aside0 (∃ L, HL W wr ([] ++ (d, TD.dev T6) :: []) (LT g d L :: R) ∧ InUse T6 L 0 hf (chB :: List.replicate i z) 1 ∧ L.epoch ≤ 1 + (k : Int) + 1))
      case atStart => exact ⟨0, Nat.zero_le _, Nat.le_refl _, rfl, ⟨L6, H6.out, HU6.out, HE6.out⟩⟩
      case round =>
        clear H6 HU6 HE6
        obtain ⟨i, hi, hgi, rfl, ⟨L7, h7, hu7, hE7⟩⟩ := hrel
        by_cases hlti : i < m
        · have d2 : decide ((i : Int) < (m : Int)) = true := decide_eq_true (by omega)
          have HAP := Aside0.mk (append_ok h7 hu7 (i : Int) z (by omega) (by omega) (by rw [enc_rep, hzs]; exact full_room hlti m3))
          clear h7 hu7
          go_wp2_with (go_at_call 13; refine HAP.out.mono ?_; rintro e w8 ⟨rfl, L8, h8, hu8, hE8⟩; have H8 := Aside0.mk h8; have HU8 := Aside0.mk hu8; have HE8 := Aside0.mk hE8; clear h8 hu8 hE8 HAP)
          go_roundg (m - (i + 1))
          case measure => omega
          case rel => exact ⟨i + 1, hlti, Nat.le_refl _, by first | rfl | (unfold wrap64; congr 1; omega), ⟨L8, H8.out, by rw [List.replicate_succ', ← List.cons_append]; exact HU8.out, by rw [HE8.out]; exact hE7⟩⟩
        · obtain rfl : i = m := by omega
          have d2 : decide ((i : Int) < (i : Int)) = false := decide_eq_false (by omega)
          have HAP := Aside0.mk (append_no h7 hu7 (i : Int) z (by omega) (by omega) (by rw [enc_rep, hzs]; omega))
          have HU7 := Aside0.mk hu7
          clear h7 hu7
          have HFL := Aside0.mk (fun (w' : World) (h : HL W w' ([] ++ (d, TD.dev T6) :: []) (LT g d L7 :: R)) => flush_use h HU7.out HF6.out hE7 (by omega) HT.out)
          clear hE7
          go_upto_region 25 with (first
            | (go_at_call 13; refine HAP.out.mono ?_; rintro e w8 ⟨rfl, h8⟩; have H8 := Aside0.mk h8; clear h8 HAP)
            | (go_at_call 14; refine (HFL.out _ H8.out).mono ?_; rintro e w9 ⟨rfl, T9, L9, h9, hu9, hf9, hE9⟩; have H9 := Aside0.mk h9; have HU9 := Aside0.mk hu9; have HF9 := Aside0.mk hf9; have HE9 := Aside0.mk hE9; clear h9 hu9 hf9 hE9 HFL H8))
          have hkp := HU9.out.kept (by rw [List.length_cons]; omega) HE9.out
          rw [List.take_length] at hkp
          obtain ⟨lt, hlt'⟩ : ∃ lt, chB :: List.replicate i z = lt := ⟨_, rfl⟩
          have hln : lt.length = 1 + i := by rw [← hlt', List.length_cons, List.length_replicate, Nat.add_comm]
          have hlast : ∀ h : i < lt.length, lt[i] = z := by
            subst hlt'
            intro h
            rw [List.getElem_cons, dif_neg (by omega), List.getElem_replicate]
          rw [hlt'] at hkp HU9
          clear hlt'
          have HOP := Aside0.mk (open_use H9.out hkp HT.out)
          rw [hln] at HOP
          have HLN := Aside0.mk hln
          have HLAST := Aside0.mk hlast
          clear hkp hln hlast d2 hgi hi
          have ho1 : 1 + (i : Int) - 1 = (i : Int) := by omega
          have ho2 : (i : Int) < 1 + (i : Int) := by omega
          have ho3 : (0 : Int) < (i : Int) := by omega
          go_upto_region 26 with (go_at_call 11; refine HOP.out.mono ?_; rintro e w10 ⟨g2, A2, c2, rfl, L10, h10, -, -, -, -, -⟩; obtain ⟨b2, rfl, hc2, -, z2⟩ := h10.str_at 1 rfl i (by rw [HLN.out]; omega); rw [HLAST.out] at z2; rw [HLN.out] at hc2; have H10 := Aside0.mk h10.drop1.drop1; clear h10 HOP H9)
          go_wp2_with fail
          go_roundg (3 - (k + 1))
          case measure => omega
          case rel => exact ⟨k + 1, hlt, Nat.le_refl _, by first | rfl | (unfold wrap64; congr 1; omega), ⟨T9, L9, H10.out, HU9.out.opened, HF9.out, by have := HU9.out.great; have := HE9.out; omega⟩⟩
    · obtain rfl : k = 3 := by omega
      go_wp2_with fail
      go_ret
      exact ⟨rfl, hO.bel⟩
end Go.Proofs.YtegeaemkkbenfaaDoor.Ownd

/- law08.WalSwitches, walked: it says true. Conditions: the texts are read at the slice that is handed in; the table lies as the program lays it. -/
namespace Go.Proofs.YtegeaemkkbenfaaDoor.Ownd
open Go.Shelf Go.RowKit Go.Proofs.YtegeaemkkbenfaaDoorW.PrintWords Go.Proofs.YtegeaemkkbenfaaDoorW.PrintLast Go.Proofs.YtegeaemkkbenfaaDoorW.PrintMore
set_option linter.unusedVariables false
set_option linter.unusedSimpArgs false
variable {w W : World} {l1 l2 : List (Nat × Dev)} {rest : List Thing} {g d : Nat} {T : TD} {L : LG} {at_ G : Int} {half q : Nat} {l : List ByteArray}
theorem blow_use (h : HL w W (l1 ++ (d, T.dev) :: l2) rest) (hw : T.wait = []) (A : Option Addr) (c : Nat) (keep : List Int) (hK : Kd.C (Kd.int .i64) W A keep.length keep) :
    Calls Tryd.prog 17 #[.pointer (some ⟨d, 0, none⟩), .slice A keep.length c] W fun ex W' => ex = .returned (.tuple #[]) ∧ HL w W' (l1 ++ (d, (T.blow keep).dev) :: l2) rest := by
  have := blow_HL h (by show T.dev.wait.length ≤ _; show (T.wait.map encW).length ≤ _; rw [hw]; exact Nat.zero_le _) A c keep hK
  rwa [← TD.dev_blow] at this
theorem on_use (h : HL w W (l1 ++ (d, T.dev) :: l2) rest) : Calls Tryd.prog 18 #[.pointer (some ⟨d, 0, none⟩)] W fun ex W' => ex = .returned (.tuple #[]) ∧ HL w W' (l1 ++ (d, T.on.dev) :: l2) rest := by
  have := on_HL h
  rwa [← TD.dev_on] at this
def chMore : ByteArray := ⟨#[109, 111, 114, 101]⟩
def chLost : ByteArray := ⟨#[108, 111, 115, 116]⟩
def swTold (k : Nat) (s : ByteArray) : List ByteArray := if k = 0 then [s] else [s, chMore]
theorem sw_enc1 (s : ByteArray) : (encT [s]).size = s.size + 2 := by rw [enc_one, textB_size]
theorem sw_enc2 (s : ByteArray) : (encT ([s] ++ [chMore])).size = s.size + 8 := by rw [encT_snoc, ByteArray.size_append, textB_size, sw_enc1]; rfl
theorem sw_d12 {k : Nat} (h : k < 12) : decide ((k : Int) < 12) = true := decide_eq_true (by omega)
theorem sw_n12 {n : Nat} (h : min 12 n < n) : decide (((min 12 n : Nat) : Int) < 12) = false := decide_eq_false (by omega)
theorem sw_w12 {k : Nat} (h : k < 12) : wrap64 ((k : Int) + 1) = ((k + 1 : Nat) : Int) := by unfold wrap64; omega
set_option maxHeartbeats 8000000 in
set_option maxRecDepth 100000 in
theorem switches_calls {W : World} (hT : Tab W) (A : Option Addr) (ca : Nat) (l : List ByteArray) (hA : Kd.C Kd.string W A l.length l) (hca : l.length ≤ ca) : Calls Tryd.prog 6 #[.slice A l.length ca] W fun ex W' => ex = .returned (.bool true) ∧ Below W.heap.size W W' := by
  have HT := Aside0.mk hT
  have HA := Aside0.mk hA
  clear hT hA
  go_enter Tryd.func6, Tryd.ntmps6
  go_upto_block 0 with (first
    | (go_at_call 8; refine (speaks_calls HT.out).mono ?_; rintro e w1 ⟨rfl, hb1⟩; have H0 := Aside0.mk (HL.start2 hb1); clear hb1)
    | (go_at_call 9; refine (new_HL H0.out 14 (by decide) (by decide)).mono ?_; rintro e w2 ⟨d, rfl, h2⟩; have H1 : Aside0 (HL W w2 ([] ++ (d, (TD.new 14).dev) :: []) []) := ⟨h2⟩; clear h2 H0)
    | (go_at_call 10; refine (format_use H1.out (at_ := 1) (half := 4) (siteNew (by decide) (by decide) (by decide) (by decide)) chF rightF (by decide) (by decide) HT.out).mono ?_; rintro e w3 ⟨rfl, T, h3, hk, hfu⟩; have H2 := Aside0.mk h3; have HK := Aside0.mk hk; have HFU := Aside0.mk hfu; clear h3 hk hfu H1)
    | (go_at_call 11; refine (open_use H2.out HK.out HT.out).mono ?_; rintro e w4 ⟨g, A1, c, rfl, L, h4, ho, hg, -, -, -⟩; have H3 := Aside0.mk h4; have HO := Aside0.mk ho; have HG := Aside0.mk hg; clear h4 ho hg H2))
  obtain ⟨R, hR⟩ : ∃ R : List Thing, [Thing.row Kd.string 9 (Value.slice A1 [chF].length c) [chF]] = R := ⟨_, rfl⟩
  rw [hR] at H3
  clear hR
  go_cut [8] (fun s8 wx => ∃ last, s8 = .string last ∧ Aside0 (∃ T, HL W wx ([] ++ (d, TD.dev T) :: []) R ∧ Kept T 1 4 (swTold l.length last) 20))
  case first =>
    go_wp2_with fail
    go_loopg [8, 9] (min 12 l.length) (fun gg s8 s9 wr => ∃ k : Nat, k ≤ min 12 l.length ∧ min 12 l.length - k ≤ gg ∧ s9 = .int .i64 k ∧ ∃ last, s8 = .string last ∧ Aside0 (∃ T L, HL W wr ([] ++ (d, TD.dev T) :: []) (LT g d L :: R) ∧ Opened T L 1 4 ∧ T.fuse = 0 ∧ L.greatest ≤ 1 + (k : Int) ∧ Kept T 1 4 (swTold k last) 20))
    case atStart => exact ⟨0, Nat.zero_le _, Nat.le_refl _, rfl, chF, rfl, ⟨T, L, H3.out, HO.out, HFU.out, HG.out, HK.out.mono (by decide)⟩⟩
    case round =>
      clear H3 HO HFU HG HK
      obtain ⟨k, hk, hg, rfl, last, rfl, ⟨T, L, hO, hop, hfu, hgr, hkp⟩⟩ := hrel
      by_cases hlt : k < min 12 l.length
      · clear hkp
        have hk1 : k < l.length := Nat.lt_of_lt_of_le hlt (Nat.min_le_right _ _)
        have hk2 : k < 12 := Nat.lt_of_lt_of_le hlt (Nat.min_le_left _ _)
        obtain ⟨ad, rfl, x0⟩ := str_at HA.out k hk1 rfl
        have y0 := (hO.bel.cell (World.block_lt_of_cell? W _ x0)).trans x0
        clear x0
        generalize l[k] = x at y0
        have d1 := sz_lt hk1
        have d2 := sw_d12 hk2
        have hw := sw_w12 hk2
        have HTX := Aside0.mk (text_calls (W := wr) 0 0 (.slice none 0 0) x k (Nat.lt_trans hk2 (by decide)))
        have hsz := tx_size x k
        have hrt := tx_right x k
        generalize tx x k = t at HTX hsz hrt
        have HSW := Aside0.mk (fun (w' : World) (h : HL W w' ([] ++ (d, TD.dev T) :: []) (LT g d L :: R)) => switch_use h hop hfu hgr (by omega) (k : Int) t hrt (by omega) (by omega) HT.out)
        have HO := Aside0.mk hO
        clear hO hop hfu hgr
        go_upto_region 14 with (go_at_call 20; refine HTX.out.mono ?_; rintro e w6 ⟨rfl, h6⟩; have H6 := Aside0.mk (HO.out.below h6); clear h6 HO HTX)
        clear y0 d1 d2
        go_wp2_with (first
          | (go_at_call 12; refine (HSW.out _ H6.out).mono ?_; rintro e w7 ⟨rfl, T7, L7, h7, hu7, hf7, hE7⟩; have H7 := Aside0.mk h7; have HU7 := Aside0.mk hu7; have HF7 := Aside0.mk hf7; have HE7 := Aside0.mk hE7; clear h7 hu7 hf7 hE7 HSW H6)
          | (go_at_call 13; refine (append_ok H7.out HU7.out (k : Int) chMore (by decide) (by decide) (by rw [sw_enc1]; show t.size + 2 + 6 ≤ 968; omega)).mono ?_; rintro e w8 ⟨rfl, L8, h8, hu8, hE8⟩; have H8 := Aside0.mk h8; have HU8 := Aside0.mk hu8; have HE8 := Aside0.mk (Int.le_trans (Int.le_of_eq hE8) HE7.out); clear h8 hu8 hE8 H7 HU7 HE7)
          | (go_at_call 14; refine (flush_use H8.out HU8.out HF7.out HE8.out (by omega) HT.out).mono ?_; rintro e w9 ⟨rfl, T9, L9, h9, hu9, hf9, hE9⟩; have H9 := Aside0.mk h9; have HU9 := Aside0.mk hu9; have HF9 := Aside0.mk hf9; have HE9 := Aside0.mk hE9; clear h9 hu9 hf9 hE9 H8 HU8 HE8 HF7)
          | (go_at_call 13; refine (append_ok H9.out HU9.out (k : Int) chLost (by decide) (by decide) (by rw [sw_enc2]; show t.size + 8 + 6 ≤ 968; omega)).mono ?_; rintro e w10 ⟨rfl, L10, h10, hu10, hE10⟩; have H10 := Aside0.mk h10; have HU10 := Aside0.mk hu10; have HE10 := Aside0.mk (Int.le_trans (Int.le_of_eq hE10) HE9.out); clear h10 hu10 hE10 H9 HU9 HE9))
        have hk3 : Kept T9 1 4 (swTold (k + 1) t) 20 := (HU10.out.kept (Nat.le_add_left 1 1) HE10.out).mono (by omega)
        have HK3 := Aside0.mk hk3
        clear hk3
        go_roundg (min 12 l.length - (k + 1))
        case measure => omega
        case rel => exact ⟨k + 1, hlt, Nat.le_refl _, by first | rfl | rw [hw], t, rfl, ⟨T9, L10, H10.out, HU10.out.opened, HF9.out, by rw [HU10.out.great]; have := HE10.out; omega, HK3.out⟩⟩
      · obtain rfl : k = min 12 l.length := Nat.le_antisymm hk (Nat.not_lt.mp hlt)
        have hst : swTold (min 12 l.length) last = swTold l.length last := by
          unfold swTold
          by_cases h0 : l.length = 0
          · rw [if_pos (by omega), if_pos h0]
          · rw [if_neg (by omega), if_neg h0]
        rw [hst] at hkp
        have HO : Aside0 (∃ T, HL W wr ([] ++ (d, TD.dev T) :: []) R ∧ Kept T 1 4 (swTold l.length last) 20) := ⟨T, hO.drop1, hkp⟩
        clear hO hop hfu hgr hkp hst
        by_cases h1 : min 12 l.length < l.length
        · have d1 := sz_lt h1
          have d2 := sw_n12 h1
          generalize min 12 l.length = k at *
          go_wp2_with fail
          go_meet
          case rel => exact ⟨last, rfl, HO⟩
        · have d1 : decide (((min 12 l.length : Nat) : Int) < (l.length : Int)) = false := decide_eq_false (by omega)
          generalize min 12 l.length = k at *
          go_wp2_with fail
          go_meet
          case rel => exact ⟨last, rfl, HO⟩
  case rest =>
    obtain ⟨last, rfl, ⟨T, hO, hkp⟩⟩ := hcut
    have HO := Aside0.mk hO
    have HK := Aside0.mk hkp
    clear hO hkp H3 HFU HG HA
    by_cases h0 : l.length = 0
    · rw [show swTold l.length last = [last] from if_pos h0] at HK
      rw [h0]
      have HK2 := Aside0.mk (HK.out.turned [1]).1
      go_upto_region 19 with (first
        | (go_at_call 17; refine (blow_use (HO.out.below (below_alloc (Below.refl _ _) _)) HK.out.wait _ 1 [1] (C_lit wc 3 [1] (by decide))).mono ?_; rintro e w7 ⟨rfl, h7⟩; have H7 := Aside0.mk h7; clear h7)
        | (go_at_call 18; refine (on_use H7.out).mono ?_; rintro e w8 ⟨rfl, h8⟩; have H8 := Aside0.mk h8; clear h8 H7)
        | (go_at_call 11; refine (open_use H8.out HK2.out HT.out).mono ?_; rintro e w9 ⟨g2, A2, c2, rfl, L9, h9, -, -, -, -, -⟩; have H9 := Aside0.mk h9; clear h9 H8))
      obtain ⟨b, rfl, hc1, -, z0⟩ := H9.out.str_at 1 rfl 0 (Nat.succ_pos _)
      replace z0 : w9.cell? ⟨b, 0, none⟩ = some (.string last) := z0
      replace hc1 : 1 ≤ c2 := hc1
      go_wp2_with fail
      go_ret
      exact ⟨rfl, H9.out.bel⟩
    · rw [show swTold l.length last = [last, chMore] from if_neg h0] at HK
      have HK2 := Aside0.mk (HK.out.turned [1]).1
      go_upto_region 19 with (first
        | (go_at_call 17; refine (blow_use (HO.out.below (below_alloc (Below.refl _ _) _)) HK.out.wait _ 1 [1] (C_lit wc 3 [1] (by decide))).mono ?_; rintro e w7 ⟨rfl, h7⟩; have H7 := Aside0.mk h7; clear h7)
        | (go_at_call 18; refine (on_use H7.out).mono ?_; rintro e w8 ⟨rfl, h8⟩; have H8 := Aside0.mk h8; clear h8 H7)
        | (go_at_call 11; refine (open_use H8.out HK2.out HT.out).mono ?_; rintro e w9 ⟨g2, A2, c2, rfl, L9, h9, -, -, -, -, -⟩; have H9 := Aside0.mk h9; clear h9 H8))
      obtain ⟨b, rfl, hc1, -, z0⟩ := H9.out.str_at 1 rfl 0 (Nat.succ_pos _)
      obtain ⟨b', e', -, -, z1⟩ := H9.out.str_at 1 rfl 1 (Nat.lt_succ_self _)
      obtain rfl : b = b' := by injection e' with e'; injection e'
      replace z0 : w9.cell? ⟨b, 0, none⟩ = some (.string last) := z0
      replace z1 : w9.cell? ⟨b, 1, none⟩ = some (.string ⟨#[109, 111, 114, 101]⟩) := z1
      replace hc1 : 2 ≤ c2 := hc1
      have d1 : ((l.length : Int) == 0) = false := by rw [beq_eq_false_iff_ne]; omega
      have d2 : (0 : Int) < (l.length : Int) := by omega
      go_wp2_with fail
      go_ret
      exact ⟨rfl, H9.out.bel⟩
end Go.Proofs.YtegeaemkkbenfaaDoor.Ownd

/- law08.WalReads, walked: it says true. Conditions: the texts are read at the slice that is handed in; the table lies as the program lays it. -/
namespace Go.Proofs.YtegeaemkkbenfaaDoor.Ownd
open Go.Shelf Go.RowKit Go.Proofs.YtegeaemkkbenfaaDoorW.PrintWords Go.Proofs.YtegeaemkkbenfaaDoorW.PrintLast Go.Proofs.YtegeaemkkbenfaaDoorW.PrintMore
set_option linter.unusedVariables false
set_option linter.unusedSimpArgs false
variable {w W : World} {l1 l2 : List (Nat × Dev)} {rest : List Thing} {g d : Nat} {T : TD} {L : LG} {at_ G : Int} {half q : Nat} {l : List ByteArray}
section
variable {P : Program} {ops : Array Oper} {rest' : List Oper} {o : Oper} {a : Act} {Q : Exit → Act → World → Prop} {α : Type}
/-- append(v, x) to a row beside the devices, behind 'at_builtin'. -/
theorem HL.append (d : Kd α) {w W : World} {ds : List (Nat × Dev)} {l : List Thing} (hO : HL w W ds l) (j : Nat) {v : Value} {xs : List α} {e : TypeId} (hj : l[j]? = some (.row d e v xs)) (hgd : o.guard = none) (s x : Operand) (t : TypeId) (z : Value) (bytes : Nat)
    (ho : o.op = .call { callee := .builtin .append, args := #[s, x], argTypes := #[t, t] })
    (ht : P.underlying t = some (.slice e)) (hinfo : (P.info? e).map (fun i => (i.zero, i.size, i.bytes)) = some (some z, d.sz, bytes)) (hz : z.cells.size = d.sz) (hs0 : 0 < d.sz) (hb0 : 0 < bytes)
    (p : α) (cs : List Value) (hs : a.eval s = v) (hx : a.eval x = .slice (some ⟨W.heap.size, 0, none⟩) 1 1) (hp : Kd.FK d W (fun _ => False) p cs) (hl : (xs.length + 1) * bytes ≤ 140737488355328)
    (h : ∀ v1 w1, HL w w1 ds (l.set j (.row d e v1 (xs ++ [p]))) → wpList P ops Q rest' (a.put o.dst v1) w1) :
    wpList P ops Q (o :: rest') a (W.alloc (.cells cs.toArray e)) := by
  obtain ⟨rs, h1, h2, hO⟩ := hO
  refine Own.append d hO ((rs.flatMap Raw.things).length + j) ((HL.index rs j).trans hj) hgd s x t z bytes ho ht hinfo hz hs0 hb0 p cs hs hx hp hl ?_
  intro v1 w1 h3
  rw [HL.setIndex] at h3
  exact h v1 w1 ⟨rs, h1, h2, h3⟩
end
theorem HL.row {ds : List (Nat × Dev)} (h : HL w W ds rest) (j : Nat) {α : Type} {k : Kd α} {e : Nat} {v : Value} {xs : List α} (hj : rest[j]? = some (.row k e v xs)) : ∃ A c, v = .slice A xs.length c ∧ xs.length ≤ c ∧ Kd.C k W A xs.length xs := by
  obtain ⟨rs, _, _, hO⟩ := h
  obtain ⟨A, c, h1, h2, h3⟩ := hO.reads _ ((HL.index rs j).trans hj)
  exact ⟨A, c, h1, h2, h3⟩
/-- A literal of texts. -/
theorem str_lit (W : World) (xs : List ByteArray) (hm : xs.length ≤ 1000000) : Kd.N Kd.string 9 (W.alloc (.cells (xs.map Value.string).toArray 9)) W.heap.size (fun k => W.heap.size ≤ k) (.slice (some ⟨W.heap.size, 0, none⟩) xs.length xs.length) xs :=
  Kd.R_N (Kd.R_of_own (own_lit_of W W.heap.size 9 xs (Nat.le_refl _) (by omega)) (fun k hk => by
    have : W.heap.size = k := by simpa [Value.ownBlock] using hk
    omega))
theorem HL.lit {ds : List (Nat × Dev)} (h : HL w W ds rest) (xs : List ByteArray) (hm : xs.length ≤ 1000000) : HL w (W.alloc (.cells (xs.map Value.string).toArray 9)) ds (.row Kd.string 9 (.slice (some ⟨W.heap.size, 0, none⟩) xs.length xs.length) xs :: rest) :=
  h.row_new (below_alloc (Below.refl _ _) _) (str_lit W xs hm)
theorem HL.swap {ds : List (Nat × Dev)} {x y : Thing} (h : HL w W ds (x :: y :: rest)) : HL w W ds (y :: x :: rest) := by
  obtain ⟨rs, h1, h2, hO⟩ := h
  refine ⟨rs, h1, h2, ?_⟩
  have a1 : Own w W ((rs.flatMap Raw.things ++ [x]) ++ ([y] ++ rest)) := by rw [List.append_assoc]; exact hO
  have a2 := a1.rot
  rw [List.append_assoc] at a2
  exact a2.rot
def chBegin : ByteArray := ⟨#[98, 101, 103, 105, 110]⟩
theorem rightBg : Right chBegin := ⟨by decide, by decide⟩
theorem full_h32 (n : Int) : ∃ m : Nat, 1 ≤ m ∧ m ≤ 32 ∧ 1 + n % 32 = (m : Int) := ⟨(1 + n % 32).toNat, by omega, by omega, by omega⟩
theorem rd_d30 {k : Nat} (h : k < 30) : decide ((k : Int) < 30) = true := decide_eq_true (by omega)
theorem rd_n30 {n : Nat} (h : min 30 n < n) : decide (((min 30 n : Nat) : Int) < 30) = false := decide_eq_false (by omega)
theorem rd_w30 {k : Nat} (h : k < 30) : wrap64 ((k : Int) + 1) = ((k + 1 : Nat) : Int) := by unfold wrap64; omega
theorem infoStr : (Tryd.prog.info? 9).map (fun i => (i.zero, i.size, i.bytes)) = some (some (.string ⟨#[]⟩), 1, 16) := by kernel_rfl
theorem enc_len (l : List ByteArray) : l.length ≤ (encT l).size := by
  induction l with
  | nil => exact Nat.zero_le _
  | cons s r ih =>
    show r.length + 1 ≤ (textB s ++ encT r).size
    rw [ByteArray.size_append, textB_size]; omega
set_option maxHeartbeats 8000000 in
set_option maxRecDepth 100000 in
theorem reads_calls {W : World} (hT : Tab W) (A : Option Addr) (ca : Nat) (l : List ByteArray) (x : Int) (hA : Kd.C Kd.string W A l.length l) (hca : l.length ≤ ca) : Calls Tryd.prog 5 #[.slice A l.length ca, .int .i64 x] W fun ex W' => ex = .returned (.bool true) ∧ Below W.heap.size W W' := by
  have HT := Aside0.mk hT
  have HA := Aside0.mk hA
  clear hT hA
  have ha := and31 x
  obtain ⟨hf, h1, h2, hw⟩ := full_h32 x
  go_enter Tryd.func5, Tryd.ntmps5
  go_upto_region 4 with (first
    | (go_at_call 8; refine (speaks_calls HT.out).mono ?_; rintro e w1 ⟨rfl, hb1⟩; have H0 := Aside0.mk (HL.start2 hb1); clear hb1))
  clear ha hw
  have hn : (2 : Int) + 2 * (hf : Int) = ((2 + 2 * hf : Nat) : Int) := by omega
  have HN := Aside0.mk (new_HL H0.out (2 + 2 * hf) (by omega) (by omega))
  rw [← hn] at HN
  have hSite : Site (TD.new (2 + 2 * hf)) 0 hf := siteNew (by decide) (by omega) (by omega) (by omega)
  have HS := Aside0.mk hSite
  have HF := Aside0.mk (fun (d : Nat) (w' : World) (h : HL W w' ([] ++ (d, (TD.new (2 + 2 * hf)).dev) :: []) []) => format_use h HS.out ⟨#[102, 105, 114, 115, 116]⟩ ⟨by decide, by decide⟩ (by decide) (show 5 + 2 ≤ hf * 242 by omega) HT.out)
  clear hn hSite HS
  go_upto_region 11 with (first
    | (go_at_call 9; refine HN.out.mono ?_; rintro e w2 ⟨d, rfl, h2⟩; have H1 : Aside0 (HL W w2 ([] ++ (d, (TD.new (2 + 2 * hf)).dev) :: []) []) := ⟨h2⟩; clear h2 H0 HN)
    | (go_at_call 10; refine (HF.out _ _ H1.out).mono ?_; rintro e w3 ⟨rfl, T, h3, hk, hfu⟩; have H2 := Aside0.mk h3; have HK := Aside0.mk hk; have HFU := Aside0.mk hfu; clear h3 hk hfu H1 HF)
    | (go_at_call 11; refine (open_use H2.out HK.out HT.out).mono ?_; rintro e w4 ⟨g, A1, c, rfl, L, h4, ho, hg, -, -, -⟩; have H3 := Aside0.mk h4; have HO := Aside0.mk ho; have HG := Aside0.mk hg; clear h4 ho hg H2 HK)
    | (go_at_call 12; refine (switch_use H3.out HO.out HFU.out HG.out (by decide) 1 chBegin rightBg (by decide) (show 5 + 2 ≤ hf * 242 by omega) HT.out).mono ?_; rintro e w6 ⟨rfl, T6, L6, h6, hu6, hf6, hE6⟩; have H6 := Aside0.mk h6; have HU6 := Aside0.mk hu6; have HF6 := Aside0.mk hf6; have HE6 := Aside0.mk hE6; clear h6 hu6 hf6 hE6 H3 HO HFU HG))
  obtain ⟨R, hR⟩ : ∃ R : List Thing, [Thing.row Kd.string 9 (Value.slice A1 [(⟨#[102, 105, 114, 115, 116]⟩ : ByteArray)].length c) [⟨#[102, 105, 114, 115, 116]⟩]] = R := ⟨_, rfl⟩
  rw [hR] at H6
  clear hR
  have hl0 := (H6.out.lit [chBegin] (by decide)).swap
  replace hl0 : HL W (w6.alloc (.cells #[.string ⟨#[98, 101, 103, 105, 110]⟩] 9)) ([] ++ (d, TD.dev T6) :: []) (LT g d L6 :: .row Kd.string 9 (.slice (some ⟨w6.heap.size, 0, none⟩) 1 1) [chBegin] :: R) := hl0
  have H7 := Aside0.mk hl0
  clear hl0 H6
  generalize w6.alloc (.cells #[.string ⟨#[98, 101, 103, 105, 110]⟩] 9) = w7 at H7 ⊢
  generalize w6.heap.size = b7 at H7 ⊢
  go_upto_block 0 with fail
  go_cut [10] (fun s10 wx => Aside0 (∃ L want, HL W wx ([] ++ (d, TD.dev T6) :: []) (LT g d L :: .row Kd.string 9 s10 want :: R) ∧ InUse T6 L 0 hf want 1 ∧ L.epoch ≤ 2))
  case first =>
    go_wp2_with fail
    go_loopg [10, 11] (min 30 l.length) (fun gg s10 s11 wr => ∃ k : Nat, k ≤ min 30 l.length ∧ min 30 l.length - k ≤ gg ∧ s11 = .int .i64 k ∧ Aside0 (∃ L want, HL W wr ([] ++ (d, TD.dev T6) :: []) (LT g d L :: .row Kd.string 9 s10 want :: R) ∧ InUse T6 L 0 hf want 1 ∧ L.epoch ≤ 2))
    case atStart => exact ⟨0, Nat.zero_le _, Nat.le_refl _, rfl, ⟨L6, [chBegin], H7.out, HU6.out, HE6.out⟩⟩
    case round =>
      clear H7 HU6 HE6
      obtain ⟨k, hk, hg, rfl, ⟨L, want, hO, hu, hE⟩⟩ := hrel
      have HO := Aside0.mk hO
      have HU := Aside0.mk hu
      have HE := Aside0.mk hE
      clear hO hu hE
      by_cases hlt : k < min 30 l.length
      · have hk1 : k < l.length := Nat.lt_of_lt_of_le hlt (Nat.min_le_right _ _)
        have hk2 : k < 30 := Nat.lt_of_lt_of_le hlt (Nat.min_le_left _ _)
        obtain ⟨ad, rfl, x0⟩ := str_at HA.out k hk1 rfl
        have y0 := (HO.out.bel.cell (World.block_lt_of_cell? W _ x0)).trans x0
        clear x0
        generalize l[k] = x at y0
        have d1 := sz_lt hk1
        have d2 := rd_d30 hk2
        have hw := rd_w30 hk2
        have m1 : min (x.size : Int) 2000 = ((min x.size 2000 : Nat) : Int) := by omega
        have g1 : (0 : Int) ≤ ((min x.size 2000 : Nat) : Int) := by omega
        have k1 : ((min x.size 2000 : Nat) : Int) ≤ (x.size : Int) := by omega
        have hz : (x.extract 0 (min x.size 2000)).size ≤ 2000 := by rw [ByteArray.size_extract]; omega
        go_upto_region 14 with fail
        go_quiet (fail)
        have HO2 := Aside0.mk (HO.out.below (pw_below_drewN (Below.refl _ _) nq))
        clear HO y0 m1 g1 k1
        generalize wr.drewN nq = wd at HO2 ⊢
        generalize x.extract 0 (min x.size 2000) = t at hz ⊢
        obtain ⟨Aw, cw, rfl, -, -⟩ := HO2.out.row 1 rfl
        by_cases h0 : t.size = 0
        · obtain rfl : t = ⟨#[]⟩ := b_ext (List.eq_nil_of_length_eq_zero (by rw [b_len]; exact h0))
          clear h0 hz
          go_wp2_with (go_at_call 13; refine (append_none HO2.out HU.out (k : Int)).mono ?_; rintro e w8 ⟨rfl, h8⟩; have H8 := Aside0.mk h8; clear h8 HO2)
          go_roundg (min 30 l.length - (k + 1))
          case measure => omega
          case rel => exact ⟨k + 1, hlt, Nat.le_refl _, by first | rfl | rw [hw], ⟨L, want, H8.out, HU.out, HE.out⟩⟩
        · have hne := ne_nil_of h0
          by_cases hroom : (encT want).size + (t.size + 2) ≤ hf * 242
          · have HAP := Aside0.mk (append_ok HO2.out HU.out (k : Int) t h0 (by omega) hroom)
            have HLN : Aside0 ((want.length + 1) * 16 ≤ 140737488355328) := ⟨by have := enc_len want; omega⟩
            clear hroom HU
            go_upto_region 13 with (first
              | (go_at_call 13; refine HAP.out.mono ?_; rintro e w8 ⟨rfl, L8, h8, hu8, hE8⟩; have H8 := Aside0.mk h8; have HU8 := Aside0.mk hu8; have HE8 := Aside0.mk (Int.le_trans (Int.le_of_eq hE8) HE.out); clear h8 hu8 hE8 HAP HO2)
              | (refine gate_ (.call { callee := .builtin .append, args := #[.tmp 76, .tmp 78], argTypes := #[29, 29] }) rfl ?_; refine Aside0.out ?_))
            refine ⟨?_⟩
            refine H8.out.append Kd.string 1 rfl rfl (.tmp 76) (.tmp 78) 29 (.string ⟨#[]⟩) 16 rfl Tryd.underlying29 infoStr rfl (by decide) (by decide) t [.string t] rfl rfl (fun _ _ => rfl) HLN.out ?_
            intro v2 w9 hO9
            have H9 : Aside0 (HL W w9 ([] ++ (d, TD.dev T6) :: []) (LT g d L8 :: .row Kd.string 9 v2 (want ++ [t]) :: R)) := ⟨hO9⟩
            clear hO9 H8
            go_wp2_with fail
            go_roundg (min 30 l.length - (k + 1))
            case measure => omega
            case rel => exact ⟨k + 1, hlt, Nat.le_refl _, by first | rfl | rw [hw], ⟨L8, want ++ [t], H9.out, HU8.out, HE8.out⟩⟩
          · have HAP := Aside0.mk (append_no HO2.out HU.out (k : Int) t h0 (by omega) (by omega))
            clear hroom
            go_wp2_with (go_at_call 13; refine HAP.out.mono ?_; rintro e w8 ⟨rfl, h8⟩; have H8 := Aside0.mk h8; clear h8 HAP HO2)
            go_roundg (min 30 l.length - (k + 1))
            case measure => omega
            case rel => exact ⟨k + 1, hlt, Nat.le_refl _, by first | rfl | rw [hw], ⟨L, want, H8.out, HU.out, HE.out⟩⟩
      · obtain rfl : k = min 30 l.length := Nat.le_antisymm hk (Nat.not_lt.mp hlt)
        by_cases h1 : min 30 l.length < l.length
        · have d1 := sz_lt h1
          have d2 := rd_n30 h1
          generalize min 30 l.length = k at *
          go_wp2_with fail
          go_meet
          case rel => exact ⟨L, want, HO.out, HU.out, HE.out⟩
        · have d1 : decide (((min 30 l.length : Nat) : Int) < (l.length : Int)) = false := decide_eq_false (by omega)
          generalize min 30 l.length = k at *
          go_wp2_with fail
          go_meet
          case rel => exact ⟨L, want, HO.out, HU.out, HE.out⟩
  case rest =>
    obtain ⟨L, want, hO, hu, hE⟩ := hcut.out
    have HO := Aside0.mk hO
    have HU := Aside0.mk hu
    have HE := Aside0.mk hE
    have hq1 : 1 ≤ want.length := hu.qle
    clear hO hu hE hcut H7 HU6 HE6 HA
    go_upto_region 25 with (go_at_call 14; refine (flush_use HO.out HU.out HF6.out HE.out (by decide) HT.out).mono ?_; rintro e w9 ⟨rfl, T9, L9, h9, hu9, hf9, hE9⟩; have H9 := Aside0.mk h9; have HU9 := Aside0.mk hu9; have HE9 := Aside0.mk hE9; clear h9 hu9 hf9 hE9 HO HU HE)
    have hkp := HU9.out.kept hq1 HE9.out
    rw [List.take_length] at hkp
    have HKP := Aside0.mk hkp
    have HLN : Aside0 (want.length ≤ 1000000) := ⟨by have h1 := enc_len want; have h2 := HU9.out.fits; omega⟩
    clear hkp hq1 HU9 HE9
    obtain ⟨Aw, cw, rfl, -, -⟩ := H9.out.row 1 rfl
    go_wp2_with fail
    go_loopg [14] 2 (fun gg s14 wr => ∃ k : Nat, k ≤ 2 ∧ 2 - k ≤ gg ∧ s14 = .int .i64 k ∧ Aside0 (∃ T, HL W wr ([] ++ (d, TD.dev T) :: []) (LT g d L9 :: .row Kd.string 9 (.slice Aw want.length cw) want :: R) ∧ Kept T 0 hf want 2))
    case atStart => exact ⟨0, Nat.zero_le _, Nat.le_refl _, rfl, ⟨T9, H9.out, HKP.out⟩⟩
    case round =>
      clear H9 HKP
      obtain ⟨k, hk, hg, rfl, ⟨T, hO, hkp⟩⟩ := hrel
      have HO := Aside0.mk hO
      have HK := Aside0.mk hkp
      clear hO hkp
      by_cases hlt : k < 2
      · have d1 : decide ((k : Int) < 2) = true := decide_eq_true (by omega)
        have HK2 := Aside0.mk (HK.out.turned []).1
        go_upto_region 31 with (first
          | (go_at_call 17; refine (blow_use HO.out HK.out.wait none 0 [] (Kd.C_nil _ _)).mono ?_; rintro e w10 ⟨rfl, h10⟩; have H10 := Aside0.mk h10; clear h10 HO)
          | (go_at_call 18; refine (on_use H10.out).mono ?_; rintro e w11 ⟨rfl, h11⟩; have H11 := Aside0.mk h11; clear h11 H10)
          | (go_at_call 11; refine (open_use H11.out HK2.out HT.out).mono ?_; rintro e w12 ⟨g2, A2, c2, rfl, L12, h12, -, -, -, -, -⟩; have H12 := Aside0.mk h12; clear h12 H11))
        obtain ⟨_, _, e1, hc2, hC2⟩ := H12.out.row 1 rfl
        obtain ⟨rfl, -, rfl⟩ := Value.slice.inj e1
        obtain ⟨_, _, e2, hcw, hCw⟩ := H12.out.row 3 rfl
        obtain ⟨rfl, -, rfl⟩ := Value.slice.inj e2
        have HBG := Aside0.mk (begins_calls hC2 hCw hc2 hcw HLN.out true (decide_eq_true ⟨(List.take_length ..).symm, Nat.le_refl _⟩).symm)
        clear e1 e2 hC2 hCw hc2 hcw
        go_wp2_with (go_at_call 19; refine HBG.out.mono ?_; rintro e w13 ⟨rfl, h13⟩; have H13 := Aside0.mk (H12.out.below h13).drop1.drop1; clear h13 H12 HBG)
        go_roundg (2 - (k + 1))
        case measure => omega
        case rel => exact ⟨k + 1, hlt, Nat.le_refl _, by first | rfl | (unfold wrap64; congr 1; omega), ⟨_, H13.out, HK2.out⟩⟩
      · obtain rfl : k = 2 := by omega
        go_wp2_with fail
        go_ret
        exact ⟨rfl, HO.out.bel⟩
end Go.Proofs.YtegeaemkkbenfaaDoor.Ownd

/- A log's calls when the power may fail: what each says, what is kept. Conditions: the table lies as the program lays it. -/
namespace Go.Proofs.YtegeaemkkbenfaaDoor.Ownd
open Go.Shelf Go.RowKit Go.Proofs.YtegeaemkkbenfaaDoorW.PrintWords Go.Proofs.YtegeaemkkbenfaaDoorW.PrintLast Go.Proofs.YtegeaemkkbenfaaDoorW.PrintMore
set_option linter.unusedVariables false
set_option linter.unusedSimpArgs false
variable {w W : World} {l1 l2 : List (Nat × Dev)} {rest : List Thing} {g d : Nat} {T T' : TD} {L : LG} {at_ G : Int} {half q : Nat} {l : List ByteArray}
/-- May an opened log tell a list: what lasts, and perhaps some more? -/
def MayB (l : List ByteArray) (q : Nat) (told : List ByteArray) : Prop := (told = l.take told.length ∧ told.length ≤ l.length) ∧ q ≤ told.length
theorem mayB_take {n : Nat} (h : n ≤ l.length) (hq : q ≤ n) : MayB l q (l.take n) := by
  have h1 : (l.take n).length = n := by rw [List.length_take]; omega
  exact ⟨⟨by rw [h1], by omega⟩, by omega⟩
theorem get_like (hw : T'.wait = T.wait) (hl : T'.last = T.last) : T'.get = T.get := by
  funext i
  unfold TD.get
  rw [hw, hl]
theorem Disk.like {e wh : Int} {b : ByteArray} {m : Nat} (h : Disk T at_ half e wh b m) (hs : T'.size = T.size) (hw : T'.wait = T.wait) (hl : T'.last = T.last) : Disk T' at_ half e wh b m := by
  have hg := get_like hw hl
  exact ⟨by rw [hw]; exact h.wait, ⟨by rw [hl]; exact h.all.last, by rw [hw]; exact h.all.wait⟩, by rw [hs]; exact h.size, h.e1, h.wh01, by rw [hg]; exact h.mast, by rw [hg]; exact h.oth, by rw [hg]; exact h.reads⟩
theorem Eps.like (h : Eps T at_ half G) (hw : T'.wait = T.wait) (hl : T'.last = T.last) : Eps T' at_ half G := by
  have hg := get_like hw hl
  exact ⟨by rw [hg]; exact h.m, by rw [hg]; exact h.p⟩
theorem Site.like (h : Site T at_ half) (hs : T'.size = T.size) : Site T' at_ half := ⟨h.at0, h.half1, by rw [hs]; exact h.fit, by rw [hs]; exact h.size⟩
theorem InUse.like (h : InUse T L at_ half l q) (hs : T'.size = T.size) (hw : T'.wait = T.wait) (hl : T'.last = T.last) (ho : T'.off = false) : InUse T' L at_ half l q := by
  have hg := get_like hw hl
  exact ⟨h.site.like hs, ho, h.lat, h.lhalf, h.great, h.awaits, h.lon, h.bytes, h.lasting, h.qle, h.right, h.fits, h.disk.like hs hw hl, h.eps.like hw hl, by unfold Beyond; rw [hg]; exact h.beyond⟩
theorem setFuse_like (T : TD) (n : Int) (kp : List Int) : (T.setFuse n kp).size = T.size ∧ (T.setFuse n kp).wait = T.wait ∧ (T.setFuse n kp).last = T.last ∧ (T.setFuse n kp).off = T.off := by
  unfold TD.setFuse
  split
  · exact ⟨rfl, rfl, rfl, rfl⟩
  · exact ⟨rfl, rfl, rfl, rfl⟩
theorem InUse.fused (h : InUse T L at_ half l q) (n : Int) (kp : List Int) : InUse (T.setFuse n kp) L at_ half l q := by
  obtain ⟨h1, h2, h3, h4⟩ := setFuse_like T n kp
  exact h.like h1 h2 h3 (by rw [h4]; exact h.on)
theorem on_like (T : TD) : T.on.size = T.size ∧ T.on.wait = T.wait ∧ T.on.last = T.last ∧ T.on.off = false ∧ T.on.fuse = 0 := ⟨rfl, rfl, rfl, rfl, rfl⟩
theorem InUse.turnOn (h : InUse T L at_ half l q) : InUse T.on L at_ half l q := h.like rfl rfl rfl rfl
/-- A disk that was left when the power failed. -/
theorem Disk.keptOn {e wh : Int} {m : Nat} (h : Disk T at_ half e wh (encT l) m) (hs : Site T at_ half) (hr : ∀ s ∈ l, Right s) (he : Eps T at_ half G) (hG : 0 ≤ G) (hq : 1 ≤ q) (hql : q ≤ l.length) (hm : (encT (l.take q)).size ≤ m) : Kept T.on at_ half (l.take (held l m)) G ∧ MayB l q (l.take (held l m)) := by
  have h1 := held_ge l q m hql hm
  have h2 := held_le l m
  refine ⟨⟨hs.like rfl, rfl, ⟨e, wh, encT l, m, h.like rfl rfl rfl, texts_cut l hr m h.reads.le⟩, ?_, he.like rfl rfl, hG⟩, mayB_take h2 h1⟩
  intro e0
  have h3 := congrArg List.length e0
  rw [List.length_take, List.length_nil] at h3
  omega
theorem TD.command_size (T : TD) : T.command.2.size = T.size := by
  unfold TD.command
  split <;> rfl
theorem TD.write_size (T : TD) (i : Int) (c : Ct) : (T.write i c).2.size = T.size := by
  unfold TD.write
  split
  · rfl
  · split
    · rfl
    · split
      · exact T.command_size
      · exact T.command_size
theorem TD.sync_size (T : TD) : T.sync.2.size = T.size := by
  unfold TD.sync
  split
  · rfl
  · split
    · exact T.command_size
    · exact T.command_size
theorem TD.wr_size (at_ half : Int) (b : ByteArray) (e wh : Int) : ∀ (r i : Nat) (T : TD), (TD.wr at_ half b e wh i r T).2.size = T.size
  | 0, i, T => T.sync_size
  | r + 1, i, T => by
    unfold TD.wr
    split
    · rw [TD.wr_size at_ half b e wh r]; exact T.write_size _ _
    · exact T.write_size _ _
theorem LG.sw_size (L : LG) (T : TD) (s : ByteArray) : (L.sw T s).2.size = T.size := by
  have h1 : (swX L.at_ L.half (textB s) (L.greatest + 1) (1 - L.which) T).2.size = T.size := TD.wr_size ..
  have h2 : (swY L.at_ (L.greatest + 1) (1 - L.which) (swX L.at_ L.half (textB s) (L.greatest + 1) (1 - L.which) T)).2.size = T.size := by
    unfold swY
    split
    · rw [TD.write_size]; exact h1
    · exact h1
  unfold LG.sw swZ
  split
  · rw [TD.sync_size]; exact h2
  · exact h2
theorem LG.switch_size (L : LG) (T : TD) (lsn : Int) (s : ByteArray) : (L.switch T lsn s).2.2.size = T.size := by
  unfold LG.switch
  split
  · rfl
  · split
    · rfl
    · split
      · rfl
      · split
        · exact L.sw_size T s
        · exact L.sw_size T s
theorem LG.flush_size (L : LG) (T : TD) : (L.flush T).2.2.size = T.size := by
  unfold LG.flush
  split
  · rfl
  · split
    · exact TD.wr_size ..
    · exact TD.wr_size ..
/-- A new Switch's disk that was left when the power failed. -/
theorem Disk.keptNew {e wh : Int} {s : ByteArray} (h : Disk T at_ half e wh (textB s) (textB s).size) (hs : Site T at_ half) (hr : Right s) (he : Eps T at_ half G) (hG : 0 ≤ G) : Kept T.on at_ half [s] G := by
  have ht : textsB ((textB s).extract 0 (textB s).size) = [s] := by
    rw [ext_all, ← enc_one]
    exact texts_enc [s] (fun t ht => by rw [List.mem_singleton.mp ht]; exact hr)
  exact ⟨hs.like rfl, rfl, ⟨e, wh, textB s, _, h.like rfl rfl rfl, ht⟩, by simp, he.like rfl rfl, hG⟩
/-! The calls. -/
theorem flush_any (h : HL w W (l1 ++ (d, T.dev) :: l2) (LT g d L :: rest)) (hu : InUse T L at_ half l q) (hq : 1 ≤ q) (hE : L.epoch ≤ G) (hG : G ≤ 1000000) (hT : Tab w) :
    Calls Tryd.prog 14 #[.pointer (some ⟨g, 0, none⟩)] W fun ex W' => ∃ e : Int, ex = .returned (.int .i64 e) ∧ ∃ T' L', HL w W' (l1 ++ (d, T'.dev) :: l2) (LT g d L' :: rest) ∧
      ((e = 0 ∧ InUse T' L' at_ half l l.length ∧ L'.epoch ≤ G) ∨ (e = 7 ∧ T'.off = true ∧ ∃ told, Kept T'.on at_ half told G ∧ MayB l q told)) := by
  have he := hu.disk.e1
  have hw := hu.disk.wait
  have hz : (encT (l.take q)).size ≤ (encT l).size := by rw [enc_take l q, ByteArray.size_append]; exact Nat.le_add_right _ _
  refine (flush_calls h ⟨by omega, by omega⟩ hu.disk.wh01 (by rw [hu.lat]; exact hu.site.at0) hu.lim.1 hu.lim.2.1 (by rw [hu.lasting, hu.bytes]; omega) (by rw [hw]; exact Nat.zero_le _) hT).mono ?_
  have hsz := LG.flush_size L T
  rcases hu.flush (by omega) with ⟨a1, a2, a3, a4⟩ | ⟨a1, a2, a3, m, a4, a5, a6, a7⟩
  · rintro e w1 ⟨rfl, h3⟩
    exact ⟨_, rfl, _, _, h3, .inl ⟨a1, a2, by rw [a4]; exact hE⟩⟩
  · rintro e w1 ⟨rfl, h3⟩
    obtain ⟨b1, b2⟩ := a6.keptOn (hu.site.like hsz) hu.right (a7.mono hE) (by omega) hq hu.qle a4
    exact ⟨_, rfl, _, _, h3, .inr ⟨a2, a3, _, b1, b2⟩⟩
theorem switch_any (h : HL w W (l1 ++ (d, T.dev) :: l2) (LT g d L :: rest)) (hu : InUse T L at_ half l q) (hq : 1 ≤ q) (hE : L.epoch ≤ G) (hG : G ≤ 1000000) (lsn : Int) (s : ByteArray) (hr : Right s) (h1 : s.size ≤ 16384) (h2 : s.size + 2 ≤ half * 242) (hT : Tab w) :
    Calls Tryd.prog 12 #[.pointer (some ⟨g, 0, none⟩), .int .i64 lsn, .string s] W fun ex W' => ∃ e : Int, ex = .returned (.int .i64 e) ∧ ∃ T' L', HL w W' (l1 ++ (d, T'.dev) :: l2) (LT g d L' :: rest) ∧
      ((e = 0 ∧ InUse T' L' at_ half [s] 1 ∧ L'.epoch ≤ G + 1) ∨ (e = 7 ∧ T'.off = true ∧ ∃ told, Kept T'.on at_ half told (G + 1) ∧ (MayB l q told ∨ told = [s]))) := by
  have ho := hu.opened
  have hg0 := ho.great
  have hgr := hu.great
  have hsz := LG.switch_size L T lsn s
  refine (switch_calls h lsn s ⟨hg0, by omega⟩ ho.which (by rw [ho.lat]; exact ho.site.at0) (by rw [ho.lhalf]; exact ho.site.half1.2) (by rw [ho.wait]; exact Nat.zero_le _) (Nat.le_trans h1 (by decide)) hT).mono ?_
  rcases ho.switch lsn hr.1 h1 h2 (by omega) with ⟨a1, a2, a3, a4⟩ | ⟨a1, a2, a3, a4⟩
  · rintro e w1 ⟨rfl, h3⟩
    exact ⟨_, rfl, _, _, h3, .inl ⟨a1, a2, by rw [a4]; omega⟩⟩
  · rintro e w1 ⟨rfl, h3⟩
    refine ⟨_, rfl, _, _, h3, .inr ⟨a2, a3, ?_⟩⟩
    rcases a4 with ⟨b1, b2⟩ | b
    · exact ⟨[s], b1.keptNew (hu.site.like hsz) hr (b2.mono (by omega)) (by omega), .inr rfl⟩
    · obtain ⟨b1, b2⟩ := b _ _ _ hu.disk
      obtain ⟨c1, c2⟩ := b1.keptOn (hu.site.like hsz) hu.right (b2.mono (show L.greatest + 1 ≤ G + 1 by omega)) (by omega) hq hu.qle (Nat.le_refl _)
      exact ⟨_, c1, .inl c2⟩
theorem switch_long (h : HL w W (l1 ++ (d, T.dev) :: l2) (LT g d L :: rest)) (hu : InUse T L at_ half l q) (hE : L.epoch ≤ G) (hG : G ≤ 1000000) (lsn : Int) (s : ByteArray) (hr : Right s) (h1 : s.size ≤ 16384) (h2 : half * 242 < s.size + 2) (hT : Tab w) :
    Calls Tryd.prog 12 #[.pointer (some ⟨g, 0, none⟩), .int .i64 lsn, .string s] W fun ex W' => ex = .returned (.int .i64 9) ∧ HL w W' (l1 ++ (d, T.dev) :: l2) (LT g d L :: rest) := by
  have ho := hu.opened
  have hg0 := ho.great
  have hgr := hu.great
  refine (switch_calls h lsn s ⟨hg0, by omega⟩ ho.which (by rw [ho.lat]; exact ho.site.at0) (by rw [ho.lhalf]; exact ho.site.half1.2) (by rw [ho.wait]; exact Nat.zero_le _) (Nat.le_trans h1 (by decide)) hT).mono ?_
  have hsw : L.switch T lsn s = (9, L, T) := by
    unfold LG.switch
    have := hr.1
    rw [if_neg (by rw [ho.ready]; simp), if_neg (by omega), if_pos (by rw [ho.lhalf]; omega)]
  rw [hsw]
  exact fun e w1 h => h
theorem fuse_any (h : HL w W (l1 ++ (d, T.dev) :: l2) rest) (n : Int) (A : Option Addr) (c : Nat) (keep : List Int) (hK : Kd.C (Kd.int .i64) W A keep.length keep) (hk : keep.length ≤ 1000000) (hnil : A = none → keep.length = 0) :
    Calls Tryd.prog 21 #[.pointer (some ⟨d, 0, none⟩), .int .i64 n, .slice A keep.length c] W fun ex W' => ex = .returned (.tuple #[]) ∧ HL w W' (l1 ++ (d, (T.setFuse n keep).dev) :: l2) rest := by
  have := fuse_HL h n A c keep hK hk hnil
  rwa [← TD.dev_fuse] at this
/-- Blow of a log in use. -/
theorem InUse.blown (h : InUse T L at_ half l q) (hq : 1 ≤ q) (hE : L.epoch ≤ G) (kp : List Int) : (T.blow kp).off = true ∧ Kept (T.blow kp).on at_ half (l.take q) G ∧ MayB l q (l.take q) := by
  refine ⟨?_, ((h.kept hq hE).turned kp).1, mayB_take h.qle (Nat.le_refl _)⟩
  unfold TD.blow
  rw [if_neg (by rw [h.on]; simp)]
  rfl
/-! Steps of a region that draws. -/
section
variable {P : Program} {ops : Array Oper} {o : Oper} {a : Act} {Q : Exit → Act → World → Prop} {Kc : Act → World → Prop} {α : Type}
/-- append(v, ys...): row i is read, row j grows. -/
theorem Own.copy_step (d : Kd α) (hflat : ∀ (W W' : World) (x : α) (c : List Value), d.K W x c → d.K W' x c) {w W : World} {l : List Thing} (hO : Own w W l) (j i : Nat) (hne : i ≠ j) {v : Value} {A : Option Addr} {m c : Nat} {xs ys : List α} (e : TypeId) (hj : l[j]? = some (.row d e v xs)) (hi : l[i]? = some (.row d e (.slice A m c) ys))
    (hw : Region.wanted o (yielded ops a.tmps) = true) (s x : Operand) (t : TypeId) (z : Value) (bytes : Nat)
    (ho : o.op = .call { callee := .builtin .append, args := #[s, x], argTypes := #[t, t] })
    (ht : P.underlying t = some (.slice e)) (hinfo : (P.info? e).map (fun i => (i.zero, i.size, i.bytes)) = some (some z, d.sz, bytes)) (hz : z.cells.size = d.sz) (hs0 : 0 < d.sz) (hb0 : 0 < bytes)
    (hs : a.eval s = v) (hx : a.eval x = .slice A m c) (hl : (xs.length + m) * bytes ≤ 140737488355328)
    (h : ∀ v1 w1, Own w w1 (l.set j (.row d e v1 (xs ++ ys))) → Kc (a.put o.dst v1) w1) : if Region.wanted o (yielded ops a.tmps) = true then Oper.wp P o a W Kc Q else Kc (a.put o.dst undef) W := by
  have hle := hO.ge
  obtain ⟨hB, col, hc⟩ := hO
  have hJ : Kd.N d e W w.heap.size (okc w.heap.size W col j) v xs := hc j _ hj
  have hI : Kd.N d e W w.heap.size (okc w.heap.size W col i) (.slice A m c) ys := hc i _ hi
  have hown : ∀ k, v.ownBlock = some k → k < W.heap.size ∧ col k = j := fun k hk => ⟨Kd.N_lt hJ k hk, (hJ.1 k hk).2 (Kd.N_lt hJ k hk)⟩
  refine Kd.N_append_rows_step d w.heap.size hw s x t e z bytes ho ht hinfo hz hs0 hb0 v xs ys A m c (fun k => w.heap.size ≤ k ∧ (k < W.heap.size → col k = j ∨ col k = i)) (fun k => okc w.heap.size W col i k ∧ k < W.heap.size) hs hx
    (Kd.N_mono hJ (fun k hk => ⟨hk.1, fun hlt => .inl (hk.2 hlt)⟩)) (Kd.N_F (Kd.N_bound hI)) (fun k hk => ⟨⟨hk.1.1, fun hlt => .inr (hk.1.2 hlt)⟩, fun he => hne ((hk.1.2 hk.2).symm.trans (hown k he.symm).2)⟩) (fun k hk => ⟨Nat.le_trans hle hk, fun hlt => absurd hlt (Nat.not_lt.mpr hk)⟩) hB hle hl ?_
  intro v1 w1 hr hb hg hat
  refine h v1 w1 (own_row hB hc j hj hg (N_flat hflat hr (fun k hk => ?_)))
  rcases hat with he | ⟨b, hb1, hb2⟩
  · exact hJ.1 k (by rw [← he]; exact hk)
  · rw [hb1] at hk
    obtain rfl := Option.some.inj hk
    exact ⟨Nat.le_trans hle hb2, fun hlt => absurd hlt (Nat.not_lt.mpr hb2)⟩
theorem HL.copy_step (d : Kd α) (hflat : ∀ (W W' : World) (x : α) (c : List Value), d.K W x c → d.K W' x c) {w W : World} {ds : List (Nat × Dev)} {l : List Thing} (hO : HL w W ds l) (j i : Nat) (hne : i ≠ j) {v : Value} {A : Option Addr} {m c : Nat} {xs ys : List α} (e : TypeId) (hj : l[j]? = some (.row d e v xs)) (hi : l[i]? = some (.row d e (.slice A m c) ys))
    (hw : Region.wanted o (yielded ops a.tmps) = true) (s x : Operand) (t : TypeId) (z : Value) (bytes : Nat)
    (ho : o.op = .call { callee := .builtin .append, args := #[s, x], argTypes := #[t, t] })
    (ht : P.underlying t = some (.slice e)) (hinfo : (P.info? e).map (fun i => (i.zero, i.size, i.bytes)) = some (some z, d.sz, bytes)) (hz : z.cells.size = d.sz) (hs0 : 0 < d.sz) (hb0 : 0 < bytes)
    (hs : a.eval s = v) (hx : a.eval x = .slice A m c) (hl : (xs.length + m) * bytes ≤ 140737488355328)
    (h : ∀ v1 w1, HL w w1 ds (l.set j (.row d e v1 (xs ++ ys))) → Kc (a.put o.dst v1) w1) : if Region.wanted o (yielded ops a.tmps) = true then Oper.wp P o a W Kc Q else Kc (a.put o.dst undef) W := by
  obtain ⟨rs, h1, h2, hO⟩ := hO
  refine Own.copy_step d hflat hO ((rs.flatMap Raw.things).length + j) ((rs.flatMap Raw.things).length + i) (by omega) e ((HL.index rs j).trans hj) ((HL.index rs i).trans hi) hw s x t z bytes ho ht hinfo hz hs0 hb0 hs hx hl ?_
  intro v1 w1 h3
  rw [HL.setIndex] at h3
  exact h v1 w1 ⟨rs, h1, h2, h3⟩
/-- A whole variable is written. -/
theorem HL.put_step {w W : World} {ds : List (Nat × Dev)} {l : List Thing} (hO : HL w W ds l) (j : Nat) {g : Nat} {t : TypeId} {old : Array Value} (hj : l[j]? = some (.box g (.cells old t (0, 0)))) (hw : Region.wanted o (yielded ops a.tmps) = true) (hN : o.dst = none) (ty : TypeId) (x y : Operand) (ho : o.op = .store ty x y) (cells : Array Value)
    (hx : a.eval x = .pointer (some ⟨g, 0, none⟩)) (hy : a.eval y = .agg cells) (hi : (P.info? ty).map (·.size) = some cells.size) (hold : old.size = cells.size) (h1 : cells.all (·.oneCell') = true)
    (h : ∀ w1, HL w w1 ds (l.set j (.box g (.cells cells t (0, 0)))) → Kc a w1) : if Region.wanted o (yielded ops a.tmps) = true then Oper.wp P o a W Kc Q else Kc (a.put none undef) W := by
  rw [if_pos hw]
  obtain ⟨rs, r1, r2, hO⟩ := hO
  have hb := hO.box _ ((HL.index rs j).trans hj)
  refine wp_store_row ty x y ho g cells hx hy t old hb hi hold h1 ?_
  have e : W.setRow g cells = { W with heap := W.heap.setIfInBounds g (.cells cells t (0, 0)) } := by
    unfold World.setRow
    congr 1
    apply Array.ext_getElem?
    intro k
    rw [Array.getElem?_modify, Array.getElem?_setIfInBounds]
    by_cases hk : g = k
    · subst hk
      rw [if_pos rfl, if_pos rfl, hb]
      simp [blk_lt hb]
    · rw [if_neg hk, if_neg hk]
  rw [e]
  have hp := hO.put _ ((HL.index rs j).trans hj) (.cells cells t (0, 0))
  rw [HL.setIndex] at hp
  rw [hN]
  exact h _ ⟨rs, r1, r2, hp⟩
end
theorem flatS (W W' : World) (x : ByteArray) (c : List Value) (h : Kd.string.K W x c) : Kd.string.K W' x c := h
/-- The third thing is put ahead. -/
theorem HL.third {ds : List (Nat × Dev)} {x y z : Thing} (h : HL w W ds (x :: y :: z :: rest)) : HL w W ds (z :: x :: y :: rest) := by
  obtain ⟨rs, h1, h2, hO⟩ := h
  refine ⟨rs, h1, h2, ?_⟩
  have a1 : Own w W ((rs.flatMap Raw.things ++ [x, y]) ++ ([z] ++ rest)) := by rw [List.append_assoc]; exact hO
  have a2 := a1.rot
  rw [List.append_assoc] at a2
  exact a2.rot
/-- A thing is put ahead. -/
theorem HL.front {ds : List (Nat × Dev)} {l : List Thing} (h : HL w W ds l) (j : Nat) {x : Thing} (hj : l[j]? = some x) : HL w W ds (x :: l.eraseIdx j) := by
  obtain ⟨rs, h1, h2, hO⟩ := h
  refine ⟨rs, h1, h2, ?_⟩
  have hlt : j < l.length := (List.getElem?_eq_some_iff.1 hj).1
  have e1 : l = l.take j ++ ([x] ++ l.drop (j + 1)) := by
    have := (List.getElem?_eq_some_iff.1 hj).2
    rw [← this, List.singleton_append, List.getElem_cons_drop, List.take_append_drop]
  have e2 : l.eraseIdx j = l.take j ++ l.drop (j + 1) := List.eraseIdx_eq_take_drop_succ ..
  rw [e2]
  rw [e1] at hO
  generalize l.take j = P at hO ⊢
  generalize l.drop (j + 1) = S at hO ⊢
  have a1 : Own w W ((rs.flatMap Raw.things ++ P) ++ ([x] ++ S)) := by rw [List.append_assoc]; exact hO
  have a2 := a1.rot
  rw [List.append_assoc] at a2
  exact a2.rot
theorem HL.arrange {ds : List (Nat × Dev)} {a b c x y e f : Thing} (h : HL w W ds (a :: b :: c :: x :: y :: e :: f :: rest)) : HL w W ds (a :: e :: f :: b :: c :: rest) :=
  have h1 : HL w W ds (a :: b :: c :: e :: f :: rest) := ((h.front 3 rfl).drop1.front 3 rfl).drop1
  ((h1.front 4 rfl).front 4 rfl).front 2 rfl
theorem HL.nilrow {ds : List (Nat × Dev)} (h : HL w W ds rest) {α : Type} (k : Kd α) (e : Nat) : HL w W ds (.row k e (.slice none 0 0) [] :: rest) := by
  obtain ⟨rs, h1, h2, hO⟩ := h
  refine ⟨rs, h1, h2, ?_⟩
  have h3 := hO.room.nil (rs.flatMap Raw.things).length k e
  rw [List.set_append_right _ _ (Nat.le_refl _), Nat.sub_self] at h3
  exact h3
set_option maxHeartbeats 4000000 in
set_option maxRecDepth 100000 in
theorem room_still {ds : List (Nat × Dev)} (h : HL w W ds (LT g d L :: rest)) (hu : InUse T L at_ half l q) (n : Int) (hn : (half : Int) * 242 - (encT l).size = n) :
    Calls Tryd.prog 16 #[.pointer (some ⟨g, 0, none⟩)] W fun ex W' => ex = .returned (.int .i64 n) ∧ ∃ m, W' = W.drewN m := by
  have c10 : W.cell? ⟨g, 10, none⟩ = some (.bool L.awaits) := h.cell 0 rfl 10
  have c2 : W.cell? ⟨g, 2, none⟩ = some (.int .i64 L.half) := h.cell 0 rfl 2
  have c6 : W.cell? ⟨g, 6, none⟩ = some (.string L.bytes) := h.cell 0 rfl 6
  have hl := hu.lim
  rw [hu.awaits] at c10
  have w1 : IntKind.i64.wrap ((L.half : Int) * 242) = (L.half : Int) * 242 := by rw [IntKind.wrap_i64]; omega
  have w2 : IntKind.i64.wrap ((L.half : Int) * 242 - L.bytes.size) = n := by rw [IntKind.wrap_i64, ← hn, hu.lhalf, hu.bytes]; rw [hu.lhalf, hu.bytes] at hl; omega
  clear h hn hl hu
  generalize L.half = hf at c2 w1 w2 ⊢
  generalize L.bytes = bs at c6 w2 ⊢
  go_enter Tryd.func16, Tryd.ntmps16
  go_upto_region 3 with fail
  go_quiet (fail)
  go_wp2_with fail
  go_ret
  exact ⟨rfl, nq, rfl⟩
theorem size_use {ds : List (Nat × Dev)} {e c : Nat} {A : Option Addr} (h : HL w W ds rest) (j : Nat) (hj : rest[j]? = some (.row Kd.string e (.slice A l.length c) l)) (hz : (encT l).size ≤ 1000000) : Calls Tryd.prog 22 #[.slice A l.length c] W fun ex W' => ex = .returned (.int .i64 (encT l).size) ∧ W' = W := by
  obtain ⟨A', c', e1, h1, h2⟩ := h.row j hj
  obtain ⟨rfl, -, rfl⟩ := Value.slice.inj e1
  exact size_calls h2 h1 (Nat.le_trans (enc_len l) hz) hz
theorem opt_yes (n : Int) : Calls Tryd.prog 23 #[.bool true, .int .i64 n] W fun ex W' => ex = .returned (.int .i64 n) ∧ W' = W := opt_calls true n
theorem opt_no (n : Int) : Calls Tryd.prog 23 #[.bool false, .int .i64 n] W fun ex W' => ex = .returned (.int .i64 0) ∧ W' = W := opt_calls false n
/-! A function's code, cut: what lies at a path (0, 1: a sequence's parts, 2, 3: a test's arms, 4: a block's, a loop's, a scope's body). -/
def subC : List Nat → Code → Code
  | [], c => c
  | 0 :: r, .seq a _ => subC r a
  | 1 :: r, .seq _ b => subC r b
  | 2 :: r, .cond _ a _ => subC r a
  | 3 :: r, .cond _ _ b => subC r b
  | _ :: r, .block _ c => subC r c
  | _ :: r, .loop c => subC r c
  | _ :: r, .scope c => subC r c
  | _, c => c
def codeAt (f : Func) (p : List Nat) : Code := subC p (f.body.getD .skip)
end Go.Proofs.YtegeaemkkbenfaaDoor.Ownd
