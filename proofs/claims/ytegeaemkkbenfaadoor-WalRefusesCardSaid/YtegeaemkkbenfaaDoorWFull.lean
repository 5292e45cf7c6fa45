/- law08.WalFull, walked: it says true. Condition: the table lies as the program lays it. -/
import Derived.Test.YtegeaemkkbenfaaDoorWUse
namespace Go.Proofs.YtegeaemkkbenfaaDoor.Ownd
open Go.Shelf Go.RowKit Go.Proofs.YtegeaemkkbenfaaDoorW.PrintWords Go.Proofs.YtegeaemkkbenfaaDoorW.PrintLast Go.Proofs.YtegeaemkkbenfaaDoorW.PrintMore
set_option linter.unusedVariables false
set_option linter.unusedSimpArgs false
theorem strs_zero (m : Nat) : strOfNums (List.replicate m 0) = Bld.zs m := by
  unfold strOfNums Bld.zs
  rw [List.map_replicate]; rfl
theorem zeros_make (m : Nat) (hm : m ≤ 1000000) : ∀ W : World, (Instr.makeSlice 32 (.int .i64 (m : Int)) (.int .i64 (m : Int))).run Tryd.prog W = .ok (.slice (some ⟨W.heap.size, 0, none⟩) m m) (W.alloc (.cells (madeCells #[.int .u8 0] m) 5)) :=
  print_make 32 5 .u8 1 Tryd.underlying32 (by kernel_rfl) (by decide) m (by omega)
theorem zeros_text (m : Nat) (hm : m ≤ 1000000) (W : World) : (convert 32 9 (.slice (some ⟨W.heap.size, 0, none⟩) m m)).run Tryd.prog (W.alloc (.cells (madeCells #[.int .u8 0] m) 5)) = .ok (.string (Bld.zs m)) (W.alloc (.cells (madeCells #[.int .u8 0] m) 5)) := by
  rw [← strs_zero]
  exact run_convert_bytes_arg (P := Tryd.prog) _ 32 5 Tryd.underlying32 Tryd.underlying5 W.heap.size 0 m m (List.replicate m 0) (by rw [List.length_replicate]) (fun i hi => by
    have hb := blk_cell (blk_new W (.cells (madeCells #[.int .u8 0] m) 5)) (0 + i)
    rw [hb]
    simp only [madeCells, Nat.zero_add]
    simp [Nat.mod_one, show i < m by omega, List.getElem_replicate]) 9 Tryd.underlying9
def chF : ByteArray := ⟨#[102]⟩
theorem rightF : Right chF := ⟨by decide, by decide⟩
theorem full_h (n : Int) : ∃ m : Nat, 1 ≤ m ∧ m ≤ 8 ∧ 1 + n % 8 = (m : Int) := ⟨(1 + n % 8).toNat, by omega, by omega, by omega⟩
theorem full_s (n : Int) : ∃ m : Nat, 1 ≤ m ∧ m ≤ 128 ∧ 1 + n % 128 = (m : Int) := ⟨(1 + n % 128).toNat, by omega, by omega, by omega⟩
theorem enc_rep (z : ByteArray) : ∀ i : Nat, (encT (chB :: List.replicate i z)).size = 3 + i * (z.size + 2)
  | 0 => by rw [Nat.zero_mul]; rfl
  | i + 1 => by
    rw [List.replicate_succ', ← List.cons_append, encT_snoc, ByteArray.size_append, textB_size, enc_rep z i, Nat.succ_mul]
    omega
theorem full_fits (hf sz : Nat) (h1 : 1 ≤ hf) (h2 : hf ≤ 8) (s1 : 1 ≤ sz) (s2 : sz ≤ 128) : ∃ m : Nat, (242 * (hf : Int) - 3) / ((sz : Int) + 2) = (m : Int) ∧ 1 ≤ m ∧ m ≤ 1000 ∧ 3 + m * (sz + 2) ≤ hf * 242 ∧ hf * 242 < 3 + m * (sz + 2) + (sz + 2) := by
  refine ⟨(242 * hf - 3) / (sz + 2), ?_, ?_, ?_, ?_, ?_⟩
  · rw [show 242 * (hf : Int) - 3 = ((242 * hf - 3 : Nat) : Int) by omega, show (sz : Int) + 2 = ((sz + 2 : Nat) : Int) by omega, Int.natCast_ediv]
  · rw [Nat.le_div_iff_mul_le (by omega)]; omega
  · exact Nat.le_of_lt_succ (Nat.div_lt_of_lt_mul (by omega))
  · have := Nat.div_mul_le_self (242 * hf - 3) (sz + 2); omega
  · have := Nat.lt_div_mul_add (a := 242 * hf - 3) (show 0 < sz + 2 by omega); omega
theorem full_room {i m sz hf : Nat} (hi : i < m) (h : 3 + m * (sz + 2) ≤ hf * 242) : 3 + i * (sz + 2) + (sz + 2) ≤ hf * 242 := by
  have : (i + 1) * (sz + 2) ≤ m * (sz + 2) := Nat.mul_le_mul_right _ hi
  rw [Nat.succ_mul] at this
  omega
set_option maxHeartbeats 8000000 in
set_option maxRecDepth 100000 in
theorem full_calls {W : World} (hT : Tab W) (x y : Int) : Calls Tryd.prog 3 #[.int .i64 x, .int .i64 y] W fun ex W' => ex = .returned (.bool true) ∧ Below W.heap.size W W' := by
  have HT := Aside0.mk hT
  clear hT
  have ha := and7 x
  have hb := and127 y
  obtain ⟨hf, h1, h2, hw⟩ := full_h x
  obtain ⟨sz, s1, s2, sw⟩ := full_s y
  go_enter Tryd.func3, Tryd.ntmps3
  go_upto_region 5 with (first
    | (go_at_call 8; refine (speaks_calls HT.out).mono ?_; rintro e w1 ⟨rfl, hb1⟩; have H0 := Aside0.mk (HL.start2 hb1); clear hb1))

  clear ha hb hw sw
  have hn : (2 : Int) + 2 * (hf : Int) = ((2 + 2 * hf : Nat) : Int) := by omega
  have HN := Aside0.mk (new_HL H0.out (2 + 2 * hf) (by omega) (by omega))
  rw [← hn] at HN
  have hSite : Site (TD.new (2 + 2 * hf)) 0 hf := siteNew (by decide) (by omega) (by omega) (by omega)
  have HS := Aside0.mk hSite
  have HF := Aside0.mk (fun (d : Nat) (w' : World) (h : HL W w' ([] ++ (d, (TD.new (2 + 2 * hf)).dev) :: []) []) => format_use h HS.out chF rightF (by decide) (show chF.size + 2 ≤ hf * 242 by rw [show chF.size = 1 from rfl]; omega) HT.out)
  clear hn hSite HS
  have hmk := zeros_make sz (by omega)
  have hcv := zeros_text sz (by omega)
  go_upto_region 12 with (first
    | (go_at_call 9; refine HN.out.mono ?_; rintro e w2 ⟨d, rfl, h2⟩; have H1 : Aside0 (HL W w2 ([] ++ (d, (TD.new (2 + 2 * hf)).dev) :: []) []) := ⟨h2⟩; clear h2 H0 HN)
    | (go_at_call 10; refine (HF.out _ _ H1.out).mono ?_; rintro e w3 ⟨rfl, T, h3, hk, hfu⟩; have H2 := Aside0.mk h3; have HK := Aside0.mk hk; have HFU := Aside0.mk hfu; clear h3 hk hfu H1 HF)
    | (go_at_call 11; refine (open_use H2.out HK.out HT.out).mono ?_; rintro e w4 ⟨g, A, c, rfl, L, h4, ho, hg, -, -, -⟩; have H3 := Aside0.mk h4; have HO := Aside0.mk ho; have HG := Aside0.mk hg; clear h4 ho hg H2 HK))
  clear hmk hcv
  have H4 := Aside0.mk (H3.out.below (below_alloc (Below.refl _ _) (.cells (madeCells #[.int .u8 0] sz) 5)))
  clear H3
  generalize w4.alloc (.cells (madeCells #[.int .u8 0] sz) 5) = w5 at H4 ⊢
  obtain ⟨R, hR⟩ : ∃ R : List Thing, [Thing.row Kd.string 9 (Value.slice A [chF].length c) [chF]] = R := ⟨_, rfl⟩
  rw [hR] at H4
  clear hR
  obtain ⟨z, hz⟩ : ∃ z, Bld.zs sz = z := ⟨_, rfl⟩
  have hzs : z.size = sz := by rw [← hz]; exact Bld.zs_size sz
  rw [hz]
  clear hz
  go_wp2_with fail
  go_loopg [11] 3 (fun gg s11 wr => ∃ k : Nat, k ≤ 3 ∧ 3 - k ≤ gg ∧ s11 = .int .i64 k ∧ Aside0 (∃ T L, HL W wr ([] ++ (d, TD.dev T) :: []) (LT g d L :: R) ∧ Opened T L 0 hf ∧ T.fuse = 0 ∧ L.greatest ≤ 1 + (k : Int)))
  case atStart => exact ⟨0, Nat.zero_le _, Nat.le_refl _, rfl, ⟨T, L, H4.out, HO.out, HFU.out, HG.out⟩⟩
  case round =>
    clear H4 HO HFU HG
    obtain ⟨k, hk, hg, rfl, ⟨T, L, hO, hop, hfu, hgr⟩⟩ := hrel
    by_cases hlt : k < 3
    · have d1 : decide ((k : Int) < 3) = true := decide_eq_true (by omega)
      have HSW := Aside0.mk (switch_use hO hop hfu hgr (by omega) (k : Int) chB rightB' (by decide) (show chB.size + 2 ≤ hf * 242 by rw [show chB.size = 1 from rfl]; omega) HT.out)
      clear hO hop hfu hgr
      go_upto_region 18 with (go_at_call 12; refine HSW.out.mono ?_; rintro e w6 ⟨rfl, T6, L6, h6, hu6, hf6, hE6⟩; have H6 := Aside0.mk h6; have HU6 := Aside0.mk hu6; have HF6 := Aside0.mk hf6; have HE6 := Aside0.mk hE6; clear h6 hu6 hf6 hE6 HSW)
      obtain ⟨m, hm, m1, m2, m3, m4⟩ := full_fits hf sz h1 h2 s1 s2
      rw [hm]
      clear hm
      go_wp2_with fail
      go_loopg [13] m (fun gg s13 wr => ∃ i : Nat, i ≤ m ∧ m - i ≤ gg ∧ s13 = .int .i64 i ∧ Aside0 (∃ L, HL W wr ([] ++ (d, TD.dev T6) :: []) (LT g d L :: R) ∧ InUse T6 L 0 hf (chB :: List.replicate i z) 1 ∧ L.epoch ≤ 1 + (k : Int) + 1))
      case atStart => exact ⟨0, Nat.zero_le _, Nat.le_refl _, rfl, ⟨L6, H6.out, HU6.out, HE6.out⟩⟩
      case round =>
        clear H6 HU6 HE6
        obtain ⟨i, hi, hgi, rfl, ⟨L7, h7, hu7, hE7⟩⟩ := hrel
        by_cases hlti : i < m
        · have d2 : decide ((i : Int) < (m : Int)) = true := decide_eq_true (by omega)
          have HAP := Aside0.mk (append_ok h7 hu7 (i : Int) z (by omega) (by omega) (by rw [enc_rep, hzs]; exact full_room hlti m3))
          clear h7 hu7
          go_wp2_with (go_at_call 13; refine HAP.out.mono ?_; rintro e w8 ⟨rfl, L8, h8, hu8, hE8⟩; have H8 := Aside0.mk h8; have HU8 := Aside0.mk hu8; have HE8 := Aside0.mk hE8; clear h8 hu8 hE8 HAP)
          go_roundg (m - (i + 1))
          case measure => omega
          case rel => exact ⟨i + 1, hlti, Nat.le_refl _, by first | rfl | (unfold wrap64; congr 1; omega), ⟨L8, H8.out, by rw [List.replicate_succ', ← List.cons_append]; exact HU8.out, by rw [HE8.out]; exact hE7⟩⟩
        · obtain rfl : i = m := by omega
          have d2 : decide ((i : Int) < (i : Int)) = false := decide_eq_false (by omega)
          have HAP := Aside0.mk (append_no h7 hu7 (i : Int) z (by omega) (by omega) (by rw [enc_rep, hzs]; omega))
          have HU7 := Aside0.mk hu7
          clear h7 hu7
          have HFL := Aside0.mk (fun (w' : World) (h : HL W w' ([] ++ (d, TD.dev T6) :: []) (LT g d L7 :: R)) => flush_use h HU7.out HF6.out hE7 (by omega) HT.out)
          clear hE7
          go_upto_region 25 with (first
            | (go_at_call 13; refine HAP.out.mono ?_; rintro e w8 ⟨rfl, h8⟩; have H8 := Aside0.mk h8; clear h8 HAP)
            | (go_at_call 14; refine (HFL.out _ H8.out).mono ?_; rintro e w9 ⟨rfl, T9, L9, h9, hu9, hf9, hE9⟩; have H9 := Aside0.mk h9; have HU9 := Aside0.mk hu9; have HF9 := Aside0.mk hf9; have HE9 := Aside0.mk hE9; clear h9 hu9 hf9 hE9 HFL H8))
          have hkp := HU9.out.kept (by rw [List.length_cons]; omega) HE9.out
          rw [List.take_length] at hkp
          obtain ⟨lt, hlt'⟩ : ∃ lt, chB :: List.replicate i z = lt := ⟨_, rfl⟩
          have hln : lt.length = 1 + i := by rw [← hlt', List.length_cons, List.length_replicate, Nat.add_comm]
          have hlast : ∀ h : i < lt.length, lt[i] = z := by
            subst hlt'
            intro h
            rw [List.getElem_cons, dif_neg (by omega), List.getElem_replicate]
          rw [hlt'] at hkp HU9
          clear hlt'
          have HOP := Aside0.mk (open_use H9.out hkp HT.out)
          rw [hln] at HOP
          have HLN := Aside0.mk hln
          have HLAST := Aside0.mk hlast
          clear hkp hln hlast d2 hgi hi
          have ho1 : 1 + (i : Int) - 1 = (i : Int) := by omega
          have ho2 : (i : Int) < 1 + (i : Int) := by omega
          have ho3 : (0 : Int) < (i : Int) := by omega
          go_upto_region 26 with (go_at_call 11; refine HOP.out.mono ?_; rintro e w10 ⟨g2, A2, c2, rfl, L10, h10, -, -, -, -, -⟩; obtain ⟨b2, rfl, hc2, -, z2⟩ := h10.str_at 1 rfl i (by rw [HLN.out]; omega); rw [HLAST.out] at z2; rw [HLN.out] at hc2; have H10 := Aside0.mk h10.drop1.drop1; clear h10 HOP H9)
          go_wp2_with fail
          go_roundg (3 - (k + 1))
          case measure => omega
          case rel => exact ⟨k + 1, hlt, Nat.le_refl _, by first | rfl | (unfold wrap64; congr 1; omega), ⟨T9, L9, H10.out, HU9.out.opened, HF9.out, by have := HU9.out.great; have := HE9.out; omega⟩⟩
    · obtain rfl : k = 3 := by omega
      go_wp2_with fail
      go_ret
      exact ⟨rfl, hO.bel⟩
end Go.Proofs.YtegeaemkkbenfaaDoor.Ownd
