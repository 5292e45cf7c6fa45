/- Open: reading a state: load, Load. Conditions: none on the text. -/
import Derived.Test.YtchpagboglomoaaULd
namespace Go.Proofs.Ytchpagboglomoaa.Ownd
open Go.RowKit Go.Proofs.Ytchpagboglomoaa.GP.MU Go.Proofs.Ytchpagboglomoaa.GP Go.Proofs.YtchpagboglomoaaW.PrintWords Go.Proofs.YtchpagboglomoaaW.PrintLast Go.Proofs.YtchpagboglomoaaW.PrintMore
set_option linter.unusedVariables false
set_option linter.unusedSimpArgs false
theorem measU {k n g : Nat} (h : k < n) (hg : n - k ≤ g) : n - (k + 1) < g := by omega
theorem Own.text_at {w W : World} {l : List Thing} {e : Nat} {v : Value} {zs : List ByteArray} (h : Own w W l) (j : Nat) (hj : l[j]? = some (.row Kd.string e v zs)) (i : Nat) (hi : i < zs.length) : ∃ g c, v = .slice (some ⟨g, 0, none⟩) zs.length c ∧ zs.length ≤ c ∧ W.cell? ⟨g, i, none⟩ = some (.string zs[i]) := by
  obtain ⟨g, c, cs, h1, h2, _, hK, hcell, _⟩ := h.elem j hj i hi
  have hK' : cs = [.string zs[i]] := hK
  subst hK'
  refine ⟨g, c, h1, h2, ?_⟩
  have h9 := hcell 0 (.string zs[i]) rfl
  rwa [show i * (Kd.string).sz + 0 = i from Nat.mul_one i] at h9
theorem entGo_at (l : List ByteArray) (acc : List UE) (q : Nat) (h : q < l.length) : entGo (l.drop q) acc = if (getE l[q]).2 = 0 then entGo (l.drop (q + 1)) (acc ++ [(getE l[q]).1]) else ([], (getE l[q]).2) := by
  rw [List.drop_eq_getElem_cons h]
  rfl
theorem getE_err (s : ByteArray) : (getE s).2 = 0 ∨ (getE s).2 = 2 ∨ (getE s).2 = 3 := by
  unfold getE
  split
  · exact .inr (.inr rfl)
  · split
    · exact .inl rfl
    · exact .inr (.inl rfl)
set_option maxHeartbeats 8000000 in
set_option maxRecDepth 100000 in
theorem load_O {w W : World} {rest : List Thing} {g : Nat} {v : Value} {xs : List P2} {F : World → Prop} {M : Opn} (h : Own w W (oB g v :: oR v xs :: .fact F :: rest)) (hi : IsOpen xs F M) (hl : M.length ≤ 99999) (s : ByteArray) (last : Int) (hlast : 0 ≤ last) :
    Calls Try.prog 33 #[.pointer (some ⟨g, 0, none⟩), .string s, .int .i64 last] W fun ex W' => ex = .returned (.tuple #[.int .i64 (loadT s last).1, .int .i64 (loadT s last).2.2]) ∧ OpenOwn w W' g (if (loadT s last).2.2 = 0 then setM M (loadT s last).1 (loadT s last).2.1 else M) rest := by
  have HXL : Aside0 (xs.length ≤ 999999) := ⟨by rw [OpenOwn.len h hi]; omega⟩
  have HO := Aside0.mk h
  have HI := Aside0.mk hi
  obtain ⟨⟨rn, re, rc⟩, hr⟩ : ∃ r, loadT s last = r := ⟨_, rfl⟩
  rw [hr]
  have HR := Aside0.mk hr
  obtain ⟨M', hM'⟩ : ∃ M', (if rc = 0 then setM M rn re else M) = M' := ⟨_, rfl⟩
  show Calls _ _ _ _ fun ex W' => ex = .returned (.tuple #[.int .i64 rn, .int .i64 rc]) ∧ OpenOwn w W' g (if rc = 0 then setM M rn re else M) rest
  rw [hM']
  have HM' := Aside0.mk hM'
  clear h hi hr hM'
  by_cases h6 : s.size < 6
  · have hr : (rn, re, rc) = ((0 : Int), ([] : List UE), (3 : Int)) := HR.out.symm.trans (by unfold loadT; rw [if_pos h6])
    cases hr
    obtain rfl : M = M' := HM'.out
    have d1 : decide (s.size < 6) = true := decide_eq_true h6
    have d2 : decide ((s.size : Int) < 6) = true := decide_eq_true (by omega)
    clear HR h6
    go_enter Try.func33, Try.ntmps33
    go_wp2
    go_ret2
    exact ⟨rfl, v, xs, F, HO.out, HI.out⟩
  · have d1 : decide (s.size < 6) = false := decide_eq_false h6
    have d2 : decide ((s.size : Int) < 6) = false := decide_eq_false (by omega)
    have hs6 : 6 ≤ s.size := by omega
    have hs6' : (6 : Int) ≤ (s.size : Int) := by omega
    have HS := Aside0.mk (fun w => sum_Get.calls 7 (s.extract 0 6) ((numL (s.extract 0 6).data.toList : Nat) : Int) w (sumGet_tells _ (by rw [extract_size _ _ _ hs6]; omega) 7 (by omega)))
    have HSp := Aside0.mk (fun w => record_Split.calls 70000 (s.extract 6 s.size) (splitP (s.extract 6 s.size)).1 (splitP (s.extract 6 s.size)).2 w (split_tells _ 70000 (Nat.le_refl _)))
    have hr2 := HR.out
    unfold loadT at hr2
    rw [if_neg h6] at hr2
    have hsl := split_len (s.extract 6 s.size)
    generalize ((numL (s.extract 0 6).data.toList : Nat) : Int) = n at *
    generalize splitP (s.extract 6 s.size) = sp at *
    obtain ⟨ts, e1⟩ := sp
    simp only [] at hr2 hsl HSp
    have HR2 := Aside0.mk hr2
    have HSL := Aside0.mk hsl
    clear HR h6 hr2
    go_enter Try.func33, Try.ntmps33
    go_upto_region 5 with (first
      | (go_at_call 37; refine (HS.out _).mono ?_; rintro e w1 ⟨rfl, hb⟩; have HO1 := Aside0.mk (HO.out.below hb.below); clear hb)
      | (go_at_call 32; refine (HSp.out _).mono ?_; rintro e w2 ⟨v0, rfl, hR, hb⟩; have hO2 := HO1.out.row_R hb hR; obtain ⟨A0, c0, rfl⟩ := hO2.row 0 rfl; have HO2 := Aside0.mk hO2; clear hb hR hO2))
    clear HO HO1 HS HSp
    by_cases he : e1 = 0
    · subst he
      have hr2 := HR2.out
      rw [if_neg (by decide)] at hr2
      have HR3 := Aside0.mk hr2
      clear HR2 hr2
      have HO3 := Aside0.mk (HO2.out.lit_empty kE 36)
      go_upto_block 0 with fail
      have hF0 : HSL.out = HSL.out := rfl
      clear hF0
      go_wp2_with fail
      go_loopg [11, 34] ts.length (fun gg s11 s34 wr => ∃ (q : Nat) (acc : List UE), q ≤ ts.length ∧ ts.length - q ≤ gg ∧ s34 = .int .i64 q ∧ acc.length = q ∧ Aside0 (Own w wr (.row kE 36 s11 acc :: .row Kd.string 9 (.slice A0 ts.length c0) ts :: oB g v :: oR v xs :: .fact F :: rest)) ∧ Aside0 (entGo (ts.drop q) acc = entGo ts []))
      case atStart => exact ⟨0, [], Nat.zero_le _, by omega, rfl, rfl, ⟨HO3.out⟩, ⟨rfl⟩⟩
      case round =>
        obtain ⟨q, acc, hq, hg, rfl, hacc, HO4, HGo⟩ := hrel
        clear HO2 HO3
        by_cases hlt : q < ts.length
        · obtain ⟨g0, c1, e0, -, hx⟩ := HO4.out.text_at 1 rfl q hlt
          obtain rfl := (Value.slice.inj e0).1
          have hgo := (entGo_at ts acc q hlt).symm.trans HGo.out
          have HLt := Aside0.mk hlt
          have d3 := decLt hlt
          have z0 := geZ q
          have z1 := ltZ hlt
          have hw1 := wrS hlt (Nat.le_trans hsl (by decide))
          have HL32 : Aside0 ((acc.length + 1) * 32 ≤ 140737488355328) := ⟨by omega⟩
          have HG := Aside0.mk (fun w => getE_calls ts[q] w)
          have her := getE_err ts[q]
          generalize ts[q] = t at *
          generalize getE t = gt at *
          obtain ⟨⟨xa, xb, xc⟩, ec⟩ := gt
          simp only [] at hgo HG her
          have HGo2 := Aside0.mk hgo
          have HEr := Aside0.mk her
          have HAcc := Aside0.mk hacc
          clear e0 hgo hlt her hacc
          by_cases hec : ec = 0
          · subst hec
            have hgo := HGo2.out
            rw [if_pos rfl] at hgo
            have HGo3 := Aside0.mk hgo
            clear hgo HGo2 HEr
            go_upto_region 12 with (go_at_call 21; refine (HG.out _).mono ?_; rintro e w5 ⟨rfl, hb⟩; have HO5 := Aside0.mk (HO4.out.below hb); clear hb)
            have hO6 := HO5.out.below (below_alloc (Below.refl _ _) (.cells #[.int .i64 xa, .int .i64 xb, .string xc] 36))
            have b0 : (w5.alloc (.cells #[.int .i64 xa, .int .i64 xb, .string xc] 36)).cell? ⟨w5.heap.size, 0, none⟩ = some (.int .i64 xa) := blk_cell (blk_new w5 (.cells #[.int .i64 xa, .int .i64 xb, .string xc] 36)) 0
            have b1 : (w5.alloc (.cells #[.int .i64 xa, .int .i64 xb, .string xc] 36)).cell? ⟨w5.heap.size, 1, none⟩ = some (.int .i64 xb) := blk_cell (blk_new w5 (.cells #[.int .i64 xa, .int .i64 xb, .string xc] 36)) 1
            have b2 : (w5.alloc (.cells #[.int .i64 xa, .int .i64 xb, .string xc] 36)).cell? ⟨w5.heap.size, 2, none⟩ = some (.string xc) := blk_cell (blk_new w5 (.cells #[.int .i64 xa, .int .i64 xb, .string xc] 36)) 2
            have HO6 := Aside0.mk hO6
            clear HO5 hO6 hx HO4 HG
            generalize w5.alloc (.cells #[.int .i64 xa, .int .i64 xb, .string xc] 36) = w6 at HO6 b0 b1 b2 ⊢
            generalize w5.heap.size = gb at b0 b1 b2 ⊢
            go_upto_region 15 with (at_builtin; refine Own.append kE HO6.out 0 rfl rfl (.tmp 46) (.tmp 48) 71 zE 32 rfl Try.underlying71 infoE rfl (by decide) (by decide) (xa, xb, xc) [.int .i64 xa, .int .i64 xb, .string xc] rfl rfl (fun W' _ => kE_mk W' (xa, xb, xc)) HL32.out ?_; intro v9 w9 hO9; have HO9 := Aside0.mk hO9; clear hO9)
            clear HO6 b0 b1 b2
            go_wp2_with fail
            try rw [hw1]
            go_roundg (ts.length - (q + 1))
            case measure => exact measU HLt.out hg
            case rel => exact ⟨q + 1, acc ++ [(xa, xb, xc)], HLt.out, Nat.le_refl _, rfl, by rw [List.length_append, HAcc.out]; rfl, ⟨HO9.out⟩, HGo3⟩
          · have hgo := HGo2.out
            rw [if_neg hec] at hgo
            have hr3 := HR3.out
            rw [← hgo, if_pos hec] at hr3
            cases hr3
            obtain rfl : M = M' := by rw [← HM'.out, if_neg hec]
            have b1 : (ec != 0) = true := by simp [hec]
            have HE := Aside0.mk hec
            clear hgo hec HEr HGo2 HR3
            go_upto_region 12 with (go_at_call 21; refine (HG.out _).mono ?_; rintro e w5 ⟨rfl, hb⟩; have HO5 := Aside0.mk (HO4.out.below hb); clear hb)
            have HO6 := Aside0.mk (HO5.out.below (below_alloc (Below.refl _ _) (.cells #[.int .i64 xa, .int .i64 xb, .string xc] 36)))
            clear HO5 hx HO4 HG
            generalize w5.alloc (.cells #[.int .i64 xa, .int .i64 xb, .string xc] 36) = w6 at HO6 ⊢
            go_wp2_with fail
            go_ret2
            exact ⟨rfl, v, xs, F, HO6.out.tail.tail, HI.out⟩
        · obtain rfl : q = ts.length := by omega
          have hgo := HGo.out
          rw [List.drop_length] at hgo
          have hgo2 : entGo ts [] = (acc, 0) := hgo.symm
          have hr3 := HR3.out
          rw [hgo2, if_neg (by simp)] at hr3
          obtain ⟨A9, c9, rfl⟩ := HO4.out.row 0 rfl
          have d3 := decNo ts.length
          have hO5 : Own w wr (oB g v :: oR v xs :: .fact F :: .row kE 36 (.slice A9 acc.length c9) acc :: rest) := Own.down3 (Own.tail (Own.swap2 HO4.out))
          have HO5 := Aside0.mk hO5
          clear hgo hgo2 HGo HO4 hO5 hacc
          by_cases hn : n ≤ last
          · rw [if_pos hn] at hr3
            cases hr3
            obtain rfl : M = M' := HM'.out
            have d4 : decide (n ≤ last) = true := decide_eq_true hn
            clear HR3
            go_wp2_with fail
            go_ret2
            exact ⟨rfl, v, xs, F, Own.tail (Own.up3 HO5.out), HI.out⟩
          · rw [if_neg hn] at hr3
            cases hr3
            have hM2 : setM M rn acc = M' := HM'.out
            have d4 : decide (rn ≤ last) = false := decide_eq_false hn
            have HM2 := Aside0.mk hM2
            clear HR3 hM2 hn
            go_wp2_with (go_at_call 28; refine (set_O (i := 0) (j := 1) HO5.out ⟨rfl, rfl, by decide⟩ HI.out.rise HXL.out rn (A9, acc.length, c9)).mono ?_; rintro e w7 ⟨v7, rfl, hO7⟩; have HO7 := Aside0.mk hO7; clear hO7)
            go_ret2
            have hme := HO7.out.merge 2 3 (by decide) rfl rfl
            refine ⟨rfl, v7, _, _, Own.tail (Own.up3 hme), ⟨setL_rise HI.out.rise rn _, fun W' hF => ?_⟩⟩
            rw [← HM2.out]
            exact (HI.out.heads W' hF.1).set rn ⟨hF.2.1, by rw [← hF.2.1]; exact hF.2.2.1, hF.2.2.2⟩
    · have hr2 := HR2.out
      rw [if_pos he] at hr2
      cases hr2
      obtain rfl : M = M' := by rw [← HM'.out, if_neg he]
      have b1 : (rc != 0) = true := by simp [he]
      have HE := Aside0.mk he
      clear he HR2
      go_wp2_with fail
      go_ret2
      exact ⟨rfl, v, xs, F, HO2.out.tail, HI.out⟩
end Go.Proofs.Ytchpagboglomoaa.Ownd
