/- The document's lists of entries: reading a state: Load. Conditions: none on the text. -/
import Derived.Test.YtchpagboglomoaaULoadB
import Derived.Test.YtchpagboglomoaaURefC
namespace Go.Proofs.Ytchpagboglomoaa.Ownd
open Go.RowKit Go.Proofs.Ytchpagboglomoaa.GP.MU Go.Proofs.Ytchpagboglomoaa.GP Go.Proofs.YtchpagboglomoaaW.PrintWords Go.Proofs.YtchpagboglomoaaW.PrintLast Go.Proofs.YtchpagboglomoaaW.PrintMore
set_option linter.unusedVariables false
set_option linter.unusedSimpArgs false
theorem len32U {a k n : Nat} (h : a = k) (hk : k ≤ n) (hn : n ≤ 65535) : (a + 1) * 32 ≤ 140737488355328 := by omega
theorem list_nil {w W : World} {l : List Thing} (h : Own w W l) : ListOwn w W (.slice none 0 0) [] l :=
  ⟨none, 0, [], _, rfl, ((h.room.room).nil 0 kP 80).fact_new 1 rfl, fun _ _ => .nil⟩
set_option maxHeartbeats 8000000 in
set_option maxRecDepth 100000 in
theorem rload_O {w W : World} {l : List Thing} (h : Own w W l) (s : ByteArray) :
    Calls Try.prog 23 #[.string s] W fun ex W' => ∃ v, ex = .returned (.tuple #[v, .int .i64 (loadS s).2]) ∧ ListOwn w W' v (loadS s).1 l := by
  have HO := Aside0.mk h
  obtain ⟨⟨R, re⟩, hr⟩ : ∃ r, loadS s = r := ⟨_, rfl⟩
  rw [hr]
  show Calls _ _ _ _ fun ex W' => ∃ v, ex = .returned (.tuple #[v, .int .i64 re]) ∧ ListOwn w W' v R l
  have HR := Aside0.mk hr
  clear h hr
  by_cases h0 : s.size = 0
  · have hs : s = ⟨#[]⟩ := by
      apply data_ext
      exact List.eq_nil_of_length_eq_zero (by rw [size_len]; exact h0)
    subst hs
    have hr : (R, re) = (([], 0) : Opn × Int) := HR.out.symm.trans rfl
    cases hr
    clear HR h0
    go_enter Try.func23, Try.ntmps23
    go_wp2
    go_ret2
    exact ⟨_, rfl, list_nil HO.out⟩
  · have hb0 : s.toList.isEmpty = false := by
      rw [List.isEmpty_eq_false_iff]
      exact fun h => h0 ((bytes_nil s).mp h)
    have hr2 := HR.out
    unfold loadS at hr2
    rw [if_neg h0] at hr2
    have HSp := Aside0.mk (fun w => concordanceref07_Split.calls 140000 s (splitP s).1 (splitP s).2 w (refSplit_tells _ 140000 (Nat.le_refl _)))
    have hsl := split_len s
    generalize splitP s = sp at *
    obtain ⟨ts, e1⟩ := sp
    simp only [] at hr2 hsl HSp
    have HR2 := Aside0.mk hr2
    clear HR hr2
    go_enter Try.func23, Try.ntmps23
    go_upto_region 4 with (go_at_call 39; refine (HSp.out _).mono ?_; rintro e w2 ⟨v0, rfl, hR, hb⟩; have hO2 := HO.out.row_R hb hR; obtain ⟨A0, c0, rfl⟩ := hO2.row 0 rfl; have HO2 := Aside0.mk hO2; clear hb hR hO2)
    clear HO HSp
    by_cases he : e1 = 0
    · subst he
      have hr2 := HR2.out
      rw [if_neg (by simp)] at hr2
      have HR3 := Aside0.mk hr2
      have HO3 := Aside0.mk (((Own.swap2 HO2.out.room).fact_new 1 rfl).room.nil 0 kP 80)
      clear HR2 hr2 HO2
      go_wp2_with fail
      go_loopg [6, 7, 8] ts.length (fun gg s6 s7 s8 wr => ∃ (q : Nat) (acc : Opn) (last : Int) (ys : List P2) (G : World → Prop), q ≤ ts.length ∧ ts.length - q ≤ gg ∧ s8 = .int .i64 q ∧ s7 = .int .i64 last ∧ Aside0 (acc.length = q) ∧ Aside0 (Own w wr (rL s6 ys :: .row Kd.string 9 (.slice A0 ts.length c0) ts :: .fact G :: l)) ∧ Aside0 (∀ W' : World, G W' → Heads W' ys acc) ∧ Aside0 (loadGo (ts.drop q) last acc = (R, re)))
      case atStart => exact ⟨0, [], 0, [], _, Nat.zero_le _, by omega, rfl, rfl, ⟨rfl⟩, HO3, ⟨fun _ _ => .nil⟩, HR3⟩
      case round =>
        obtain ⟨q, acc, last, ys, G, hq, hg, rfl, rfl, HAcc, HO4, HY, HGo⟩ := hrel
        clear HO3 HR3
        by_cases hlt : q < ts.length
        · obtain ⟨g0, c1, e0, -, hx⟩ := HO4.out.text_at 1 rfl q hlt
          obtain rfl := (Value.slice.inj e0).1
          have hgo := (loadGo_at ts last acc q hlt).symm.trans HGo.out
          have HLt := Aside0.mk hlt
          have d3 := decLt hlt
          have z0 := geZ q
          have z1 := ltZ hlt
          have hw1 := wrS hlt (Nat.le_trans hsl (by decide))
          have HYL : Aside0 ((ys.length + 1) * 32 ≤ 140737488355328) := ⟨by
            have h1 := (HY.out wr (HO4.out.now 2 rfl)).length
            have h2 := HAcc.out
            omega⟩
          obtain ⟨t, htq⟩ : ∃ t, ts[q] = t := ⟨_, rfl⟩
          rw [htq] at hx hgo
          have HTq := Aside0.mk htq
          clear htq
          obtain ⟨⟨n, es, ec⟩, ht⟩ : ∃ r, loadT t last = r := ⟨_, rfl⟩
          rw [ht] at hgo
          replace hgo : (if ec = 0 then loadGo (ts.drop (q + 1)) n (acc ++ [(n, es)]) else ([], ec)) = (R, re) := hgo
          unfold loadT at ht
          have HGo2 := Aside0.mk hgo
          clear e0 hgo HGo
          by_cases h6 : t.size < 6
          · have d1 : decide (t.size < 6) = true := decide_eq_true h6
            have d2 : decide ((t.size : Int) < 6) = true := decide_eq_true (by omega)
            rw [if_pos h6] at ht
            cases ht
            have hgo := HGo2.out
            rw [if_neg (by decide)] at hgo
            cases hgo
            clear h6 HGo2
            go_wp2_with fail
            go_ret2
            exact ⟨_, rfl, list_nil HO4.out.tail.tail.tail⟩
          · have d1 : decide (t.size < 6) = false := decide_eq_false h6
            have d2 : decide ((t.size : Int) < 6) = false := decide_eq_false (by omega)
            have hs6 : 6 ≤ t.size := by omega
            have hs6' : (6 : Int) ≤ (t.size : Int) := by omega
            rw [if_neg h6] at ht
            have HS := Aside0.mk (fun w => concordanceref02_Get.calls 7 (t.extract 0 6) ((numL (t.extract 0 6).data.toList : Nat) : Int) w (ref02Get_tells _ (by rw [extract_size _ _ _ hs6]; omega) 7 (by omega)))
            have HSp := Aside0.mk (fun w => concordanceref07_Split.calls 140000 (t.extract 6 t.size) (splitP (t.extract 6 t.size)).1 (splitP (t.extract 6 t.size)).2 w (refSplit_tells _ 140000 (Nat.le_refl _)))
            have hsl2 := split_len (t.extract 6 t.size)
            have HW1 := Aside0.mk hw1
            clear hw1
            generalize ((numL (t.extract 0 6).data.toList : Nat) : Int) = m at *
            generalize splitP (t.extract 6 t.size) = sp at *
            obtain ⟨us, e2⟩ := sp
            simp only [] at ht hsl2 HSp
            have HT := Aside0.mk ht
            have HSL2 := Aside0.mk hsl2
            clear ht h6
            go_upto_region 14 with (go_at_call 38; refine (HS.out _).mono ?_; rintro e w1 ⟨rfl, hb⟩; have HO5 := Aside0.mk (HO4.out.below hb.below); clear hb)
            clear HO4 HS
            have HO6 := Aside0.mk (HO5.out.room.alloc 0 rfl (.cells #[.int .i64 m, .slice none 0 0] 80))
            clear HO5 hx
            generalize w1.alloc (.cells #[.int .i64 m, .slice none 0 0] 80) = w3 at HO6 ⊢
            generalize w1.heap.size = gl at HO6 ⊢
            have HO6b := Aside0.mk (show Own w w3 (.box gl (.cells #[.int .i64 m, .slice none 0 0] 80 (0, 0)) :: rL u6 ys :: .row Kd.string 9 (.slice (some ⟨g0, 0, none⟩) ts.length c0) ts :: .fact G :: l) from HO6.out)
            clear HO6
            obtain ⟨g3, c3, e3, -, hx⟩ := HO6b.out.text_at 2 rfl q HLt.out
            obtain rfl : g0 = g3 := by have := (Value.slice.inj e3).1; simpa using this
            rw [HTq.out] at hx
            clear e3
            go_upto_region 15 with (go_at_call 39; refine (HSp.out _).mono ?_; rintro e w4 ⟨v4, rfl, hR, hb⟩; have hO7 := HO6b.out.row_R hb hR; obtain ⟨A1, c4, rfl⟩ := hO7.row 0 rfl; have HO7 := Aside0.mk hO7; clear hb hR hO7)
            clear HO6b HSp hx
            by_cases he2 : e2 = 0
            · subst he2
              have ht := HT.out
              rw [if_neg (by simp)] at ht
              have HT2 := Aside0.mk ht
              have HO8 := Aside0.mk (HO7.out.room.nil 0 kE 39)
              clear HT ht HO7
              go_upto_block 2 with fail
              go_wp2_with fail
              go_loopg [12] us.length (fun gg s12 wr => ∃ (k : Nat) (v9 : Value) (accE : List UE), k ≤ us.length ∧ us.length - k ≤ gg ∧ s12 = .int .i64 k ∧ Aside0 (accE.length = k) ∧ Aside0 (Own w wr (.row kE 39 v9 accE :: .row Kd.string 9 (.slice A1 us.length c4) us :: .box gl (.cells #[.int .i64 m, v9] 80 (0, 0)) :: rL u6 ys :: .row Kd.string 9 (.slice (some ⟨g0, 0, none⟩) ts.length c0) ts :: .fact G :: l)) ∧ Aside0 (entGo (us.drop k) accE = entGo us []))
              case atStart => exact ⟨0, .slice none 0 0, [], Nat.zero_le _, by omega, rfl, ⟨rfl⟩, HO8, ⟨rfl⟩⟩
              case round =>
                obtain ⟨k, v9, accE, hk, hgk, rfl, HAccE, HO9, HGoE⟩ := hrel
                clear HO8
                by_cases hkt : k < us.length
                · obtain ⟨g5, c5, e5, -, hy⟩ := HO9.out.text_at 1 rfl k hkt
                  obtain rfl := (Value.slice.inj e5).1
                  have hgoE := (entGo_at us accE k hkt).symm.trans HGoE.out
                  have HL32 : Aside0 ((accE.length + 1) * 32 ≤ 140737488355328) := ⟨len32U HAccE.out hk hsl2⟩
                  have HKt := Aside0.mk hkt
                  have d4 := decLt hkt
                  have y0 := geZ k
                  have y1 := ltZ hkt
                  have hw2 := wrS hkt (Nat.le_trans hsl2 (by decide))
                  have HG := Aside0.mk (fun w => rgetE_calls us[k] w)
                  generalize us[k] = u at *
                  generalize getE u = gt at *
                  obtain ⟨⟨xa, xb, xc⟩, ec2⟩ := gt
                  simp only [] at hgoE HG
                  have HGoE2 := Aside0.mk hgoE
                  obtain ⟨A9, n9, c9, rfl⟩ := HO9.out.isSlice 0 rfl
                  clear e5 hgoE hkt HGoE
                  go_upto_region 21 with (go_at_call 22; refine (HG.out _).mono ?_; rintro e w5 ⟨rfl, hb⟩; have HO10 := Aside0.mk (HO9.out.below hb); clear hb)
                  have hO11 := HO10.out.below (below_alloc (Below.refl _ _) (.cells #[.int .i64 xa, .int .i64 xb, .string xc] 39))
                  have b0 : (w5.alloc (.cells #[.int .i64 xa, .int .i64 xb, .string xc] 39)).cell? ⟨w5.heap.size, 0, none⟩ = some (.int .i64 xa) := blk_cell (blk_new w5 (.cells #[.int .i64 xa, .int .i64 xb, .string xc] 39)) 0
                  have b1 : (w5.alloc (.cells #[.int .i64 xa, .int .i64 xb, .string xc] 39)).cell? ⟨w5.heap.size, 1, none⟩ = some (.int .i64 xb) := blk_cell (blk_new w5 (.cells #[.int .i64 xa, .int .i64 xb, .string xc] 39)) 1
                  have b2 : (w5.alloc (.cells #[.int .i64 xa, .int .i64 xb, .string xc] 39)).cell? ⟨w5.heap.size, 2, none⟩ = some (.string xc) := blk_cell (blk_new w5 (.cells #[.int .i64 xa, .int .i64 xb, .string xc] 39)) 2
                  have HO11 := Aside0.mk hO11
                  clear HO10 hO11 hy HO9 HG
                  generalize w5.alloc (.cells #[.int .i64 xa, .int .i64 xb, .string xc] 39) = w6 at HO11 b0 b1 b2 ⊢
                  generalize w5.heap.size = gb at b0 b1 b2 ⊢
                  by_cases hec : ec2 = 0
                  · subst hec
                    have hgoE := HGoE2.out
                    rw [if_pos rfl] at hgoE
                    have HGoE3 := Aside0.mk hgoE
                    have q1 : w6.cell? ⟨gl, 1, none⟩ = some (.slice A9 n9 c9) := HO11.out.cell 2 rfl 1
                    clear hgoE HGoE2
                    go_upto_region 19 with (at_builtin; refine Own.append kE HO11.out 0 rfl rfl (.tmp 74) (.tmp 76) 78 zE 32 rfl Try.underlying78 infoRE rfl (by decide) (by decide) (xa, xb, xc) [.int .i64 xa, .int .i64 xb, .string xc] rfl rfl (fun W' _ => kE_mk W' (xa, xb, xc)) HL32.out ?_; intro v7 w7 hO12; obtain ⟨A7, c7, e7⟩ := hO12.row 0 rfl; generalize hn7 : List.length _ = n7 at e7; replace e7 : v7 = .slice A7 n7 c7 := e7; subst e7; have q2 : w7.cell? ⟨gl, 1, none⟩ = some (.slice A9 n9 c9) := hO12.cell 2 rfl 1; have q3 : w7.frozen? ⟨gl, 1, none⟩ = false := hO12.frozen 2 rfl 1; have HO12 := Aside0.mk hO12; clear hO12 hn7)
                    have HO13 := Aside0.mk (HO12.out.store 2 rfl 1 (.slice A7 n7 c7) (cs' := #[.int .i64 m, .slice A7 n7 c7]) rfl)
                    clear HO11 HO12 b0 b1 b2 q1 q2 q3
                    generalize w7.setCell ⟨gl, 1, none⟩ (.slice A7 n7 c7) = w8 at HO13 ⊢
                    go_wp2_with fail
                    try rw [hw2]
                    go_roundg (us.length - (k + 1))
                    case measure => exact measU HKt.out hgk
                    case rel => exact ⟨k + 1, _, accE ++ [(xa, xb, xc)], HKt.out, Nat.le_refl _, rfl, ⟨by rw [List.length_append, HAccE.out]; rfl⟩, ⟨HO13.out⟩, HGoE3⟩
                  · have hgoE := HGoE2.out
                    rw [if_neg hec] at hgoE
                    have ht2 := HT2.out
                    rw [← hgoE, if_pos hec] at ht2
                    cases ht2
                    have hgo := HGo2.out
                    rw [if_neg hec] at hgo
                    cases hgo
                    have b3 : (ec2 != 0) = true := by simp [hec]
                    clear hgoE hec HGoE2 HT2 HGo2 b0 b1 b2
                    go_wp2_with fail
                    go_ret2
                    exact ⟨_, rfl, list_nil HO11.out.tail.tail.tail.tail.tail.tail⟩
                · obtain rfl : k = us.length := by omega
                  have hgoE := HGoE.out
                  rw [List.drop_length] at hgoE
                  have hgoE2 : entGo us [] = (accE, 0) := hgoE.symm
                  have ht2 := HT2.out
                  rw [hgoE2, if_neg (by simp)] at ht2
                  have d4 := decNo us.length
                  obtain ⟨A9, c9, rfl⟩ := HO9.out.row 0 rfl
                  have q0 : wr.cell? ⟨gl, 0, none⟩ = some (.int .i64 m) := HO9.out.cell 2 rfl 0
                  have q1 : wr.cell? ⟨gl, 1, none⟩ = some (.slice A9 accE.length c9) := HO9.out.cell 2 rfl 1
                  clear hgoE hgoE2 HGoE HT2
                  by_cases hm : m ≤ last
                  · rw [if_pos hm] at ht2
                    cases ht2
                    have hgo := HGo2.out
                    rw [if_neg (by decide)] at hgo
                    cases hgo
                    have d5 : decide (m ≤ last) = true := decide_eq_true hm
                    clear HGo2
                    go_wp2_with fail
                    go_ret2
                    exact ⟨_, rfl, list_nil HO9.out.tail.tail.tail.tail.tail.tail⟩
                  · rw [if_neg hm] at ht2
                    cases ht2
                    have hgo := HGo2.out
                    rw [if_pos rfl] at hgo
                    have HGo3 := Aside0.mk hgo
                    have d5 : decide (n ≤ last) = false := decide_eq_false hm
                    clear HGo2 hgo hm
                    generalize hna : accE.length = na at *
                    have hw1 := HW1.out
                    go_upto_region 10 with (at_builtin; refine Own.append kP HO9.out 3 rfl rfl (.tmp 85) (.tmp 87) 30 zP 32 rfl Try.underlying30 infoL rfl (by decide) (by decide) (n, A9, na, c9) [.int .i64 n, .slice A9 na c9] rfl rfl (fun W' _ => kP_mk W' (n, A9, na, c9)) HYL.out ?_; intro v8 w8 hO10; have HO10 := Aside0.mk (hO10.merge 5 0 (by decide) rfl rfl).tail.tail.tail; clear hO10)
                    clear q0 q1 HO9 hna d4 d5 hk hgk hq
                    go_wp2_with fail
                    try rw [hw1]
                    go_roundg (ts.length - (q + 1))
                    case measure => exact measU HLt.out hg
                    case rel => exact ⟨q + 1, acc ++ [(n, accE)], n, ys ++ [(n, A9, na, c9)], _, HLt.out, Nat.le_refl _, rfl, rfl, ⟨by rw [List.length_append, HAcc.out]; rfl⟩, ⟨HO10.out⟩, ⟨fun W' hG => two_snoc (HY.out W' hG.1) ⟨rfl, hG.2.1, by rw [← hG.2.1]; exact hG.2.2.1, hG.2.2.2⟩⟩, HGo3⟩
            · have ht := HT.out
              rw [if_pos he2] at ht
              cases ht
              have hgo := HGo2.out
              rw [if_neg he2] at hgo
              cases hgo
              have b3 : (re != 0) = true := by simp [he2]
              clear he2 HT HGo2
              go_wp2_with fail
              go_ret2
              exact ⟨_, rfl, list_nil HO7.out.tail.tail.tail.tail.tail⟩
        · obtain rfl : q = ts.length := by omega
          have hgo := HGo.out
          rw [List.drop_length] at hgo
          have hgo2 : (acc, (0 : Int)) = (R, re) := hgo
          cases hgo2
          have d3 := decNo ts.length
          have hyl := (HY.out wr (HO4.out.now 2 rfl)).length
          obtain ⟨A9, c9, rfl⟩ := HO4.out.row 0 rfl
          rw [hyl] at HO4 ⊢
          clear hgo hyl
          go_wp2_with fail
          go_ret2
          exact ⟨_, rfl, A9, c9, ys, G, rfl, Own.tail (Own.swap2 HO4.out), HY.out⟩
    · have hr2 := HR2.out
      rw [if_pos he] at hr2
      cases hr2
      have b1 : (re != 0) = true := by simp [he]
      have HE := Aside0.mk he
      clear he HR2
      go_wp2_with fail
      go_ret2
      exact ⟨_, rfl, list_nil HO2.out.tail⟩
end Go.Proofs.Ytchpagboglomoaa.Ownd
