/- Open: replaying one record of a log. Conditions: at most 80000 transactions, 80000 entries each. -/
import Derived.Test.YtchpagboglomoaaURp
namespace Go.Proofs.Ytchpagboglomoaa.Ownd
open Go.RowKit Go.Proofs.Ytchpagboglomoaa.GP.MU Go.Proofs.Ytchpagboglomoaa.GP Go.Proofs.YtchpagboglomoaaW.PrintWords Go.Proofs.YtchpagboglomoaaW.PrintLast Go.Proofs.YtchpagboglomoaaW.PrintMore
set_option linter.unusedVariables false
set_option linter.unusedSimpArgs false
theorem open_drop {w W : World} {g : Nat} {M : Opn} {t : Thing} {rest : List Thing} (h : OpenOwn w W g M (t :: rest)) : OpenOwn w W g M rest := by
  obtain ⟨v, xs, F, hO, hi⟩ := h
  exact ⟨v, xs, F, Own.tail (Own.up3 hO), hi⟩
theorem open_below {w W W1 : World} {g : Nat} {M : Opn} {rest : List Thing} (h : OpenOwn w W g M rest) (hb : Below W.heap.size W W1) : OpenOwn w W1 g M rest := by
  obtain ⟨v, xs, F, hO, hi⟩ := h
  exact ⟨v, xs, F, hO.below hb, hi⟩
theorem open_room {w W : World} {g : Nat} {M : Opn} {rest : List Thing} (h : OpenOwn w W g M rest) : OpenOwn w W g M (.gone :: rest) := by
  obtain ⟨v, xs, F, hO, hi⟩ := h
  exact ⟨v, xs, F, Own.down3 hO.room, hi⟩
theorem end_P {w W : World} {rest : List Thing} {g : Nat} {M : Opn} (h : OpenOwn w W g M rest) (hl : M.length ≤ 100000) (k : Int) :
    Calls Try.prog 11 #[.pointer (some ⟨g, 0, none⟩), .int .i64 k] W fun ex W' => ex = .returned (.bool (isM M k)) ∧ OpenOwn w W' g (delM M k) rest := by
  obtain ⟨v, xs, F, hO, hi⟩ := h
  exact end_O hO hi hl k
theorem pop_P {w W : World} {rest : List Thing} {g : Nat} {M : Opn} (h : OpenOwn w W g M rest) (hl : M.length ≤ 99999) (k : Int) (he : (ent M k).length ≤ 1000000) :
    Calls Try.prog 9 #[.pointer (some ⟨g, 0, none⟩), .int .i64 k] W fun ex W' => ex = .returned (.tuple #[.agg #[.int .i64 (lastE (ent M k)).1, .int .i64 (lastE (ent M k)).2.1, .string (lastE (ent M k)).2.2], .bool (!(ent M k).isEmpty)]) ∧ OpenOwn w W' g (popM M k) rest := by
  obtain ⟨v, xs, F, hO, hi⟩ := h
  exact pop_O hO hi hl k he
theorem add_P {w W : World} {rest : List Thing} {g : Nat} {M : Opn} (h : OpenOwn w W g M rest) (hl : M.length ≤ 99999) (k : Int) (a b : Int) (s : ByteArray) (he : (ent M k).length ≤ 900000) :
    Calls Try.prog 14 #[.pointer (some ⟨g, 0, none⟩), .int .i64 k, .agg #[.int .i64 a, .int .i64 b, .string s]] W fun ex W' => ex = .returned (.tuple #[]) ∧ OpenOwn w W' g (addM M k (a, b, s)) rest := by
  obtain ⟨v, xs, F, hO, hi⟩ := h
  exact add_O hO hi hl k a b s he
/-- A variable at the head of what lies behind an Open. -/
theorem open_cell {w W : World} {g gx : Nat} {M : Opn} {rest : List Thing} {t : TypeId} {cs : Array Value} (h : OpenOwn w W g M (.box gx (.cells cs t (0, 0)) :: rest)) (i : Nat) : W.cell? ⟨gx, i, none⟩ = cs[i]? := by
  obtain ⟨v, xs, F, hO, hi⟩ := h
  exact hO.cell 3 rfl i
set_option maxHeartbeats 8000000 in
set_option maxRecDepth 100000 in
theorem replay_P {w W : World} {rest : List Thing} {g : Nat} {M : Opn} (h : OpenOwn w W g M rest) (hc : capM 80000 M) (r : Rc) (hun : r.2.2.2 ≤ 1000) :
    Calls Try.prog 41 #[.pointer (some ⟨g, 0, none⟩), .agg (rcCells r).toArray] W fun ex W' => ex = .returned (.int .i64 (repR M r).2) ∧ OpenOwn w W' g (repR M r).1 rest := by
  obtain ⟨txn, kind, undo, undone⟩ := r
  have hun1 : undone.toNat ≤ 1000 := by have : undone ≤ 1000 := hun; omega
  clear hun
  have HO : Aside0 (OpenOwn w (W.alloc (.cells #[.int .i64 0, .int .i64 txn, .int .i64 kind, .string undo, .int .i64 undone, .slice none 0 0] 66)) g M (.box W.heap.size (.cells #[.int .i64 0, .int .i64 txn, .int .i64 kind, .string undo, .int .i64 undone, .slice none 0 0] 66 (0, 0)) :: rest)) := ⟨by
    obtain ⟨v, xs, F, hO, hi⟩ := h
    exact ⟨v, xs, F, Own.down3 (hO.room.alloc 0 rfl (.cells #[.int .i64 0, .int .i64 txn, .int .i64 kind, .string undo, .int .i64 undone, .slice none 0 0] 66)), hi⟩⟩
  obtain ⟨⟨R, re⟩, hr⟩ : ∃ q, repR M (txn, kind, undo, undone) = q := ⟨_, rfl⟩
  rw [hr]
  show Calls _ _ _ _ fun ex W' => ex = .returned (.int .i64 re) ∧ OpenOwn w W' g R rest
  have hr2 := hr
  unfold repR at hr2
  have HR := Aside0.mk hr2
  have HC := Aside0.mk hc
  clear h hr hr2 hc
  unfold rcCells
  go_enter Try.func41, Try.ntmps41
  go_upto_region 1 with fail
  generalize W.alloc (.cells #[.int .i64 0, .int .i64 txn, .int .i64 kind, .string undo, .int .i64 undone, .slice none 0 0] 66) = w0 at HO ⊢
  generalize W.heap.size = gx at HO ⊢
  have c2 : w0.cell? ⟨gx, 2, none⟩ = some (.int .i64 kind) := open_cell HO.out 2
  have c1 : w0.cell? ⟨gx, 1, none⟩ = some (.int .i64 txn) := open_cell HO.out 1
  by_cases hk2 : kind = 2 ∨ kind = 3
  · have hr := HR.out
    rw [if_pos hk2] at hr
    cases hr
    clear HR
    rcases hk2 with rfl | rfl
    all_goals (
      go_wp2_with (go_at_call 11; refine (end_P HO.out (Nat.le_trans HC.out.1 (by decide)) txn).mono ?_; rintro e w1 ⟨rfl, hO1⟩; have HO1 := Aside0.mk hO1; clear hO1)
      go_ret
      exact ⟨rfl, open_drop HO1.out⟩)
  · have b2 : (kind == 2) = false := by rw [beq_eq_false_iff_ne]; omega
    have b3 : (kind == 3) = false := by rw [beq_eq_false_iff_ne]; omega
    have hr := HR.out
    rw [if_neg hk2] at hr
    by_cases hk4 : kind = 4
    · rw [if_pos hk4] at hr
      cases hr
      subst hk4
      clear HR hk2
      go_wp2_with fail
      go_ret
      exact ⟨rfl, open_drop HO.out⟩
    · have b4 : (kind == 4) = false := by rw [beq_eq_false_iff_ne]; omega
      rw [if_neg hk4] at hr
      have HR2 := Aside0.mk hr
      have c3 : w0.cell? ⟨gx, 3, none⟩ = some (.string undo) := open_cell HO.out 3
      clear HR hk2 hk4 hr
      go_upto_if 22 with fail
      clear b2 b3 b4
      go_cut [] (fun wx => Aside0 (OpenOwn w wx g (repAdd M (txn, kind, undo, undone)).1 (.box gx (.cells #[.int .i64 0, .int .i64 txn, .int .i64 kind, .string undo, .int .i64 undone, .slice none 0 0] 66 (0, 0)) :: rest)) ∧ Aside0 ((repAdd M (txn, kind, undo, undone)).2 = 0))
      case first =>
        by_cases hu : undo.size = 0
        · have hl : undo.toList = [] := (bytes_nil undo).mpr hu
          have hb : undo.toList.isEmpty = true := by rw [hl]; rfl
          have hbn : (!undo.toList.isEmpty) = false := by rw [hb]; rfl
          rw [hbn]
          have hA : repAdd M (txn, kind, undo, undone) = (M, 0) := by unfold repAdd; rw [if_pos hu]
          have HA := Aside0.mk hA
          clear hA hu hl
          go_wp2_with fail
          go_meet
          case rel => exact ⟨⟨by rw [HA.out]; exact HO.out⟩, ⟨by rw [HA.out]⟩⟩
        · have hb : undo.toList.isEmpty = false := by
            rw [List.isEmpty_eq_false_iff]
            exact fun h => hu ((bytes_nil undo).mp h)
          have hbn : (!undo.toList.isEmpty) = true := by rw [hb]; rfl
          rw [hbn]
          have hA : repAdd M (txn, kind, undo, undone) = if (getE undo).2 ≠ 0 then (M, (getE undo).2) else (addM M txn (getE undo).1, 0) := by unfold repAdd; rw [if_neg hu]
          have HG := Aside0.mk (fun w => getE_calls undo w)
          generalize getE undo = gt at *
          obtain ⟨⟨xa, xb, xc⟩, ec⟩ := gt
          simp only [] at hA HG
          have HA := Aside0.mk hA
          clear hA hu
          go_upto_region 10 with (go_at_call 21; refine (HG.out _).mono ?_; rintro e w1 ⟨rfl, hb1⟩; have HO1 := Aside0.mk (open_below HO.out hb1); clear hb1)
          clear HO HG c1 c2 c3
          have HO2 := Aside0.mk (open_below HO1.out (below_alloc (Below.refl _ _) (.cells #[.int .i64 xa, .int .i64 xb, .string xc] 36)))
          have y0 : (w1.alloc (.cells #[.int .i64 xa, .int .i64 xb, .string xc] 36)).cell? ⟨w1.heap.size, 0, none⟩ = some (.int .i64 xa) := blk_cell (blk_new w1 (.cells #[.int .i64 xa, .int .i64 xb, .string xc] 36)) 0
          have y1 : (w1.alloc (.cells #[.int .i64 xa, .int .i64 xb, .string xc] 36)).cell? ⟨w1.heap.size, 1, none⟩ = some (.int .i64 xb) := blk_cell (blk_new w1 (.cells #[.int .i64 xa, .int .i64 xb, .string xc] 36)) 1
          have y2 : (w1.alloc (.cells #[.int .i64 xa, .int .i64 xb, .string xc] 36)).cell? ⟨w1.heap.size, 2, none⟩ = some (.string xc) := blk_cell (blk_new w1 (.cells #[.int .i64 xa, .int .i64 xb, .string xc] 36)) 2
          clear HO1
          generalize w1.alloc (.cells #[.int .i64 xa, .int .i64 xb, .string xc] 36) = w2 at HO2 y0 y1 y2 ⊢
          generalize w1.heap.size = gb at y0 y1 y2 ⊢
          by_cases hec : ec = 0
          · subst hec
            have hA := HA.out
            rw [if_neg (by simp)] at hA
            have HA2 := Aside0.mk hA
            have c1 : w2.cell? ⟨gx, 1, none⟩ = some (.int .i64 txn) := open_cell HO2.out 1
            clear hA HA
            go_wp2_with (go_at_call 14; refine (add_P HO2.out (Nat.le_trans HC.out.1 (by decide)) txn xa xb xc (Nat.le_trans (ent_cap HC.out txn) (by decide))).mono ?_; rintro e w3 ⟨rfl, hO3⟩; have HO3 := Aside0.mk hO3; clear hO3)
            go_meet
            case rel => exact ⟨⟨by rw [HA2.out]; exact HO3.out⟩, ⟨by rw [HA2.out]⟩⟩
          · have hA := HA.out
            rw [if_pos hec] at hA
            have hr := HR2.out
            rw [hA, if_pos hec] at hr
            cases hr
            have b5 : (re != 0) = true := by simp [hec]
            clear hA hec HA HR2 y0 y1 y2
            go_wp2_with fail
            go_ret
            exact ⟨rfl, open_drop HO2.out⟩
      case rest =>
        obtain ⟨HO1, HE⟩ := hcut
        have hr := HR2.out
        rw [if_neg (by rw [HE.out]; simp)] at hr
        have HR3 := Aside0.mk hr
        have hcap : capM 80001 (repAdd M (txn, kind, undo, undone)).1 := repAdd_cap HC.out _
        simp only [] at hr
        generalize (repAdd M (txn, kind, undo, undone)).1 = M1 at HO1 HR3 hcap
        have HCap := Aside0.mk hcap
        clear HO HR2 hr HE c1 c2 c3 hcap
        replace HR3 : Aside0 (popsM undone.toNat M1 txn = (R, re)) := HR3
        have c4 : wc.cell? ⟨gx, 4, none⟩ = some (.int .i64 undone) := open_cell HO1.out 4
        go_wp2_with fail
        clear c4
        go_loopg [39] undone.toNat (fun gg s39 wr => ∃ (q : Nat) (M2 : Opn), q ≤ undone.toNat ∧ undone.toNat - q ≤ gg ∧ s39 = .int .i64 q ∧ Aside0 (OpenOwn w wr g M2 (.box gx (.cells #[.int .i64 0, .int .i64 txn, .int .i64 kind, .string undo, .int .i64 undone, .slice none 0 0] 66 (0, 0)) :: rest)) ∧ Aside0 (capM 80001 M2) ∧ Aside0 (popsM (undone.toNat - q) M2 txn = (R, re)))
        case atStart => exact ⟨0, M1, Nat.zero_le _, by omega, rfl, HO1, HCap, HR3⟩
        case round =>
          obtain ⟨q, M2, hq, hg, rfl, HO2, HC2, HP⟩ := hrel
          clear HO1 HR3 HCap
          by_cases hlt : q < undone.toNat
          · have d1 : decide ((q : Int) < undone) = true := decide_eq_true (by omega)
            have hp := HP.out
            obtain ⟨d, hd⟩ : ∃ d, undone.toNat - q = d + 1 := ⟨undone.toNat - q - 1, by omega⟩
            have hd2 : undone.toNat - (q + 1) = d := by omega
            rw [hd] at hp
            unfold popsM at hp
            have hw : wrap64 ((q : Int) + 1) = ((q + 1 : Nat) : Int) := wrS (n := q + 1) (Nat.lt_succ_self q) (by omega)
            have HL := Aside0.mk hlt
            have HD2 := Aside0.mk hd2
            have HPo := Aside0.mk (pop_P HO2.out (Nat.le_trans HC2.out.1 (by decide)) txn (Nat.le_trans (ent_cap HC2.out txn) (by decide)))
            have c1 : wr.cell? ⟨gx, 1, none⟩ = some (.int .i64 txn) := open_cell HO2.out 1
            generalize lastE (ent M2 txn) = le at *
            obtain ⟨la, lb, lc⟩ := le
            have HPp := Aside0.mk hp
            clear hp hd hd2 hlt HP
            by_cases hem : (ent M2 txn).isEmpty = true
            · have hp := HPp.out
              rw [if_pos hem] at hp
              have HNo : Aside0 (popM M2 txn = M2) := ⟨by unfold popM; rw [if_pos (List.isEmpty_iff.mp hem)]⟩
              cases hp
              rw [hem] at HPo
              clear HPp hem
              go_upto_region 16 with (go_at_call 9; refine HPo.out.mono ?_; rintro e w3 ⟨rfl, hO3⟩; have HO3 := Aside0.mk hO3; clear hO3)
              have HO4 := Aside0.mk (open_below HO3.out (below_alloc (Below.refl _ _) (.cells #[.int .i64 la, .int .i64 lb, .string lc] 36)))
              clear HO3 HO2 c1
              generalize w3.alloc (.cells #[.int .i64 la, .int .i64 lb, .string lc] 36) = w4 at HO4 ⊢
              go_wp2_with fail
              go_ret
              have hO4 := open_drop HO4.out
              rw [HNo.out] at hO4
              exact ⟨rfl, hO4⟩
            · have hp := HPp.out
              rw [if_neg hem] at hp
              have HP3 := Aside0.mk hp
              have hem2 : (ent M2 txn).isEmpty = false := by simpa using hem
              rw [hem2] at HPo
              clear HPp hem hp hem2
              go_upto_region 16 with (go_at_call 9; refine HPo.out.mono ?_; rintro e w3 ⟨rfl, hO3⟩; have HO3 := Aside0.mk hO3; clear hO3)
              have HO4 := Aside0.mk (open_below HO3.out (below_alloc (Below.refl _ _) (.cells #[.int .i64 la, .int .i64 lb, .string lc] 36)))
              clear HO3 HO2 c1
              generalize w3.alloc (.cells #[.int .i64 la, .int .i64 lb, .string lc] 36) = w4 at HO4 ⊢
              go_wp2_with fail
              try rw [hw]
              go_roundg (undone.toNat - (q + 1))
              case measure => exact measU HL.out hg
              case rel => exact ⟨q + 1, popM M2 txn, HL.out, Nat.le_refl _, rfl, HO4, ⟨pop_cap HC2.out txn⟩, ⟨by rw [HD2.out]; exact HP3.out⟩⟩
          · obtain rfl : q = undone.toNat := by omega
            have d1 : decide ((undone.toNat : Int) < undone) = false := decide_eq_false (by omega)
            have hp := HP.out
            rw [Nat.sub_self] at hp
            have hp2 : (M2, (0 : Int)) = (R, re) := hp
            cases hp2
            clear hp HP hlt
            go_wp2_with fail
            go_ret
            exact ⟨rfl, open_drop HO2.out⟩
end Go.Proofs.Ytchpagboglomoaa.Ownd
