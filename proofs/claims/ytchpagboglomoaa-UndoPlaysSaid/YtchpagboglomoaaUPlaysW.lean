/- law22.UndoPlays: its walk. No condition. -/
import Derived.Test.YtchpagboglomoaaUPlays
namespace Go.Proofs.Ytchpagboglomoaa.Ownd
open Go.RowKit Go.Proofs.Ytchpagboglomoaa.GP.MU Go.Proofs.Ytchpagboglomoaa.GP Go.Proofs.YtchpagboglomoaaW.PrintWords Go.Proofs.YtchpagboglomoaaW.PrintLast Go.Proofs.YtchpagboglomoaaW.PrintMore
set_option linter.unusedVariables false
set_option linter.unusedSimpArgs false
theorem end_O2 {w W : World} {v : Value} {M : Opn} {rest : List Thing} (h : ListOwn w W v M rest) (hl : M.length ≤ 1000000) (k : Int) : Calls Try.prog 12 #[v, .int .i64 k] W fun ex W' => ex = .returned (.int .i64 (findM M k)) ∧ W' = W := by
  obtain ⟨A, c, xs, G, rfl, hO, hH⟩ := h
  obtain ⟨A', c', e, -, hC⟩ := hO.reads 0 rfl
  have hx := hH W (hO.now 1 rfl)
  obtain rfl := (Value.slice.inj e).1
  rw [hx.length] at hC
  exact find_C hC hx.keys hl k
theorem kcase (K : Int) : K = 4 ∨ K = 5 ∨ K = 6 ∨ ((K == 4) = false ∧ (K == 5) = false ∧ (K == 6) = false) := by
  by_cases h4 : K = 4
  · exact .inl h4
  · by_cases h5 : K = 5
    · exact .inr (.inl h5)
    · by_cases h6 : K = 6
      · exact .inr (.inr (.inl h6))
      · exact .inr (.inr (.inr ⟨by simp [h4], by simp [h5], by simp [h6]⟩))
set_option maxHeartbeats 8000000 in
set_option maxRecDepth 100000 in
theorem plays_calls (A : Option Addr) (c : Nat) (l : List UAct) (W : World) (hC : Kd.C kUA W A l.length l) (hc : l.length ≤ c) : Calls Try.prog 3 #[.slice A l.length c] W fun ex W' => ex = .returned (.bool true) ∧ Below W.heap.size W W' := by
  have HC := Aside0.mk hC
  have HO0 := Aside0.mk (((Own.start W 2).nil 0 kP 80).fact_new 1 rfl)
  clear hC
  go_enter Try.func3, Try.ntmps3
  go_upto_region 3 with (go_at_call 7; refine (speaks_calls _).mono ?_; rintro e w1 ⟨rfl, hb⟩; have HO1 := Aside0.mk (open_new (HO0.out.below hb)); clear hb)
  go_upto_region 4 with fail
  clear HO0
  generalize w1.alloc (.cells #[.slice none 0 0] 29) = w2 at HO1 ⊢
  generalize w1.heap.size = g at HO1 ⊢
  have HP : Aside0 (PState W w2 g [] (.slice none 0 0)) := ⟨by
    obtain ⟨v, xs, F, hO, hi⟩ := HO1.out
    exact ⟨v, xs, F, [], _, none, 0, rfl, hO, hi, fun _ _ => .nil⟩⟩
  clear HO1
  go_wp2_with fail
  go_loopg [4, 5] (min 40 l.length) (fun gg s4 s5 wr => ∃ (k : Nat) (M : Opn), k ≤ min 40 l.length ∧ min 40 l.length - k ≤ gg ∧ s5 = .int .i64 k ∧ Aside0 (PState W wr g M s4) ∧ Aside0 (GoodM k M))
  case atStart => exact ⟨0, [], Nat.zero_le _, by omega, rfl, HP, ⟨good_nil 0⟩⟩
  case round =>
    obtain ⟨k, M, hk, hg, rfl, HP2, HG⟩ := hrel
    clear HP
    have hrM := HP2.out.rise
    have HR := Aside0.mk hrM
    obtain ⟨v, xs, F, ys, G, A', c', rfl, hO, hi, hH⟩ := HP2.out
    have HO := Aside0.mk hO
    have HI := Aside0.mk hi
    have HH := Aside0.mk hH
    clear HP2 hO hi hH hrM
    by_cases hlt : k < min 40 l.length
    · have hkl : k < l.length := Nat.lt_of_lt_of_le hlt (Nat.min_le_right _ _)
      have hk40 : k < 40 := Nat.lt_of_lt_of_le hlt (Nat.min_le_left _ _)
      have d1 := decLt hkl
      have d2 : decide ((k : Int) < 40) = true := decide_eq_true (by omega)
      have z0 := geZ k
      have z1 := ltZ hkl
      have hw := wrS (n := 40) hk40 (by decide)
      obtain ⟨ad, rfl, a0, a1, a2, a3, a4⟩ := at_UA HC.out k hkl rfl
      have HLt := Aside0.mk hlt
      have HK40 := Aside0.mk hk40
      generalize l[k] = x at *
      obtain ⟨what, tn, xa, xb, xc⟩ := x
      simp only [] at a0 a1 a2 a3 a4
      have HA : Aside0 (∀ W' : World, Below W.heap.size W W' → W'.cell? (ad.add (k * 5)) = some (.int .i64 what)) := ⟨fun W' hb => (hb.cell (World.block_lt_of_cell? W _ a0)).trans a0⟩
      have hB : Below W.heap.size W wr := HO.out.1
      replace a1 := (hB.cell (World.block_lt_of_cell? W _ a1)).trans a1
      replace a2 := (hB.cell (World.block_lt_of_cell? W _ a2)).trans a2
      replace a3 := (hB.cell (World.block_lt_of_cell? W _ a3)).trans a3
      replace a4 := (hB.cell (World.block_lt_of_cell? W _ a4)).trans a4
      have hand := and7u tn
      have hw8 : wrap64 (1 + tn % 8) = 1 + tn % 8 := by unfold wrap64; omega
      have htx : 0 < 1 + tn % 8 ∧ 1 + tn % 8 < 281474976710656 := by omega
      have HW1 := Aside0.mk hw
      clear a0 hB hlt hk40 hw
      go_upto_region 9 with fail
      clear hand hw8 a1
      generalize 1 + tn % 8 = tx at *
      have HTx := Aside0.mk htx
      have HEn := Aside0.mk (fun w => entry_calls (xa, xb, xc) w)
      have hok := entX_ok (xa, xb, xc)
      generalize entX (xa, xb, xc) = ex at *
      obtain ⟨ea, eb, ec⟩ := ex
      simp only [] at HEn
      have HOk := Aside0.mk hok
      clear htx hok
      go_upto_region 10 with (go_at_call 8; refine (HEn.out _).mono ?_; rintro e w3 ⟨rfl, hb⟩; have HB3 := Aside0.mk hb; clear hb)
      have HO4 := Aside0.mk ((HO.out.below HB3.out).room.alloc 0 rfl (.cells #[.int .i64 ea, .int .i64 eb, .string ec] 32))
      clear HO HB3 HEn a2 a3 a4
      generalize w3.alloc (.cells #[.int .i64 ea, .int .i64 eb, .string ec] 32) = w4 at HO4 ⊢
      generalize w3.heap.size = gb at HO4 ⊢
      have hO4 : Own W w4 [.box gb (.cells #[.int .i64 ea, .int .i64 eb, .string ec] 32 (0, 0)), oB g v, oR v xs, .fact F, rL (.slice A' M.length c') ys, .fact G] := HO4.out
      have a0 := HA.out w4 hO4.1
      have HOp : Aside0 (OpenOwn W w4 g M [.box gb (.cells #[.int .i64 ea, .int .i64 eb, .string ec] 32 (0, 0)), rL (.slice A' M.length c') ys, .fact G]) := ⟨v, xs, F, hO4.pick [1, 2, 3, 0, 4, 5] (by decide), HI.out⟩
      have HCap : Aside0 (capM 40 M) := ⟨HG.out.1.mono (by have := HK40.out; omega)⟩
      clear hO4 HO4
      go_upto_block 2 with fail
      obtain ⟨K, hK⟩ : ∃ K, Int.tmod (wrap64 (Int.tmod what 7 + 7)) 7 = K := ⟨_, rfl⟩
      rw [hK]
      clear hK a0 HA
      go_cut [4] (fun s4 wx => ∃ M' : Opn, Aside0 (PState W wx g M' s4) ∧ Aside0 (GoodM (k + 1) M'))
      case first =>
        rcases kcase K with rfl | rfl | rfl | ⟨k4, k5, k6⟩
        · have HPo := Aside0.mk (pop_P HOp.out (Nat.le_trans HCap.out.1 (by decide)) tx (Nat.le_trans (ent_cap HCap.out tx) (by decide)))
          have HRp := Aside0.mk (fun (W' : World) (v' : Value) (rest : List Thing) (h : ListOwn W W' v' M rest) => rpop_O h HR.out (Nat.le_trans HCap.out.1 (by decide)) tx (Nat.le_trans (ent_cap HCap.out tx) (by decide)))
          generalize lastE (ent M tx) = le at *
          generalize (ent M tx).isEmpty = bm at *
          obtain ⟨la, lb, lc⟩ := le
          clear HOp
          go_upto_region 16 with (go_at_call 9; refine HPo.out.mono ?_; rintro e w5 ⟨rfl, hO5⟩; have HO5 := Aside0.mk hO5; clear hO5)
          obtain ⟨v5, xs5, F5, hO5, hi5⟩ := HO5.out
          have HI5 := Aside0.mk hi5
          have HO6 := Aside0.mk (hO5.room.alloc 0 rfl (.cells #[.int .i64 la, .int .i64 lb, .string lc] 36))
          clear HO5 hO5 hi5 HPo
          generalize w5.alloc (.cells #[.int .i64 la, .int .i64 lb, .string lc] 36) = w6 at HO6 ⊢
          generalize w5.heap.size = g8 at HO6 ⊢
          have HL : Aside0 (ListOwn W w6 (.slice A' M.length c') M [oB g v5, oR v5 xs5, .fact F5, .box g8 (.cells #[.int .i64 la, .int .i64 lb, .string lc] 36 (0, 0))]) := ⟨A', c', ys, G, rfl, HO6.out.pick [5, 6, 1, 2, 3, 0] (by decide), HH.out⟩
          clear HO6
          go_upto_region 17 with (go_at_call 10; refine (HRp.out _ _ _ HL.out).mono ?_; rintro e w7 ⟨v7, rfl, hO7⟩; have HO7 := Aside0.mk hO7; clear hO7)
          obtain ⟨A7, c7, ys7, G7, rfl, hO7, hH7⟩ := HO7.out
          have HH7 := Aside0.mk hH7
          have HO8 := Aside0.mk (hO7.room.alloc 0 rfl (.cells #[.int .i64 la, .int .i64 lb, .string lc] 39))
          clear HO7 hO7 hH7 HRp HL
          generalize w7.alloc (.cells #[.int .i64 la, .int .i64 lb, .string lc] 39) = w8 at HO8 ⊢
          generalize w7.heap.size = g11 at HO8 ⊢
          have x0 : w8.cell? ⟨g8, 0, none⟩ = some (.int .i64 la) := HO8.out.cell 6 rfl 0
          have x1 : w8.cell? ⟨g8, 1, none⟩ = some (.int .i64 lb) := HO8.out.cell 6 rfl 1
          have x2 : w8.cell? ⟨g8, 2, none⟩ = some (.string lc) := HO8.out.cell 6 rfl 2
          have y0 : w8.cell? ⟨g11, 0, none⟩ = some (.int .i64 la) := HO8.out.cell 0 rfl 0
          have y1 : w8.cell? ⟨g11, 1, none⟩ = some (.int .i64 lb) := HO8.out.cell 0 rfl 1
          have y2 : w8.cell? ⟨g11, 2, none⟩ = some (.string lc) := HO8.out.cell 0 rfl 2
          have hq2 : ∀ (w : World), (binOp .neq 39 (.agg #[.int .i64 la, .int .i64 lb, .string lc]) (.agg #[.int .i64 la, .int .i64 lb, .string lc])).run Try.prog w = .ok (.bool false) w := fun w => neqRE w la lb lc
          have hbb : ((!bm) != (!bm)) = false := by cases bm <;> rfl
          go_wp2_with fail
          go_meet
          case rel => exact ⟨popM M tx, ⟨v5, xs5, F5, ys7, G7, A7, c7, rfl, HO8.out.pick [3, 4, 5, 1, 2] (by decide), HI5.out, HH7.out⟩, ⟨(good_pop HG.out tx).mono (Nat.le_succ k)⟩⟩
        · have HPo := Aside0.mk (pop_P HOp.out (Nat.le_trans HCap.out.1 (by decide)) tx (Nat.le_trans (ent_cap HCap.out tx) (by decide)))
          have HRp := Aside0.mk (fun (W' : World) (v' : Value) (rest : List Thing) (h : ListOwn W W' v' M rest) => rpop_O h HR.out (Nat.le_trans HCap.out.1 (by decide)) tx (Nat.le_trans (ent_cap HCap.out tx) (by decide)))
          generalize lastE (ent M tx) = le at *
          generalize (ent M tx).isEmpty = bm at *
          obtain ⟨la, lb, lc⟩ := le
          clear HOp
          go_upto_region 16 with (go_at_call 9; refine HPo.out.mono ?_; rintro e w5 ⟨rfl, hO5⟩; have HO5 := Aside0.mk hO5; clear hO5)
          obtain ⟨v5, xs5, F5, hO5, hi5⟩ := HO5.out
          have HI5 := Aside0.mk hi5
          have HO6 := Aside0.mk (hO5.room.alloc 0 rfl (.cells #[.int .i64 la, .int .i64 lb, .string lc] 36))
          clear HO5 hO5 hi5 HPo
          generalize w5.alloc (.cells #[.int .i64 la, .int .i64 lb, .string lc] 36) = w6 at HO6 ⊢
          generalize w5.heap.size = g8 at HO6 ⊢
          have HL : Aside0 (ListOwn W w6 (.slice A' M.length c') M [oB g v5, oR v5 xs5, .fact F5, .box g8 (.cells #[.int .i64 la, .int .i64 lb, .string lc] 36 (0, 0))]) := ⟨A', c', ys, G, rfl, HO6.out.pick [5, 6, 1, 2, 3, 0] (by decide), HH.out⟩
          clear HO6
          go_upto_region 17 with (go_at_call 10; refine (HRp.out _ _ _ HL.out).mono ?_; rintro e w7 ⟨v7, rfl, hO7⟩; have HO7 := Aside0.mk hO7; clear hO7)
          obtain ⟨A7, c7, ys7, G7, rfl, hO7, hH7⟩ := HO7.out
          have HH7 := Aside0.mk hH7
          have HO8 := Aside0.mk (hO7.room.alloc 0 rfl (.cells #[.int .i64 la, .int .i64 lb, .string lc] 39))
          clear HO7 hO7 hH7 HRp HL
          generalize w7.alloc (.cells #[.int .i64 la, .int .i64 lb, .string lc] 39) = w8 at HO8 ⊢
          generalize w7.heap.size = g11 at HO8 ⊢
          have x0 : w8.cell? ⟨g8, 0, none⟩ = some (.int .i64 la) := HO8.out.cell 6 rfl 0
          have x1 : w8.cell? ⟨g8, 1, none⟩ = some (.int .i64 lb) := HO8.out.cell 6 rfl 1
          have x2 : w8.cell? ⟨g8, 2, none⟩ = some (.string lc) := HO8.out.cell 6 rfl 2
          have y0 : w8.cell? ⟨g11, 0, none⟩ = some (.int .i64 la) := HO8.out.cell 0 rfl 0
          have y1 : w8.cell? ⟨g11, 1, none⟩ = some (.int .i64 lb) := HO8.out.cell 0 rfl 1
          have y2 : w8.cell? ⟨g11, 2, none⟩ = some (.string lc) := HO8.out.cell 0 rfl 2
          have hq2 : ∀ (w : World), (binOp .neq 39 (.agg #[.int .i64 la, .int .i64 lb, .string lc]) (.agg #[.int .i64 la, .int .i64 lb, .string lc])).run Try.prog w = .ok (.bool false) w := fun w => neqRE w la lb lc
          have hbb : ((!bm) != (!bm)) = false := by cases bm <;> rfl
          go_wp2_with fail
          go_meet
          case rel => exact ⟨popM M tx, ⟨v5, xs5, F5, ys7, G7, A7, c7, rfl, HO8.out.pick [3, 4, 5, 1, 2] (by decide), HI5.out, HH7.out⟩, ⟨(good_pop HG.out tx).mono (Nat.le_succ k)⟩⟩
        · have HEd := Aside0.mk (end_P HOp.out (Nat.le_trans HCap.out.1 (by decide)) tx)
          have hfm := (findM_isM HR.out tx).symm
          have HFi := Aside0.mk (fun (W' : World) (v' : Value) (rest : List Thing) (h : ListOwn W W' v' M rest) => end_O2 h (Nat.le_trans HCap.out.1 (by decide)) tx)
          have HRe := Aside0.mk (fun (W' : World) (v' : Value) (rest : List Thing) (h : ListOwn W W' v' M rest) => rend_O h (Nat.le_trans HCap.out.1 (by decide)) tx)
          have hdd := drop_del HR.out tx
          rw [hdd] at HRe
          generalize isM M tx = bm at *
          generalize findM M tx = fz at *
          have hbb : (bm != bm) = false := by cases bm <;> rfl
          clear HOp hdd
          go_upto_region 23 with (first
            | (go_at_call 11; refine HEd.out.mono ?_; rintro e w5 ⟨rfl, hO5⟩; obtain ⟨v5, xs5, F5, hO5, hi5⟩ := hO5; have HI5 := Aside0.mk hi5; have HL : Aside0 (ListOwn W w5 (.slice A' M.length c') M [oB g v5, oR v5 xs5, .fact F5]) := ⟨A', c', ys, G, rfl, hO5.pick [4, 5, 0, 1, 2] (by decide), HH.out⟩; clear hO5 hi5)
            | (go_at_call 12; refine (HFi.out _ _ _ HL.out).mono ?_; rintro e w6 ⟨rfl, hw6⟩; rw [hw6]; clear hw6))
          go_wp2_with (go_at_call 13; refine (HRe.out _ _ _ HL.out).mono ?_; rintro e w7 ⟨v7, rfl, hO7⟩; have HO7 := Aside0.mk hO7; clear hO7)
          go_meet
          case rel =>
            obtain ⟨A7, c7, ys7, G7, rfl, hO7, hH7⟩ := HO7.out
            exact ⟨delM M tx, ⟨v5, xs5, F5, ys7, G7, A7, c7, rfl, hO7.pick [2, 3, 4, 0, 1] (by decide), HI5.out, hH7⟩, ⟨(good_del HG.out tx).mono (Nat.le_succ k)⟩⟩
        · have b0 : w4.cell? ⟨gb, 0, none⟩ = some (.int .i64 ea) := open_cell HOp.out 0
          have b1 : w4.cell? ⟨gb, 1, none⟩ = some (.int .i64 eb) := open_cell HOp.out 1
          have b2 : w4.cell? ⟨gb, 2, none⟩ = some (.string ec) := open_cell HOp.out 2
          have HAd := Aside0.mk (add_P HOp.out (Nat.le_trans HCap.out.1 (by decide)) tx ea eb ec (Nat.le_trans (ent_cap HCap.out tx) (by decide)))
          have HRa := Aside0.mk (fun (W' : World) (v' : Value) (rest : List Thing) (h : ListOwn W W' v' M rest) => radd_O h HR.out (Nat.le_trans HCap.out.1 (by decide)) tx ea eb ec (fun m hm => Nat.le_trans (HCap.out.2 m hm) (by decide)))
          clear HOp
          go_upto_region 12 with (go_at_call 14; refine HAd.out.mono ?_; rintro e w5 ⟨rfl, hO5⟩; have HO5 := Aside0.mk hO5; clear hO5)
          clear b0 b1 b2 HAd
          have b0 : w5.cell? ⟨gb, 0, none⟩ = some (.int .i64 ea) := open_cell HO5.out 0
          have b1 : w5.cell? ⟨gb, 1, none⟩ = some (.int .i64 eb) := open_cell HO5.out 1
          have b2 : w5.cell? ⟨gb, 2, none⟩ = some (.string ec) := open_cell HO5.out 2
          obtain ⟨v5, xs5, F5, hO5, hi5⟩ := HO5.out
          have HI5 := Aside0.mk hi5
          have HL : Aside0 (ListOwn W w5 (.slice A' M.length c') M [oB g v5, oR v5 xs5, .fact F5]) := ⟨A', c', ys, G, rfl, hO5.pick [4, 5, 0, 1, 2] (by decide), HH.out⟩
          clear HO5 hO5 hi5
          go_wp2_with (go_at_call 15; refine (HRa.out _ _ _ HL.out).mono ?_; rintro e w7 ⟨v7, rfl, hO7⟩; have HO7 := Aside0.mk hO7; clear hO7)
          go_meet
          case rel =>
            obtain ⟨A7, c7, ys7, G7, rfl, hO7, hH7⟩ := HO7.out
            exact ⟨addM M tx (ea, eb, ec), ⟨v5, xs5, F5, ys7, G7, A7, c7, rfl, hO7.pick [2, 3, 4, 0, 1] (by decide), HI5.out, hH7⟩, ⟨good_add HG.out HTx.out HOk.out⟩⟩
      case rest =>
        obtain ⟨M', HP4, HG4⟩ := hcut
        clear HOp HCap HG HR HI HH
        have hrM := HP4.out.rise
        obtain ⟨v, xs, F, ys, G, A', c', rfl, hO, hi, hH⟩ := HP4.out
        have hfit := HG4.out.fit (by have := HK40.out; omega)
        have hok := fit_ok hfit
        have HSt := Aside0.mk (state_I hO (i := 0) (j := 1) (f := 2) ⟨rfl, rfl, by decide⟩ rfl hi hok)
        have HLd := Aside0.mk (fun (W' : World) (l : List Thing) (h : Own W W' l) => Load_O h (stateM M'))
        rw [load_state hrM hfit] at HLd
        have HI := Aside0.mk hi
        have HH := Aside0.mk hH
        have HOk2 := Aside0.mk hok
        clear hO hi hH hok hfit hrM HP4
        generalize stateM M' = st at *
        go_upto_region 25 with (first
          | (go_at_call 17; refine HSt.out.mono ?_; rintro e w5 ⟨rfl, hO5⟩; have HO5 := Aside0.mk hO5; clear hO5)
          | (go_at_call 16; refine (HLd.out _ _ HO5.out).mono ?_; rintro e w6 hh; obtain ⟨gp, rfl, hO6⟩ := (hh.resolve_right (fun h => h.1 rfl)).2; have HO6 := Aside0.mk hO6; clear hO6 hh))
        obtain ⟨vp, xp, Fp, hO6, hip⟩ := HO6.out
        have HS1 := Aside0.mk (same_I hO6 (i := 3) (j := 4) (f := 5) ⟨rfl, rfl, by decide⟩ rfl HI.out (j2 := 6) (f2 := 7) rfl rfl HH.out HOk2.out)
        have HS2 : Aside0 (∀ W' : World, Own W W' [oB gp vp, oR vp xp, .fact Fp, oB g v, oR v xs, .fact F, rL (.slice A' M'.length c') ys, .fact G] → Calls Try.prog 18 #[.pointer (some ⟨gp, 0, none⟩), .slice A' M'.length c'] W' fun ex W'' => ex = .returned (.bool true) ∧ Own W W'' [oB gp vp, oR vp xp, .fact Fp, oB g v, oR v xs, .fact F, rL (.slice A' M'.length c') ys, .fact G]) :=
          ⟨fun W' hO' => same_I hO' (i := 0) (j := 1) (f := 2) ⟨rfl, rfl, by decide⟩ rfl hip (j2 := 6) (f2 := 7) rfl rfl HH.out HOk2.out⟩
        clear HO6 HSt HLd hO6 hip
        go_wp2_with fail
        refine HS1.out.mono ?_
        rintro e w7 ⟨rfl, hO7⟩
        have HO7 := Aside0.mk hO7
        clear hO7 HS1
        go_wp2_with fail
        refine (HS2.out _ HO7.out).mono ?_
        rintro e w8 ⟨rfl, hO8⟩
        have HO8 := Aside0.mk hO8
        clear hO8 HS2 HO7
        have hw := HW1.out
        go_wp2_with fail
        try rw [hw]
        go_roundg (min 40 l.length - (k + 1))
        case measure => exact measS HLt.out hg
        case rel => exact ⟨k + 1, M', HLt.out, Nat.le_refl _, rfl, ⟨v, xs, F, ys, G, A', c', rfl, HO8.out.pick [3, 4, 5, 6, 7] (by decide), HI.out, HH.out⟩, HG4⟩
    · obtain rfl : k = min 40 l.length := Nat.le_antisymm hk (Nat.not_lt.mp hlt)
      by_cases h1 : min 40 l.length < l.length
      · have d1 := decLt h1
        have d2 : decide (((min 40 l.length : Nat) : Int) < 40) = false := decide_eq_false (by omega)
        generalize min 40 l.length = k at *
        go_wp2_with fail
        go_ret
        exact ⟨rfl, HO.out.1⟩
      · have d1 : decide (((min 40 l.length : Nat) : Int) < (l.length : Int)) = false := decide_eq_false (by omega)
        generalize min 40 l.length = k at *
        go_wp2_with fail
        go_ret
        exact ⟨rfl, HO.out.1⟩
end Go.Proofs.Ytchpagboglomoaa.Ownd
