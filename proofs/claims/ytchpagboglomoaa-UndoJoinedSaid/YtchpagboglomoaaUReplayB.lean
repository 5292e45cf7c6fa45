/- Open: replaying a log: Replay. Conditions: at most 10000 records, each undoes at most 1000. -/
import Derived.Test.YtchpagboglomoaaUReplay
namespace Go.Proofs.Ytchpagboglomoaa.Ownd
open Go.RowKit Go.Proofs.Ytchpagboglomoaa.GP.MU Go.Proofs.Ytchpagboglomoaa.GP Go.Proofs.YtchpagboglomoaaW.PrintWords Go.Proofs.YtchpagboglomoaaW.PrintLast Go.Proofs.YtchpagboglomoaaW.PrintMore
set_option linter.unusedVariables false
set_option linter.unusedSimpArgs false
/-- What a call's things say of a row of records, in whatever world they lie. -/
def RecsIn (w : World) (l : List Thing) (A : Option Addr) (rs : List Rc) : Prop := ∀ (W' : World) (t : List Thing), Own w W' (t ++ l) → Kd.C kR W' A rs.length rs
theorem at_R {w : World} {A : Option Addr} {n : Nat} {xs : List Rc} (h : Kd.C kR w A n xs) (i : Nat) (h1 : i < xs.length) (hn : n = xs.length) : ∃ ad : Addr, A = some ad ∧ w.cell? (ad.add (i * 6)) = some (.int .i64 0) ∧ w.cell? ⟨(ad.add (i * 6)).block, (ad.add (i * 6)).off + 1, none⟩ = some (.int .i64 xs[i].1) ∧ w.cell? ⟨(ad.add (i * 6)).block, (ad.add (i * 6)).off + 2, none⟩ = some (.int .i64 xs[i].2.1) ∧
    w.cell? ⟨(ad.add (i * 6)).block, (ad.add (i * 6)).off + 3, none⟩ = some (.string xs[i].2.2.1) ∧ w.cell? ⟨(ad.add (i * 6)).block, (ad.add (i * 6)).off + 4, none⟩ = some (.int .i64 xs[i].2.2.2) ∧ w.cell? ⟨(ad.add (i * 6)).block, (ad.add (i * 6)).off + 5, none⟩ = some (.slice none 0 0) := by
  obtain ⟨ad, c, e, _, hK, hc0⟩ := Kd.C_get h xs[i] (i : Int) (by omega) (by omega)
  rw [Int.toNat_natCast] at hK hc0
  rw [List.getD_eq_getElem?_getD, List.getElem?_eq_getElem h1, Option.getD_some] at hK
  obtain rfl := kR_is hK
  refine ⟨ad, e, hc0 0 _ rfl, ?_, ?_, ?_, ?_, ?_⟩
  · rw [← addr_off _ 1 (by decide)]; exact hc0 1 _ rfl
  · rw [← addr_off _ 2 (by decide)]; exact hc0 2 _ rfl
  · rw [← addr_off _ 3 (by decide)]; exact hc0 3 _ rfl
  · rw [← addr_off _ 4 (by decide)]; exact hc0 4 _ rfl
  · rw [← addr_off _ 5 (by decide)]; exact hc0 5 _ rfl
theorem replay_none (W : World) (c : Nat) : Calls Try.prog 25 #[.slice none 0 c] W fun ex W' => ex = .returned (.tuple #[.pointer none, .int .i64 1]) ∧ W' = W := by
  go_enter Try.func25, Try.ntmps25
  go_wp2
  go_ret2
  exact ⟨rfl, rfl⟩
set_option maxHeartbeats 8000000 in
set_option maxRecDepth 100000 in
theorem Replay_O {w W : World} {l : List Thing} (h : Own w W l) {A : Option Addr} {c : Nat} {rs : List Rc} (hR : RecsIn w l A rs) (hc : rs.length ≤ c) (hne : 0 < rs.length) (hl : rs.length ≤ 10000) (hun : ∀ r ∈ rs, r.2.2.2 ≤ 1000) :
    Calls Try.prog 25 #[.slice A rs.length c] W fun ex W' => ((replayS rs).2 = 0 ∧ ∃ g, ex = .returned (.tuple #[.pointer (some ⟨g, 0, none⟩), .int .i64 0]) ∧ OpenOwn w W' g (replayS rs).1 l) ∨ ((replayS rs).2 ≠ 0 ∧ ex = .returned (.tuple #[.pointer none, .int .i64 (replayS rs).2]) ∧ Own w W' l) := by
  obtain ⟨ad, rfl, x0, x1, x2, x3, x4, x5⟩ := at_R (hR W [] h) 0 hne rfl
  have HO := Aside0.mk h
  have HR := Aside0.mk hR
  have HUn := Aside0.mk hun
  obtain ⟨⟨R, re⟩, hr⟩ : ∃ q, replayS rs = q := ⟨_, rfl⟩
  rw [hr]
  show Calls _ _ _ _ fun ex W' => (re = 0 ∧ ∃ g, ex = .returned (.tuple #[.pointer (some ⟨g, 0, none⟩), .int .i64 0]) ∧ OpenOwn w W' g R l) ∨ (re ≠ 0 ∧ ex = .returned (.tuple #[.pointer none, .int .i64 re]) ∧ Own w W' l)
  obtain ⟨r0, rt, rfl⟩ : ∃ r0 rt, rs = r0 :: rt := by
    cases rs with
    | nil => simp at hne
    | cons r0 rt => exact ⟨r0, rt, rfl⟩
  obtain ⟨txn, kind, undo, undone⟩ := r0
  have hr2 : (if kind ≠ 4 then (([], 1) : Opn × Int) else if (loadS undo).2 ≠ 0 then ([], (loadS undo).2) else repGo rt (loadS undo).1) = (R, re) := hr
  rw [Nat.zero_mul, show ad.add 0 = ad by unfold Addr.add; rfl] at x0 x1 x2 x3 x4 x5
  replace x2 : W.cell? ⟨ad.block, ad.off + 2, none⟩ = some (.int .i64 kind) := x2
  replace x3 : W.cell? ⟨ad.block, ad.off + 3, none⟩ = some (.string undo) := x3
  have HRes := Aside0.mk hr2
  have hlc : ((((txn, kind, undo, undone) : Rc) :: rt).length) = rt.length + 1 := rfl
  rw [hlc] at hc hl ⊢
  have hb0 : (((rt.length : Int) + 1) == 0) = false := by rw [beq_eq_false_iff_ne]; omega
  clear h hR hun hr hr2 hne x0 x1 x4 x5 hlc
  by_cases hk : kind = 4
  · subst hk
    have hr := HRes.out
    rw [if_neg (by decide)] at hr
    have HRes2 := Aside0.mk hr
    have HL := Aside0.mk (Load_O HO.out undo)
    have hcap := load_cap undo
    generalize loadS undo = ls at *
    obtain ⟨M0, e0⟩ := ls
    simp only [] at hr HL hcap HRes2
    have HCap := Aside0.mk hcap
    clear HRes hr hcap
    go_enter Try.func25, Try.ntmps25
    go_upto_region 3 with fail
    by_cases he : e0 = 0
    · subst he
      have hr := HRes2.out
      rw [if_neg (by decide)] at hr
      have HRes3 := Aside0.mk hr
      have HL2 : Aside0 (Calls Try.prog 16 #[.string undo] W fun ex W' => ∃ g, ex = .returned (.tuple #[.pointer (some ⟨g, 0, none⟩), .int .i64 0]) ∧ OpenOwn w W' g M0 l) := ⟨HL.out.mono fun ex W' h => by
        rcases h with ⟨_, h⟩ | ⟨h, _⟩
        · exact h
        · exact absurd rfl h⟩
      clear HRes2 hr HL
      go_upto_block 0 with (go_at_call 16; refine HL2.out.mono ?_; rintro e w1 ⟨g, rfl, hO1⟩; have HO1 := Aside0.mk hO1; clear hO1)
      obtain ⟨A3, hA3⟩ : ∃ A3, (if c = 1 then some ad else some (⟨ad.block, ad.off + 6, none⟩ : Addr)) = A3 := ⟨_, rfl⟩
      have HRt : Aside0 (RecsIn w l A3 rt) := ⟨fun W' t hO => by
        have h1 := Kd.C_drop (m := 1) (HR.out W' t hO) (by simp) (show (((txn, 4, undo, undone) : Rc) :: rt).length ≤ c from hc)
        have h2 : (if c = 1 then some ad else (some ad).map (·.add (1 * kR.sz))) = A3 := by
          rw [← hA3]
          split
          · rfl
          · show some (ad.add 6) = _
            unfold Addr.add
            rw [if_neg (by decide)]
        rw [h2] at h1
        exact h1⟩
      rw [hA3]
      have HUn2 : Aside0 (∀ r ∈ rt, r.2.2.2 ≤ 1000) := ⟨fun r hr => HUn.out r (List.mem_cons_of_mem _ hr)⟩
      have hlr : rt.length ≤ 1000000 := by omega
      have hl9 : rt.length ≤ 10000 := by omega
      clear hA3 HR HUn HL2 x2 x3 hb0 HO hc
      go_wp2_with fail
      go_loopg [33] rt.length (fun gg s33 wr => ∃ (q : Nat) (M2 : Opn), q ≤ rt.length ∧ rt.length - q ≤ gg ∧ s33 = .int .i64 q ∧ Aside0 (OpenOwn w wr g M2 l) ∧ Aside0 (capM (65535 + q) M2) ∧ Aside0 (repGo (rt.drop q) M2 = (R, re)))
      case atStart => exact ⟨0, M0, Nat.zero_le _, by omega, rfl, HO1, HCap, HRes3⟩
      case round =>
        obtain ⟨q, M2, hq, hg, rfl, HO2, HC2, HG⟩ := hrel
        clear HO1 HRes3 HCap
        by_cases hlt : q < rt.length
        · have hC : Kd.C kR wr A3 rt.length rt := by
            obtain ⟨v, xs, F, hO, -⟩ := HO2.out
            exact HRt.out wr [oB g v, oR v xs, .fact F] hO
          obtain ⟨a3, rfl, x0, x1, x2, x3, x4, x5⟩ := at_R hC q hlt rfl
          have hun := HUn2.out _ (List.getElem_mem hlt)
          have hgo := (repGo_at rt M2 q hlt).symm.trans HG.out
          have HL := Aside0.mk hlt
          have d1 := decLt hlt
          have z0 := geZ q
          have z1 := ltZ hlt
          have hw := wrS hlt hlr
          have hcp : capM 80000 M2 := HC2.out.mono (by omega)
          have hrc := repR_cap HC2.out rt[q]
          have HP := Aside0.mk (fun W' (hO : OpenOwn w W' g M2 l) => replay_P hO hcp rt[q] hun)
          generalize rt[q] = r at *
          generalize repR M2 r = rr at *
          obtain ⟨M3, e3⟩ := rr
          obtain ⟨rtx, rk, ru, rn⟩ := r
          simp only [] at x1 x2 x3 x4 hgo hrc HP
          unfold rcCells at HP
          have HGo := Aside0.mk hgo
          have HRc := Aside0.mk hrc
          clear hgo hrc hcp hun hlt hC HG HC2
          go_upto_region 9 with fail
          have HO3 := Aside0.mk (open_below HO2.out (below_alloc (Below.refl _ _) (.cells #[.int .i64 0, .int .i64 rtx, .int .i64 rk, .string ru, .int .i64 rn, .slice none 0 0] 66)))
          have bk := blk_new wr (.cells #[.int .i64 0, .int .i64 rtx, .int .i64 rk, .string ru, .int .i64 rn, .slice none 0 0] 66)
          have y0 : (wr.alloc (.cells #[.int .i64 0, .int .i64 rtx, .int .i64 rk, .string ru, .int .i64 rn, .slice none 0 0] 66)).cell? ⟨wr.heap.size, 0, none⟩ = some (.int .i64 0) := blk_cell bk 0
          have y1 : (wr.alloc (.cells #[.int .i64 0, .int .i64 rtx, .int .i64 rk, .string ru, .int .i64 rn, .slice none 0 0] 66)).cell? ⟨wr.heap.size, 1, none⟩ = some (.int .i64 rtx) := blk_cell bk 1
          have y2 : (wr.alloc (.cells #[.int .i64 0, .int .i64 rtx, .int .i64 rk, .string ru, .int .i64 rn, .slice none 0 0] 66)).cell? ⟨wr.heap.size, 2, none⟩ = some (.int .i64 rk) := blk_cell bk 2
          have y3 : (wr.alloc (.cells #[.int .i64 0, .int .i64 rtx, .int .i64 rk, .string ru, .int .i64 rn, .slice none 0 0] 66)).cell? ⟨wr.heap.size, 3, none⟩ = some (.string ru) := blk_cell bk 3
          have y4 : (wr.alloc (.cells #[.int .i64 0, .int .i64 rtx, .int .i64 rk, .string ru, .int .i64 rn, .slice none 0 0] 66)).cell? ⟨wr.heap.size, 4, none⟩ = some (.int .i64 rn) := blk_cell bk 4
          have y5 : (wr.alloc (.cells #[.int .i64 0, .int .i64 rtx, .int .i64 rk, .string ru, .int .i64 rn, .slice none 0 0] 66)).cell? ⟨wr.heap.size, 5, none⟩ = some (.slice none 0 0) := blk_cell bk 5
          clear bk HO2 x0 x1 x2 x3 x4 x5
          generalize wr.alloc (.cells #[.int .i64 0, .int .i64 rtx, .int .i64 rk, .string ru, .int .i64 rn, .slice none 0 0] 66) = w3 at HO3 y0 y1 y2 y3 y4 y5 ⊢
          generalize wr.heap.size = gb at y0 y1 y2 y3 y4 y5 ⊢
          by_cases he : e3 = 0
          · subst he
            have hgo := HGo.out
            rw [if_pos rfl] at hgo
            have HGo2 := Aside0.mk hgo
            clear hgo HGo
            go_wp2_with (go_at_call 41; refine (HP.out _ HO3.out).mono ?_; rintro e w4 ⟨rfl, hO4⟩; have HO4 := Aside0.mk hO4; clear hO4)
            try rw [hw]
            go_roundg (rt.length - (q + 1))
            case measure => exact measU HL.out hg
            case rel => exact ⟨q + 1, M3, HL.out, Nat.le_refl _, rfl, HO4, HRc, HGo2⟩
          · have hgo := HGo.out
            rw [if_neg he] at hgo
            cases hgo
            have b1 : (re != 0) = true := by simp [he]
            have HE := Aside0.mk he
            clear he HGo
            go_wp2_with (go_at_call 41; refine (HP.out _ HO3.out).mono ?_; rintro e w4 ⟨rfl, hO4⟩; have HO4 := Aside0.mk hO4; clear hO4)
            go_ret2
            obtain ⟨v, xs, F, hO5, -⟩ := HO4.out
            exact .inr ⟨HE.out, rfl, hO5.tail.tail.tail⟩
        · obtain rfl : q = rt.length := by omega
          have hgo := HG.out
          rw [List.drop_length] at hgo
          have hgo2 : (M2, (0 : Int)) = (R, re) := hgo
          cases hgo2
          have d1 := decNo rt.length
          clear hgo HG
          go_wp2_with fail
          go_ret2
          first
          | exact ⟨g, rfl, HO2.out⟩
          | exact .inl ⟨rfl, g, rfl, HO2.out⟩
    · have hr := HRes2.out
      rw [if_pos he] at hr
      cases hr
      have b1 : (re != 0) = true := by simp [he]
      have HE := Aside0.mk he
      have HL2 : Aside0 (Calls Try.prog 16 #[.string undo] W fun ex W' => ex = .returned (.tuple #[.pointer none, .int .i64 re]) ∧ Own w W' l) := ⟨HL.out.mono fun ex W' h => by
        rcases h with ⟨h, _⟩ | ⟨_, h⟩
        · exact absurd h HE.out
        · exact h⟩
      clear HRes2 HL he
      go_wp2_with (go_at_call 16; refine HL2.out.mono ?_; rintro e w1 ⟨rfl, hO1⟩; have HO1 := Aside0.mk hO1; clear hO1)
      go_ret2
      exact .inr ⟨HE.out, rfl, HO1.out⟩
  · have hr := HRes.out
    rw [if_pos hk] at hr
    cases hr
    have b4 : (kind != 4) = true := by simp [hk]
    clear HRes hk
    go_enter Try.func25, Try.ntmps25
    go_wp2
    go_ret2
    first
    | exact .inr ⟨by decide, rfl, HO.out⟩
    | exact ⟨rfl, HO.out⟩
end Go.Proofs.Ytchpagboglomoaa.Ownd
