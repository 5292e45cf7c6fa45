/- law22.same: an Open and the document's lists with the same in them are told to be the same. Conditions: as the state's text asks. -/
import Derived.Test.YtchpagboglomoaaURefD
import Derived.Test.YtchpagboglomoaaWEqStruct
namespace Go.Proofs.Ytchpagboglomoaa.Ownd
open Go.RowKit Go.Proofs.Ytchpagboglomoaa.GP.MU Go.Proofs.Ytchpagboglomoaa.GP Go.Proofs.YtchpagboglomoaaW.PrintWords Go.Proofs.YtchpagboglomoaaW.PrintLast Go.Proofs.YtchpagboglomoaaW.PrintMore
set_option linter.unusedVariables false
set_option linter.unusedSimpArgs false
theorem eqRE (d : Nat) (w : World) (x0 y0 x1 y1 : Int) (x2 y2 : ByteArray) :
    (Op.equalIn (d + 2) 39 (.agg #[.int .i64 x0, .int .i64 x1, .string x2]) (.agg #[.int .i64 y0, .int .i64 y1, .string y2])).run Try.prog w = .ok (x0 == y0 && (x1 == y1 && (x2.toList == y2.toList))) w := by
  refine eqA_of Try.underlying39 (by kernel_rfl) ?_
  refine eqf_cons (by rfl) (by go_simp; rfl) (by go_simp; rfl) (by go_simp) ?_
  refine eqf_cons (by rfl) (by go_simp; rfl) (by go_simp; rfl) (by go_simp) ?_
  exact eqf_last (by rfl) (by go_simp; rfl) (by go_simp; rfl) (by go_simp)
theorem neqRE (w : World) (a b : Int) (s : ByteArray) : (binOp .neq 39 (.agg #[.int .i64 a, .int .i64 b, .string s]) (.agg #[.int .i64 a, .int .i64 b, .string s])).run Try.prog w = .ok (.bool false) w := by
  have h := eqRE 9998 w a a b b s s
  simp only [binOp]
  simp [Op.equal, Op.maxDepth, h]
set_option maxHeartbeats 8000000 in
set_option maxRecDepth 100000 in
theorem same_I {w W : World} {l : List Thing} (h : Own w W l) {i j f g : Nat} {v : Value} {xs : List P2} {F : World → Prop} {M : Opn} (hm : IsMap l i j g v xs) (hf : l[f]? = some (.fact F)) (hi : IsOpen xs F M)
    {j2 f2 c : Nat} {A : Option Addr} {ys : List P2} {G : World → Prop} (hj2 : l[j2]? = some (rL (.slice A M.length c) ys)) (hf2 : l[f2]? = some (.fact G)) (hH : ∀ W' : World, G W' → Heads W' ys M) (hok : okM M) :
    Calls Try.prog 18 #[.pointer (some ⟨g, 0, none⟩), .slice A M.length c] W fun ex W' => ex = .returned (.bool true) ∧ Own w W' l := by
  have hrM : RiseM M := (hi.heads W (h.now f hf)).rise hi.rise
  have hyl : ys.length = M.length := (hH W (h.now f2 hf2)).length
  have hML : M.length ≤ 1000000 := Nat.le_trans hok.1 (by decide)
  have HT := Aside0.mk (txns_I h hm hf hi (Nat.le_trans hok.1 (by decide)))
  have HE := Aside0.mk (fun (W' : World) (v3 : Value) (ks : List Int) (h : Own w W' (.row (Kd.int .i64) 3 v3 ks :: l)) (k : Nat) (hk : k < M.length) =>
    entries_I (i := i + 1) (j := j + 1) (f := f + 1) h ⟨hm.box, hm.row, fun e => hm.ne (by omega)⟩ hf hi (Nat.le_trans hok.1 (by decide)) M[k].1 (by have := ent_small hok M[k].1; omega))
  have HS := Aside0.mk (fun (W' : World) (h : Own w W' l) => state_I h hm hf hi hok)
  have HRS := Aside0.mk (fun (W' : World) (h : Own w W' l) => rstate_I h hj2 hf2 hH hok)
  have HK := Aside0.mk hok
  have HR := Aside0.mk hrM
  have HJ2 := Aside0.mk hj2
  have HF2 := Aside0.mk hf2
  have HH := Aside0.mk hH
  have HX := Aside0.mk hyl
  have hq1 : ∀ (w : World) (a b : Int) (s : ByteArray), (binOp .neq 39 (.agg #[.int .i64 a, .int .i64 b, .string s]) (.agg #[.int .i64 a, .int .i64 b, .string s])).run Try.prog w = .ok (.bool false) w := neqRE
  have HQ := Aside0.mk hq1
  clear h hm hf hi hok hrM hj2 hf2 hH hyl hq1
  go_enter Try.func18, Try.ntmps18
  go_upto_region 4 with (go_at_call 27; refine HT.out.mono ?_; rintro e w1 ⟨AT, cT, rfl, hO⟩; have HO := Aside0.mk hO; clear hO)
  clear HT
  go_wp2_with fail
  go_loopg [6] M.length (fun gg s6 wr => ∃ k : Nat, k ≤ M.length ∧ M.length - k ≤ gg ∧ s6 = .int .i64 k ∧ Aside0 (Own w wr (.row (Kd.int .i64) 3 (.slice AT M.length cT) (M.map (·.1)) :: l)))
  case atStart => exact ⟨0, Nat.zero_le _, by omega, rfl, ⟨HO.out⟩⟩
  case round =>
    obtain ⟨k, hk, hg, rfl, HO2⟩ := hrel
    clear HO
    by_cases hlt : k < M.length
    · have hly : k < ys.length := by rw [HX.out]; exact hlt
      obtain ⟨g1, c1, e1, -, hy0, hy1⟩ := HO2.out.pair_at (j2 + 1) HJ2.out k hly
      obtain rfl := (Value.slice.inj e1).1
      obtain ⟨gT, cT2, eT, -, hx⟩ := HO2.out.int_at 0 rfl k (by rw [List.length_map]; exact hlt)
      rw [List.length_map] at eT
      obtain rfl := (Value.slice.inj eT).1
      rw [List.getElem_map] at hx
      have HC1 : Aside0 (∀ (W' : World) (t : List Thing) (h : Own w W' (t ++ l)), W'.cell? ⟨g1, k * 2, none⟩ = some (.int .i64 ys[k].1) ∧ W'.cell? ⟨g1, k * 2 + 1, none⟩ = some (.slice ys[k].2.1 ys[k].2.2.1 ys[k].2.2.2)) := ⟨fun W' t h => by
        obtain ⟨g2, c2, e2, -, y0, y1⟩ := h.pair_at (t.length + j2) (by rw [List.getElem?_append_right (by omega), Nat.add_sub_cancel_left]; exact HJ2.out) k hly
        obtain rfl : g1 = g2 := by have := (Value.slice.inj e2).1; simpa using this
        exact ⟨y0, y1⟩⟩
      have HG1 : Aside0 (∀ (W' : World) (t : List Thing) (h : Own w W' (t ++ l)), HdK W' ys[k] M[k]) := ⟨fun W' t h => (head_at (HH.out W' (h.now (t.length + f2) (by rw [List.getElem?_append_right (by omega), Nat.add_sub_cancel_left]; exact HF2.out))) k hlt).2⟩
      have hk0 := (HG1.out wr [_] HO2.out).1
      have hn0 := (HG1.out wr [_] HO2.out).2.1
      have HEk := Aside0.mk (HE.out wr _ _ HO2.out k hlt)
      have hent := ent_at HR.out k hlt
      have hb := (HK.out.2 _ (List.getElem_mem hlt)).2.2
      have HLt := Aside0.mk hlt
      have d1 := decLt hlt
      have z0 := geZ k
      have z1 := ltZ hlt
      have hw1 := wrS hlt hML
      have HTk : Aside0 (∀ (W' : World) (t : Thing), Own w W' (t :: .row (Kd.int .i64) 3 (.slice (some ⟨gT, 0, none⟩) M.length cT) (M.map (·.1)) :: l) → W'.cell? ⟨gT, k, none⟩ = some (.int .i64 M[k].1)) := ⟨fun W' t h => by
        obtain ⟨g2, c2, e2, -, y0⟩ := h.int_at 1 rfl k (by rw [List.length_map]; exact HLt.out)
        rw [List.length_map] at e2
        obtain rfl : gT = g2 := by have := (Value.slice.inj e2).1; simpa using this
        rw [List.getElem_map] at y0
        exact y0⟩
      generalize M[k] = m at *
      generalize ys[k] = y at *
      obtain ⟨tx, yA, yn, yc⟩ := y
      obtain ⟨m1, es⟩ := m
      simp only [] at hy0 hy1 hk0 hn0 hb hx hent HEk
      subst hk0 hn0
      rw [hent] at HEk
      have hel : es.length ≤ 1000000 := by omega
      have HW1 := Aside0.mk hw1
      clear e1 eT hlt hent hb HE hw1
      go_upto_region 8 with (go_at_call 26; refine HEk.out.mono ?_; rintro e w2 ⟨AE, cE, rfl, hO⟩; have HO3 := Aside0.mk hO; clear hO)
      clear HEk HO2 hx hy0 hy1
      obtain ⟨hy0, hy1⟩ := HC1.out w2 [_, _] HO3.out
      have hx := HTk.out w2 _ HO3.out
      have hb1 : ((es.length : Int) != (es.length : Int)) = false := by simp
      have hb2 : (tx != tx) = false := by simp
      go_upto_region 8 with fail
      go_quiet (fail)
      have HO4 := Aside0.mk (HO3.out.below (pw_below_drewN (Below.refl _ _) nq))
      clear HO3 hx hy0 hy1 hb1 hb2
      generalize w2.drewN nq = w3 at HO4 ⊢
      go_upto_block 2 with fail
      go_wp2_with fail
      go_loopg [8] es.length (fun gg s8 wr => ∃ q : Nat, q ≤ es.length ∧ es.length - q ≤ gg ∧ s8 = .int .i64 q ∧ Aside0 (Own w wr (.row kE 36 (.slice AE es.length cE) es :: .row (Kd.int .i64) 3 (.slice (some ⟨gT, 0, none⟩) M.length cT) (M.map (·.1)) :: l)))
      case atStart => exact ⟨0, Nat.zero_le _, by omega, rfl, ⟨HO4.out⟩⟩
      case round =>
        obtain ⟨q, hq, hgq, rfl, HO5⟩ := hrel
        clear HO4
        by_cases hqt : q < es.length
        · obtain ⟨gE, cE2, eE, -, x0, x1, x2⟩ := HO5.out.ent_at 0 rfl q hqt
          obtain rfl := (Value.slice.inj eE).1
          obtain ⟨ad, hyA, q0, q1, q2⟩ := at_E (HG1.out wr [_, _] HO5.out).2.2.2 q hqt rfl
          obtain ⟨-, hy1⟩ := HC1.out wr [_, _] HO5.out
          replace hyA : yA = some ad := hyA
          rw [hyA] at hy1
          have d2 := decLt hqt
          have y0 := geZ q
          have y1 := ltZ hqt
          have hw2 := wrS hqt hel
          have HQt := Aside0.mk hqt
          have hq1 := HQ.out
          generalize es[q] = x at *
          obtain ⟨xa, xb, xc⟩ := x
          simp only [] at x0 x1 x2 q0 q1 q2
          replace hq1 := fun w' => hq1 w' xa xb xc
          clear eE hqt hyA
          go_upto_region 13 with fail
          go_quiet (fail)
          have HO6 := Aside0.mk (HO5.out.below (pw_below_drewN (Below.refl _ _) nq))
          clear HO5 x0 x1 x2 q0 q1 q2 hy1 hq1
          generalize wr.drewN nq = w5 at HO6 ⊢
          go_wp2_with fail
          try rw [hw2]
          go_roundg (es.length - (q + 1))
          case measure => exact measS HQt.out hgq
          case rel => exact ⟨q + 1, HQt.out, Nat.le_refl _, rfl, ⟨HO6.out⟩⟩
        · obtain rfl : q = es.length := by omega
          have d2 := decNo es.length
          have HO7 := Aside0.mk HO5.out.tail
          have hw1 := HW1.out
          clear HO5 hq hgq hqt
          go_wp2_with fail
          try rw [hw1]
          go_roundg (M.length - (k + 1))
          case measure => exact measS HLt.out hg
          case rel => exact ⟨k + 1, HLt.out, Nat.le_refl _, rfl, ⟨HO7.out⟩⟩
    · obtain rfl : k = M.length := by omega
      have d2 := decNo M.length
      have HO3 := Aside0.mk HO2.out.tail
      have HS1 := Aside0.mk (HS.out wr HO3.out)
      clear HO2 hk hg hlt HS
      go_wp2_with (first
        | (go_at_call 17; refine HS1.out.mono ?_; rintro e w2 ⟨rfl, hO⟩; have HO4 := Aside0.mk hO; clear hO)
        | (go_at_call 24; refine (HRS.out _ HO4.out).mono ?_; rintro e w3 ⟨rfl, hO⟩; have HO5 := Aside0.mk hO; clear hO))
      go_ret
      exact ⟨by simp, HO5.out⟩
end Go.Proofs.Ytchpagboglomoaa.Ownd
