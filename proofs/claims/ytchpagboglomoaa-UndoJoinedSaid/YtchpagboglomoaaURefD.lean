/- The document's lists of entries: the state of all, as a text: State. Conditions: at most 65535 transactions, whose numbers have six bytes, 65535 entries each. -/
import Derived.Test.YtchpagboglomoaaURefC
namespace Go.Proofs.Ytchpagboglomoaa.Ownd
open Go.RowKit Go.Proofs.Ytchpagboglomoaa.GP.MU Go.Proofs.Ytchpagboglomoaa.GP Go.Proofs.YtchpagboglomoaaW.PrintWords Go.Proofs.YtchpagboglomoaaW.PrintLast Go.Proofs.YtchpagboglomoaaW.PrintMore
set_option linter.unusedVariables false
set_option linter.unusedSimpArgs false
theorem ref02_stop (z : Int) (k : Nat) (x : ByteArray) (q i : Int) (h : ¬ i < z) (hq : q = 0) : concordanceref02_Put.l0 (k + 1) q z x i = some x := by
  rw [concordanceref02_Put.l0.eq_2, if_neg h, hq, if_neg (by decide)]
theorem ref02_six (m : Int) (m0 : 0 ≤ m) (m1 : m < 281474976710656) (k : Nat) (hk : 12 ≤ k) : concordanceref02_Put.f k m 6 = some (six m) := by
  obtain ⟨k, rfl⟩ : ∃ m, k = m + 1 + 1 + 1 + 1 + 1 + 1 + 1 + 1 := ⟨k - 8, by omega⟩
  have hz : (⟨#[]⟩ : ByteArray).size = 0 := rfl
  have h1 : ∀ u : UInt8, ∀ x : ByteArray, ((⟨#[u]⟩ : ByteArray) ++ x).size = 1 + x.size := fun u x => by rw [ByteArray.size_append]; rfl
  have e2 : m / 256 / 256 = m / 65536 := by omega
  have e3 : m / 65536 / 256 = m / 16777216 := by omega
  have e4 : m / 16777216 / 256 = m / 4294967296 := by omega
  have e5 : m / 4294967296 / 256 = m / 1099511627776 := by omega
  have e6 : m / 1099511627776 / 256 = 0 := by omega
  unfold concordanceref02_Put.f
  rw [if_neg (by omega), if_neg (by omega), decide_eq_false (by omega), concordanceref02_Put.j0.eq_2, if_neg (by decide), show (0 : Int) = ((0 : Nat) : Int) from rfl,
    ref02_step 6 _ _ m 0 (by omega) (by omega) m0 (by omega) (by rw [hz]; omega),
    ref02_step 6 _ _ _ 1 (by omega) (by omega) (by omega) (by omega) (by simp only [h1, hz]; omega), e2,
    ref02_step 6 _ _ _ 2 (by omega) (by omega) (by omega) (by omega) (by simp only [h1, hz]; omega), e3,
    ref02_step 6 _ _ _ 3 (by omega) (by omega) (by omega) (by omega) (by simp only [h1, hz]; omega), e4,
    ref02_step 6 _ _ _ 4 (by omega) (by omega) (by omega) (by omega) (by simp only [h1, hz]; omega), e5,
    ref02_step 6 _ _ _ 5 (by omega) (by omega) (by omega) (by omega) (by simp only [h1, hz]; omega), e6,
    ref02_stop _ _ _ _ _ (by omega) rfl, show m / 1099511627776 % 256 = m / 1099511627776 by omega]
  rfl
theorem measS {k n g : Nat} (h : k < n) (hg : n - k ≤ g) : n - (k + 1) < g := by omega
set_option maxHeartbeats 8000000 in
set_option maxRecDepth 100000 in
theorem rstate_I {w W : World} {l : List Thing} (h : Own w W l) {j f c : Nat} {A : Option Addr} {xs : List P2} {G : World → Prop} {M : Opn} (hj : l[j]? = some (rL (.slice A M.length c) xs)) (hf : l[f]? = some (.fact G)) (hH : ∀ W' : World, G W' → Heads W' xs M) (hok : okM M) :
    Calls Try.prog 24 #[.slice A M.length c] W fun ex W' => ex = .returned (.string (stateM M)) ∧ Own w W' l := by
  have hxl : xs.length = M.length := (hH W (h.now f hf)).length
  have HO := Aside0.mk (h.room.nil 0 Kd.string 9)
  have HJ : Aside0 ((Thing.gone :: l)[j + 1]? = some (rL (.slice A M.length c) xs)) := ⟨hj⟩
  have HJ2 := Aside0.mk hj
  have HF := Aside0.mk hf
  have HH := Aside0.mk hH
  have HK := Aside0.mk hok
  have HX := Aside0.mk hxl
  have hML : M.length ≤ 1000000 := Nat.le_trans hok.1 (by decide)
  obtain ⟨r, hr⟩ : ∃ r, stateM M = r := ⟨_, rfl⟩
  rw [hr]
  have HRes := Aside0.mk hr
  clear h hj hf hH hok hxl hr HJ
  go_enter Try.func24, Try.ntmps24
  go_wp2_with fail
  go_loopg [3, 4] M.length (fun gg s3 s4 wr => ∃ k : Nat, k ≤ M.length ∧ M.length - k ≤ gg ∧ s4 = .int .i64 k ∧ Aside0 (Own w wr (.row Kd.string 9 s3 ((M.take k).map stateT) :: l)))
  case atStart => exact ⟨0, Nat.zero_le _, by omega, rfl, ⟨HO.out⟩⟩
  case round =>
    obtain ⟨k, hk, hg, rfl, HO2⟩ := hrel
    clear HO
    by_cases hlt : k < M.length
    · have hlx : k < xs.length := by rw [HX.out]; exact hlt
      obtain ⟨g1, c1, e1, -, hx0, hx1⟩ := HO2.out.pair_at (j + 1) HJ2.out k hlx
      obtain rfl := (Value.slice.inj e1).1
      have HC1 : Aside0 (∀ (W' : World) (t : List Thing) (n : Nat) (h : Own w W' (t ++ l)) (hn : t.length = n), W'.cell? ⟨g1, k * 2, none⟩ = some (.int .i64 xs[k].1) ∧ W'.cell? ⟨g1, k * 2 + 1, none⟩ = some (.slice xs[k].2.1 xs[k].2.2.1 xs[k].2.2.2)) := ⟨fun W' t n h hn => by
        obtain ⟨g2, c2, e2, -, y0, y1⟩ := h.pair_at (t.length + j) (by rw [List.getElem?_append_right (by omega), Nat.add_sub_cancel_left]; exact HJ2.out) k hlx
        obtain rfl : g1 = g2 := by have := (Value.slice.inj e2).1; simpa using this
        exact ⟨y0, y1⟩⟩
      have HG1 : Aside0 (∀ (W' : World) (t : List Thing) (h : Own w W' (t ++ l)), G W') := ⟨fun W' t h => h.now (t.length + f) (by rw [List.getElem?_append_right (by omega), Nat.add_sub_cancel_left]; exact HF.out)⟩
      have HKd : Aside0 (∀ W' : World, G W' → HdK W' xs[k] M[k]) := ⟨fun W' hG => (head_at (HH.out W' hG) k hlt).2⟩
      have hb := HK.out.2 _ (List.getElem_mem hlt)
      have hsn := map_snoc stateT M k hlt
      have hk0 := (HKd.out wr (HG1.out wr [.row Kd.string 9 u3 ((M.take k).map stateT)] HO2.out)).1
      have hn0 := (HKd.out wr (HG1.out wr [.row Kd.string 9 u3 ((M.take k).map stateT)] HO2.out)).2.1
      have HLt := Aside0.mk hlt
      have d1 := decLt hlt
      have z0 := geZ k
      have z1 := ltZ hlt
      have hw1 := wrS hlt hML
      generalize M[k] = m at *
      generalize xs[k] = x at *
      obtain ⟨tx, xA, xn, xc⟩ := x
      obtain ⟨m1, es⟩ := m
      simp only [] at hx0 hx1 hk0 hn0 hb
      subst hk0 hn0
      replace HC1 : Aside0 (∀ (W' : World) (t : List Thing) (h : Own w W' (t ++ l)), W'.cell? ⟨g1, k * 2, none⟩ = some (.int .i64 tx) ∧ W'.cell? ⟨g1, k * 2 + 1, none⟩ = some (.slice xA es.length xc)) := ⟨fun W' t h => HC1.out W' t _ h rfl⟩
      have HSn := Aside0.mk hsn
      have HBo := Aside0.mk hb
      have hel : es.length ≤ 1000000 := by have := hb.2.2; omega
      have HO3 := Aside0.mk (HO2.out.room.nil 0 Kd.string 9)
      clear hb hsn e1 hlt HO2 hx0 hx1
      go_wp2_with fail
      go_loopg [5, 6] es.length (fun gg s5 s6 wr => ∃ q : Nat, q ≤ es.length ∧ es.length - q ≤ gg ∧ s6 = .int .i64 q ∧ Aside0 (Own w wr (.row Kd.string 9 s5 ((es.take q).map putE) :: .row Kd.string 9 u3 ((M.take k).map stateT) :: l)))
      case atStart => exact ⟨0, Nat.zero_le _, by omega, rfl, ⟨HO3.out⟩⟩
      case round =>
        obtain ⟨q, hq, hgq, rfl, HO⟩ := hrel
        clear HO3
        obtain ⟨hx0, hx1⟩ := HC1.out wr [.row Kd.string 9 u5 ((es.take q).map putE), .row Kd.string 9 u3 ((M.take k).map stateT)] HO.out
        by_cases hqt : q < es.length
        · obtain ⟨ad, hxA, x0, x1, x2⟩ := at_E (HKd.out wr (HG1.out wr [.row Kd.string 9 u5 ((es.take q).map putE), .row Kd.string 9 u3 ((M.take k).map stateT)] HO.out)).2.2.2 q hqt rfl
          have hsn := map_snoc putE es q hqt
          have HL16 := Aside0.mk (len16 hqt hel putE)
          have d2 := decLt hqt
          have y0 := geZ q
          have y1 := ltZ hqt
          have hw2 := wrS hqt hel
          have HW1 := Aside0.mk hw1
          clear hw1
          replace hxA : xA = some ad := hxA
          rw [hxA] at hx1
          generalize es[q] = x at *
          obtain ⟨xa, xb, xc2⟩ := x
          simp only [] at x0 x1 x2
          have HSq := Aside0.mk hsn
          have HQt := Aside0.mk hqt
          have HP := Aside0.mk (fun w' => rputE_calls xa xb xc2 w')
          clear hsn hqt hxA
          generalize putE (xa, xb, xc2) = px at HSq HP
          go_upto_region 8 with (first
            | (go_at_call 20; refine (HP.out _).mono ?_; rintro e w5 ⟨rfl, hb5⟩; have HO5 := Aside0.mk (HO.out.below hb5); clear hb5)
            | (at_builtin; refine Own.append Kd.string HO5.out 0 rfl rfl (.tmp 23) (.tmp 33) 84 (.string ⟨#[]⟩) 16 rfl Try.underlying84 infoS rfl (by decide) (by decide) px [.string px] rfl rfl (fun _ _ => rfl) HL16.out ?_; intro v6 w6 hO6; rw [HSq.out] at hO6; have HO6 := Aside0.mk hO6; clear hO6))
          clear HO HO5 HP x0 x1 x2 hx0 hx1
          go_wp2_with fail
          try rw [hw2]
          go_roundg (es.length - (q + 1))
          case measure => exact measS HQt.out hgq
          case rel => exact ⟨q + 1, HQt.out, Nat.le_refl _, rfl, ⟨HO6.out⟩⟩
        · obtain rfl : q = es.length := by omega
          have hO := HO.out
          rw [List.take_length] at hO
          obtain ⟨A6, c6, rfl, hc6, hC6⟩ := hO.reads 0 rfl
          rw [List.length_map] at hO hc6 hC6
          have HO := Aside0.mk hO
          have d2 := decNo es.length
          have HP6 := Aside0.mk (fun w' => concordanceref02_Put.calls 12 tx 6 _ w' (ref02_six tx HBo.out.1 HBo.out.2.1 12 (by decide)))
          have HJn := Aside0.mk (fun (w' : World) (hb : Below wr.heap.size wr w') => concordanceref07_Join.calls A6 c6 (es.map putE) _ w' (by rw [List.length_map]; exact Kd.C_below hC6 hb) (by rw [List.length_map]; exact hc6) (rjoin_some _))
          rw [List.length_map] at HJn
          have hsx : six tx ++ joinS (es.map putE) = stateT (tx, es) := rfl
          have hz0 := joinS_size (es.map putE)
          have hz1 := six_size tx
          have HL16 := Aside0.mk (len16 HLt.out hML stateT)
          generalize joinS (es.map putE) = p2 at *
          generalize six tx = p1 at *
          have HSx := Aside0.mk hsx
          clear hO hC6 hc6 hsx
          have hz : ¬ 9223372036854775807 < p1.size + p2.size := by omega
          go_upto_region 4 with (first
            | (go_at_call 36; refine (HP6.out _).mono ?_; rintro e w7 ⟨rfl, hb7⟩; have HO7 := Aside0.mk (HO.out.below hb7); have HJ7 := Aside0.mk (HJn.out _ hb7); clear hb7)
            | (go_at_call 40; refine HJ7.out.mono ?_; rintro e w8 ⟨rfl, hb8⟩; have HO8 := Aside0.mk (HO7.out.below hb8); clear hb8)
            | (at_builtin; rw [HSx.out]; refine Own.append Kd.string HO8.out 1 rfl rfl (.tmp 35) (.tmp 45) 84 (.string ⟨#[]⟩) 16 rfl Try.underlying84 infoS rfl (by decide) (by decide) (stateT (tx, es)) [.string (stateT (tx, es))] rfl rfl (fun _ _ => rfl) HL16.out ?_; intro v9 w9 hO9; rw [HSn.out] at hO9; have HO9 := Aside0.mk (Own.tail hO9); clear hO9))
          go_wp2_with fail
          try rw [hw1]
          go_roundg (M.length - (k + 1))
          case measure => exact measS HLt.out hg
          case rel => exact ⟨k + 1, HLt.out, Nat.le_refl _, rfl, ⟨HO9.out⟩⟩
    · obtain rfl : k = M.length := by omega
      have hO := HO2.out
      rw [List.take_length] at hO
      obtain ⟨A6, c6, rfl, hc6, hC6⟩ := hO.reads 0 rfl
      rw [List.length_map] at hO hc6 hC6
      have HO := Aside0.mk hO
      have d2 := decNo M.length
      have HJn := Aside0.mk (fun (w' : World) (hb : Below wr.heap.size wr w') => concordanceref07_Join.calls A6 c6 (M.map stateT) _ w' (by rw [List.length_map]; exact Kd.C_below hC6 hb) (by rw [List.length_map]; exact hc6) (rjoin_some _))
      rw [List.length_map] at HJn
      clear hO hC6 hc6 HO2
      by_cases hM0 : M = []
      · have hr : r = ⟨#[]⟩ := by rw [← HRes.out]; unfold stateM; rw [if_pos hM0]
        have hM1 : M.length = 0 := by rw [hM0]; rfl
        rw [hM1] at *
        subst hr
        go_wp2_with fail
        go_ret
        exact ⟨rfl, HO.out.tail⟩
      · have hr : joinS (M.map stateT) = r := by rw [← HRes.out]; unfold stateM; rw [if_neg hM0]
        have hM1 : ((M.length : Int) == 0) = false := by
          have : 0 < M.length := List.length_pos_iff.mpr hM0
          rw [beq_eq_false_iff_ne]; omega
        rw [hr] at HJn
        go_wp2_with (go_at_call 40; refine (HJn.out _ (Below.refl _ _)).mono ?_; rintro e w7 ⟨rfl, hb7⟩; have HO7 := Aside0.mk (HO.out.below hb7); clear hb7)
        go_ret
        exact ⟨rfl, HO7.out.tail⟩
end Go.Proofs.Ytchpagboglomoaa.Ownd
