/- Open: the state of all, as a text: State. Conditions: at most 65535 transactions, whose numbers have six bytes, 65535 entries each. -/
import Derived.Test.YtchpagboglomoaaUSt
namespace Go.Proofs.Ytchpagboglomoaa.Ownd
open Go.RowKit Go.Proofs.Ytchpagboglomoaa.GP.MU Go.Proofs.Ytchpagboglomoaa.GP Go.Proofs.YtchpagboglomoaaW.PrintWords Go.Proofs.YtchpagboglomoaaW.PrintLast Go.Proofs.YtchpagboglomoaaW.PrintMore
set_option linter.unusedVariables false
set_option linter.unusedSimpArgs false
theorem map_snoc {α β : Type} (f : α → β) (xs : List α) (k : Nat) (h : k < xs.length) : (xs.take k).map f ++ [f xs[k]] = (xs.take (k + 1)).map f := by
  rw [List.take_succ_eq_append_getElem h, List.map_append]; rfl
theorem wrS {k n : Nat} (h : k < n) (hn : n ≤ 1000000) : wrap64 ((k : Int) + 1) = ((k + 1 : Nat) : Int) := by unfold wrap64; omega
theorem decLt {k n : Nat} (h : k < n) : decide ((k : Int) < (n : Int)) = true := decide_eq_true (by omega)
theorem decNo (n : Nat) : decide ((n : Int) < (n : Int)) = false := decide_eq_false (by omega)
theorem geZ (k : Nat) : (0 : Int) ≤ (k : Int) := by omega
theorem ltZ {k n : Nat} (h : k < n) : (k : Int) < (n : Int) := by omega
theorem len16 {α : Type} {xs : List α} {k : Nat} (h : k < xs.length) (hn : xs.length ≤ 1000000) {β : Type} (f : α → β) : (((xs.take k).map f).length + 1) * 16 ≤ 140737488355328 := by rw [List.length_map, List.length_take]; omega
theorem Own.ent_at {w W : World} {l : List Thing} {e : Nat} {v : Value} {zs : List UE} (h : Own w W l) (j : Nat) (hj : l[j]? = some (.row kE e v zs)) (i : Nat) (hi : i < zs.length) : ∃ g c, v = .slice (some ⟨g, 0, none⟩) zs.length c ∧ zs.length ≤ c ∧ W.cell? ⟨g, i * 3, none⟩ = some (.int .i64 zs[i].1) ∧ W.cell? ⟨g, i * 3 + 1, none⟩ = some (.int .i64 zs[i].2.1) ∧ W.cell? ⟨g, i * 3 + 2, none⟩ = some (.string zs[i].2.2) := by
  obtain ⟨g, c, cs, h1, h2, _, hK, hcell, _⟩ := h.elem j hj i hi
  obtain rfl := kE_is hK
  exact ⟨g, c, h1, h2, hcell 0 _ rfl, hcell 1 _ rfl, hcell 2 _ rfl⟩
set_option maxHeartbeats 8000000 in
set_option maxRecDepth 100000 in
theorem state_I {w W : World} {l : List Thing} (h : Own w W l) {i j f g : Nat} {v : Value} {xs : List P2} {F : World → Prop} {M : Opn} (hm : IsMap l i j g v xs) (hf : l[f]? = some (.fact F)) (hi : IsOpen xs F M) (hok : okM M) :
    Calls Try.prog 17 #[.pointer (some ⟨g, 0, none⟩)] W fun ex W' => ex = .returned (.string (stateM M)) ∧ Own w W' l := by
  have hrM : RiseM M := (hi.heads W (h.now f hf)).rise hi.rise
  have HT := Aside0.mk (txns_I h hm hf hi (Nat.le_trans hok.1 (by decide)))
  have HE := Aside0.mk (fun (W' : World) (v3 : Value) (ss : List ByteArray) (A c) (h : Own w W' (.row Kd.string 9 v3 ss :: .row (Kd.int .i64) 3 (.slice A M.length c) (M.map (·.1)) :: l)) (k : Nat) (hk : k < M.length) =>
    entries_I (i := i + 2) (j := j + 2) (f := f + 2) h ⟨hm.box, hm.row, fun e => hm.ne (by omega)⟩ hf hi (Nat.le_trans hok.1 (by decide)) M[k].1 (by have := ent_small hok M[k].1; omega))
  have HK := Aside0.mk hok
  have HR := Aside0.mk hrM
  have hML : M.length ≤ 1000000 := Nat.le_trans hok.1 (by decide)
  obtain ⟨r, hr⟩ : ∃ r, stateM M = r := ⟨_, rfl⟩
  rw [hr]
  have HRes := Aside0.mk hr
  clear h hm hf hi hok hrM hr
  go_enter Try.func17, Try.ntmps17
  go_upto_block 0 with (go_at_call 27; refine HT.out.mono ?_; rintro e w1 ⟨AT, cT, rfl, hO⟩; have HO := Aside0.mk (hO.room.nil 0 Kd.string 9); clear hO)
  clear HT
  go_wp2_with fail
  go_loopg [3, 12] M.length (fun gg s3 s12 wr => ∃ k : Nat, k ≤ M.length ∧ M.length - k ≤ gg ∧ s12 = .int .i64 k ∧ Aside0 (Own w wr (.row Kd.string 9 s3 ((M.take k).map stateT) :: .row (Kd.int .i64) 3 (.slice AT M.length cT) (M.map (·.1)) :: l)))
  case atStart => exact ⟨0, Nat.zero_le _, by omega, rfl, ⟨HO.out⟩⟩
  case round =>
    obtain ⟨k, hk, hg, rfl, HO2⟩ := hrel
    clear HO
    by_cases hlt : k < M.length
    · obtain ⟨gT, cT2, eT, -, hx⟩ := HO2.out.int_at 1 rfl k (by rw [List.length_map]; exact hlt)
      rw [List.length_map] at eT
      obtain rfl := (Value.slice.inj eT).1
      rw [List.getElem_map] at hx
      have HEk := Aside0.mk (fun (W' : World) (hb : Below wr.heap.size wr W') => HE.out W' _ _ _ _ (HO2.out.below hb) k hlt)
      have hent := ent_at HR.out k hlt
      have hb := HK.out.2 _ (List.getElem_mem hlt)
      have hM : M[k] = (M[k].1, M[k].2) := rfl
      have hsn := map_snoc stateT M k hlt
      generalize hmk : M[k] = mk at *
      obtain ⟨tx, es⟩ := mk
      simp only [] at hent hb hx HEk
      rw [hent] at HEk
      have HSn := Aside0.mk hsn
      have d1 := decLt hlt
      have z0 := geZ k
      have z1 := ltZ hlt
      have hw1 := wrS hlt hML
      have HBo := Aside0.mk hb
      have hel : es.length ≤ 1000000 := by have := hb.2.2; omega
      have HLt := Aside0.mk hlt
      clear hent hb hM hsn hmk eT hlt
      go_upto_block 2 with (go_at_call 26; refine (HEk.out _ (Below.refl _ _)).mono ?_; rintro e w2 ⟨AE, cE, rfl, hO⟩; have HO3 := Aside0.mk (hO.room.nil 0 Kd.string 9); clear hO)
      clear HEk HO2 hx
      go_wp2_with fail
      go_loopg [6, 20] es.length (fun gg s6 s20 wr => ∃ q : Nat, q ≤ es.length ∧ es.length - q ≤ gg ∧ s20 = .int .i64 q ∧ Aside0 (Own w wr (.row Kd.string 9 s6 ((es.take q).map putE) :: .row kE 36 (.slice AE es.length cE) es :: .row Kd.string 9 u3 ((M.take k).map stateT) :: .row (Kd.int .i64) 3 (.slice (some ⟨gT, 0, none⟩) M.length cT) (M.map (·.1)) :: l)))
      case atStart => exact ⟨0, Nat.zero_le _, by omega, rfl, ⟨HO3.out⟩⟩
      case round =>
        obtain ⟨q, hq, hgq, rfl, HO⟩ := hrel
        clear HO3
        by_cases hqt : q < es.length
        · obtain ⟨gE, cE2, eE, -, x0, x1, x2⟩ := HO.out.ent_at 1 rfl q hqt
          obtain rfl := (Value.slice.inj eE).1
          have hsn := map_snoc putE es q hqt
          have HL16 := Aside0.mk (len16 hqt hel putE)
          have d2 := decLt hqt
          have y0 := geZ q
          have y1 := ltZ hqt
          have hw2 := wrS hqt hel
          generalize es[q] = x at *
          obtain ⟨xa, xb, xc⟩ := x
          simp only [] at x0 x1 x2
          have HSq := Aside0.mk hsn
          have HQt := Aside0.mk hqt
          clear hsn eE hqt
          go_upto_region 9 with fail
          have hO4 := HO.out.below (below_alloc (Below.refl _ _) (.cells #[.int .i64 xa, .int .i64 xb, .string xc] 36))
          have b0 : (wr.alloc (.cells #[.int .i64 xa, .int .i64 xb, .string xc] 36)).cell? ⟨wr.heap.size, 0, none⟩ = some (.int .i64 xa) := blk_cell (blk_new wr (.cells #[.int .i64 xa, .int .i64 xb, .string xc] 36)) 0
          have b1 : (wr.alloc (.cells #[.int .i64 xa, .int .i64 xb, .string xc] 36)).cell? ⟨wr.heap.size, 1, none⟩ = some (.int .i64 xb) := blk_cell (blk_new wr (.cells #[.int .i64 xa, .int .i64 xb, .string xc] 36)) 1
          have b2 : (wr.alloc (.cells #[.int .i64 xa, .int .i64 xb, .string xc] 36)).cell? ⟨wr.heap.size, 2, none⟩ = some (.string xc) := blk_cell (blk_new wr (.cells #[.int .i64 xa, .int .i64 xb, .string xc] 36)) 2
          have HO4 := Aside0.mk hO4
          clear HO hO4 x0 x1 x2
          generalize wr.alloc (.cells #[.int .i64 xa, .int .i64 xb, .string xc] 36) = w4 at HO4 b0 b1 b2 ⊢
          generalize wr.heap.size = gb at b0 b1 b2 ⊢
          have HP := Aside0.mk (fun w' => putE_calls xa xb xc w')
          generalize putE (xa, xb, xc) = px at HSq HP
          go_upto_region 10 with (first
            | (go_at_call 19; refine (HP.out _).mono ?_; rintro e w5 ⟨rfl, hb5⟩; have HO5 := Aside0.mk (HO4.out.below hb5); clear hb5)
            | (at_builtin; refine Own.append Kd.string HO5.out 0 rfl rfl (.tmp 24) (.tmp 27) 84 (.string ⟨#[]⟩) 16 rfl Try.underlying84 infoS rfl (by decide) (by decide) px [.string px] rfl rfl (fun _ _ => rfl) HL16.out ?_; intro v6 w6 hO6; rw [HSq.out] at hO6; have HO6 := Aside0.mk hO6; clear hO6))
          clear HO4 HO5 HP b0 b1 b2
          go_wp2_with fail
          try rw [hw2]
          go_roundg (es.length - (q + 1))
          case measure => have := HQt.out; omega
          case rel => exact ⟨q + 1, HQt.out, Nat.le_refl _, rfl, ⟨HO6.out⟩⟩
        · obtain rfl : q = es.length := by omega
          have hO := HO.out
          rw [List.take_length] at hO
          obtain ⟨A6, c6, rfl, hc6, hC6⟩ := hO.reads 0 rfl
          rw [List.length_map] at hO hc6 hC6
          have HO := Aside0.mk hO
          have d2 := decNo es.length
          have HP6 := Aside0.mk (fun w' => put_six tx HBo.out.1 HBo.out.2.1 w')
          have HJ := Aside0.mk (fun (w' : World) (hb : Below wr.heap.size wr w') => record_Join.calls A6 c6 (es.map putE) _ w' (by rw [List.length_map]; exact Kd.C_below hC6 hb) (by rw [List.length_map]; exact hc6) (join_some _))
          rw [List.length_map] at HJ
          have hsx : six tx ++ joinS (es.map putE) = stateT (tx, es) := rfl
          have hz0 := joinS_size (es.map putE)
          have hz1 := six_size tx
          have HL16 := Aside0.mk (len16 HLt.out hML stateT)
          replace HP6 : Aside0 (∀ w' : World, Calls Try.prog 34 #[.int .i64 tx, .int .i64 6] w' fun e w'' => e = .returned (.string (six tx)) ∧ Below w'.heap.size w' w'') := HP6
          generalize joinS (es.map putE) = p2 at *
          generalize six tx = p1 at *
          have HSx := Aside0.mk hsx
          clear hO hC6 hc6 hsx
          have hz : ¬ 9223372036854775807 < p1.size + p2.size := by omega
          go_upto_region 12 with (first
            | (go_at_call 34; refine (HP6.out _).mono ?_; rintro e w7 ⟨rfl, hb7⟩; have HO7 := Aside0.mk (HO.out.below hb7); have HJ7 := Aside0.mk (HJ.out _ hb7); clear hb7)
            | (go_at_call 35; refine HJ7.out.mono ?_; rintro e w8 ⟨rfl, hb8⟩; have HO8 := Aside0.mk (HO7.out.below hb8); clear hb8)
            | (at_builtin; rw [HSx.out]; refine Own.append Kd.string HO8.out 2 rfl rfl (.tmp 30) (.tmp 36) 84 (.string ⟨#[]⟩) 16 rfl Try.underlying84 infoS rfl (by decide) (by decide) (stateT (tx, es)) [.string (stateT (tx, es))] rfl rfl (fun _ _ => rfl) HL16.out ?_; intro v9 w9 hO9; rw [HSn.out] at hO9; have HO9 := Aside0.mk (Own.tail (Own.tail hO9)); clear hO9))
          go_wp2_with fail
          try rw [hw1]
          go_roundg (M.length - (k + 1))
          case measure => have := HLt.out; omega
          case rel => exact ⟨k + 1, HLt.out, Nat.le_refl _, rfl, ⟨HO9.out⟩⟩
    · obtain rfl : k = M.length := by omega
      have hO := HO2.out
      rw [List.take_length] at hO
      obtain ⟨A6, c6, rfl, hc6, hC6⟩ := hO.reads 0 rfl
      rw [List.length_map] at hO hc6 hC6
      have HO := Aside0.mk hO
      have d2 := decNo M.length
      have HJ := Aside0.mk (fun (w' : World) (hb : Below wr.heap.size wr w') => record_Join.calls A6 c6 (M.map stateT) _ w' (by rw [List.length_map]; exact Kd.C_below hC6 hb) (by rw [List.length_map]; exact hc6) (join_some _))
      rw [List.length_map] at HJ
      clear hO hC6 hc6 HO2
      by_cases hM0 : M = []
      · have hr : r = ⟨#[]⟩ := by rw [← HRes.out]; unfold stateM; rw [if_pos hM0]
        have hM1 : M.length = 0 := by rw [hM0]; rfl
        rw [hM1] at *
        subst hr
        go_wp2_with fail
        go_ret
        exact ⟨rfl, HO.out.tail.tail⟩
      · have hr : joinS (M.map stateT) = r := by rw [← HRes.out]; unfold stateM; rw [if_neg hM0]
        have hM1 : ((M.length : Int) == 0) = false := by
          have : 0 < M.length := List.length_pos_iff.mpr hM0
          rw [beq_eq_false_iff_ne]; omega
        rw [hr] at HJ
        go_wp2_with (go_at_call 35; refine (HJ.out _ (Below.refl _ _)).mono ?_; rintro e w7 ⟨rfl, hb7⟩; have HO7 := Aside0.mk (HO.out.below hb7); clear hb7)
        go_ret
        exact ⟨rfl, HO7.out.tail.tail⟩
theorem state_nil (W : World) : Calls Try.prog 17 #[.pointer none] W fun ex W' => ex = .returned (.string ⟨#[]⟩) ∧ W' = W := by
  go_enter Try.func17, Try.ntmps17
  go_upto_block 0 with (go_at_call 27; refine (txns_nil _).mono ?_; rintro e w1 ⟨rfl, rfl⟩)
  go_wp2_with fail
  go_loopg [3, 12] 1 (fun gg s3 s12 wr => s3 = .slice none 0 0 ∧ s12 = .int .i64 0 ∧ wr = w1)
  case atStart => exact ⟨rfl, rfl, rfl⟩
  case round =>
    obtain ⟨rfl, rfl, rfl⟩ := hrel
    go_wp2_with fail
    go_ret
    exact ⟨rfl, rfl⟩
end Go.Proofs.Ytchpagboglomoaa.Ownd
