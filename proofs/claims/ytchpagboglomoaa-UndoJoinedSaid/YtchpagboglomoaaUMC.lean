/- order.Map (int keys): Len, Get, Set over memory of the call's own. Conditions: the keys rise; at most 1000000 pairs. -/
import Derived.Test.YtchpagboglomoaaUMB
namespace Go.Proofs.Ytchpagboglomoaa.GP.MU
open Go.RowKit Go.Proofs.Ytchpagboglomoaa.Ownd Go.Proofs.YtchpagboglomoaaW.PrintWords Go.Proofs.YtchpagboglomoaaW.PrintLast Go.Proofs.YtchpagboglomoaaW.PrintMore
set_option linter.unusedVariables false
set_option linter.unusedSimpArgs false
/-- A map, among the things that a call owns: a variable (i) and its row (j). -/
structure IsMap (l : List Thing) (i j g : Nat) (v : Value) (xs : List P2) : Prop where
  box : l[i]? = some (.box g (.cells #[v] 29 (0, 0)))
  row : l[j]? = some (.row kP 102 v xs)
  ne : i ≠ j
theorem IsMap.upd {l : List Thing} {i j g : Nat} {v : Value} {xs : List P2} (h : IsMap l i j g v xs) (v' : Value) (ys : List P2) : IsMap ((l.set j (.row kP 102 v' ys)).set i (.box g (.cells #[v'] 29 (0, 0)))) i j g v' ys := by
  have hi := lt_of_get h.box
  have hj := lt_of_get h.row
  refine ⟨List.getElem?_set_self (by rw [List.length_set]; exact hi), ?_, h.ne⟩
  rw [List.getElem?_set_ne h.ne]
  exact List.getElem?_set_self hj
theorem IsMap.box' {l : List Thing} {i j g : Nat} {v : Value} {xs : List P2} (h : IsMap l i j g v xs) (t : Thing) : (l.set j t)[i]? = some (.box g (.cells #[v] 29 (0, 0))) := by
  rw [List.getElem?_set_ne (Ne.symm h.ne)]
  exact h.box
theorem insert_O {w W : World} {l : List Thing} (h : Own w W l) (j : Nat) {v : Value} {xs : List P2} (hj : l[j]? = some (.row kP 102 v xs)) (i : Nat) (hi : i ≤ xs.length) (hl : xs.length ≤ 1000000) (p : P2) :
    Calls Try.prog 44 #[v, .int .i64 (i : Nat), .slice (some ⟨W.heap.size, 0, none⟩) 1 1] (W.alloc (.cells #[.int .i64 p.1, .slice p.2.1 p.2.2.1 p.2.2.2] 102)) fun ex W' => ∃ v', ex = .returned v' ∧ Own w W' (l.set j (.row kP 102 v' (xs.take i ++ p :: xs.drop i))) := by
  have h1 : Own w (W.alloc (.cells #[.int .i64 p.1, .slice p.2.1 p.2.2.1 p.2.2.2] 102)) l := h.below (below_alloc (Below.refl _ _) _)
  have hvb : (W.alloc (.cells #[.int .i64 p.1, .slice p.2.1 p.2.2.1 p.2.2.2] 102)).heap[W.heap.size]? = some (.cells #[.int .i64 p.1, .slice p.2.1 p.2.2.1 p.2.2.2] 102 (0, 0)) := blk_new W _
  have hne : some W.heap.size ≠ v.ownBlock := fun he => by
    obtain ⟨ok, hN⟩ := h.N j hj
    have := Kd.N_lt hN _ he.symm
    omega
  generalize hvn : W.heap.size = vb at hvb hne ⊢
  generalize W.alloc (.cells #[.int .i64 p.1, .slice p.2.1 p.2.2.1 p.2.2.2] 102) = W1 at h1 hvb ⊢
  have hge := h1.ge
  obtain ⟨hB, col, hc⟩ := h1
  have hJ : Kd.N kP 102 W1 w.heap.size (okc w.heap.size W1 col j) v xs := hc j _ hj
  have done : ∀ (W' : World) (v' : Value) (ys : List P2), Kd.N kP 102 W' w.heap.size (fun _ => True) v' ys → W1.grownBy W' v.ownBlock → (v'.ownBlock = v.ownBlock ∨ ∃ b, v'.ownBlock = some b ∧ W1.heap.size ≤ b) → Own w W' (l.set j (.row kP 102 v' ys)) := by
    intro W' v' ys hN' hg hat
    refine own_row hB hc j hj hg (N_flat flatP hN' (fun k hk => ?_))
    rcases hat with hat | ⟨b, hb, hle⟩
    · exact hJ.1 k (hat ▸ hk)
    · rw [hb] at hk
      obtain rfl := Option.some.inj hk
      exact ⟨Nat.le_trans hge hle, fun hlt => absurd hlt (Nat.not_lt.mpr hle)⟩
  by_cases he : i = xs.length
  · subst he
    refine (insert_end hJ p hvb hne hl hge).mono ?_
    rintro ex W' ⟨v', rfl, h2, h3, h4⟩
    refine ⟨v', rfl, ?_⟩
    rw [List.take_length, List.drop_length]
    exact done W' v' _ h2 h3 h4
  · obtain ⟨g, c, rfl, _⟩ := Kd.N_form hJ (by omega)
    have hm : c ≤ maxLen := by
      rcases N_nonnil hJ with ⟨h', _⟩ | ⟨g', c', h', _, hm⟩
      · simp at h'
      · simp only [Value.slice.injEq] at h'
        obtain ⟨_, _, rfl⟩ := h'
        exact hm
    have hgv : vb ≠ g := fun h => hne (by rw [h]; simp [Value.ownBlock])
    have hob : ∀ n, (Value.slice (some (⟨g, 0, none⟩ : Addr)) n c).ownBlock = some g := fun n => by simp [Value.ownBlock]
    by_cases hr : xs.length + 1 ≤ c
    · refine (insert_shift hJ (Nat.lt_of_le_of_ne hi he) hr (by unfold maxLen at hm; omega) p hvb hgv).mono ?_
      rintro ex W' ⟨rfl, h2, h3⟩
      exact ⟨_, rfl, own_row hB hc j hj (by rw [hob]; exact h3) h2⟩
    · refine (insert_grow hJ (Nat.lt_of_le_of_ne hi he) (by omega) hl hge p hvb hgv).mono ?_
      rintro ex W' ⟨v', rfl, h2, h3, h4⟩
      exact ⟨v', rfl, done W' v' _ h2 (by rw [hob]; exact h3) (Or.inr ⟨_, h4, Nat.le_refl _⟩)⟩
/-- A pair's value is written. -/
theorem put_val {w W : World} {l : List Thing} (h : Own w W l) (j : Nat) {g n c : Nat} {xs : List P2} (hj : l[j]? = some (.row kP 102 (.slice (some ⟨g, 0, none⟩) n c) xs)) (i : Nat) (hi : i < xs.length) (x : Hdr) :
    Own w (W.setCell ⟨g, i * 2 + 1, none⟩ (.slice x.1 x.2.1 x.2.2)) (l.set j (.row kP 102 (.slice (some ⟨g, 0, none⟩) n c) (xs.set i (xs[i].1, x)))) := by
  obtain ⟨hB, col, hc⟩ := h
  have hJ : Kd.N kP 102 W w.heap.size (okc w.heap.size W col j) (.slice (some ⟨g, 0, none⟩) n c) xs := hc j _ hj
  have hn := (Kd.N_reads' hJ).1
  obtain ⟨cs, h1, h2, h3, h4⟩ := Kd.N_elem hJ xs[i] (i : Int) (by omega) (by omega)
  rw [Int.toNat_natCast] at h2 h3 h4
  rw [List.getD_eq_getElem?_getD, List.getElem?_eq_getElem hi, Option.getD_some] at h2
  have hcs := kP_is (Kd.FK_now h2)
  have hs := Kd.N_seg hJ (i : Int) (by omega) (by omega) (c := cs) (seg := [.slice x.1 x.2.1 x.2.2]) (j := 1) h1 (by rw [Int.toNat_natCast]; exact h3) (by show 1 + 1 ≤ 2; omega) (x' := (xs[i].1, x)) (okp := fun _ => False) (by
    rw [hcs]
    exact fun W' _ => kP_mk W' (xs[i].1, x)) (fun _ hk => hk.elim)
  rw [Int.toNat_natCast] at hs
  exact own_row hB hc j hj (show W.grownBy (W.setCells g (i * kP.sz + 1) [.slice x.1 x.2.1 x.2.2]) (some g) from hs.2) hs.1
theorem has_get {xs : List P2} {k : Int} (hh : has xs k = true) : ∃ h : pos xs k < xs.length, xs[pos xs k].1 = k := by
  unfold has at hh
  split at hh
  · rename_i p hp
    obtain ⟨h1, h2⟩ := List.getElem?_eq_some_iff.1 hp
    refine ⟨h1, ?_⟩
    rw [h2]
    have hc := of_decide_eq_true hh
    unfold cmpv at hc
    split at hc
    · cases hc
    · split at hc
      · cases hc
      · exact lt_total (by simp_all) (by simp_all)
  · cases hh
def valL (xs : List P2) (k : Int) : Hdr := if has xs k = true then (xs.getD (pos xs k) ((0 : Int), hz)).2 else hz
def setL (xs : List P2) (k : Int) (x : Hdr) : List P2 := if has xs k = true then xs.set (pos xs k) (k, x) else xs.take (pos xs k) ++ (k, x) :: xs.drop (pos xs k)
set_option maxHeartbeats 2000000 in
set_option maxRecDepth 100000 in
theorem get_O {w W : World} {l : List Thing} (h : Own w W l) {i j g : Nat} {v : Value} {xs : List P2} (hm : IsMap l i j g v xs) (hr : Rise xs) (hl : xs.length ≤ 1000000) (k : Int) :
    Calls Try.prog 30 #[.pointer (some ⟨g, 0, none⟩), .int .i64 k] W fun ex W' => ex = .returned (.tuple #[.slice (valL xs k).1 (valL xs k).2.1 (valL xs k).2.2, .bool (has xs k)]) ∧ Below W.heap.size W W' := by
  obtain ⟨A, c, rfl, hlc, hC⟩ := h.reads j hm.row
  have hbx := h.box i hm.box
  have hF := Aside0.mk (find_calls k hbx hC hr hl)
  have hc0 : W.cell? ⟨g, 0, none⟩ = some (.slice A xs.length c) := (blk_cell hbx 0).trans rfl
  have hlt := blk_lt hbx
  cases hh : has xs k with
  | true =>
    obtain ⟨hp, hk⟩ := has_get hh
    obtain ⟨ad, rfl, hx0, hx1⟩ := at_P hC (pos xs k) hp rfl
    have hv : valL xs k = xs[pos xs k].2 := by unfold valL; rw [if_pos hh, List.getD_eq_getElem?_getD, List.getElem?_eq_getElem hp, Option.getD_some]
    have hlx := World.block_lt_of_cell? W _ hx1
    rw [hh] at hF
    rw [hv]
    generalize hq : pos xs k = q at hF hp hx0 hx1 hk hlx ⊢
    generalize hy : xs[q].2 = y at hx1 ⊢
    have HP := Aside0.mk hp
    clear hC hx0 hbx hk hv hh hq hy
    have hp2 := HP.out
    have hlt2 := hlt
    go_enter Try.func30, Try.ntmps30
    go_wp2_with (go_at_call 43; refine hF.out.mono ?_; rintro e w' ⟨rfl, hb'⟩; have hc1 : w'.cell? ⟨g, 0, none⟩ = some (.slice (some ad) xs.length c) := (hb'.cell hlt).trans hc0; have hx2 := (hb'.cell hlx).trans hx1; have HB' := Aside0.mk hb'; clear hb' hc0 hx1)
    go_ret2
    exact ⟨rfl, HB'.out⟩
  | false =>
    have hv : valL xs k = hz := by unfold valL; rw [if_neg (by simp [hh])]
    rw [hh] at hF
    rw [hv]
    clear hC hbx hv
    go_enter Try.func30, Try.ntmps30
    go_wp2_with (go_at_call 43; refine hF.out.mono ?_; rintro e w' ⟨rfl, hb'⟩; have HB' := Aside0.mk hb'; clear hb')
    go_ret2
    exact ⟨rfl, HB'.out⟩
set_option maxHeartbeats 4000000 in
set_option maxRecDepth 100000 in
theorem set_O {w W : World} {l : List Thing} (h : Own w W l) {i j g : Nat} {v : Value} {xs : List P2} (hm : IsMap l i j g v xs) (hr : Rise xs) (hl : xs.length ≤ 999999) (k : Int) (x : Hdr) :
    Calls Try.prog 28 #[.pointer (some ⟨g, 0, none⟩), .int .i64 k, .slice x.1 x.2.1 x.2.2] W fun ex W' => ∃ v', ex = .returned (.tuple #[]) ∧ Own w W' ((l.set j (.row kP 102 v' (setL xs k x))).set i (.box g (.cells #[v'] 29 (0, 0)))) := by
  obtain ⟨A, c, rfl, hlc, hC⟩ := h.reads j hm.row
  have hbx := h.box i hm.box
  have hF := Aside0.mk (find_calls k hbx hC hr (by omega))
  have HO := Aside0.mk h
  have HM := Aside0.mk hm
  cases hh : has xs k with
  | true =>
    obtain ⟨hp, hk⟩ := has_get hh
    obtain ⟨g2, c2, cs, e2, -⟩ := h.elem j hm.row (pos xs k) hp
    cases e2
    have hs : setL xs k x = xs.set (pos xs k) (xs[pos xs k].1, x) := by unfold setL; rw [if_pos hh, hk]
    rw [hh] at hF
    rw [hs]
    generalize hq : pos xs k = q at hF hp ⊢
    have HP := Aside0.mk hp
    clear hC hbx hk hs hh hq h hm
    go_enter Try.func28, Try.ntmps28
    go_wp2_with (go_at_call 43; refine hF.out.mono ?_; rintro e w' ⟨rfl, hb'⟩; have HO2 := Aside0.mk (HO.out.below hb'); clear hb'; have hc1 : w'.cell? ⟨g, 0, none⟩ = some (.slice (some ⟨g2, 0, none⟩) xs.length c) := HO2.out.cell i HM.out.box 0; obtain ⟨g3, c3, cs3, e3, -, -, hK3, hcl3, hfz3⟩ := HO2.out.elem j HM.out.row q HP.out; cases e3; have hx1 : w'.cell? ⟨g2, q * 2 + 1, none⟩ = some (.slice xs[q].2.1 xs[q].2.2.1 xs[q].2.2.2) := hcl3 1 _ (by rw [kP_is hK3]; rfl); have hf1 : w'.frozen? ⟨g2, q * 2 + 1, none⟩ = false := hfz3 1; clear hK3 hcl3 hfz3)
    go_end0
    refine ⟨.slice (some ⟨g2, 0, none⟩) xs.length c, rfl, ?_⟩
    have h9 := put_val HO2.out j HM.out.row q HP.out x
    rw [set_same (i := i)]
    · exact h9
    · exact HM.out.box' _
  | false =>
    have hs : setL xs k x = (xs.take (pos xs k) ++ (k, hz) :: xs.drop (pos xs k)).set (pos xs k) (k, x) := by
      have hle := pos_le xs k
      have hT : (xs.take (pos xs k)).length = pos xs k := by rw [List.length_take]; omega
      unfold setL
      rw [if_neg (by simp [hh])]
      generalize xs.take (pos xs k) = T at hT
      rw [← hT]
      simp
    have hple := pos_le xs k
    rw [hh] at hF
    rw [hs]
    generalize hq : pos xs k = q at hF hple ⊢
    have hyl : (xs.take q ++ (k, hz) :: xs.drop q).length = xs.length + 1 := by simp only [List.length_append, List.length_cons, List.length_take, List.length_drop]; omega
    have hyq : q < (xs.take q ++ (k, hz) :: xs.drop q).length := by omega
    have hye : (xs.take q ++ (k, hz) :: xs.drop q)[q].1 = k := by
      rw [List.getElem_append_right (by rw [List.length_take]; omega)]
      simp [List.length_take, Nat.min_eq_left hple]
    have HI := Aside0.mk (fun (w' : World) (hb' : Below W.heap.size W w') => insert_O (HO.out.below hb') j HM.out.row q hple (by omega) (k, hz))
    clear hC hbx hs hh hq h hm
    generalize xs.take q ++ (k, hz) :: xs.drop q = ys at HI hyl hyq hye ⊢
    have hqn : q < xs.length + 1 := by omega
    have HYQ := Aside0.mk hyq
    have HYE := Aside0.mk hye
    have HYL := Aside0.mk hyl
    clear hye hyl
    go_enter Try.func28, Try.ntmps28
    go_wp2_with (first
      | (go_at_call 43; refine hF.out.mono ?_; rintro e w' ⟨rfl, hb'⟩; have HB' := Aside0.mk hb'; have HO2 := Aside0.mk (HO.out.below hb'); clear hb'; have hc1 : w'.cell? ⟨g, 0, none⟩ = some (.slice A xs.length c) := HO2.out.cell i HM.out.box 0)
      | (go_at_call 44; refine (HI.out w' HB'.out).mono ?_; rintro e w2 ⟨v1, rfl, hO3⟩; have HO3 := Aside0.mk hO3; clear hO3; have hj3 := List.getElem?_set_self (a := Thing.row kP 102 v1 ys) (lt_of_get HM.out.row); obtain ⟨g3, c3, cs3, e3, -, -, hK3, hcl3, hfz3⟩ := HO3.out.elem j hj3 q HYQ.out; rw [HYL.out] at e3; cases e3; have hx1 : w2.cell? ⟨g3, q * 2 + 1, none⟩ = some (.slice ys[q].2.1 ys[q].2.2.1 ys[q].2.2.2) := hcl3 1 _ (by rw [kP_is hK3]; rfl); have hf1 : w2.frozen? ⟨g3, q * 2 + 1, none⟩ = false := hfz3 1; have hne : g3 ≠ g := HO3.out.row_ne i j (HM.out.box' _) hj3 HM.out.ne rfl; have hc2 : w2.cell? ⟨g, 0, none⟩ = some (.slice A xs.length c) := HO3.out.cell i (HM.out.box' _) 0; have hf2 : w2.frozen? ⟨g, 0, none⟩ = false := HO3.out.frozen i (HM.out.box' _) 0; clear hK3 hcl3 hfz3 hc1))
    go_end0
    refine ⟨.slice (some ⟨g3, 0, none⟩) (xs.length + 1) c3, rfl, ?_⟩
    have h4 := HO3.out.store i (HM.out.box' _) 0 (.slice (some ⟨g3, 0, none⟩) (xs.length + 1) c3) rfl
    have h5 := put_val h4 j (HM.out.upd _ ys).row q HYQ.out x
    rw [HYE.out, List.set_comm _ _ HM.out.ne, List.set_set] at h5
    exact h5
theorem setL_len (xs : List P2) (k : Int) (x : Hdr) : (setL xs k x).length ≤ xs.length + 1 := by
  have hle := pos_le xs k
  unfold setL
  split
  · rw [List.length_set]; omega
  · simp only [List.length_append, List.length_cons, List.length_take, List.length_drop]; omega
end Go.Proofs.Ytchpagboglomoaa.GP.MU
