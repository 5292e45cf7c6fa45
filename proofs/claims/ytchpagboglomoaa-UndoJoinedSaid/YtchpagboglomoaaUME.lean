/- order.Map (int keys): slices.Delete at pairs, Delete, From, over memory of the call's own. Conditions: the keys rise; at most 1000 pairs. -/
import Derived.Test.YtchpagboglomoaaUMD
import Derived.Deep.RegionLaw
namespace Go.Proofs.Ytchpagboglomoaa.GP.MU
open Go.RowKit Go.Proofs.Ytchpagboglomoaa.Ownd Go.Proofs.YtchpagboglomoaaW.PrintWords Go.Proofs.YtchpagboglomoaaW.PrintLast Go.Proofs.YtchpagboglomoaaW.PrintMore
set_option linter.unusedVariables false
set_option linter.unusedSimpArgs false
set_option maxHeartbeats 2000000 in
set_option maxRecDepth 100000 in
theorem deleteP_N {W : World} {base g n c k : Nat} {xs : List P2} {ok : Nat → Prop} (hN : Kd.N kP 102 W base ok (.slice (some ⟨g, 0, none⟩) n c) xs) (hk : k < n) (hbase : base ≤ W.heap.size) (hc : c ≤ 9223372036854775807) :
    Calls Try.prog 45 #[.slice (some ⟨g, 0, none⟩) n c, .int .i64 (k : Nat), .int .i64 ((k : Int) + 1)] W fun ex W' => ex = .returned (.slice (some ⟨g, 0, none⟩) (n - 1) c) ∧ Kd.N kP 102 W' base ok (.slice (some ⟨g, 0, none⟩) (n - 1) c) (xs.eraseIdx k) ∧ W.grownBy W' (some g) := by
  obtain ⟨q, rfl⟩ : ∃ q, n = q + 1 := ⟨n - 1, by omega⟩
  have hnc := (Kd.N_reads' hN).2.1
  have HN := Aside0.mk (Kd.N_drew hN)
  have HBd := Aside0.mk (Below.refl base W.drew)
  have HG0 := Aside0.mk (show W.grownBy W.drew (some g) from ⟨rfl, rfl, rfl, Nat.le_refl _, fun _ _ _ => rfl⟩)
  clear hN
  have hkc : k ≤ c := by omega
  have hkc1 : k + 1 ≤ c := by omega
  have hkn1 : k + 1 ≤ q + 1 := by omega
  have hkq : k ≤ q := by omega
  have hkz : 0 ≤ (k : Int) + 1 ∧ (k : Int) + 1 ≤ ((q + 1 : Nat) : Int) := by omega
  obtain ⟨A, hA, HA⟩ : ∃ A : Option Addr, (if c = k + 1 then some (⟨g, 0, none⟩ : Addr) else some ⟨g, (k + 1) * 2, none⟩) = A ∧ Aside0 (A = if c = k + 1 then some (⟨g, 0, none⟩ : Addr) else (some (⟨g, 0, none⟩ : Addr)).map (·.add ((k + 1) * kP.sz))) := by
    refine ⟨_, rfl, ⟨?_⟩⟩
    by_cases h : c = k + 1
    · rw [if_pos h, if_pos h]
    · rw [if_neg h, if_neg h, Option.map_some, show (k + 1) * kP.sz = (k + 1) * 2 from rfl, Addr.add_lit, Nat.zero_add]
  go_enter Try.func45, Try.ntmps45
  go_wp2_with fail
  go_region_law? (refine Kd.N_delete_step kP (w0 := W.drew) base (by simp [Region.wanted]) (.tmp 22) (.tmp 25) 25 102 rfl Try.underlying25 sizeP (g := g) (n := q + 1) (c := c) (k := k) (m := q - k) (c2 := c - (k + 1)) (A := A) (by simp [Act.eval, Act.put]) (by simp [Act.eval, Act.put]) HA.out (by omega) HN.out hk HBd.out hbase ?_; intro w1 hN1 hb1 hg1; rw [Nat.add_sub_cancel] at hN1 ⊢; have HN1 := Aside0.mk hN1; have HG1 := Aside0.mk hg1; clear hN1 hb1 hg1)
  have hcq : ¬ c = q := by omega
  have hcl : ∀ ty, (Builtin.clear_ #[25] ty #[.slice (some ⟨g, q * 2, none⟩) 1 (c - q)]).run Try.prog w1 = .ok (.tuple #[]) (w1.setCells g (q * 2) [.int .i64 (0 : Int), .slice none 0 0]) := fun ty =>
    run_clear_one w1 25 102 ty zP Try.underlying25 Try.zeroValue102 (by decide) (by decide) g (q * 2) (c - q) (fun j hj => N_room HN1.out (q * 2 + j) (by
      have : j < 2 := hj
      show q * 2 + j < c * 2
      omega))
  go_wp2
  go_ret
  obtain ⟨h2, h3⟩ := N_spare HN1.out [.int .i64 (0 : Int), .slice none 0 0] (q * 2) (by show q * 2 ≤ q * 2; omega)
  exact ⟨rfl, h2, ⟨h3.os.trans (HG1.out.os.trans HG0.out.os), h3.tape.trans (HG1.out.tape.trans HG0.out.tape), h3.output.trans (HG1.out.output.trans HG0.out.output), Nat.le_trans HG0.out.size (Nat.le_trans HG1.out.size h3.size), fun b hb hne => (h3.block b (Nat.lt_of_lt_of_le hb (Nat.le_trans HG0.out.size HG1.out.size)) hne).trans ((HG1.out.block b (Nat.lt_of_lt_of_le hb HG0.out.size) hne).trans (HG0.out.block b hb hne))⟩⟩
theorem deleteP_O {w W : World} {l : List Thing} (h : Own w W l) (j : Nat) {g n c k : Nat} {xs : List P2} (hj : l[j]? = some (.row kP 102 (.slice (some ⟨g, 0, none⟩) n c) xs)) (hk : k < n) :
    Calls Try.prog 45 #[.slice (some ⟨g, 0, none⟩) n c, .int .i64 (k : Nat), .int .i64 ((k : Int) + 1)] W fun ex W' => ex = .returned (.slice (some ⟨g, 0, none⟩) (n - 1) c) ∧ Own w W' (l.set j (.row kP 102 (.slice (some ⟨g, 0, none⟩) (n - 1) c) (xs.eraseIdx k))) := by
  have hge := h.ge
  obtain ⟨ok, hN⟩ := h.N j hj
  have hc : c ≤ 9223372036854775807 := by
    rcases N_nonnil hN with ⟨h', _⟩ | ⟨g', c', h', _, hm⟩
    · simp at h'
    · simp only [Value.slice.injEq] at h'
      obtain ⟨_, _, rfl⟩ := h'
      unfold maxLen at hm; omega
  refine (h.row_call j hj (R := fun ex v' => ex = .returned (.slice (some ⟨g, 0, none⟩) (n - 1) c) ∧ v' = .slice (some ⟨g, 0, none⟩) (n - 1) c) (d' := kP) (e' := 102) (zs := xs.eraseIdx k) (fun ok _ hN => (deleteP_N hN hk hge hc).mono fun ex W' ⟨h1, h2, h3⟩ => ⟨_, ⟨h1, rfl⟩, h2, by simpa [Value.ownBlock] using h3⟩)).mono ?_
  rintro ex W' ⟨v', ⟨h1, rfl⟩, h2⟩
  exact ⟨h1, h2⟩
/-- A map's pairs without a key. -/
def delL (xs : List P2) (k : Int) : List P2 := if has xs k = true then xs.eraseIdx (pos xs k) else xs
set_option maxHeartbeats 4000000 in
set_option maxRecDepth 100000 in
theorem mdel_O {w W : World} {l : List Thing} (h : Own w W l) {i j g : Nat} {v : Value} {xs : List P2} (hm : IsMap l i j g v xs) (hr : Rise xs) (hl : xs.length ≤ 100000) (k : Int) :
    Calls Try.prog 29 #[.pointer (some ⟨g, 0, none⟩), .int .i64 k] W fun ex W' => ∃ v', ex = .returned (.bool (has xs k)) ∧ Own w W' ((l.set j (.row kP 102 v' (delL xs k))).set i (.box g (.cells #[v'] 29 (0, 0)))) := by
  obtain ⟨A, c, rfl, hlc, hC⟩ := h.reads j hm.row
  have hbx := h.box i hm.box
  have hF := Aside0.mk (find_calls k hbx hC hr (by omega))
  have HO := Aside0.mk h
  have HM := Aside0.mk hm
  cases hh : has xs k with
  | true =>
    obtain ⟨hp, hk⟩ := has_get hh
    obtain ⟨g2, c2, cs, e2, -⟩ := h.elem j hm.row (pos xs k) hp
    cases e2
    have hs : delL xs k = xs.eraseIdx (pos xs k) := by unfold delL; rw [if_pos hh]
    rw [hh] at hF
    rw [hs]
    generalize hq : pos xs k = q at hF hp ⊢
    have HP := Aside0.mk hp
    have hw := wr1 (q : Int) (by omega) (by omega)
    clear hC hbx hk hs hh hq h hm
    go_enter Try.func29, Try.ntmps29
    go_wp2_with (first
      | (go_at_call 43; refine hF.out.mono ?_; rintro e w' ⟨rfl, hb'⟩; have HO2 := Aside0.mk (HO.out.below hb'); clear hb'; have hc1 : w'.cell? ⟨g, 0, none⟩ = some (.slice (some ⟨g2, 0, none⟩) xs.length c) := HO2.out.cell i HM.out.box 0)
      | (go_at_call 45; refine (deleteP_O HO2.out j HM.out.row HP.out).mono ?_; rintro e w3 ⟨rfl, hO3⟩; have HO3 := Aside0.mk hO3; clear hO3; have hc2 : w3.cell? ⟨g, 0, none⟩ = some (.slice (some ⟨g2, 0, none⟩) xs.length c) := HO3.out.cell i (HM.out.box' _) 0; have hf2 : w3.frozen? ⟨g, 0, none⟩ = false := HO3.out.frozen i (HM.out.box' _) 0))
    go_ret
    exact ⟨_, rfl, HO3.out.store i (HM.out.box' _) 0 (.slice (some ⟨g2, 0, none⟩) (xs.length - 1) c) rfl⟩
  | false =>
    have hs : delL xs k = xs := by unfold delL; rw [if_neg (by simp [hh])]
    rw [hh] at hF
    rw [hs]
    clear hC hbx hs hh h hm
    go_enter Try.func29, Try.ntmps29
    go_wp2_with (go_at_call 43; refine hF.out.mono ?_; rintro e w' ⟨rfl, hb'⟩; have HO2 := Aside0.mk (HO.out.below hb'); clear hb')
    go_ret
    refine ⟨.slice A xs.length c, rfl, ?_⟩
    rw [set_same HM.out.row, set_same HM.out.box]
    exact HO2.out
theorem mem_delL {xs : List P2} (hr : Rise xs) (k : Int) (p : P2) : p ∈ delL xs k ↔ p.1 ≠ k ∧ p ∈ xs := by
  unfold delL
  split
  · rename_i hh
    obtain ⟨h1, h2⟩ := has_get hh
    rw [List.mem_eraseIdx_iff_getElem]
    constructor
    · rintro ⟨i, hi, hne, rfl⟩
      refine ⟨fun e => ?_, List.getElem_mem hi⟩
      have hpw := List.pairwise_iff_getElem.mp hr
      rcases Nat.lt_or_gt_of_ne hne with h | h
      · have h3 := hpw i (pos xs k) hi h1 h
        rw [e, h2, lt_irrefl] at h3; cases h3
      · have h3 := hpw (pos xs k) i h1 hi h
        rw [e, h2, lt_irrefl] at h3; cases h3
    · rintro ⟨hk, hp⟩
      obtain ⟨t, ht, he⟩ := List.mem_iff_getElem.mp hp
      refine ⟨t, ht, ?_, he⟩
      rintro rfl
      exact hk (by rw [← he, h2])
  · rename_i hh
    exact ⟨fun hp => ⟨fun e => hh ((has_iff hr k).mpr ⟨p.2, by rw [← e]; exact hp⟩), hp⟩, fun h => h.2⟩
theorem delL_rise {xs : List P2} (hr : Rise xs) (k : Int) : Rise (delL xs k) := by
  unfold delL
  split
  · exact List.Pairwise.sublist (List.eraseIdx_sublist _ _) hr
  · exact hr
theorem delL_len (xs : List P2) (k : Int) : (delL xs k).length ≤ xs.length := by
  unfold delL
  split
  · exact (List.eraseIdx_sublist _ _).length_le
  · exact Nat.le_refl _
theorem reads' {w W : World} {l : List Thing} (h : Own w W l) (j : Nat) {A : Option Addr} {n c : Nat} {xs : List P2} (hj : l[j]? = some (.row kP 102 (.slice A n c) xs)) : n ≤ c ∧ Kd.C kP W A xs.length xs := by
  obtain ⟨A', c', e, h1, h2⟩ := h.reads j hj
  cases e
  exact ⟨h1, h2⟩
end Go.Proofs.Ytchpagboglomoaa.GP.MU
