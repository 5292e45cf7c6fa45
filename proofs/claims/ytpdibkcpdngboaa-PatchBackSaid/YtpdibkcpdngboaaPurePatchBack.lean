/- PatchBack's pure statement: what makes a text another one is as many pieces, at the same places and as long, as what makes that one the first again. Conditions: none but the sizes that any string has. -/
import Derived.Test.YtpdibkcpdngboaaGPx8
import Derived.Test.YtpdibkcpdngboaaPSpeaks
namespace Go.Proofs.Ytpdibkcpdngboaa.Pure
open Go.RowKit Go.Proofs.Ytpdibkcpdngboaa.GP Go.Proofs.YtpdibkcpdngboaaW.PrintWords Go.Proofs.YtpdibkcpdngboaaW.PrintLast
set_option linter.unusedVariables false
set_option linter.unusedSimpArgs false

theorem neAt_comm (a b : ByteArray) : neAt a b = neAt b a := by
  funext i
  simp only [neAt, ne_comm]

theorem chain_at (ne : Nat → Bool) (n : Nat) : ∀ (R : List (Nat × Nat)) (e : Nat), Chain ne n e R → ∀ i (h : i < R.length), R[i].1 < R[i].2 ∧ R[i].2 ≤ n ∧ ne R[i].1 = true
  | [], _, _, i, h => by simp at h
  | r :: R, e, hc, i, h => by
    obtain ⟨h1, h2, h3, h4, h5⟩ := hc
    cases i with
    | zero => exact ⟨h2, h3, h4⟩
    | succ i => exact chain_at ne n R r.2 h5 i (by simpa using h)


theorem back_loop (a b : ByteArray) (hab : a.size = b.size) (hn : b.size ≤ 1000) (R : List (Nat × Nat)) (hR : ∀ i (h : i < R.length), R[i].1 < R[i].2 ∧ R[i].2 ≤ b.size ∧ neAt a b R[i].1 = true) (hl : R.length ≤ 2000) :
    ∀ (d k i : Nat), i + d = R.length → d < k → concordancelaw06_PatchBack.l0 k (R.map (piece b)) (R.map (piece a)) (i : Int) = some true := by
  intro d
  induction d with
  | zero =>
    intro k i hi hk
    obtain ⟨k, rfl⟩ : ∃ m, k = m + 1 := ⟨k - 1, by omega⟩
    rw [concordancelaw06_PatchBack.l0.eq_2, if_neg (by rw [List.length_map]; omega)]
  | succ d ih =>
    intro k i hi hk
    obtain ⟨k, rfl⟩ : ∃ m, k = m + 1 := ⟨k - 1, by omega⟩
    have hlt : i < R.length := by omega
    obtain ⟨h1, h2, h3⟩ := hR i hlt
    have e1 : rd_T31 (R.map (piece b)) (i : Int) = piece b R[i] := by rw [getD_at _ i (by simpa using hlt), List.getElem_map]
    have e2 : rd_T31 (R.map (piece a)) (i : Int) = piece a R[i] := by rw [getD_at _ i (by simpa using hlt), List.getElem_map]
    rw [concordancelaw06_PatchBack.l0.eq_2, if_pos (by rw [List.length_map]; omega), if_pos (by omega), if_pos (by rw [List.length_map]; omega), e1, e2, if_pos (show (piece b R[i]).f0 = (piece a R[i]).f0 from rfl),
      if_pos (by simp only [piece]; rw [extract_size _ _ _ h2, extract_size _ _ _ (by omega)]), if_neg, show wrap64 ((i : Int) + 1) = ((i + 1 : Nat) : Int) by unfold wrap64; omega]
    · exact ih k (i + 1) (by omega) (by omega)
    · intro he
      rw [toList_data, toList_data] at he
      simp only [piece] at he
      have g : (b.extract R[i].1 R[i].2).data.toList.getD 0 0 = (a.extract R[i].1 R[i].2).data.toList.getD 0 0 := by rw [he]
      rw [extract_getD b _ _ _ (by omega), extract_getD a _ _ _ (by omega)] at g
      have : bt a R[i].1 = bt b R[i].1 := by
        rw [← getD_bt, ← getD_bt]
        simp only [Nat.add_zero] at g
        rw [g]
      simp [neAt, this] at h3

theorem PatchBack : concordancelaw06_PatchBack.Pure := by
  intro a b ha hb
  refine ⟨3000, ?_⟩
  unfold concordancelaw06_PatchBack.f
  rw [speaks_tells _ (by omega), Option.bind_some, if_pos rfl]
  by_cases hbig : (a.size : Int) > 1000
  · rw [if_pos hbig]
    rw [show (3000 : Nat) = 2999 + 1 from rfl, concordancelaw06_PatchBack.j0.eq_2, if_pos rfl]
  rw [if_neg hbig]
  by_cases hne : a.size = b.size
  · have hx : ((a.size : Int) != (b.size : Int)) = false := by rw [hne]; simp
    have hR : ∀ x y : ByteArray, x.size = y.size → diffL x y = (rgo (neAt x y) y.size 0 none).map (piece y) := fun _ _ _ => rfl
    have hch : Chain (neAt a b) b.size 0 (rgo (neAt a b) b.size 0 none) := rgo_chain _ _ _ _ _ _ (by omega) (fun _ => by omega) (fun _ _ h => by cases h)
    have hlen := (rgo_length (neAt a b) b.size 0 none).2 rfl
    rw [hx, show (3000 : Nat) = 2999 + 1 from rfl, concordancelaw06_PatchBack.j0.eq_2, if_neg (by simp), diff_tells a b hne (by omega) _ (by omega), Option.bind_some, diff_tells b a hne.symm (by omega) _ (by omega), Option.bind_some,
      apply_diff b a hne.symm (by omega), Option.bind_some, hR a b hne, hR b a hne.symm, neAt_comm b a, hne]
    generalize hG : rgo (neAt a b) b.size 0 none = R at hch hlen ⊢
    rw [if_pos (by simp), if_pos rfl, if_pos rfl]
    have hz : ((((R.map (piece b)).length : Int) == 0) != (a.toList == b.toList)) = false := by
      rw [List.length_map, toList_data, toList_data]
      cases R with
      | nil =>
        have : a.data.toList = b.data.toList := by
          apply list_ext_getD _ _ (by simpa using hne)
          intro j hj
          have hj' : j < b.size := by simpa using hj
          by_cases hq : neAt a b j = true
          · obtain ⟨r, hr, _⟩ := rgo_covers (neAt a b) b.size 0 j none (fun _ _ h => by cases h) (.inr ⟨by omega, by omega, hq⟩)
            rw [hG] at hr
            cases hr
          · have hq' : bt a j = bt b j := by simpa [neAt] using hq
            rw [← getD_bt, ← getD_bt] at hq'
            exact UInt8.toNat_inj.1 (by omega)
        simp [this]
      | cons r R =>
        obtain ⟨h1, h2, h3, h4, h5⟩ := hch
        have : a.data.toList ≠ b.data.toList := by
          intro he
          have : bt a r.1 = bt b r.1 := by rw [← getD_bt, ← getD_bt, he]
          simp [neAt, this] at h4
        have h0 : (((r :: R).length : Int) == 0) = false := by simp; omega
        rw [h0, beq_eq_false_iff_ne.2 this]
        rfl
    rw [hz, show (2999 : Nat) = 2998 + 1 from rfl, concordancelaw06_PatchBack.j1.eq_2, if_neg (by simp)]
    exact back_loop a b hne (by omega) R (chain_at _ _ _ 0 hch) (by omega) R.length 2998 0 (by omega) (by omega)
  · have hx : ((a.size : Int) != (b.size : Int)) = true := by rw [bne_iff_ne]; omega
    rw [hx, show (3000 : Nat) = 2999 + 1 from rfl, concordancelaw06_PatchBack.j0.eq_2, if_pos rfl]
end Go.Proofs.Ytpdibkcpdngboaa.Pure
