/- patch.Apply's contract: what the Go function comes to is 'patch_Apply.f': the pieces laid over the text, one behind the other, or the number of what is wrong with them. Conditions: the text and the list are no longer than any string or slice can be. -/
import Derived.Test.YteehchhmonlkkaaGPx2
import Derived.Test.YteehchhmonlkkaaHCopy
import Derived.Deep.RegionLaw
namespace Go.Proofs.Yteehchhmonlkkaa.GP
open Go.RowKit Go.Proofs.YteehchhmonlkkaaW.PrintWords Go.Proofs.YteehchhmonlkkaaW.PrintLast Go.Proofs.YteehchhmonlkkaaW.PrintMore Go.Proofs.Yteehchhmonlkkaa.Copy
set_option linter.unusedVariables false
set_option linter.unusedSimpArgs false

/-- May there be such pieces, the first not ahead of 'e'? -/
def rightB : Int → List S66 → Bool
  | _, [] => true
  | e, p :: l => decide (p.f1.size ≠ 0) && decide (p.f1.size ≤ 65535) && decide (e ≤ p.f0) && decide (p.f0 ≤ 65535) && rightB (p.f0 + p.f1.size) l
/-- Where the last piece ends. -/
def endOf : List S66 → Int
  | [] => 0
  | [p] => p.f0 + p.f1.size
  | _ :: l => endOf l
/-- Pieces laid over bytes. -/
def overlay (L : List UInt8) : List S66 → List UInt8
  | [] => L
  | p :: l => overlay (splice L p.f0.toNat p.f1.data.toList) l
def patch_Apply.f (s : ByteArray) (l : List S66) : Option (ByteArray × Int) :=
  if s.size ≤ 140737488351232 ∧ l.length ≤ 140737488351232 then
    (if rightB 0 l = true ∧ l.length ≤ 65535 then (if endOf l ≤ s.size then some (⟨(overlay s.data.toList l).toArray⟩, 0) else some (⟨#[]⟩, 6)) else some (⟨#[]⟩, 1)) else none

theorem data_nil (s : ByteArray) : s.toList = ([] : List UInt8) ↔ s.size = 0 := by
  have h : s.toList = s.data.toList := by first | rfl | exact ByteArray.toList_eq s
  rw [h]
  constructor
  · intro h0
    have := congrArg List.length h0
    simpa using this
  · intro h0
    apply List.eq_nil_of_length_eq_zero
    simpa using h0

theorem right_loop (l : List S66) : ∀ (d k i : Nat) (e : Int), i + d = l.length → d < k → 0 ≤ e → l.length ≤ 140737488351232 →
    patch_right.l0 k l e l (l.length : Int) (i : Int) = some (rightB e (l.drop i) && decide (l.length ≤ 65535)) := by
  intro d
  induction d with
  | zero =>
    intro k i e hi hk he hl
    obtain ⟨k, rfl⟩ : ∃ m, k = m + 1 := ⟨k - 1, by omega⟩
    simp only [patch_right.l0]
    rw [if_neg (by omega), List.drop_of_length_le (by omega)]
    simp [rightB]
    omega
  | succ d ih =>
    intro k i e hi hk he hl
    obtain ⟨k, rfl⟩ : ∃ m, k = m + 1 := ⟨k - 1, by omega⟩
    have hlt : i < l.length := by omega
    have hdrop : l.drop i = l[i] :: l.drop (i + 1) := List.drop_eq_getElem_cons hlt
    have hrd : rd_T66 l (i : Int) = l[i] := by simp [rd_T66, List.getD_eq_getElem?_getD, List.getElem?_eq_getElem hlt]
    simp only [patch_right.l0]
    rw [if_pos (by omega), if_pos (by omega), if_pos (by omega), hrd, hdrop]
    by_cases c1 : l[i].f1.size = 0
    · rw [if_pos ((data_nil _).2 c1)]; simp [rightB, c1]
    rw [if_neg (fun h => c1 ((data_nil _).1 h))]
    by_cases c2 : (l[i].f1.size : Int) > 65535
    · rw [if_pos c2]; simp only [rightB]; rw [decide_eq_false (show ¬ l[i].f1.size ≤ 65535 by omega)]; simp
    rw [if_neg c2]
    by_cases c3 : l[i].f0 < e
    · rw [if_pos c3]; simp only [rightB]; rw [decide_eq_false (show ¬ e ≤ l[i].f0 by omega)]; simp
    rw [if_neg c3]
    by_cases c4 : l[i].f0 > 65535
    · rw [if_pos c4]; simp only [rightB]; rw [decide_eq_false (show ¬ l[i].f0 ≤ 65535 by omega)]; simp
    rw [if_neg c4]
    have hw : wrap64 (l[i].f0 + (l[i].f1.size : Int)) = l[i].f0 + (l[i].f1.size : Int) := by unfold wrap64; omega
    have hw2 : wrap64 ((i : Int) + 1) = ((i + 1 : Nat) : Int) := by unfold wrap64; omega
    simp only [patch_Piece_end.f, Option.bind_some, hw, hw2]
    rw [ih k (i + 1) _ (by omega) (by omega) (by omega) hl]
    simp only [rightB]
    rw [decide_eq_true (show l[i].f1.size ≠ 0 from c1), decide_eq_true (show l[i].f1.size ≤ 65535 by omega), decide_eq_true (show e ≤ l[i].f0 by omega), decide_eq_true (show l[i].f0 ≤ 65535 by omega)]
    simp

theorem right_tells (l : List S66) (hl : l.length ≤ 140737488351232) : patch_right.f (l.length + 1) l = some (rightB 0 l && decide (l.length ≤ 65535)) := by
  unfold patch_right.f
  exact right_loop l l.length _ 0 0 (by omega) (by omega) (by omega) hl

/-- What a right list says of its k-th piece: it lies behind what is ahead, and ends no later than the last. -/
theorem rightB_at : ∀ (l : List S66) (e : Int), 0 ≤ e → rightB e l = true → ∀ i (h : i < l.length), e ≤ l[i].f0 ∧ 0 < l[i].f1.size ∧ l[i].f1.size ≤ 65535 ∧ l[i].f0 ≤ 65535 ∧ l[i].f0 + l[i].f1.size ≤ endOf l
  | [], _, _, _, i, h => by simp at h
  | p :: l, e, he, hr, i, h => by
    simp only [rightB, Bool.and_eq_true, decide_eq_true_eq] at hr
    obtain ⟨⟨⟨⟨h1, h2⟩, h3⟩, h4⟩, h5⟩ := hr
    have ih := rightB_at l (p.f0 + p.f1.size) (by omega) h5
    cases l with
    | nil =>
      have : i = 0 := by simp at h; omega
      subst this
      simp [endOf]
      omega
    | cons q l =>
      cases i with
      | zero =>
        have h0 := ih 0 (by simp)
        simp only [List.getElem_cons_zero, endOf] at h0 ⊢
        omega
      | succ i =>
        have h0 := ih i (by simpa using h)
        simp only [List.getElem_cons_succ, endOf] at h0 ⊢
        omega

theorem overlay_length : ∀ (l : List S66) (L : List UInt8) (e : Int), 0 ≤ e → rightB e l = true → endOf l ≤ L.length → (overlay L l).length = L.length
  | [], _, _, _, _, _ => rfl
  | p :: l, L, e, he, hr, hn => by
    have ha := rightB_at (p :: l) e he hr 0 (by simp)
    simp only [List.getElem_cons_zero] at ha
    simp only [rightB, Bool.and_eq_true, decide_eq_true_eq] at hr
    have hs : (splice L p.f0.toNat p.f1.data.toList).length = L.length := length_splice _ _ _ (by simp; omega)
    rw [overlay, overlay_length l _ (p.f0 + p.f1.size) (by omega) hr.2 (by
      rw [hs]
      cases l with
      | nil => simp [endOf]
      | cons q l => simpa [endOf] using hn), hs]

theorem overlay_snoc : ∀ (l : List S66) (L : List UInt8) (p : S66), overlay L (l ++ [p]) = splice (overlay L l) p.f0.toNat p.f1.data.toList
  | [], _, _ => rfl
  | q :: l, L, p => by simp only [List.cons_append, overlay]; exact overlay_snoc l _ p
theorem overlay_take_length (l : List S66) (L : List UInt8) (hr : rightB 0 l = true) (hn : endOf l ≤ L.length) : ∀ k, k ≤ l.length → (overlay L (l.take k)).length = L.length := by
  intro k
  induction k with
  | zero => intro _; simp [overlay]
  | succ k ih =>
    intro hk
    have hlt : k < l.length := by omega
    have ha := rightB_at l 0 (by omega) hr k hlt
    rw [List.take_succ_eq_append_getElem hlt, overlay_snoc, length_splice _ _ _ (by rw [ih (by omega)]; simp; omega), ih (by omega)]
theorem getD_at (l : List S66) (i : Nat) (h : i < l.length) : rd_T66 l (i : Int) = l[i] := by simp [rd_T66, List.getD_eq_getElem?_getD, List.getElem?_eq_getElem h]
theorem endOf_last : ∀ (l : List S66) (h : 0 < l.length), endOf l = (l[l.length - 1]'(by omega)).f0 + (l[l.length - 1]'(by omega)).f1.size
  | [p], _ => rfl
  | _ :: q :: l, _ => by
    have := endOf_last (q :: l) (by simp)
    simpa [endOf] using this
theorem str_of_bytes (L : List UInt8) : strOfNums (L.map fun b => (b.toNat : Int)) = ⟨L.toArray⟩ := by
  unfold strOfNums
  congr 2
  rw [List.map_map]
  conv => rhs; rw [← List.map_id L]
  apply List.map_congr_left
  intro b _
  simp
end Go.Proofs.Yteehchhmonlkkaa.GP
