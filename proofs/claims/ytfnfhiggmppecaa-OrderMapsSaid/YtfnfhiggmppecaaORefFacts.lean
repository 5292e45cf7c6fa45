/- Plain facts of concordanceref04.Get and From, as they were printed: what they answer of a list of pairs. No program in sight. -/
import Derived.Test.YtfnfhiggmppecaaOMSE
import Derived.Test.YtfnfhiggmppecaaGOx1
namespace Go.Proofs.Ytfnfhiggmppecaa.GO.Ref
open Go.RowKit Go.Proofs.Ytfnfhiggmppecaa.Ownd Go.Proofs.YtfnfhiggmppecaaW.PrintWords Go.Proofs.YtfnfhiggmppecaaW.PrintLast Go.Proofs.YtfnfhiggmppecaaW.PrintMore
set_option linter.unusedVariables false
set_option linter.unusedSimpArgs false
theorem wr2 (n : Nat) (h : n < 9223372036854775807) : wrap64 ((n : Int) + 1) = ((n + 1 : Nat) : Int) := by unfold wrap64; omega
theorem rd_S (l : List ByteArray) (i : Nat) (h : i < l.length) : rdOf ByteArray.empty l (i : Int) = l[i] := by simp [rdOf, List.getD_eq_getElem?_getD, List.getElem?_eq_getElem h]
theorem rd_V (l : List Int) (i : Nat) (h : i < l.length) : rd l (i : Int) = l[i] := by simp [rd, List.getD_eq_getElem?_getD, List.getElem?_eq_getElem h]
def getM (m : List MS.P2) (k : ByteArray) : Int × Bool := match m.find? (fun p => decide (p.1.toList = k.toList)) with
  | some p => (p.2, true)
  | none => (0, false)
theorem get_loop (m : List MS.P2) (k : ByteArray) (hl : m.length ≤ 1000) : ∀ (d i f : Nat), i + d = m.length → d < f →
    concordanceref04_Get.l0 f k (i : Int) (m.map (·.1)) (m.map (·.2)) = some (getM (m.drop i) k) := by
  intro d
  induction d with
  | zero =>
    intro i f hi hf
    obtain ⟨f, rfl⟩ : ∃ q, f = q + 1 := ⟨f - 1, by omega⟩
    rw [concordanceref04_Get.l0.eq_2, if_neg (by rw [List.length_map]; omega), List.drop_of_length_le (by omega)]
    rfl
  | succ d ih =>
    intro i f hi hf
    obtain ⟨f, rfl⟩ : ∃ q, f = q + 1 := ⟨f - 1, by omega⟩
    have hlt : i < m.length := by omega
    have hn := ih (i + 1) f (by omega) (by omega)
    rw [concordanceref04_Get.l0.eq_2, if_pos (by rw [List.length_map]; omega), if_pos (by omega), rd_S _ i (by rw [List.length_map]; exact hlt), List.getElem_map, List.drop_eq_getElem_cons hlt, wr2 i (by omega), hn]
    unfold getM
    rw [List.find?_cons]
    by_cases he : m[i].1.toList = k.toList
    · rw [if_pos he, if_pos (by rw [List.length_map]; omega), rd_V _ i (by rw [List.length_map]; exact hlt), List.getElem_map, decide_eq_true he]
    · rw [if_neg he, decide_eq_false he]
theorem get_f (m : List MS.P2) (k : ByteArray) (hl : m.length ≤ 1000) : concordanceref04_Get.f 1002 (m.map (·.1)) (m.map (·.2)) k = some (getM m k) := by
  have h := get_loop m k hl m.length 0 1002 (by omega) (by omega)
  rw [List.drop_zero] at h
  exact h
/-- The map and the document's: the same pairs. -/
structure Alike (xs m : List MS.P2) : Prop where
  rise : MS.Rise xs
  once : (m.map (·.1)).Nodup
  mem : ∀ p, p ∈ xs ↔ p ∈ m
theorem alike_nil : Alike [] [] := ⟨List.Pairwise.nil, List.nodup_nil, fun p => Iff.rfl⟩
theorem sub_len {α : Type} : ∀ {l l' : List α}, l.Nodup → (∀ p ∈ l, p ∈ l') → l.length ≤ l'.length
  | [], _, _, _ => Nat.zero_le _
  | a :: r, l', hn, hs => by
    obtain ⟨s, t, rfl⟩ := List.append_of_mem (hs a (List.mem_cons_self ..))
    have hn' := List.nodup_cons.mp hn
    have h := sub_len (l := r) (l' := s ++ t) hn'.2 (fun p hp => by
      rcases List.mem_append.mp (hs p (List.mem_cons_of_mem _ hp)) with h | h
      · exact List.mem_append.mpr (Or.inl h)
      · rcases List.mem_cons.mp h with rfl | h
        · exact absurd hp hn'.1
        · exact List.mem_append.mpr (Or.inr h))
    simp only [List.length_append, List.length_cons] at h ⊢
    omega
theorem alike_len {xs m : List MS.P2} (h : Alike xs m) : xs.length = m.length := by
  have hx : xs.Nodup := by
    have := h.rise
    refine List.Pairwise.imp ?_ this
    intro a b hab e
    rw [e, MS.lt_irrefl] at hab
    cases hab
  have hm : m.Nodup := by
    have := h.once
    unfold List.Nodup at this
    rw [List.pairwise_map] at this
    exact List.Pairwise.imp (fun hne e => hne (by rw [e])) this
  exact Nat.le_antisymm (sub_len hx (fun p hp => (h.mem p).mp hp)) (sub_len hm (fun p hp => (h.mem p).mpr hp))
theorem alike_get {xs m : List MS.P2} (h : Alike xs m) (k : ByteArray) : getM m k = (MS.valL xs k, MS.has xs k) := by
  unfold getM
  cases hf : m.find? (fun p => decide (p.1.toList = k.toList)) with
  | some p =>
    have h1 := List.find?_some hf
    have h2 := List.mem_of_find?_eq_some hf
    have h3 : p.1 = k := MS.ext (of_decide_eq_true h1)
    have h4 : (k, p.2) ∈ xs := (h.mem _).mpr (by rw [← h3]; exact h2)
    show (p.2, true) = _
    rw [MS.val_of h.rise h4, (MS.has_iff h.rise k).mpr ⟨_, h4⟩]
  | none =>
    have h1 := List.find?_eq_none.mp hf
    have h2 : MS.has xs k = false := by
      cases hh : MS.has xs k with
      | false => rfl
      | true =>
        obtain ⟨v, hv⟩ := (MS.has_iff h.rise k).mp hh
        exact absurd (decide_eq_true rfl) (h1 _ ((h.mem _).mp hv))
    show ((0 : Int), false) = _
    rw [h2]
    unfold MS.valL
    rw [if_neg (by rw [h2]; decide)]
theorem keep_iff (k : ByteArray) (p : MS.P2) : (!(p.1.toList == k.toList)) = true ↔ p.1 ≠ k := by
  constructor
  · intro h e
    rw [e] at h
    simp at h
  · intro h
    cases hb : (p.1.toList == k.toList) with
    | false => rfl
    | true => exact absurd (MS.ext (by simpa using hb)) h
end Go.Proofs.Ytfnfhiggmppecaa.GO.Ref
