/- Whether all in two records is the same, as law07.same tells it. No condition. -/
import Derived.Test.YteehchhmonlkkaaRBack
import Derived.Test.YteehchhmonlkkaaGPx7
namespace Go.Proofs.Yteehchhmonlkkaa.GP
open Go.RowKit Go.Proofs.YteehchhmonlkkaaW.PrintWords Go.Proofs.YteehchhmonlkkaaW.PrintLast Go.Proofs.YteehchhmonlkkaaW.PrintMore Go.Proofs.Yteehchhmonlkkaa.Copy
set_option linter.unusedVariables false
set_option linter.unusedSimpArgs false
set_option maxHeartbeats 400000

instance : DecidableEq S66 := fun x y =>
  if h : x.f0 = y.f0 ∧ x.f1 = y.f1 then isTrue (by cases x; cases y; simp only at h; rw [h.1, h.2]) else isFalse (fun e => h (by rw [e]; exact ⟨rfl, rfl⟩))
instance : DecidableEq S60 := fun x y =>
  if h : x.f0 = y.f0 ∧ x.f1 = y.f1 then isTrue (by cases x; cases y; simp only at h; rw [h.1, h.2]) else isFalse (fun e => h (by rw [e]; exact ⟨rfl, rfl⟩))
theorem rd_C (l : List S60) (i : Nat) (h : i < l.length) : rd_T60 l (i : Int) = l[i] := by simp [rd_T60, List.getD_eq_getElem?_getD, List.getElem?_eq_getElem h]
theorem rd_D (l : List S63) (i : Nat) (h : i < l.length) : rd_T63 l (i : Int) = l[i] := by simp [rd_T63, List.getD_eq_getElem?_getD, List.getElem?_eq_getElem h]
theorem rd_P (l : List S66) (i : Nat) (h : i < l.length) : rd_T66 l (i : Int) = l[i] := by simp [rd_T66, List.getD_eq_getElem?_getD, List.getElem?_eq_getElem h]
theorem rd_Q (l : List S67) (i : Nat) (h : i < l.length) : rd_T67 l (i : Int) = l[i] := by simp [rd_T67, List.getD_eq_getElem?_getD, List.getElem?_eq_getElem h]

/-- What is the same, told from a page on: from so many rounds on. -/
def Ev (f : Nat → Option Bool) (b : Bool) : Prop := ∃ K, ∀ k, K ≤ k → f k = some b
theorem same_inner (a b c : Int) (u : ByteArray) (v : Int) (l : List S60) (a' b' c' : Int) (u' : ByteArray) (v' : Int) (m : List S63) (hm : m.length ≤ 1000000) (hl : l.length = m.length) (i : Nat) (hi : i < m.length) (hp : (l[i]'(by omega)).f1.length = m[i].f1.length) (hb : m[i].f1.length ≤ 1000000) (r : Bool)
    (next : Ev (fun k => concordancelaw07_same.l0 k ((i + 1 : Nat) : Int) a b c u v l a' b' c' u' v' m) r) : ∀ (d j : Nat), j + d = m[i].f1.length →
    Ev (fun k => concordancelaw07_same.l1 k (i : Int) (j : Int) a b c u v l a' b' c' u' v' m) (decide ((l[i]'(by omega)).f1.drop j = (m[i].f1.drop j).map toP) && r) := by
  intro d
  induction d with
  | zero =>
    intro j hj
    obtain ⟨K, hK⟩ := next
    refine ⟨K + 1, fun k hk => ?_⟩
    obtain ⟨k, rfl⟩ : ∃ m, k = m + 1 := ⟨k - 1, by omega⟩
    (try simp only [] at hK); (try simp only [])
    rw [concordancelaw07_same.l1.eq_2, if_pos (by omega), if_pos (by omega), rd_D m i hi, if_neg (by omega), wid ((i : Int) + 1) (by omega) (by omega), show (i : Int) + 1 = ((i + 1 : Nat) : Int) by omega, hK k (by omega),
      List.drop_of_length_le (by omega), List.drop_of_length_le (by omega)]
    simp
  | succ d ih =>
    intro j hj
    obtain ⟨K, hK⟩ := ih (j + 1) (by omega)
    refine ⟨K + 1, fun k hk => ?_⟩
    obtain ⟨k, rfl⟩ : ∃ m, k = m + 1 := ⟨k - 1, by omega⟩
    (try simp only [] at hK); (try simp only [])
    have hjm : j < m[i].f1.length := by omega
    have hjl : j < (l[i]'(by omega)).f1.length := by omega
    rw [concordancelaw07_same.l1.eq_2, if_pos (by omega), if_pos (by omega), rd_D m i hi, if_pos (by omega), if_pos (by omega), if_pos (by omega), rd_C l i (by omega), if_pos (by omega), rd_P _ j hjl, rd_Q _ j hjm, wid ((j : Int) + 1) (by omega) (by omega), show (j : Int) + 1 = ((j + 1 : Nat) : Int) by omega,
      List.drop_eq_getElem_cons hjl, List.drop_eq_getElem_cons hjm, List.map_cons]
    by_cases he : (l[i]'(by omega)).f1[j] = toP m[i].f1[j]
    · have h1 : ((l[i]'(by omega)).f1[j]).f0 = (m[i].f1[j]).f0 := by rw [he]; rfl
      have h2 : ((l[i]'(by omega)).f1[j]).f1 = (m[i].f1[j]).f1 := by rw [he]; rfl
      rw [h1, h2, if_neg (by simp), hK k (by omega)]
      congr 2
      rw [he, decide_eq_decide]
      exact ⟨fun h => by rw [h], fun h => (List.cons.inj h).2⟩
    · rw [if_pos ?_]
      · rw [decide_eq_false (fun h => he (List.cons.inj h).1), Bool.false_and]
      · rw [Bool.or_eq_true]
        by_cases h1 : ((l[i]'(by omega)).f1[j]).f0 = (m[i].f1[j]).f0
        · right
          rw [Bool.not_eq_true', beq_eq_false_iff_ne]
          intro h2
          rw [toList_data, toList_data] at h2
          apply he
          have h3 := data_ext h2
          cases hx : (l[i]'(by omega)).f1[j]
          rw [hx] at h1 h3
          simp only at h1 h3
          rw [h1, h3]
          rfl
        · left
          rw [Bool.not_eq_true', beq_eq_false_iff_ne]
          exact h1
theorem same_outer (a b c : Int) (u : ByteArray) (v : Int) (l : List S60) (a' b' c' : Int) (u' : ByteArray) (v' : Int) (m : List S63) (hm : m.length ≤ 1000000) (hl : l.length = m.length) (hb : ∀ x ∈ m, x.f1.length ≤ 1000000) : ∀ (d i : Nat), i + d = m.length →
    Ev (fun k => concordancelaw07_same.l0 k (i : Int) a b c u v l a' b' c' u' v' m) (decide (l.drop i = (m.drop i).map toC)) := by
  intro d
  induction d with
  | zero =>
    intro i hi
    refine ⟨1, fun k hk => ?_⟩
    obtain ⟨k, rfl⟩ : ∃ m, k = m + 1 := ⟨k - 1, by omega⟩
    (try simp only [] at hK); (try simp only [])
    rw [concordancelaw07_same.l0.eq_2, if_neg (by omega), List.drop_of_length_le (by omega), List.drop_of_length_le (by omega)]
    simp
  | succ d ih =>
    intro i hi
    have him : i < m.length := by omega
    have hil : i < l.length := by omega
    have next := ih (i + 1) (by omega)
    have cons : (l.drop i = (m.drop i).map toC) ↔ (l[i] = toC m[i] ∧ l.drop (i + 1) = (m.drop (i + 1)).map toC) := by
      rw [List.drop_eq_getElem_cons hil, List.drop_eq_getElem_cons him, List.map_cons]
      exact ⟨fun h => ⟨(List.cons.inj h).1, (List.cons.inj h).2⟩, fun ⟨h1, h2⟩ => by rw [h1, h2]⟩
    by_cases hpage : l[i].f0 = m[i].f0
    · by_cases hlen : l[i].f1.length = m[i].f1.length
      · obtain ⟨K, hK⟩ := same_inner a b c u v l a' b' c' u' v' m hm hl i him hlen (hb _ (List.getElem_mem him)) _ next _ 0 (Nat.zero_add _)
        refine ⟨K + 2, fun k hk => ?_⟩
        obtain ⟨k, rfl⟩ : ∃ m, k = m + 1 + 1 := ⟨k - 2, by omega⟩
        (try simp only [] at hK); (try simp only [])
        rw [concordancelaw07_same.l0.eq_2, if_pos (by omega), if_pos (by omega), if_pos (by omega), rd_C l i hil, rd_D m i him, if_pos hpage, show (((l[i].f1).length : Int) != ((m[i].f1).length : Int)) = false by rw [hlen]; simp, concordancelaw07_same.j2.eq_2, if_neg (by decide)]
        have h := hK k (by omega)
        rw [show ((0 : Nat) : Int) = 0 from rfl] at h
        rw [h, List.drop_zero, List.drop_zero, ← Bool.decide_and]
        congr 1
        rw [decide_eq_decide, cons]
        refine and_congr ?_ Iff.rfl
        refine ⟨fun h => ?_, fun h => by rw [h]; rfl⟩
        cases hx : l[i]
        rw [hx] at hpage h
        simp only at hpage h
        rw [hpage, h]; rfl
      · refine ⟨2, fun k hk => ?_⟩
        obtain ⟨k, rfl⟩ : ∃ m, k = m + 1 + 1 := ⟨k - 2, by omega⟩
        (try simp only [] at hK); (try simp only [])
        rw [concordancelaw07_same.l0.eq_2, if_pos (by omega), if_pos (by omega), if_pos (by omega), rd_C l i hil, rd_D m i him, if_pos hpage, show (((l[i].f1).length : Int) != ((m[i].f1).length : Int)) = true by rw [bne_iff_ne]; omega, concordancelaw07_same.j2.eq_2, if_pos (show true = true from rfl),
          decide_eq_false (fun h => hlen (by rw [(cons.mp h).1]; simp [toC]))]
    · refine ⟨2, fun k hk => ?_⟩
      obtain ⟨k, rfl⟩ : ∃ m, k = m + 1 + 1 := ⟨k - 2, by omega⟩
      (try simp only [] at hK); (try simp only [])
      rw [concordancelaw07_same.l0.eq_2, if_pos (by omega), if_pos (by omega), if_pos (by omega), rd_C l i hil, rd_D m i him, if_neg hpage, concordancelaw07_same.j2.eq_2, if_pos (show true = true from rfl),
        decide_eq_false (fun h => hpage (by rw [(cons.mp h).1]; rfl))]
/-- same tells whether all is the same. -/
theorem same_tells (a b c : Int) (u : ByteArray) (v : Int) (l : List S60) (a' b' c' : Int) (u' : ByteArray) (v' : Int) (m : List S63) (hm : m.length ≤ 1000000) (hb : ∀ x ∈ m, x.f1.length ≤ 1000000) :
    Ev (fun k => concordancelaw07_same.f k a b c u v l a' b' c' u' v' m) (decide (a = a' ∧ b = b' ∧ c = c' ∧ u = u' ∧ v = v' ∧ l = m.map toC)) := by
  have no : ∀ k, 1 ≤ k → concordancelaw07_same.j0 k true a b c u v l a' b' c' u' v' m = some false := fun k hk => by
    obtain ⟨k, rfl⟩ : ∃ m, k = m + 1 := ⟨k - 1, by omega⟩
    rw [concordancelaw07_same.j0.eq_2, if_pos (show true = true from rfl)]
  by_cases h1 : a = a'
  · by_cases h2 : b = b'
    · by_cases h3 : c = c'
      · by_cases h4 : u = u'
        · by_cases h5 : v = v'
          · by_cases h6 : l.length = m.length
            · obtain ⟨K, hK⟩ := same_outer a b c u v l a' b' c' u' v' m hm h6 hb _ 0 (Nat.zero_add _)
              refine ⟨K + 1, fun k hk => ?_⟩
              obtain ⟨k, rfl⟩ : ∃ m, k = m + 1 := ⟨k - 1, by omega⟩
              (try simp only [] at hK); (try simp only [])
              have h := hK k (by omega)
              rw [show ((0 : Nat) : Int) = 0 from rfl, List.drop_zero, List.drop_zero] at h
              show concordancelaw07_same.f (k + 1) a b c u v l a' b' c' u' v' m = _
              unfold concordancelaw07_same.f
              rw [if_pos h1, if_pos h2, if_pos h3, if_pos (by rw [h4]), if_pos h5, show ((l.length : Int) != (m.length : Int)) = false by rw [h6]; simp, concordancelaw07_same.j0.eq_2, if_neg (by decide), h]
              congr 1
              rw [decide_eq_decide]
              exact ⟨fun h => ⟨h1, h2, h3, h4, h5, h⟩, fun h => h.2.2.2.2.2⟩
            · refine ⟨1, fun k hk => ?_⟩
              show concordancelaw07_same.f k a b c u v l a' b' c' u' v' m = _
              unfold concordancelaw07_same.f
              rw [if_pos h1, if_pos h2, if_pos h3, if_pos (by rw [h4]), if_pos h5, show ((l.length : Int) != (m.length : Int)) = true by rw [bne_iff_ne]; omega, no k hk, decide_eq_false (fun h => h6 (by rw [h.2.2.2.2.2, List.length_map]))]
          · refine ⟨1, fun k hk => ?_⟩
            show concordancelaw07_same.f k a b c u v l a' b' c' u' v' m = _
            unfold concordancelaw07_same.f
            rw [if_pos h1, if_pos h2, if_pos h3, if_pos (by rw [h4]), if_neg h5, no k hk, decide_eq_false (fun h => h5 h.2.2.2.2.1)]
        · refine ⟨1, fun k hk => ?_⟩
          show concordancelaw07_same.f k a b c u v l a' b' c' u' v' m = _
          unfold concordancelaw07_same.f
          rw [if_pos h1, if_pos h2, if_pos h3, if_neg (fun h => h4 (data_ext (by rw [toList_data, toList_data] at h; exact h))), no k hk, decide_eq_false (fun h => h4 h.2.2.2.1)]
      · refine ⟨1, fun k hk => ?_⟩
        show concordancelaw07_same.f k a b c u v l a' b' c' u' v' m = _
        unfold concordancelaw07_same.f
        rw [if_pos h1, if_pos h2, if_neg h3, no k hk, decide_eq_false (fun h => h3 h.2.2.1)]
    · refine ⟨1, fun k hk => ?_⟩
      show concordancelaw07_same.f k a b c u v l a' b' c' u' v' m = _
      unfold concordancelaw07_same.f
      rw [if_pos h1, if_neg h2, no k hk, decide_eq_false (fun h => h2 h.2.1)]
  · refine ⟨1, fun k hk => ?_⟩
    show concordancelaw07_same.f k a b c u v l a' b' c' u' v' m = _
    unfold concordancelaw07_same.f
    rw [if_neg h1, no k hk, decide_eq_false (fun h => h1 h.1)]
end Go.Proofs.Yteehchhmonlkkaa.GP
