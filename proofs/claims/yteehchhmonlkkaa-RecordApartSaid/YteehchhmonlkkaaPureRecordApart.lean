/- RecordApart in plain Lean: two made records that have bytes have the same bytes just where all in them is the same. No condition. -/
import Derived.Test.YteehchhmonlkkaaRSame
import Derived.Test.YteehchhmonlkkaaGPx14
namespace Go.Proofs.Yteehchhmonlkkaa.Pure
open Go.RowKit Go.Proofs.Yteehchhmonlkkaa.GP Go.Proofs.YteehchhmonlkkaaW.PrintWords Go.Proofs.YteehchhmonlkkaaW.PrintLast
set_option linter.unusedVariables false
theorem made_C (l : List S57) : pagesC' l = (pagesD' l).map toC := by
  unfold pagesC' pagesD'
  rw [List.map_map]
  congr 1
  funext x
  show madeC x = toC (madeD x)
  unfold madeC madeD toC
  simp only [List.map_map]
  rfl
theorem made_len (l : List S57) : (pagesD' l).length ≤ 300 := by unfold pagesD'; rw [List.length_map, List.length_take]; omega
theorem made_lens (l : List S57) : ∀ x ∈ pagesD' l, x.f1.length ≤ 10 := by
  intro x hx
  unfold pagesD' at hx
  obtain ⟨y, _, rfl⟩ := List.mem_map.mp hx
  unfold madeD
  rw [List.length_map, List.length_take]
  omega
theorem put_some (a b c : Int) (u : ByteArray) (d : Int) (l : List S57) : ∃ s e, record_Put.f a b c u d (pagesC' l) = some (s, e) := by
  unfold record_Put.f
  have h1 := made_len l
  have h2 := made_lens l
  rw [if_pos ⟨by rw [made_C, List.length_map]; omega, by
    rw [made_C, List.all_eq_true]
    intro x hx
    obtain ⟨y, hy, rfl⟩ := List.mem_map.mp hx
    have := h2 y hy
    unfold toC
    simp only [List.length_map, decide_eq_true_eq]
    omega⟩]
  split
  · split
    · exact ⟨_, _, rfl⟩
    · exact ⟨_, _, rfl⟩
  · exact ⟨_, _, rfl⟩
theorem bytes_of_list {a b : ByteArray} (h : a.toList = b.toList) : a = b := by
  have e : ∀ s : ByteArray, s.toList = s.data.toList := fun s => by first | rfl | exact ByteArray.toList_eq s
  rw [e, e] at h
  cases a
  cases b
  simp only at h
  rw [Array.ext' h]
theorem RecordApart (a b c d : Int) (u : ByteArray) (l : List S57) (a' b' c' d' : Int) (u' : ByteArray) (l' : List S57) : ∃ k, concordancelaw07_RecordApart.f k a b c d u l a' b' c' d' u' l' = some true := by
  obtain ⟨s, e, hp⟩ := put_some a b c (madeU u) d l
  obtain ⟨t, f, hq⟩ := put_some a' b' c' (madeU u') d' l'
  obtain ⟨K, hK⟩ := same_tells a b c (madeU u) d (pagesC' l) a' b' c' (madeU u') d' (pagesD' l') (by have := made_len l'; omega) (fun x hx => by have := made_lens l' x hx; omega)
  refine ⟨max K 301000, ?_⟩
  have hk : concordancelaw07_same.f (max K 301000) a b c (madeU u) d (pagesC' l) a' b' c' (madeU u') d' (pagesD' l') = some (decide (a = a' ∧ b = b' ∧ c = c' ∧ madeU u = madeU u' ∧ d = d' ∧ pagesC' l = (pagesD' l').map toC)) := hK (max K 301000) (by omega)
  unfold concordancelaw07_RecordApart.f
  rw [speaks_tells _ (by omega), Option.bind_some, if_pos (show true = true from rfl)]
  show ((record_Put.f a b c (madeU u) d (pagesC' l)).bind fun bt406 => ((record_Put.f a' b' c' (madeU u') d' (pagesC' l')).bind fun bt408 => (if bt406.2 = 0 then (if bt408.2 = 0 then ((concordancelaw07_same.f (max K 301000) a b c (madeU u) d (pagesC' l) a' b' c' (madeU u') d' (pagesD' l')).bind fun t410 => (some ((bt406.1.toList == bt408.1.toList) == t410))) else (some true)) else (some true)))) = some true
  rw [hp, hq, Option.bind_some, Option.bind_some, hk]
  show (if e = 0 then (if f = 0 then ((some (decide (a = a' ∧ b = b' ∧ c = c' ∧ madeU u = madeU u' ∧ d = d' ∧ pagesC' l = (pagesD' l').map toC))).bind fun t410 => some ((s.toList == t.toList) == t410)) else some true) else some true) = some true
  by_cases he : e = 0
  · by_cases hf : f = 0
    · subst he
      subst hf
      rw [if_pos rfl, if_pos rfl, Option.bind_some]
      have g1 := get_of_put _ _ _ _ _ _ _ hp
      have g2 := get_of_put _ _ _ _ _ _ _ hq
      rw [← made_C]
      by_cases hs : s = t
      · subst hs
        rw [g1] at g2
        have hall : a = a' ∧ b = b' ∧ c = c' ∧ madeU u = madeU u' ∧ d = d' ∧ pagesC' l = pagesC' l' := by
          simp only [Prod.mk.injEq] at g2
          exact ⟨g2.1, g2.2.1, g2.2.2.1, g2.2.2.2.1, g2.2.2.2.2.1, g2.2.2.2.2.2.1⟩
        rw [decide_eq_true hall]
        simp
      · have hno : ¬ (a = a' ∧ b = b' ∧ c = c' ∧ madeU u = madeU u' ∧ d = d' ∧ pagesC' l = pagesC' l') := by
          rintro ⟨rfl, rfl, rfl, h4, rfl, h6⟩
          rw [h4, h6, hq] at hp
          exact hs (congrArg Prod.fst (Option.some.inj hp)).symm
        rw [decide_eq_false hno]
        have hne : (s.toList == t.toList) = false := by
          rw [beq_eq_false_iff_ne]
          intro h
          exact hs (bytes_of_list h)
        rw [hne]
        rfl
    · rw [if_pos he, if_neg hf]
  · rw [if_neg he]
end Go.Proofs.Yteehchhmonlkkaa.Pure
