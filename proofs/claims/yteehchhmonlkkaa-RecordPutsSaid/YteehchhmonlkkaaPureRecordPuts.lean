/- RecordPuts in plain Lean: the document's Put of the made record is the program's; what has bytes is read of them again, the same. No condition. -/
import Derived.Test.YteehchhmonlkkaaRSame
import Derived.Test.YteehchhmonlkkaaGPx13
namespace Go.Proofs.Yteehchhmonlkkaa.Pure
open Go.RowKit Go.Proofs.Yteehchhmonlkkaa.GP Go.Proofs.YteehchhmonlkkaaW.PrintWords Go.Proofs.YteehchhmonlkkaaW.PrintLast
set_option linter.unusedVariables false
theorem made_C (l : List S57) : pagesC' l = (pagesD' l).map toC := by
  unfold pagesC' pagesD'
  rw [List.map_map]
  congr 1
  funext x
  show madeC x = toC (madeD x)
  unfold madeC madeD toC
  simp only [List.map_map]
  rfl
theorem made_len (l : List S57) : (pagesD' l).length ≤ 300 := by unfold pagesD'; rw [List.length_map, List.length_take]; omega
theorem made_lens (l : List S57) : ∀ x ∈ pagesD' l, x.f1.length ≤ 10 := by
  intro x hx
  unfold pagesD' at hx
  obtain ⟨y, _, rfl⟩ := List.mem_map.mp hx
  unfold madeD
  rw [List.length_map, List.length_take]
  omega
theorem put_some (a b c : Int) (u : ByteArray) (d : Int) (l : List S57) : ∃ s e, record_Put.f a b c u d (pagesC' l) = some (s, e) := by
  unfold record_Put.f
  have h1 := made_len l
  have h2 := made_lens l
  rw [if_pos ⟨by rw [made_C, List.length_map]; omega, by
    rw [made_C, List.all_eq_true]
    intro x hx
    obtain ⟨y, hy, rfl⟩ := List.mem_map.mp hx
    have := h2 y hy
    unfold toC
    simp only [List.length_map, decide_eq_true_eq]
    omega⟩]
  split
  · split
    · exact ⟨_, _, rfl⟩
    · exact ⟨_, _, rfl⟩
  · exact ⟨_, _, rfl⟩
theorem RecordPuts (a b c d : Int) (u : ByteArray) (l : List S57) : ∃ k, concordancelaw07_RecordPuts.f k a b c d u l = some true := by
  obtain ⟨s, e, hp⟩ := put_some a b c (madeU u) d l
  have hq : concordanceref07_Put.f a b c (madeU u) d (pagesD' l) = some (s, e) := by
    unfold concordanceref07_Put.f
    rw [← hp, made_C]
    rfl
  obtain ⟨K, hK⟩ := same_tells a b c (madeU u) d (pagesC' l) a b c (madeU u) d (pagesD' l) (by have := made_len l; omega) (fun x hx => by have := made_lens l x hx; omega)
  rw [decide_eq_true ⟨rfl, rfl, rfl, rfl, rfl, made_C l⟩] at hK
  refine ⟨max K 301000 + 1, ?_⟩
  unfold concordancelaw07_RecordPuts.f
  rw [speaks_tells _ (by omega), Option.bind_some, if_pos (show true = true from rfl)]
  show ((record_Put.f a b c (madeU u) d (pagesC' l)).bind fun bt352 => ((concordanceref07_Put.f a b c (madeU u) d (pagesD' l)).bind fun bt354 => (if bt352.1.toList = bt354.1.toList then (concordancelaw07_RecordPuts.j0 (max K 301000 + 1) bt352.1 bt354.2 (bt352.2 != bt354.2) a b c (madeU u) d (pagesD' l)) else (concordancelaw07_RecordPuts.j0 (max K 301000 + 1) bt352.1 bt354.2 true a b c (madeU u) d (pagesD' l))))) = some true
  rw [hp, hq, Option.bind_some, Option.bind_some]
  show (if s.toList = s.toList then concordancelaw07_RecordPuts.j0 (max K 301000 + 1) s e (e != e) a b c (madeU u) d (pagesD' l) else _) = some true
  rw [if_pos rfl, concordancelaw07_RecordPuts.j0.eq_2, if_neg (by simp)]
  by_cases he : e = 0
  · subst he
    rw [if_pos rfl, recGet_tells s _ (by omega), get_of_put _ _ _ _ _ _ _ hp, Option.bind_some]
    show (if (0 : Int) = 0 then ((concordancelaw07_same.f (max K 301000) a b c (madeU u) d (pagesC' l) a b c (madeU u) d (pagesD' l)).bind fun t366 => some t366) else none) = some true
    have hk : concordancelaw07_same.f (max K 301000) a b c (madeU u) d (pagesC' l) a b c (madeU u) d (pagesD' l) = some true := hK (max K 301000) (by omega)
    rw [if_pos rfl, hk]
    rfl
  · rw [if_neg he]
end Go.Proofs.Yteehchhmonlkkaa.Pure
