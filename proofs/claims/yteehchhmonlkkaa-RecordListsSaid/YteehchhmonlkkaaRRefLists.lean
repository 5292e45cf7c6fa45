/- The document's Split tells the same as the program's, in plain Lean. -/
import Derived.Test.YteehchhmonlkkaaRLists
import Derived.Test.YteehchhmonlkkaaHRefJoin
import Derived.Test.YteehchhmonlkkaaGPx6
namespace Go.Proofs.Yteehchhmonlkkaa.GP
open Go.RowKit Go.Proofs.YteehchhmonlkkaaW.PrintWords Go.Proofs.YteehchhmonlkkaaW.PrintLast Go.Proofs.YteehchhmonlkkaaW.PrintMore Go.Proofs.Yteehchhmonlkkaa.Copy
set_option linter.unusedVariables false
set_option linter.unusedSimpArgs false
set_option maxHeartbeats 400000

theorem refSplit_end (k : Nat) (x6 : List ByteArray) (x5 x7 : Int) (s : ByteArray) (e : Int) : concordanceref07_Split.j1 (k + 1) x5 x6 x7 false s e = some (splitOut (x6, s, e)) := by
  rw [concordanceref07_Split.j1.eq_2, if_neg (by decide)]
  unfold splitOut
  by_cases he : e = 0
  · subst he
    rw [if_pos rfl, if_pos (show ((x6, s, (0 : Int)) : List ByteArray × ByteArray × Int).2.2 = 0 from rfl)]
    by_cases hs : s.size = 0
    · rw [if_pos ((data_nil s).mpr hs), if_pos (show ((x6, s, (0 : Int)) : List ByteArray × ByteArray × Int).2.1.size = 0 from hs)]
    · rw [if_neg (fun h => hs ((data_nil s).mp h)), if_neg (show ¬ ((x6, s, (0 : Int)) : List ByteArray × ByteArray × Int).2.1.size = 0 from hs)]
  · rw [if_neg he, if_neg (show ¬ ((x6, s, e) : List ByteArray × ByteArray × Int).2.2 = 0 from he)]
theorem refSplit_out (k : Nat) (hk : 2 ≤ k) (x6 : List ByteArray) (x5 x7 : Int) (s : ByteArray) (e : Int) (h : ¬ x7 < x5 ∨ e ≠ 0) : concordanceref07_Split.l0 k x5 x6 x7 s e = some (splitOut (x6, s, e)) := by
  obtain ⟨k, rfl⟩ : ∃ m, k = m + 1 + 1 := ⟨k - 2, by omega⟩
  rw [concordanceref07_Split.l0.eq_2]
  by_cases hx : x7 < x5
  · have he : e ≠ 0 := h.resolve_left (fun h => h hx)
    rw [if_pos hx, show (e == 0) = false from beq_eq_false_iff_ne.mpr he]
    exact refSplit_end k _ _ _ _ _
  · rw [if_neg hx]
    exact refSplit_end k _ _ _ _ _
theorem refSplit_loop (n : Nat) (hn : n ≤ 65535) : ∀ (d k i : Nat) (s : ByteArray) (acc : List ByteArray), i + d = n → acc.length = i → 2 * d + 20 ≤ k →
    concordanceref07_Split.l0 k (n : Int) acc (i : Int) s 0 = some (splitOut (splitGo d s acc)) := by
  intro d
  induction d with
  | zero =>
    intro k i s acc h1 h2 h3
    exact refSplit_out k (by omega) _ _ _ _ _ (Or.inl (by omega))
  | succ d ih =>
    intro k i s acc h1 h2 h3
    obtain ⟨k, rfl⟩ : ∃ m, k = m + 1 + 1 := ⟨k - 2, by omega⟩
    rw [concordanceref07_Split.l0.eq_2, if_pos (by omega), show ((0 : Int) == 0) = true from rfl, concordanceref07_Split.j1.eq_2, if_pos (show true = true from rfl), show (2 : Int) = ((2 : Nat) : Int) from rfl, refNumber_tells s 0 2 (by omega) k (by omega), Option.bind_some]
    show (Option.bind (concordanceref07_Take.f k (numP s 0 2).2.1 (numP s 0 2).2.2 ((numP s 0 2).1 : Int)) _) = _
    rw [refTake_tells _ _ _ k (by omega), Option.bind_some, if_pos (by omega), wid ((i : Int) + 1) (by omega) (by omega), show (i : Int) + 1 = ((i + 1 : Nat) : Int) by omega]
    show concordanceref07_Split.l0 k (n : Int) (acc ++ [(textP s 0).1]) ((i + 1 : Nat) : Int) (textP s 0).2.1 (textP s 0).2.2 = _
    unfold splitGo
    by_cases he : (textP s 0).2.2 = 0
    · rw [if_pos he, he]
      exact ih k (i + 1) _ _ (by omega) (by rw [List.length_append, h2]; rfl) (by omega)
    · rw [if_neg he]
      exact refSplit_out k (by omega) _ _ _ _ _ (Or.inr he)
theorem refSplit_tells (s : ByteArray) (k : Nat) (hk : 140000 ≤ k) : concordanceref07_Split.f k s = some (splitP s) := by
  have hlt := numP_lt s 0 2
  unfold concordanceref07_Split.f
  rw [show (2 : Int) = ((2 : Nat) : Int) from rfl, refNumber_tells s 0 2 (by omega) k (by omega), Option.bind_some]
  show concordanceref07_Split.l0 k ((numP s 0 2).1 : Int) ([] : List ByteArray) 0 (numP s 0 2).2.1 (numP s 0 2).2.2 = _
  unfold splitP
  by_cases he : (numP s 0 2).2.2 = 0
  · rw [if_pos he, he]
    exact refSplit_loop _ (by omega) _ k 0 _ [] (by omega) rfl (by omega)
  · rw [if_neg he, refSplit_out k (by omega) _ _ _ _ _ (Or.inr he)]
    unfold splitOut
    rw [if_neg (show ¬ (([] : List ByteArray), (numP s 0 2).2.1, (numP s 0 2).2.2).2.2 = 0 from he)]

end Go.Proofs.Yteehchhmonlkkaa.GP
