/- TupleRows' Fits: the program's and the document's tell the same. Conditions: texts of at most 50 bytes. -/
import Derived.Test.YtcpehlllgfffkaaDoorTRows
import Derived.Test.YtcpehlllgfffkaaDoorTEntry
import Derived.Test.YtcpehlllgfffkaaDoorGTx8
import Derived.Test.YtcpehlllgfffkaaDoorGTx8
namespace Go.Proofs.YtcpehlllgfffkaaDoor.GT
open Go.RowKit Go.Proofs.YtcpehlllgfffkaaDoorW.PrintWords Go.Proofs.YtcpehlllgfffkaaDoorW.PrintLast
set_option linter.unusedVariables false
set_option linter.unusedSimpArgs false
def toU (v : S25) : S26 := ⟨v.f0, v.f1, v.f2⟩
def fitsL : List S65 → List S25 → Int
  | [], _ => 0
  | _ :: _, [] => 0
  | c :: l, v :: a => if (v.f2 != c.f1) = true then 15 else if (oneL v.f0 v.f1 v.f2).2 = 0 then fitsL l a else (oneL v.f0 v.f1 v.f2).2
theorem rd_A (l : List S25) (i : Nat) (h : i < l.length) : rd_T25 l (i : Int) = l[i] := by simp [rd_T25, List.getD_eq_getElem?_getD, List.getElem?_eq_getElem h]
theorem rd_U (l : List S25) (i : Nat) (h : i < l.length) : rd_T26 (l.map toU) (i : Int) = toU l[i] := by
  simp [rd_T26, List.getD_eq_getElem?_getD, List.getElem?_map, List.getElem?_eq_getElem h]
theorem rd_Y2 (l : List S65) (i : Nat) (h : i < l.length) : (rd_T66 (l.map toY) (i : Int)).f1 = l[i].f1 := by
  simp [rd_T66, List.getD_eq_getElem?_getD, List.getElem?_map, List.getElem?_eq_getElem h, toY]
theorem fits_loop (l : List S65) (a : List S25) (hla : l.length = a.length) (ha : a.length ≤ 100) (hs : ∀ x ∈ a, x.f0.size ≤ 50) : ∀ (d i k : Nat), i + d = a.length → 100 + d ≤ k →
    tuple_Fits.l0 k l a (a.length : Int) (i : Int) = some (fitsL (l.drop i) (a.drop i)) ∧ concordanceref19_Fits.l0 k (l.map toY) (a.map toU) (i : Int) = some (fitsL (l.drop i) (a.drop i)) := by
  have hm : ((a.map toU).length : Int) = (a.length : Int) := by rw [List.length_map]
  have hy : ((l.map toY).length : Int) = (l.length : Int) := by rw [List.length_map]
  intro d
  induction d with
  | zero =>
    intro i k hi hk
    obtain ⟨k, rfl⟩ : ∃ m, k = m + 1 := ⟨k - 1, by omega⟩
    rw [tuple_Fits.l0.eq_2, if_neg (by omega), concordanceref19_Fits.l0.eq_2, hm, if_neg (by omega), List.drop_of_length_le (show l.length ≤ i by omega)]
    exact ⟨rfl, rfl⟩
  | succ d ih =>
    intro i k hi hk
    obtain ⟨k, rfl⟩ : ∃ m, k = m + 1 := ⟨k - 1, by omega⟩
    have hia : i < a.length := by omega
    have hil : i < l.length := by omega
    have hz := hs a[i] (List.getElem_mem hia)
    have hw : wrap64 ((i : Int) + 1) = ((i + 1 : Nat) : Int) := by rw [widN _ (by omega) (by omega)]; omega
    obtain ⟨g1, g2⟩ := ih (i + 1) k (by omega) (by omega)
    refine ⟨?_, ?_⟩
    · rw [tuple_Fits.l0.eq_2, if_pos (by omega), if_pos (by omega), if_pos (by omega), if_pos (by omega), rd_A a i hia, rd_T l i hil, List.drop_eq_getElem_cons hil, List.drop_eq_getElem_cons hia, fitsL]
      by_cases c1 : (a[i].f2 != l[i].f1) = true
      · rw [if_pos c1, if_pos c1]
      rw [if_neg c1, if_neg c1, show keys_Put.f k [(⟨a[i].f0, a[i].f1, a[i].f2⟩ : S25)] = _ from put_tells a[i].f0 a[i].f1 a[i].f2 (by omega) k (by omega), hw, g1, Option.bind_some]
      by_cases c2 : (oneL a[i].f0 a[i].f1 a[i].f2).2 = 0
      · rw [if_pos c2, if_pos c2]
      · rw [if_neg c2, if_neg c2]
    · rw [concordanceref19_Fits.l0.eq_2, hm, hy, if_pos (by omega), if_pos (by omega), if_pos (by omega), rd_U a i hia, rd_Y2 l i hil, List.drop_eq_getElem_cons hil, List.drop_eq_getElem_cons hia, fitsL]
      show (if (l[i].f1 != a[i].f2) = true then some 15 else (concordanceref01_One.f k a[i].f0 a[i].f1 a[i].f2).bind fun bt => if bt.2 = 0 then concordanceref19_Fits.l0 k (l.map toY) (a.map toU) (wrap64 ((i : Int) + 1)) else some bt.2) = _
      have hsw : (l[i].f1 != a[i].f2) = (a[i].f2 != l[i].f1) := by cases l[i].f1 <;> cases a[i].f2 <;> rfl
      rw [hsw]
      by_cases c1 : (a[i].f2 != l[i].f1) = true
      · rw [if_pos c1, if_pos c1]
      rw [if_neg c1, if_neg c1, refOne_tells a[i].f0 a[i].f1 a[i].f2 (by omega) k (by omega), hw, g2, Option.bind_some]
      by_cases c2 : (oneL a[i].f0 a[i].f1 a[i].f2).2 = 0
      · rw [if_pos c2, if_pos c2]
      · rw [if_neg c2, if_neg c2]
theorem fits_same (l : List S65) (a : List S25) (ha : a.length ≤ 100) (hs : ∀ x ∈ a, x.f0.size ≤ 50) (k : Nat) (hk : 200 ≤ k) : ∃ e, tuple_Fits.f k l a = some e ∧ concordanceref19_Fits.f k (l.map toY) (a.map toU) = some e := by
  unfold tuple_Fits.f concordanceref19_Fits.f
  rw [List.length_map, List.length_map]
  by_cases h : (l.length : Int) = (a.length : Int)
  · rw [if_pos h, if_pos h]
    obtain ⟨g1, g2⟩ := fits_loop l a (by omega) ha hs a.length 0 k (by omega) (by omega)
    exact ⟨_, g1, g2⟩
  · rw [if_neg h, if_neg h]
    exact ⟨_, rfl, rfl⟩
end Go.Proofs.YtcpehlllgfffkaaDoor.GT
