/- TupleRows in plain Lean: columns of any names and any values: ours and the document's Name, Good, Fits and Put say the same, and what was put is read again. No condition. -/
import Derived.Test.YtcpehlllgfffkaaDoorTBackAll
import Derived.Test.YtcpehlllgfffkaaDoorTSpeaks
import Derived.Test.YtcpehlllgfffkaaDoorGTx15
namespace Go.Proofs.YtcpehlllgfffkaaDoor.GT
open Go.RowKit Go.Proofs.YtcpehlllgfffkaaDoorW.PrintWords Go.Proofs.YtcpehlllgfffkaaDoorW.PrintLast
set_option linter.unusedVariables false
set_option linter.unusedSimpArgs false
def cutC (s : ByteArray) : ByteArray := s.extract 0 (min s.size 20)
def cX (c : S63) : S65 := ⟨cutC c.f0, c.f1⟩
theorem cutC_size (s : ByteArray) : (cutC s).size ≤ 20 := by unfold cutC; rw [ByteArray.size_extract]; omega
theorem cutS_size (s : ByteArray) : (cutS s).size ≤ 50 := by unfold cutS; rw [ByteArray.size_extract]; omega
theorem rd_C (l : List S63) (i : Nat) (h : i < l.length) : rd_T63 l (i : Int) = l[i] := by simp [rd_T63, List.getD_eq_getElem?_getD, List.getElem?_eq_getElem h]
theorem putGo_tells : ∀ (a : List S25) (acc : List UInt8), ((∀ v ∈ a, errOf v = 0) ∧ putGo a acc = (⟨(acc ++ a.flatMap bodyOf).toArray⟩, 0)) ∨ ∃ e, e ≠ 0 ∧ putGo a acc = (⟨#[]⟩, e)
  | [], acc => Or.inl ⟨fun _ h => absurd h (by simp), by rw [List.flatMap_nil, List.append_nil]; rfl⟩
  | v :: a, acc => by
    by_cases h : errOf v = 0
    · rw [putGo, if_pos h]
      rcases putGo_tells a (acc ++ bodyOf v) with ⟨h1, h2⟩ | ⟨e, h1, h2⟩
      · refine Or.inl ⟨fun x hx => ?_, ?_⟩
        · rcases List.mem_cons.mp hx with rfl | hx
          · exact h
          · exact h1 x hx
        · rw [h2, List.flatMap_cons, List.append_assoc]
      · exact Or.inr ⟨e, h1, h2⟩
    · rw [putGo, if_neg h]
      exact Or.inr ⟨errOf v, h, rfl⟩
theorem same_l1 (a : List S25) (ha : a.length ≤ 100) : ∀ (d i k : Nat), i + d = a.length → d + 1 ≤ k → concordancelaw19_TupleRows.l1 k a a (i : Int) = some true := by
  intro d
  induction d with
  | zero =>
    intro i k h1 h2
    obtain ⟨k, rfl⟩ : ∃ m, k = m + 1 := ⟨k - 1, by omega⟩
    rw [concordancelaw19_TupleRows.l1.eq_2, if_neg (by omega)]
  | succ d ih =>
    intro i k h1 h2
    obtain ⟨k, rfl⟩ : ∃ m, k = m + 1 := ⟨k - 1, by omega⟩
    have hw : wrap64 ((i : Int) + 1) = ((i + 1 : Nat) : Int) := by rw [widN _ (by omega) (by omega)]; omega
    rw [concordancelaw19_TupleRows.l1.eq_2, if_pos (by omega), if_pos (by omega), if_pos (by omega), if_neg (by simp), hw]
    exact ih (i + 1) k (by omega) (by omega)
theorem rows_j3 (a : List S25) (ha : a.length ≤ 10) (s : ByteArray) (e : Int) (hs : s.size ≤ 100) (h : e = 0 → (∀ v ∈ a, errOf v = 0) ∧ s = ⟨(a.flatMap bodyOf).toArray⟩) (k : Nat) (hk : 3000 ≤ k) :
    concordancelaw19_TupleRows.j3 k a s e false = some true := by
  obtain ⟨k, rfl⟩ : ∃ m, k = m + 1 + 1 := ⟨k - 2, by omega⟩
  have hg : tuple_Get.f (k + 1) s = some ((getF s.size s.data.toList []).1.map toA, (getF s.size s.data.toList []).2) := by
    unfold tuple_Get.f
    rw [if_neg (by omega), get_tells s (by omega) _ (by omega), Option.bind_some]
  rw [concordancelaw19_TupleRows.j3.eq_2, if_neg (by decide), hg, Option.bind_some]
  by_cases he : e = 0
  · obtain ⟨h1, h2⟩ := h he
    have hd : s.data.toList = a.flatMap bodyOf := by rw [h2]
    have hz : (a.flatMap bodyOf).length = s.size := by rw [← hd, size_len]
    have hb : getF s.size s.data.toList [] = (a.map fun v => (v.f0, v.f1, v.f2), 0) := by
      rw [hd, getF_all a [] _ h1 (by omega), List.nil_append]
    have hm : (a.map fun v => (v.f0, v.f1, v.f2)).map toA = a := by
      rw [List.map_map]
      exact List.map_id' a
    rw [hb, if_pos he]
    show (if (0 : Int) = 0 then concordancelaw19_TupleRows.j4 (k + 1) a ((a.map fun v => (v.f0, v.f1, v.f2)).map toA) ((((a.map fun v => (v.f0, v.f1, v.f2)).map toA).length : Int) != (a.length : Int)) else _) = _
    rw [if_pos rfl, hm, show (((a.length : Nat) : Int) != (a.length : Int)) = false by simp, concordancelaw19_TupleRows.j4.eq_2, if_neg (by decide)]
    exact same_l1 a (by omega) a.length 0 k (by omega) (by omega)
  · rw [if_neg he]
theorem rows_j2 (a : List S25) (ha : a.length ≤ 10) (hs : ∀ x ∈ a, x.f0.size ≤ 50) (k : Nat) (hk : 30000 ≤ k) : concordancelaw19_TupleRows.j2 k a (a.map toU) false = some true := by
  obtain ⟨k, rfl⟩ : ∃ m, k = m + 1 := ⟨k - 1, by omega⟩
  have hp : tuple_Put.f k a = concordanceref19_Put.f k (a.map toU) ∧ ∃ s e, tuple_Put.f k a = some (s, e) ∧ s.size ≤ 100 ∧ (e = 0 → (∀ v ∈ a, errOf v = 0) ∧ s = ⟨(a.flatMap bodyOf).toArray⟩) := by
    unfold tuple_Put.f concordanceref19_Put.f
    rw [put_all a (by omega) hs k (by omega), refPut_tells a (by omega) hs k (by omega), Option.bind_some, Option.bind_some]
    rcases putGo_tells a [] with ⟨h1, h2⟩ | ⟨e, h1, h2⟩
    · rw [h2, List.nil_append]
      by_cases hb : ((⟨(a.flatMap bodyOf).toArray⟩ : ByteArray).size : Int) > 100
      · rw [if_pos rfl, if_pos rfl, if_pos hb]
        exact ⟨rfl, _, _, rfl, by decide, fun h => absurd h (by decide)⟩
      · rw [if_pos rfl, if_pos rfl, if_neg hb]
        exact ⟨rfl, (⟨(a.flatMap bodyOf).toArray⟩ : ByteArray), 0, rfl, by omega, fun _ => ⟨h1, rfl⟩⟩
    · rw [h2, if_neg h1, if_neg h1]
      exact ⟨rfl, _, _, rfl, by decide, fun h => absurd h h1⟩
  obtain ⟨h1, s, e, h2, h3, h4⟩ := hp
  rw [concordancelaw19_TupleRows.j2.eq_2, if_neg (by decide), ← h1, h2, Option.bind_some, Option.bind_some, if_pos rfl, show (e != e) = false by simp]
  exact rows_j3 a ha s e h3 h4 k (by omega)
theorem rows_end (c : List S63) (i : Int) (X : List S65) (hX : X.length ≤ 8) (hn : ∀ x ∈ X, x.f0.size ≤ 20) (a : List S25) (ha : a.length ≤ 10) (hs : ∀ x ∈ a, x.f0.size ≤ 50) (k : Nat) (hk : 40000 ≤ k) :
    concordancelaw19_TupleRows.j1 k c a (a.map toU) X (X.map toY) i false = some true := by
  obtain ⟨k, rfl⟩ : ∃ m, k = m + 1 := ⟨k - 1, by omega⟩
  obtain ⟨e, f1, f2⟩ := fits_same X a (by omega) hs k (by omega)
  rw [concordancelaw19_TupleRows.j1.eq_2, if_neg (by decide), show tuple_Good.f X = some (goodB X) from rfl, Option.bind_some, refGood_tells X (by omega) hn k (by omega), Option.bind_some, show (goodB X != goodB X) = false by simp, if_neg (by decide), f1, Option.bind_some, f2, Option.bind_some, show (e != e) = false by simp]
  exact rows_j2 a ha hs k (by omega)
theorem rows_l0 (c : List S63) (a : List S25) (ha : a.length ≤ 10) (hs : ∀ x ∈ a, x.f0.size ≤ 50) : ∀ (d i k : Nat), i + d = min 8 c.length → 50000 + 2 * d ≤ k →
    concordancelaw19_TupleRows.l0 k c a (a.map toU) ((c.take i).map cX) (((c.take i).map cX).map toY) (i : Int) = some true := by
  intro d
  have hsz : ∀ i, ∀ x ∈ (c.take i).map cX, x.f0.size ≤ 20 := by
    intro i x hx
    obtain ⟨y, _, rfl⟩ := List.mem_map.mp hx
    exact cutC_size _
  induction d with
  | zero =>
    intro i k hi hk
    obtain ⟨k, rfl⟩ : ∃ m, k = m + 1 := ⟨k - 1, by omega⟩
    have hend := rows_end c (i : Int) ((c.take i).map cX) (by rw [List.length_map, List.length_take]; omega) (hsz i) a ha hs k (by omega)
    rw [concordancelaw19_TupleRows.l0.eq_2]
    by_cases h1 : i < c.length
    · rw [if_pos (by omega), show decide ((i : Int) < 8) = false by rw [decide_eq_false_iff_not]; omega]
      exact hend
    · rw [if_neg (by omega)]
      exact hend
  | succ d ih =>
    intro i k hi hk
    obtain ⟨k, rfl⟩ : ∃ m, k = m + 1 + 1 := ⟨k - 2, by omega⟩
    have hlt : i < c.length := by omega
    have hw : wrap64 ((i : Int) + 1) = ((i + 1 : Nat) : Int) := by rw [widN _ (by omega) (by omega)]; omega
    have hx : (c.take i).map cX ++ [cX c[i]] = (c.take (i + 1)).map cX := by rw [List.take_succ_eq_append_getElem hlt, List.map_append]; rfl
    have hy : ((c.take i).map cX).map toY ++ [toY (cX c[i])] = ((c.take (i + 1)).map cX).map toY := by rw [← hx, List.map_append]; rfl
    have hm : mn (c[i].f0.size : Int) 20 = ((min c[i].f0.size 20 : Nat) : Int) := by
      unfold mn
      by_cases h : (20 : Int) < (c[i].f0.size : Int)
      · rw [if_pos h]; omega
      · rw [if_neg h]; omega
    have hcs := cutC_size c[i].f0
    have hl1 : ((c.take i).map cX).length = i := by rw [List.length_map, List.length_take]; omega
    have hl2 : (((c.take i).map cX).map toY).length = i := by rw [List.length_map, hl1]
    rw [concordancelaw19_TupleRows.l0.eq_2, if_pos (by omega), show decide ((i : Int) < 8) = true by rw [decide_eq_true_iff]; omega, concordancelaw19_TupleRows.j1.eq_2, if_pos rfl, if_pos (by omega), if_pos (by omega), rd_C c i hlt, hm, if_pos (by omega), if_pos (by omega), Int.toNat_natCast]
    show ((tuple_Name.f k (cutC c[i].f0)).bind fun t351 => ((concordanceref19_Name.f k (cutC c[i].f0)).bind fun t352 => (if (t351 != t352) = true then (none) else (if ((c.take i).map cX).length + 1 < 5864062014805 then (if (((c.take i).map cX).map toY).length + 1 < 5864062014805 then (concordancelaw19_TupleRows.l0 k c a (a.map toU) ((c.take i).map cX ++ [cX c[i]]) (((c.take i).map cX).map toY ++ [toY (cX c[i])]) (wrap64 ((i : Int) + 1))) else (none)) else (none))))) = _
    rw [name_tells _ k (by omega), Option.bind_some, refName_tells _ (by omega) k (by omega), Option.bind_some, if_neg (by simp), if_pos (by rw [hl1]; omega), if_pos (by rw [hl2]; omega), hx, hy, hw]
    exact ih (i + 1) k (by omega) (by omega)
/-- THE PLAIN LAW. -/
theorem rows_true (c : List S63) (l : List S23) : concordancelaw19_TupleRows.f 60000 c l = some true := by
  unfold concordancelaw19_TupleRows.f
  rw [Pure.speaks_tells 60000 (by omega), Option.bind_some, if_pos (show true = true from rfl), both_tells l 60000 (by omega), Option.bind_some]
  have hB : (l.take 10).map vB = ((l.take 10).map vA).map toU := by rw [List.map_map]; rfl
  have h := rows_l0 c ((l.take 10).map vA) (by rw [List.length_map, List.length_take]; omega) (fun x hx => by obtain ⟨y, _, rfl⟩ := List.mem_map.mp hx; exact cutS_size _) (min 8 c.length) 0 60000 (by omega) (by omega)
  rw [hB]
  exact h
end Go.Proofs.YtcpehlllgfffkaaDoor.GT
