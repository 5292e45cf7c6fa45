/- TupleRows' parts in plain Lean: the values that the law makes; the document's Name. Conditions: texts of at most 1000 bytes. -/
import Derived.Test.YtcpehlllgfffkaaDoorTGood
import Derived.Test.YtcpehlllgfffkaaDoorGTx7
import Derived.Test.YtcpehlllgfffkaaDoorGTx4
import Derived.Test.YtcpehlllgfffkaaDoorGTx7
namespace Go.Proofs.YtcpehlllgfffkaaDoor.GT
open Go.RowKit Go.Proofs.YtcpehlllgfffkaaDoorW.PrintWords Go.Proofs.YtcpehlllgfffkaaDoorW.PrintLast
set_option linter.unusedVariables false
set_option linter.unusedSimpArgs false
def cutS (s : ByteArray) : ByteArray := s.extract 0 (min s.size 50)
def cutN (n : Int) : Int := if n < -1125899906842624 then -1125899906842624 else n
def vA (x : S23) : S25 := ⟨cutS x.f0, cutN x.f1, x.f2⟩
def vB (x : S23) : S26 := ⟨cutS x.f0, cutN x.f1, x.f2⟩
theorem one_is (s : ByteArray) (n : Int) (t : Bool) : concordancelaw19_one.f s n t = some (cutS s, cutN n, t, cutS s, cutN n, t) := by
  have hm : mn (s.size : Int) 50 = ((min s.size 50 : Nat) : Int) := by
    unfold mn
    by_cases h : (50 : Int) < (s.size : Int)
    · rw [if_pos h]; omega
    · rw [if_neg h]; omega
  unfold concordancelaw19_one.f cutS cutN
  rw [hm, if_pos (by omega), if_pos (by omega), Int.toNat_natCast]
  by_cases hn : n < -1125899906842624
  · rw [if_pos hn, if_pos hn]
  · rw [if_neg hn, if_neg hn]
theorem rd_W (l : List S23) (i : Nat) (h : i < l.length) : rd_T23 l (i : Int) = l[i] := by simp [rd_T23, List.getD_eq_getElem?_getD, List.getElem?_eq_getElem h]
theorem both_loop (l : List S23) : ∀ (d i k : Nat), i + d = min 10 l.length → d + 1 ≤ k →
    concordancelaw19_both.l0 k l ((l.take i).map vA) ((l.take i).map vB) (i : Int) = some ((l.take 10).map vA, (l.take 10).map vB) := by
  intro d
  induction d with
  | zero =>
    intro i k hi hk
    obtain ⟨k, rfl⟩ : ∃ m, k = m + 1 := ⟨k - 1, by omega⟩
    have ht : l.take i = l.take 10 := by
      rcases Nat.le_total 10 l.length with h1 | h1
      · rw [show i = 10 by omega]
      · rw [List.take_of_length_le (by omega), List.take_of_length_le h1]
    rw [concordancelaw19_both.l0.eq_2, ht]
    by_cases h1 : i < l.length
    · rw [if_pos (by omega), if_neg (by omega)]
    · rw [if_neg (by omega)]
  | succ d ih =>
    intro i k hi hk
    obtain ⟨k, rfl⟩ : ∃ m, k = m + 1 := ⟨k - 1, by omega⟩
    have hlt : i < l.length := by omega
    have hw : wrap64 ((i : Int) + 1) = ((i + 1 : Nat) : Int) := by rw [widN _ (by omega) (by omega)]; omega
    have ha : (l.take i).map vA ++ [vA l[i]] = (l.take (i + 1)).map vA := by rw [List.take_succ_eq_append_getElem hlt, List.map_append]; rfl
    have hb : (l.take i).map vB ++ [vB l[i]] = (l.take (i + 1)).map vB := by rw [List.take_succ_eq_append_getElem hlt, List.map_append]; rfl
    rw [concordancelaw19_both.l0.eq_2, if_pos (by omega), if_pos (by omega), if_pos (by omega), rd_W l i hlt, one_is, Option.bind_some]
    show (if ((l.take i).map vA).length + 1 < 4398046511104 then (if ((l.take i).map vB).length + 1 < 4398046511104 then concordancelaw19_both.l0 k l ((l.take i).map vA ++ [vA l[i]]) ((l.take i).map vB ++ [vB l[i]]) (wrap64 ((i : Int) + 1)) else none) else none) = _
    rw [if_pos (by rw [List.length_map, List.length_take]; omega), if_pos (by rw [List.length_map, List.length_take]; omega), ha, hb, hw]
    exact ih (i + 1) k (by omega) (by omega)
theorem both_tells (l : List S23) (k : Nat) (hk : 11 ≤ k) : concordancelaw19_both.f k l = some ((l.take 10).map vA, (l.take 10).map vB) := both_loop l (min 10 l.length) 0 k (by omega) (by omega)
theorem refName_loop (s : ByteArray) (hs : s.size ≤ 1000) : ∀ (d i k : Nat), 1 ≤ i → i + d = s.size → d + 1 ≤ k → concordanceref19_Name.l0 k s (i : Int) = some ((s.data.toList.drop i).all nameC && decide (s.size < 9)) := by
  have hz : s.data.toList.length = s.size := by simp
  intro d
  induction d with
  | zero =>
    intro i k h1 hi hk
    obtain ⟨k, rfl⟩ : ∃ m, k = m + 1 := ⟨k - 1, by omega⟩
    rw [concordanceref19_Name.l0.eq_2, if_neg (by omega), if_pos (by omega), List.drop_of_length_le (by omega)]
    congr 1
    rw [List.all_nil, Bool.true_and, decide_eq_decide]
    omega
  | succ d ih =>
    intro i k h1 hi hk
    obtain ⟨k, rfl⟩ : ∃ m, k = m + 1 := ⟨k - 1, by omega⟩
    have hw : wrap64 ((i : Int) + 1) = ((i + 1 : Nat) : Int) := by rw [widN _ (by omega) (by omega)]; omega
    rw [concordanceref19_Name.l0.eq_2, if_pos (by omega), if_pos (by omega), bt_name s i (by omega), hw, ih (i + 1) k (by omega) (by omega) (by omega), List.drop_eq_getElem_cons (show i < s.data.toList.length by omega), List.all_cons]
    generalize s.data.toList[i]'(by omega) = c
    clear hw
    generalize (s.data.toList.drop (i + 1)).all nameC = R
    generalize decide (s.size < 9) = D
    have yes : nameC c = true → some (R && D) = some (nameC c && R && D) := fun h => by rw [h, Bool.true_and]
    have no : nameC c = false → some false = some (nameC c && R && D) := fun h => by rw [h, Bool.false_and, Bool.false_and]
    by_cases a1 : 97 ≤ c.toNat
    · rw [if_pos (by omega)]
      by_cases a2 : c.toNat ≤ 122
      · rw [if_pos (by omega)]
        exact yes (by unfold nameC; rw [decide_eq_true a1, decide_eq_true a2]; rfl)
      · rw [if_neg (by omega), if_neg (by omega), if_neg (by omega), if_pos (by omega)]
        exact no (by unfold nameC; rw [decide_eq_false a2, decide_eq_false (show ¬ c.toNat ≤ 57 by omega), Bool.and_false, Bool.and_false]; rfl)
    · rw [if_neg (by omega), if_neg (by omega)]
      by_cases a3 : 48 ≤ c.toNat
      · rw [if_neg (by omega)]
        by_cases a4 : c.toNat ≤ 57
        · rw [if_neg (by omega)]
          exact yes (by unfold nameC; rw [decide_eq_true a3, decide_eq_true a4]; simp)
        · rw [if_pos (by omega)]
          exact no (by unfold nameC; rw [decide_eq_false a1, decide_eq_false a4]; simp)
      · rw [if_pos (by omega)]
        exact no (by unfold nameC; rw [decide_eq_false a1, decide_eq_false a3]; simp)
theorem refName_tells (s : ByteArray) (hs : s.size ≤ 1000) (k : Nat) (hk : s.size + 2 ≤ k) : concordanceref19_Name.f k s = some (nameB s) := by
  have hz : s.data.toList.length = s.size := by simp
  obtain ⟨k, rfl⟩ : ∃ m, k = m + 1 := ⟨k - 1, by omega⟩
  unfold concordanceref19_Name.f
  rw [concordanceref19_Name.l0.eq_2]
  cases hl : s.data.toList with
  | nil =>
    have h0 : s.size = 0 := by rw [← hz, hl]; rfl
    rw [if_neg (by omega), if_neg (by omega)]
    unfold nameB
    rw [hl]
  | cons c r =>
    have hpos : 0 < s.size := by rw [← hz, hl, List.length_cons]; omega
    have h0 : bt s 0 = (c.toNat : Int) := by
      have := bt_name s 0 (by omega)
      rw [show ((0 : Nat) : Int) = 0 from rfl] at this
      rw [this]
      simp only [hl, List.getElem_cons_zero]
    have hb : nameB s = (decide (s.size ≤ 8) && (decide (97 ≤ c.toNat) && (c :: r).all nameC)) := by unfold nameB; rw [hl]
    rw [hb, if_pos (by omega), if_pos (by omega), h0]
    by_cases a1 : 97 ≤ c.toNat
    · rw [if_pos (by omega)]
      by_cases a2 : c.toNat ≤ 122
      · have hnc : nameC c = true := by unfold nameC; rw [decide_eq_true a1, decide_eq_true a2]; rfl
        have hw : wrap64 (0 + 1) = ((1 : Nat) : Int) := by rw [widN _ (by omega) (by omega)]; rfl
        rw [if_pos (by omega), hw, refName_loop s hs (s.size - 1) 1 k (by omega) (by omega) (by omega), hl, List.drop_succ_cons, List.drop_zero, decide_eq_true a1, Bool.true_and, List.all_cons, hnc, Bool.true_and, Bool.and_comm]
        congr 2
        rw [decide_eq_decide]
        omega
      · have hnc : nameC c = false := by unfold nameC; rw [decide_eq_false a2, decide_eq_false (show ¬ c.toNat ≤ 57 by omega), Bool.and_false, Bool.and_false]; rfl
        rw [if_neg (by omega), if_pos rfl, List.all_cons, hnc, Bool.false_and, Bool.and_false, Bool.and_false]
    · rw [if_neg (by omega), if_pos rfl, decide_eq_false a1, Bool.false_and, Bool.and_false]
/-! The document's Good. -/
instance (s : ByteArray) (l : List ByteArray) : Decidable (s ∈ l) := decMem s l
def toY (c : S65) : S66 := ⟨c.f0, c.f1⟩
theorem rd_Y (l : List S65) (i : Nat) (h : i < l.length) : (rd_T66 (l.map toY) (i : Int)).f0 = l[i].f0 := by
  simp [rd_T66, List.getD_eq_getElem?_getD, List.getElem?_map, List.getElem?_eq_getElem h, toY]
theorem list_eq {a b : ByteArray} : (a.toList = b.toList) ↔ a = b := by
  have e : ∀ s : ByteArray, s.toList = s.data.toList := fun s => by first | rfl | exact ByteArray.toList_eq s
  rw [e, e]
  exact ⟨fun h => by cases a; cases b; simp only at h; rw [Array.ext' h], fun h => by rw [h]⟩
theorem refGood_l1 (l : List S65) (hl : l.length ≤ 1000) (i : Nat) (hi : i < l.length) : ∀ (d j m : Nat), j + d = i →
    concordanceref19_Good.l1 (m + d + 1) (l.map toY) (i : Int) (j : Int) = if l[i].f0 ∈ ((l.take i).drop j).map (·.f0) then some false else concordanceref19_Good.l0 m (l.map toY) ((i + 1 : Nat) : Int) := by
  have hlen : ((l.map toY).length : Int) = (l.length : Int) := by rw [List.length_map]
  intro d
  induction d with
  | zero =>
    intro j m hj
    have hw : wrap64 ((i : Int) + 1) = ((i + 1 : Nat) : Int) := by rw [widN _ (by omega) (by omega)]; omega
    rw [concordanceref19_Good.l1.eq_2, if_neg (by omega), hw, List.drop_of_length_le (by rw [List.length_take]; omega), if_neg (by simp)]
  | succ d ih =>
    intro j m hj
    have hw : wrap64 ((j : Int) + 1) = ((j + 1 : Nat) : Int) := by rw [widN _ (by omega) (by omega)]; omega
    have hjt : j < (l.take i).length := by rw [List.length_take]; omega
    rw [show m + (d + 1) + 1 = (m + d + 1) + 1 by omega, concordanceref19_Good.l1.eq_2, if_pos (by omega), if_pos (by omega), hlen, if_pos (by omega), if_pos (by omega), if_pos (by omega), rd_Y l j (by omega), rd_Y l i hi, hw, ih (j + 1) m (by omega),
      List.drop_eq_getElem_cons hjt, List.map_cons, List.getElem_take]
    by_cases he : l[j].f0 = l[i].f0
    · rw [if_pos (list_eq.mpr he), if_pos (by rw [he]; exact List.mem_cons_self)]
    · rw [if_neg (fun h => he (list_eq.mp h))]
      by_cases hm : l[i].f0 ∈ ((l.take i).drop (j + 1)).map (·.f0)
      · rw [if_pos hm, if_pos (List.mem_cons_of_mem _ hm)]
      · rw [if_neg hm, if_neg (fun h => (List.mem_cons.mp h).elim (fun e => he e.symm) hm)]
theorem refGood_loop (l : List S65) (hl : l.length ≤ 10) (hs : ∀ x ∈ l, x.f0.size ≤ 20) : ∀ (d i m : Nat), i + d = l.length → goodL [] (l.take i) → 40 + 12 * d ≤ m →
    concordanceref19_Good.l0 m (l.map toY) (i : Int) = some (goodB l) := by
  have hlen : ((l.map toY).length : Int) = (l.length : Int) := by rw [List.length_map]
  intro d
  induction d with
  | zero =>
    intro i m hi hg hm
    obtain ⟨m, rfl⟩ : ∃ q, m = q + 1 := ⟨m - 1, by omega⟩
    rw [List.take_of_length_le (by omega)] at hg
    rw [concordanceref19_Good.l0.eq_2, hlen, if_neg (by omega)]
    by_cases h0 : 1 ≤ l.length
    · rw [if_pos (by omega)]
      by_cases h4 : l.length ≤ 4
      · rw [goodB_yes ⟨hg, h0, h4⟩, decide_eq_true (by omega)]
      · rw [goodB_no (fun h => h4 h.2.2), decide_eq_false (by omega)]
    · rw [if_neg (by omega), goodB_no (fun h => h0 h.2.1)]
  | succ d ih =>
    intro i m hi hg hm
    obtain ⟨m, rfl⟩ : ∃ q, m = q + i + 2 := ⟨m - i - 2, by omega⟩
    have hil : i < l.length := by omega
    have hz := hs l[i] (List.getElem_mem hil)
    rw [show m + i + 2 = (m + i + 1) + 1 by omega, concordanceref19_Good.l0.eq_2, hlen, if_pos (by omega), if_pos (by omega), rd_Y l i hil, refName_tells _ (by omega) _ (by omega), Option.bind_some]
    cases hb : nameB l[i].f0 with
    | false => rw [if_neg (by decide), good_no l i hil (by rw [hb]; simp)]
    | true =>
      have h1 := refGood_l1 l (by omega) i hil i 0 m (by omega)
      rw [List.drop_zero] at h1
      rw [if_pos rfl, show (0 : Int) = ((0 : Nat) : Int) from rfl, h1]
      by_cases hm2 : l[i].f0 ∈ (l.take i).map (·.f0)
      · rw [if_pos hm2, good_no l i hil (fun h => h.2 hm2)]
      · rw [if_neg hm2]
        exact ih (i + 1) m (by omega) (good_step l i hil hg hb hm2) (by omega)
theorem refGood_tells (l : List S65) (hl : l.length ≤ 10) (hs : ∀ x ∈ l, x.f0.size ≤ 20) (k : Nat) (hk : 200 ≤ k) : concordanceref19_Good.f k (l.map toY) = some (goodB l) :=
  refGood_loop l hl hs l.length 0 k (by omega) trivial (by omega)
end Go.Proofs.YtcpehlllgfffkaaDoor.GT
