/- TupleEntries' pure statement: entries of any value and number as bytes and back, what any bytes are as an entry and as a row: ours and the document's say the same. No condition. -/
import Derived.Test.YtcpehlllgfffkaaDoorTParse
import Derived.Test.YtcpehlllgfffkaaDoorGTx12
import Derived.Test.YtcpehlllgfffkaaDoorPureTupleIDs
namespace Go.Proofs.YtcpehlllgfffkaaDoor.GT
open Go.RowKit Go.Proofs.YtcpehlllgfffkaaDoorW.PrintWords Go.Proofs.YtcpehlllgfffkaaDoorW.PrintLast Go.Proofs.YtcpehlllgfffkaaDoorW.PrintMore
set_option linter.unusedVariables false
set_option linter.unusedSimpArgs false
set_option maxHeartbeats 400000

/-- What an entry's key is split into. -/
def splitL (s : ByteArray) : ByteArray × Int × Bool × Int × Int :=
  if s.size < 6 then (⟨#[]⟩, 0, false, 0, 3)
  else if (getF (s.size - 6) (s.data.toList.take (s.size - 6)) []).2 = 0 then
    (match (getF (s.size - 6) (s.data.toList.take (s.size - 6)) []).1 with
     | [v] => if 1 ≤ numL (s.data.toList.drop (s.size - 6)) ∧ numL (s.data.toList.drop (s.size - 6)) ≤ 1099511627776 then (v.1, v.2.1, v.2.2, (numL (s.data.toList.drop (s.size - 6)) : Int), 0) else (⟨#[]⟩, 0, false, 0, 2)
     | _ => (⟨#[]⟩, 0, false, 0, 2))
  else (⟨#[]⟩, 0, false, 0, (getF (s.size - 6) (s.data.toList.take (s.size - 6)) []).2)
theorem wr6 (s : ByteArray) (h : 6 ≤ s.size) (h2 : s.size ≤ 1000) : wrap64 ((s.size : Int) - 6) = ((s.size - 6 : Nat) : Int) := by
  rw [show (s.size : Int) - 6 = ((s.size - 6 : Nat) : Int) by omega]; exact wrN _ (by omega)
theorem head_size (s : ByteArray) (n : Nat) (h : n ≤ s.size) : (s.extract 0 n).size = n := by rw [ByteArray.size_extract]; omega
theorem tail_size (s : ByteArray) (n : Nat) : (s.extract n s.size).size = s.size - n := by rw [ByteArray.size_extract]; omega
theorem split_tells (s : ByteArray) (hs : s.size ≤ 1000) (k : Nat) (hk : 2010 ≤ k) : tuple_Split.f k s = some (splitL s) := by
  unfold tuple_Split.f splitL
  by_cases h6 : s.size < 6
  · rw [if_pos (by omega), if_pos h6]
  have hw := wr6 s (by omega) hs
  have hx := head_size s (s.size - 6) (by omega)
  have ht := tail_size s (s.size - 6)
  rw [if_neg (by omega), if_neg h6, hw, if_pos (by omega), if_pos (by omega), Int.toNat_natCast, get_tells (s.extract 0 (s.size - 6)) (by omega) k hk, Option.bind_some, sumGet_tells _ (by omega) k (by omega), Option.bind_some, hx, take_list, rest_list]
  clear hw hx ht
  generalize getF (s.size - 6) (s.data.toList.take (s.size - 6)) [] = G
  generalize numL (s.data.toList.drop (s.size - 6)) = id
  obtain ⟨L, e⟩ := G
  show (if e = 0 then (if ((L.map toA).length : Int) = 1 then (Option.bind (tuple_ID.f (id : Int)) fun t => (if t.toList = ([] : List UInt8) then some ((⟨#[]⟩ : ByteArray), (0 : Int), false, (0 : Int), (2 : Int)) else (if 0 < ((L.map toA).length : Int) then some ((rd_T25 (L.map toA) 0).f0, (rd_T25 (L.map toA) 0).f1, (rd_T25 (L.map toA) 0).f2, (id : Int), (0 : Int)) else none))) else some ((⟨#[]⟩ : ByteArray), 0, false, 0, 2)) else some ((⟨#[]⟩ : ByteArray), 0, false, 0, e)) = some (if e = 0 then _ else _)
  by_cases he : e = 0
  · rw [if_pos he, if_pos he]
    match L with
    | [] => rfl
    | [v] =>
      rw [if_pos (by rfl)]
      by_cases hid : 1 ≤ id ∧ id ≤ 1099511627776
      · rw [id_some (id : Int) (by omega) (by omega), Option.bind_some, if_neg (by rw [toListD]; unfold be6; simp), if_pos (by show (0 : Int) < 1; decide)]
        show some (v.1, v.2.1, v.2.2, (id : Int), (0 : Int)) = some (if 1 ≤ id ∧ id ≤ 1099511627776 then _ else _)
        rw [if_pos hid]
      · rw [id_none (id : Int) (by omega), Option.bind_some, if_pos (by rw [toListD])]
        show some ((⟨#[]⟩ : ByteArray), (0 : Int), false, (0 : Int), (2 : Int)) = some (if 1 ≤ id ∧ id ≤ 1099511627776 then _ else _)
        rw [if_neg hid]
    | v :: u :: L =>
      rw [if_neg (by simp only [List.map_cons, List.length_cons]; omega)]
  · rw [if_neg he, if_neg he]
theorem refSplit_tells (s : ByteArray) (hs : s.size ≤ 1000) : ∃ K, ∀ k, K ≤ k → concordanceref19_Split.f k s = some (splitL s) := by
  by_cases h6 : s.size < 6
  · refine ⟨0, fun k _ => ?_⟩
    unfold concordanceref19_Split.f splitL
    rw [if_pos (by rw [widn _ (by omega) (by omega)]; omega), if_pos h6]
  have hw := wr6 s (by omega) hs
  have hx := head_size s (s.size - 6) (by omega)
  have ht := tail_size s (s.size - 6)
  obtain ⟨K, hK⟩ := refGet_tells (s.extract 0 (s.size - 6)) (by omega)
  refine ⟨K + 7, fun k hk => ?_⟩
  unfold concordanceref19_Split.f splitL
  rw [hw, if_neg (by omega), if_neg h6, if_pos (by omega), if_pos (by omega), Int.toNat_natCast, hK k (by omega), Option.bind_some, ref02Get_tells _ (by omega) k (by omega), Option.bind_some, hx, take_list, rest_list]
  clear hw hx ht hK
  generalize getF (s.size - 6) (s.data.toList.take (s.size - 6)) [] = G
  generalize numL (s.data.toList.drop (s.size - 6)) = id
  obtain ⟨L, e⟩ := G
  show (if e = 0 then (if ((L.map toB).length : Int) = 1 then (if (id : Int) < 1 then some ((⟨#[]⟩ : ByteArray), (0 : Int), false, (0 : Int), (2 : Int)) else (if (id : Int) > 1099511627776 then some ((⟨#[]⟩ : ByteArray), 0, false, 0, 2) else (if 0 < ((L.map toB).length : Int) then some ((rd_T26 (L.map toB) 0).f0, (rd_T26 (L.map toB) 0).f1, (rd_T26 (L.map toB) 0).f2, (id : Int), (0 : Int)) else none))) else some ((⟨#[]⟩ : ByteArray), 0, false, 0, 2)) else some ((⟨#[]⟩ : ByteArray), 0, false, 0, e)) = some (if e = 0 then _ else _)
  by_cases he : e = 0
  · rw [if_pos he, if_pos he]
    match L with
    | [] => rfl
    | [v] =>
      rw [if_pos (by rfl)]
      by_cases hid : 1 ≤ id ∧ id ≤ 1099511627776
      · rw [if_neg (by omega), if_neg (by omega), if_pos (by show (0 : Int) < 1; decide)]
        show some (v.1, v.2.1, v.2.2, (id : Int), (0 : Int)) = some (if 1 ≤ id ∧ id ≤ 1099511627776 then _ else _)
        rw [if_pos hid]
      · show _ = some (if 1 ≤ id ∧ id ≤ 1099511627776 then _ else _)
        rw [if_neg hid]
        by_cases h1 : (id : Int) < 1
        · rw [if_pos h1]
        · rw [if_neg h1, if_pos (by omega)]
    | v :: u :: L =>
      rw [if_neg (by simp only [List.map_cons, List.length_cons]; omega)]
  · rw [if_neg he, if_neg he]

/-- A text that was put is read again. -/
theorem text_back : ∀ (T acc rest : List UInt8) (N : Nat), acc.length + T.length ≤ 20 → (T.flatMap escB ++ 0 :: 1 :: rest).length ≤ N → textF N (T.flatMap escB ++ 0 :: 1 :: rest) acc = (acc ++ T, rest, 0)
  | [], acc, rest, N, h1, h2 => by
    rw [List.flatMap_nil, List.nil_append] at h2 ⊢
    obtain ⟨N, rfl⟩ : ∃ m, N = m + 1 := ⟨N - 1, by simp only [List.length_cons] at h2; omega⟩
    unfold textF
    rw [if_pos rfl, List.append_nil]
    show (if (1 : UInt8) = 255 then _ else if (1 : UInt8) = 1 then (if 20 < acc.length then (([] : List UInt8), ([] : List UInt8), (6 : Int)) else (acc, rest, 0)) else _) = _
    rw [if_neg (by decide), if_pos rfl, if_neg (by simp only [List.length_nil] at h1; omega)]
  | b :: T, acc, rest, N, h1, h2 => by
    rw [List.flatMap_cons, List.append_assoc] at h2 ⊢
    rw [List.length_append] at h2
    simp only [List.length_cons] at h1
    by_cases hz : b = 0
    · have hb : escB b = [0, 255] := by unfold escB; rw [if_pos hz]
      rw [hb] at h2 ⊢
      obtain ⟨N, rfl⟩ : ∃ m, N = m + 1 := ⟨N - 1, by simp only [List.length_cons, List.length_nil] at h2; omega⟩
      show textF (N + 1) (0 :: 255 :: (T.flatMap escB ++ 0 :: 1 :: rest)) acc = _
      unfold textF
      rw [if_pos rfl]
      show (if (255 : UInt8) = 255 then textF N (T.flatMap escB ++ 0 :: 1 :: rest) (acc ++ [0]) else _) = _
      rw [if_pos rfl, text_back T (acc ++ [0]) rest N (by rw [List.length_append]; simp only [List.length_cons, List.length_nil]; omega) (by simp only [List.length_cons, List.length_nil] at h2; omega), hz, List.append_assoc]
      rfl
    · have hb : escB b = [b] := by unfold escB; rw [if_neg hz]
      rw [hb] at h2 ⊢
      obtain ⟨N, rfl⟩ : ∃ m, N = m + 1 := ⟨N - 1, by simp only [List.length_cons, List.length_nil] at h2; omega⟩
      show textF (N + 1) (b :: (T.flatMap escB ++ 0 :: 1 :: rest)) acc = _
      unfold textF
      rw [if_neg hz, text_back T (acc ++ [b]) rest N (by rw [List.length_append]; simp only [List.length_cons, List.length_nil]; omega) (by simp only [List.length_cons, List.length_nil] at h2; omega), List.append_assoc]
      rfl
theorem arr_self (s : ByteArray) : (⟨s.data.toList.toArray⟩ : ByteArray) = s := by cases s; simp
theorem body_back (s : ByteArray) (n : Int) (t : Bool) (h : errV s n t = 0) (N : Nat) (hN : (bodyV s n t).length ≤ N) : getF N (bodyV s n t) [] = ([(s, n, t)], 0) := by
  have hb : ¬ badV s n t := by
    intro hb
    unfold errV at h
    by_cases g : t = true ∧ 20 < s.size
    · rw [if_pos g] at h; exact absurd h (by decide)
    · rw [if_neg g, if_pos hb] at h; exact absurd h (by decide)
  cases t with
  | true =>
    have h20 : s.size ≤ 20 := by
      rcases Nat.lt_or_ge 20 s.size with g | g
      · unfold errV at h
        rw [if_pos ⟨rfl, g⟩] at h
        exact absurd h (by decide)
      · exact g
    have hn : n = 0 := Classical.byContradiction fun g => hb (Or.inl ⟨rfl, g⟩)
    have hbd : bodyV s n true = 32 :: (s.data.toList.flatMap escB ++ 0 :: 1 :: []) := by unfold bodyV; rw [if_pos rfl]
    rw [hbd] at hN ⊢
    obtain ⟨N, rfl⟩ : ∃ m, N = m + 1 := ⟨N - 1, by simp only [List.length_cons] at hN; omega⟩
    have htb := text_back s.data.toList [] [] (s.data.toList.flatMap escB ++ 0 :: 1 :: []).length (by rw [size_len]; simp only [List.length_nil]; omega) (Nat.le_refl _)
    unfold getF
    rw [if_neg (by decide), if_pos rfl, htb, if_pos rfl]
    show getF N [] ([] ++ [((⟨([] ++ s.data.toList).toArray⟩ : ByteArray), (0 : Int), true)]) = _
    rw [List.nil_append, List.nil_append, arr_self, hn]
    cases N <;> rfl
  | false =>
    have hs : s.size = 0 := Classical.byContradiction fun g => hb (Or.inr (Or.inl ⟨rfl, g⟩))
    have h0 : ¬ n < -1099511627776 := fun g => hb (Or.inr (Or.inr (Or.inl g)))
    have h1 : ¬ 1099511627776 < n := fun g => hb (Or.inr (Or.inr (Or.inr g)))
    have hbd : bodyV s n false = 16 :: be6 (n + 1099511627776) := by unfold bodyV; rw [if_neg (by decide)]
    have hv := numL_be6 (n + 1099511627776) (by omega) (by omega)
    rw [hbd] at hN ⊢
    obtain ⟨N, rfl⟩ : ∃ m, N = m + 1 := ⟨N - 1, by simp only [List.length_cons] at hN; omega⟩
    have hl : (be6 (n + 1099511627776)).length = 6 := rfl
    have htk : (be6 (n + 1099511627776)).take 6 = be6 (n + 1099511627776) := List.take_of_length_le (by omega)
    have hdr : (be6 (n + 1099511627776)).drop 6 = [] := List.drop_of_length_le (by omega)
    have hse : s = ⟨#[]⟩ := data_ext (List.eq_nil_of_length_eq_zero (by rw [size_len]; exact hs))
    unfold getF
    rw [if_pos rfl, htk, hdr, hl, if_neg (by decide)]
    generalize numL (be6 (n + 1099511627776)) = q at *
    rw [if_neg (by omega), show (q : Int) - 1099511627776 = n by omega, hse, List.nil_append]
    cases N <;> rfl
theorem split_entry (s : ByteArray) (n : Int) (t : Bool) (id : Int) (h : errV s n t = 0) (h0 : 1 ≤ id) (h1 : id ≤ 1099511627776) : splitL ⟨(bodyV s n t ++ be6 id).toArray⟩ = (s, n, t, id, 0) := by
  have hl6 : (be6 id).length = 6 := rfl
  have hsz : (⟨(bodyV s n t ++ be6 id).toArray⟩ : ByteArray).size = (bodyV s n t).length + 6 := by
    show (bodyV s n t ++ be6 id).length = _
    rw [List.length_append, hl6]
  have hd : (⟨(bodyV s n t ++ be6 id).toArray⟩ : ByteArray).data.toList = bodyV s n t ++ be6 id := rfl
  have hv := numL_be6 id (by omega) (by omega)
  unfold splitL
  rw [hsz, if_neg (by omega), hd, show (bodyV s n t).length + 6 - 6 = (bodyV s n t).length by omega, List.take_left' rfl, List.drop_left' rfl, body_back s n t h _ (Nat.le_refl _), if_pos rfl]
  generalize numL (be6 id) = q at *
  show (if 1 ≤ q ∧ q ≤ 1099511627776 then (s, n, t, (q : Int), (0 : Int)) else _) = _
  rw [if_pos ⟨by omega, by omega⟩, hv]

theorem lists_same (L : List V3) (hL : L.length ≤ 5000) : ∀ (d k i : Nat), i + d = L.length → d < k → concordancelaw19_TupleEntries.l0 k (L.map toA) (L.map toB) (i : Int) = some true := by
  intro d
  induction d with
  | zero =>
    intro k i h1 h2
    obtain ⟨k, rfl⟩ : ∃ m, k = m + 1 := ⟨k - 1, by omega⟩
    rw [concordancelaw19_TupleEntries.l0.eq_2, if_neg (by rw [List.length_map]; omega)]
  | succ d ih =>
    intro k i h1 h2
    obtain ⟨k, rfl⟩ : ∃ m, k = m + 1 := ⟨k - 1, by omega⟩
    have hi : i < L.length := by omega
    have ra : rd_T25 (L.map toA) (i : Int) = toA L[i] := by simp [rd_T25, List.getD_eq_getElem?_getD, List.getElem?_map, List.getElem?_eq_getElem hi]
    have rb : rd_T26 (L.map toB) (i : Int) = toB L[i] := by simp [rd_T26, List.getD_eq_getElem?_getD, List.getElem?_map, List.getElem?_eq_getElem hi]
    rw [concordancelaw19_TupleEntries.l0.eq_2, if_pos (by rw [List.length_map]; omega), if_pos (by omega), if_pos (by rw [List.length_map]; omega), ra, rb, if_neg (by simp [toA, toB]), wid ((i : Int) + 1) (by omega) (by omega), show (i : Int) + 1 = ((i + 1 : Nat) : Int) by omega]
    exact ih k (i + 1) (by omega) (by omega)
theorem getF_len : ∀ (n : Nat) (L : List UInt8) (acc : List V3), (getF n L acc).1.length ≤ acc.length + n
  | n, [], acc => by cases n <;> simp [getF]
  | 0, _ :: _, _ => by simp [getF]
  | n + 1, b :: r, acc => by
    unfold getF
    split
    · split
      · exact Nat.zero_le _
      · split
        · exact Nat.zero_le _
        · have := getF_len n (r.drop 6) (acc ++ [(⟨#[]⟩, (numL (r.take 6) : Int) - 1099511627776, false)])
          rw [List.length_append] at this
          simp only [List.length_cons, List.length_nil] at this
          omega
    · split
      · split
        · have := getF_len n (textF r.length r []).2.1 (acc ++ [(⟨(textF r.length r []).1.toArray⟩, 0, true)])
          rw [List.length_append] at this
          simp only [List.length_cons, List.length_nil] at this
          omega
        · exact Nat.zero_le _
      · exact Nat.zero_le _
/-- What any bytes are, as an entry and as a row. -/
theorem rest_tells (s : ByteArray) (hs : s.size ≤ 300) : ∃ K, ∀ k, K ≤ k → concordancelaw19_TupleEntries.j1 k s = some true := by
  obtain ⟨K1, h1⟩ := refSplit_tells s (by omega)
  obtain ⟨K2, h2⟩ := refGet_tells s (by omega)
  refine ⟨K1 + K2 + 9000, fun k hk => ?_⟩
  obtain ⟨k, rfl⟩ : ∃ m, k = m + 1 + 1 := ⟨k - 2, by omega⟩
  have hg : ∃ (L : List V3) (e : Int), L.length ≤ 5000 ∧ tuple_Get.f (k + 1) s = some (L.map toA, e) ∧ concordanceref19_Get.f (k + 1) s = some (L.map toB, e) := by
    by_cases hbig : (s.size : Int) > 100
    · refine ⟨[], 6, by simp, ?_, ?_⟩
      · unfold tuple_Get.f; rw [if_pos hbig]; rfl
      · unfold concordanceref19_Get.f; rw [if_pos hbig]; rfl
    · have hl := getF_len s.size s.data.toList []
      refine ⟨(getF s.size s.data.toList []).1, (getF s.size s.data.toList []).2, by simp only [List.length_nil] at hl; omega, ?_, ?_⟩
      · unfold tuple_Get.f; rw [if_neg hbig, get_tells s (by omega) _ (by omega), Option.bind_some]
      · unfold concordanceref19_Get.f; rw [if_neg hbig, h2 _ (by omega), Option.bind_some]
  obtain ⟨L, e, hL, g1, g2⟩ := hg
  have c1 : (!((splitL s).1.toList == (splitL s).1.toList) || (!((splitL s).2.1 == (splitL s).2.1) || (!((splitL s).2.2.1 == (splitL s).2.2.1)))) = false := by simp
  rw [concordancelaw19_TupleEntries.j1.eq_2, split_tells s (by omega) _ (by omega), Option.bind_some, h1 _ (by omega), Option.bind_some, g1, Option.bind_some, g2, Option.bind_some, c1, if_neg (show ¬ false = true by decide), if_pos rfl, if_pos rfl]
  show (if e = e then concordancelaw19_TupleEntries.j2 (k + 1) (L.map toA) (L.map toB) (((L.map toA).length : Int) != ((L.map toB).length : Int)) else _) = _
  rw [if_pos rfl, show (((L.map toA).length : Int) != ((L.map toB).length : Int)) = false by rw [List.length_map, List.length_map]; simp, concordancelaw19_TupleEntries.j2.eq_2, if_neg (show ¬ false = true by decide)]
  exact lists_same L hL L.length k 0 (Nat.zero_add _) (by omega)
/-- The value that the law makes of its argument. -/
theorem one_tells (s : ByteArray) (n : Int) (t : Bool) : ∃ (s' : ByteArray) (n' : Int), s'.size ≤ 50 ∧ concordancelaw19_one.f s n t = some (s', n', t, s', n', t) := by
  have hm : mn (s.size : Int) 50 = ((min s.size 50 : Nat) : Int) := by
    unfold mn
    by_cases h : (50 : Int) < (s.size : Int)
    · rw [if_pos h]; omega
    · rw [if_neg h]; omega
  have hsz : (s.extract 0 (min s.size 50)).size ≤ 50 := by rw [ByteArray.size_extract]; omega
  unfold concordancelaw19_one.f
  rw [hm, if_pos (by omega), if_pos (by omega), Int.toNat_natCast]
  by_cases hn : n < -1125899906842624
  · rw [if_pos hn]
    exact ⟨_, _, hsz, rfl⟩
  · rw [if_neg hn]
    exact ⟨_, _, hsz, rfl⟩

theorem entries_true (s : ByteArray) (n : Int) (t : Bool) (id : Int) (x : ByteArray) : ∃ K, concordancelaw19_TupleEntries.f K s n t id x = some true := by
  by_cases hbig : (x.size : Int) > 300
  · refine ⟨14, ?_⟩
    unfold concordancelaw19_TupleEntries.f
    rw [Pure.speaks_tells 14 (by omega), Option.bind_some, if_pos (show true = true from rfl), if_pos hbig]
  obtain ⟨K, hK⟩ := rest_tells x (by omega)
  obtain ⟨s', n', hs', h1⟩ := one_tells s n t
  refine ⟨K + 3000, ?_⟩
  have hj1 : ∀ k, K ≤ k → concordancelaw19_TupleEntries.j1 k x = some true := hK
  obtain ⟨k, hk⟩ : ∃ k, K + 3000 = k + 1 := ⟨K + 2999, by omega⟩
  have hkk : K + 2999 = k := by omega
  have hid : ∃ u : ByteArray, tuple_ID.f id = some u ∧ (u.toList != ([] : List UInt8)) = decide (1 ≤ id ∧ id ≤ 1099511627776) := by
    by_cases h : 1 ≤ id ∧ id ≤ 1099511627776
    · refine ⟨_, id_some id h.1 h.2, ?_⟩
      rw [decide_eq_true h, toListD, bne_iff_ne]
      unfold be6
      simp
    · refine ⟨_, id_none id h, ?_⟩
      rw [decide_eq_false h, toListD]
      rfl
  obtain ⟨u, hu, hub⟩ := hid
  unfold concordancelaw19_TupleEntries.f
  rw [Pure.speaks_tells _ (by omega), Option.bind_some, if_pos (show true = true from rfl), if_neg hbig, h1, Option.bind_some]
  show (Option.bind (tuple_Entry.f (K + 3000) s' n' t id) _) = _
  rw [entry_tells s' n' t id (by omega) _ (by omega), Option.bind_some]
  refine Eq.trans (congrArg (fun x => Option.bind x _) (refEntry_tells s' n' t id (by omega) _ (by omega))) ?_
  rw [Option.bind_some, if_pos rfl, if_pos rfl, hu, Option.bind_some, hub, hk]
  have fin : concordancelaw19_TupleEntries.j0 (k + 1) id x (entryL s' n' t id).1 (entryL s' n' t id).2 false s' n' t = some true := by
    rw [concordancelaw19_TupleEntries.j0.eq_2, if_neg (show ¬ false = true by decide)]
    by_cases he : (entryL s' n' t id).2 = 0
    · rw [if_pos he]
      have hok : errV s' n' t = 0 ∧ 1 ≤ id ∧ id ≤ 1099511627776 := by
        unfold entryL at he
        by_cases h : errV s' n' t = 0
        · rw [if_pos h] at he
          by_cases h2 : 1 ≤ id ∧ id ≤ 1099511627776
          · exact ⟨h, h2⟩
          · rw [if_neg h2] at he; exact absurd he (show ¬ (1 : Int) = 0 by decide)
        · rw [if_neg h] at he; exact absurd he h
      have hE : (entryL s' n' t id).1 = ⟨(bodyV s' n' t ++ be6 id).toArray⟩ := by unfold entryL; rw [if_pos hok.1, if_pos hok.2]
      have hlen : (⟨(bodyV s' n' t ++ be6 id).toArray⟩ : ByteArray).size ≤ 1000 := by
        have hb := body_len s' n' t
        show (bodyV s' n' t ++ be6 id).length ≤ 1000
        rw [List.length_append]
        show (bodyV s' n' t).length + 6 ≤ 1000
        omega
      rw [hE, split_tells _ hlen k (by omega), Option.bind_some, split_entry s' n' t id hok.1 hok.2.1 hok.2.2, if_pos rfl, if_neg (by simp), if_pos rfl]
      exact hj1 k (by omega)
    · rw [if_neg he]
      exact hj1 k (by omega)
  by_cases hge : id ≥ 1
  · rw [if_pos hge, show (decide (1 ≤ id ∧ id ≤ 1099511627776) != decide (id ≤ 1099511627776)) = false by
      rw [bne_eq_false_iff_eq, decide_eq_decide]
      exact ⟨fun h => h.2, fun h => ⟨hge, h⟩⟩]
    exact fin
  · rw [if_neg hge, show (decide (1 ≤ id ∧ id ≤ 1099511627776) != false) = false by
      rw [bne_eq_false_iff_eq, decide_eq_false_iff_not]
      omega]
    exact fin
end Go.Proofs.YtcpehlllgfffkaaDoor.GT
