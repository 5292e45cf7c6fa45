/- What keys.Put and the document's One make of one value, and Entry of it, in plain Lean. No program in sight but the printed functions. -/
import Derived.Test.YtcpehlllgfffkaaDoorGTx10
import Derived.Test.YtcpehlllgfffkaaDoorGTx5
import Derived.Lib.QuoteBits
import Derived.Laws.Strings
namespace Go.Proofs.YtcpehlllgfffkaaDoor.GT
open Go.RowKit Go.Proofs.YtcpehlllgfffkaaDoorW.PrintWords Go.Proofs.YtcpehlllgfffkaaDoorW.PrintLast Go.Proofs.YtcpehlllgfffkaaDoorW.PrintMore
set_option linter.unusedVariables false
set_option linter.unusedSimpArgs false
set_option maxHeartbeats 400000

theorem toListD (s : ByteArray) : s.toList = s.data.toList := by first | rfl | exact ByteArray.toList_eq s
theorem wid (n : Int) (h0 : 0 ≤ n) (h1 : n < 9223372036854775808) : wrap64 n = n := by unfold wrap64; omega
theorem widn (n : Int) (h0 : -9223372036854775808 ≤ n) (h1 : n < 9223372036854775808) : wrap64 n = n := by unfold wrap64; omega
theorem data_ext {a b : ByteArray} (h : a.data.toList = b.data.toList) : a = b := by
  have h1 : a.data = b.data := Array.ext' h
  cases a; cases b; simp at h1; rw [h1]
theorem size_len (s : ByteArray) : s.data.toList.length = s.size := by simp
theorem data_nil (s : ByteArray) : s.toList = ([] : List UInt8) ↔ s.size = 0 := by
  rw [toListD, ← size_len]
  exact ⟨fun h => by rw [h]; rfl, fun h => List.eq_nil_of_length_eq_zero h⟩
theorem getD_bt (s : ByteArray) (i : Nat) : ((s.data.toList.getD i 0).toNat : Int) = bt s i := by
  unfold bt
  split
  · rename_i h
    have h' : i < s.data.toList.length := by simpa using h
    rw [List.getD_eq_getElem?_getD, List.getElem?_eq_getElem h']
    rfl
  · rename_i h
    have h' : s.data.toList.length ≤ i := by simpa using h
    rw [List.getD_eq_getElem?_getD, List.getElem?_eq_none h']
    rfl
theorem bt_at' (s : ByteArray) (i : Nat) (h : i < s.data.toList.length) : bt s (i : Int) = ((s.data.toList[i]).toNat : Int) := by
  rw [← getD_bt, List.getD_eq_getElem?_getD, List.getElem?_eq_getElem h]; rfl
def nats (L : List UInt8) : List Int := L.map fun b => (b.toNat : Int)
theorem nats_app (L M : List UInt8) : nats (L ++ M) = nats L ++ nats M := List.map_append
theorem str_nats (L : List UInt8) : strOfNums (nats L) = ⟨L.toArray⟩ := by
  have h : ∀ M : List UInt8, (M.map fun b => (b.toNat : Int)).map (fun n : Int => UInt8.ofNat n.toNat) = M := by
    intro M
    induction M with
    | nil => rfl
    | cons a M ih =>
      rw [List.map_cons, List.map_cons, ih, Int.toNat_natCast, UInt8.ofNat_toNat]
  unfold strOfNums nats
  rw [h]
def be6 (n : Int) : List UInt8 := [UInt8.ofNat (n / 1099511627776).toNat, UInt8.ofNat (n / 4294967296 % 256).toNat, UInt8.ofNat (n / 16777216 % 256).toNat, UInt8.ofNat (n / 65536 % 256).toNat, UInt8.ofNat (n / 256 % 256).toNat, UInt8.ofNat (n % 256).toNat]
def escB (b : UInt8) : List UInt8 := if b = 0 then [0, 255] else [b]
def badV (s : ByteArray) (n : Int) (t : Bool) : Prop := (t = true ∧ n ≠ 0) ∨ (t = false ∧ s.size ≠ 0) ∨ n < -1099511627776 ∨ 1099511627776 < n
instance (s : ByteArray) (n : Int) (t : Bool) : Decidable (badV s n t) := by unfold badV; infer_instance
def errV (s : ByteArray) (n : Int) (t : Bool) : Int := if t = true ∧ 20 < s.size then 6 else if badV s n t then 1 else 0
def bodyV (s : ByteArray) (n : Int) (t : Bool) : List UInt8 := if t = true then 32 :: (s.data.toList.flatMap escB ++ [0, 1]) else 16 :: be6 (n + 1099511627776)
def oneL (s : ByteArray) (n : Int) (t : Bool) : ByteArray × Int := if errV s n t = 0 then (⟨(bodyV s n t).toArray⟩, 0) else (⟨#[]⟩, errV s n t)

theorem right_tells (s : ByteArray) (n : Int) (t : Bool) (k : Nat) (hk : 3 ≤ k) : keys_Value_right.f k s n t = some (errV s n t) := by
  obtain ⟨k, rfl⟩ : ∃ m, k = m + 1 + 1 + 1 := ⟨k - 3, by omega⟩
  have j2y : keys_Value_right.j2 (k + 1) true s n t = some 1 := by rw [keys_Value_right.j2.eq_2, if_pos rfl]
  have j2a : n < -1099511627776 → keys_Value_right.j2 (k + 1) false s n t = some 1 := fun h => by rw [keys_Value_right.j2.eq_2, if_neg (by decide), if_pos h]
  have j2b : ¬ n < -1099511627776 → 1099511627776 < n → keys_Value_right.j2 (k + 1) false s n t = some 1 := fun h g => by rw [keys_Value_right.j2.eq_2, if_neg (by decide), if_neg h, if_pos g]
  have j2c : ¬ n < -1099511627776 → ¬ 1099511627776 < n → keys_Value_right.j2 (k + 1) false s n t = some 0 := fun h g => by rw [keys_Value_right.j2.eq_2, if_neg (by decide), if_neg h, if_neg g]
  cases t with
  | true =>
    by_cases h1 : 20 < s.size
    · have e : errV s n true = 6 := by unfold errV; rw [if_pos ⟨rfl, h1⟩]
      unfold keys_Value_right.f
      rw [e, if_pos rfl, keys_Value_right.j0.eq_2, if_pos (decide_eq_true (by omega))]
    · have e0 : errV s n true = if badV s n true then 1 else 0 := by unfold errV; rw [if_neg (fun h => h1 h.2)]
      unfold keys_Value_right.f
      rw [e0, if_pos rfl, keys_Value_right.j0.eq_2, decide_eq_false (show ¬ (s.size : Int) > 20 by omega), if_neg (by decide), if_pos rfl, keys_Value_right.j1.eq_2]
      by_cases h2 : n = 0
      · have b : ¬ badV s n true := by
          intro h
          rcases h with h | h | h | h
          · exact h.2 h2
          · exact absurd h.1 (by decide)
          · omega
          · omega
        have e2 : (n != 0) = false := by rw [bne_eq_false_iff_eq]; exact h2
        rw [if_neg b, e2, if_neg (by decide), if_pos rfl]
        exact j2c (by omega) (by omega)
      · have e2 : (n != 0) = true := by rw [bne_iff_ne]; exact h2
        rw [if_pos (show badV s n true from Or.inl ⟨rfl, h2⟩), e2, if_pos rfl]
  | false =>
    have e0 : errV s n false = if badV s n false then 1 else 0 := by unfold errV; rw [if_neg (fun h => absurd h.1 (by decide))]
    unfold keys_Value_right.f
    rw [e0, if_neg (by decide), keys_Value_right.j0.eq_2, if_neg (by decide), if_neg (by decide), keys_Value_right.j1.eq_2, if_neg (by decide), if_neg (by decide)]
    by_cases h2 : s.size = 0
    · have e : (s.toList != ([] : List UInt8)) = false := by rw [bne_eq_false_iff_eq]; exact (data_nil s).mpr h2
      rw [e]
      by_cases h3 : n < -1099511627776
      · rw [if_pos (show badV s n false from Or.inr (Or.inr (Or.inl h3)))]; exact j2a h3
      by_cases h4 : 1099511627776 < n
      · rw [if_pos (show badV s n false from Or.inr (Or.inr (Or.inr h4)))]; exact j2b h3 h4
      have b : ¬ badV s n false := by
        intro h
        rcases h with h | h | h | h
        · exact absurd h.1 (by decide)
        · exact h.2 h2
        · exact h3 h
        · exact h4 h
      rw [if_neg b]
      exact j2c h3 h4
    · have e : (s.toList != ([] : List UInt8)) = true := by rw [bne_iff_ne]; exact fun h => h2 ((data_nil s).mp h)
      rw [e, if_pos (show badV s n false from Or.inr (Or.inl ⟨rfl, h2⟩))]
      exact j2y

theorem rd_one (v : S25) : rd_T25 [v] 0 = v := rfl
theorem put_end (L : List UInt8) (v : S25) (k : Nat) (hk : 1 ≤ k) : keys_Put.l0 k (nats L) [v] 1 1 = some (⟨L.toArray⟩, 0) := by
  obtain ⟨k, rfl⟩ : ∃ m, k = m + 1 := ⟨k - 1, by omega⟩
  rw [keys_Put.l0.eq_2, if_neg (by omega), str_nats]
theorem put_l2 (s : ByteArray) (hs : s.size ≤ 1000) (n : Int) (v : S25) : ∀ (d k i : Nat) (L : List UInt8), i + d = s.size → L.length ≤ 3000 + 2 * i → d + 2 ≤ k →
    keys_Put.l2 k (nats L) [v] 1 0 (s.size : Int) (i : Int) s n true = some (⟨(L ++ (s.data.toList.drop i).flatMap escB ++ [0, 1]).toArray⟩, 0) := by
  intro d
  induction d with
  | zero =>
    intro k i L h1 h2 h3
    obtain ⟨k, rfl⟩ : ∃ m, k = m + 1 := ⟨k - 1, by omega⟩
    have hl : (nats L).length = L.length := List.length_map _
    rw [keys_Put.l2.eq_2, if_neg (by omega), Option.bind_some, if_pos (by rw [hl]; simp; omega), show wrap64 (0 + 1) = 1 from wid 1 (by omega) (by omega),
      show nats L ++ [0, 1] = nats (L ++ [0, 1]) from (nats_app L [0, 1]).symm, put_end _ _ _ (by omega), List.drop_of_length_le (by rw [size_len]; omega)]
    simp
  | succ d ih =>
    intro k i L h1 h2 h3
    obtain ⟨k, rfl⟩ : ∃ m, k = m + 1 := ⟨k - 1, by omega⟩
    have hl : (nats L).length = L.length := List.length_map _
    have hi : i < s.data.toList.length := by rw [size_len]; omega
    have hb := bt_at' s i hi
    have hdr : (s.data.toList.drop i).flatMap escB = escB s.data.toList[i] ++ (s.data.toList.drop (i + 1)).flatMap escB := by rw [List.drop_eq_getElem_cons hi, List.flatMap_cons]
    rw [keys_Put.l2.eq_2, if_pos (by omega), if_pos (by omega), if_pos (by omega), if_pos (by rw [hl]; omega), Option.bind_some, hb, wid ((i : Int) + 1) (by omega) (by omega), show (i : Int) + 1 = ((i + 1 : Nat) : Int) by omega,
      show nats L ++ [((s.data.toList[i]).toNat : Int)] = nats (L ++ [s.data.toList[i]]) from (nats_app L [s.data.toList[i]]).symm, hdr]
    have hl2 : (nats (L ++ [s.data.toList[i]])).length = L.length + 1 := by rw [nats, List.length_map, List.length_append]; rfl
    by_cases hz : s.data.toList[i] = 0
    · rw [if_pos (by rw [hz]; rfl), if_pos (by rw [hl2]; omega), show nats (L ++ [s.data.toList[i]]) ++ [255] = nats (L ++ [s.data.toList[i]] ++ [255]) from (nats_app _ [255]).symm, ih k (i + 1) _ (by omega) (by simp only [List.length_append, List.length_cons, List.length_nil]; omega) (by omega)]
      rw [hz]
      unfold escB
      rw [if_pos rfl]
      simp
    · have hz' : ¬ ((s.data.toList[i]).toNat : Int) = 0 := fun h => hz (UInt8.toNat_inj.mp (by rw [show s.data.toList[i].toNat = 0 by omega]; rfl))
      rw [if_neg hz', ih k (i + 1) _ (by omega) (by simp only [List.length_append, List.length_cons, List.length_nil]; omega) (by omega)]
      unfold escB
      rw [if_neg hz]
      simp
theorem put_l1 (s : ByteArray) (n : Int) (v : S25) (hn0 : -1099511627776 ≤ n) (hn1 : n ≤ 1099511627776) (k : Nat) (hk : 8 ≤ k) :
    keys_Put.l1 k [16] 5 [v] 1 0 s n false = some (⟨(16 :: be6 (n + 1099511627776)).toArray⟩, 0) := by
  obtain ⟨k, rfl⟩ : ∃ m, k = m + 1 + 1 + 1 + 1 + 1 + 1 + 1 := ⟨k - 7, by omega⟩
  have hm : wrap64 (n + 1099511627776) = n + 1099511627776 := widn _ (by omega) (by omega)
  obtain ⟨m, hmm⟩ : ∃ m, n + 1099511627776 = m := ⟨_, rfl⟩
  have m0 : 0 ≤ m := by omega
  have m1 : m ≤ 2199023255552 := by omega
  rw [hmm] at hm
  have s5 : shr .i64 m 40 = m / 1099511627776 := rfl
  have s4 : shr .i64 m 32 = m / 4294967296 := rfl
  have s3 : shr .i64 m 24 = m / 16777216 := rfl
  have s2 : shr .i64 m 16 = m / 65536 := rfl
  have s1 : shr .i64 m 8 = m / 256 := rfl
  have s0 : shr .i64 m 0 = m / 1 := rfl
  rw [keys_Put.l1.eq_2, if_pos (by omega), show wrap64 (8 * 5) = 40 from wid 40 (by omega) (by omega), if_pos (by omega), if_pos (by simp), hmm, hm, s5, show wrap64 (5 - 1) = 4 from wid 4 (by omega) (by omega),
    keys_Put.l1.eq_2, if_pos (by omega), show wrap64 (8 * 4) = 32 from wid 32 (by omega) (by omega), if_pos (by omega), if_pos (by simp), hmm, hm, s4, show wrap64 (4 - 1) = 3 from wid 3 (by omega) (by omega),
    keys_Put.l1.eq_2, if_pos (by omega), show wrap64 (8 * 3) = 24 from wid 24 (by omega) (by omega), if_pos (by omega), if_pos (by simp), hmm, hm, s3, show wrap64 (3 - 1) = 2 from wid 2 (by omega) (by omega),
    keys_Put.l1.eq_2, if_pos (by omega), show wrap64 (8 * 2) = 16 from wid 16 (by omega) (by omega), if_pos (by omega), if_pos (by simp), hmm, hm, s2, show wrap64 (2 - 1) = 1 from wid 1 (by omega) (by omega),
    keys_Put.l1.eq_2, if_pos (by omega), show wrap64 (8 * 1) = 8 from wid 8 (by omega) (by omega), if_pos (by omega), if_pos (by simp), hmm, hm, s1, show wrap64 (1 - 1) = 0 from wid 0 (by omega) (by omega),
    keys_Put.l1.eq_2, if_pos (by omega), show wrap64 (8 * 0) = 0 from wid 0 (by omega) (by omega), if_pos (by omega), if_pos (by simp), hmm, hm, s0, show wrap64 (0 - 1) = -1 by unfold wrap64; omega,
    keys_Put.l1.eq_2, if_neg (by omega), show wrap64 (0 + 1) = 1 from wid 1 (by omega) (by omega)]
  obtain ⟨k, rfl⟩ : ∃ m, k = m + 1 := ⟨k - 1, by omega⟩
  rw [keys_Put.l0.eq_2, if_neg (by omega), show m / 1099511627776 % 256 = m / 1099511627776 by omega, show m / 1 % 256 = m % 256 by omega]
  rfl
theorem put_tells (s : ByteArray) (n : Int) (t : Bool) (hs : s.size ≤ 1000) (k : Nat) (hk : s.size + 20 ≤ k) : keys_Put.f k [(⟨s, n, t⟩ : S25)] = some (oneL s n t) := by
  obtain ⟨k, rfl⟩ : ∃ m, k = m + 1 := ⟨k - 1, by omega⟩
  unfold keys_Put.f
  show keys_Put.l0 (k + 1) [] [(⟨s, n, t⟩ : S25)] 1 0 = _
  rw [keys_Put.l0.eq_2, if_pos (by omega), if_pos (by omega), if_pos (by simp), rd_one]
  show (Option.bind (keys_Value_right.f k s n t) _) = _
  rw [right_tells s n t k (by omega), Option.bind_some]
  unfold oneL
  by_cases he : errV s n t = 0
  · rw [if_pos he, if_pos he]
    cases t with
    | true =>
      rw [if_pos rfl, if_pos (by simp)]
      have h := put_l2 s hs n (⟨s, n, true⟩ : S25) s.size k 0 [32] (by omega) (by simp) (by omega)
      rw [List.drop_zero] at h
      show keys_Put.l2 k (nats [32]) _ 1 0 _ 0 s n true = _
      rw [show ((0 : Nat) : Int) = 0 from rfl] at h
      rw [h]
      unfold bodyV
      rw [if_pos rfl]
      simp
    | false =>
      have hb : ¬ badV s n false := by
        intro hb
        unfold errV at he
        rw [if_neg (by simp), if_pos hb] at he
        exact absurd he (by decide)
      have h0 : -1099511627776 ≤ n := by
        rcases Int.lt_or_le n (-1099511627776) with h | h
        · exact absurd (Or.inr (Or.inr (Or.inl h))) hb
        · exact h
      have h1 : n ≤ 1099511627776 := by
        rcases Int.lt_or_le 1099511627776 n with h | h
        · exact absurd (Or.inr (Or.inr (Or.inr h))) hb
        · exact h
      rw [if_neg (show ¬ false = true by decide), if_pos (by simp)]
      show keys_Put.l1 k [16] 5 _ 1 0 s n false = _
      rw [put_l1 s n _ h0 h1 k (by omega)]
      unfold bodyV
      rw [if_neg (by decide)]
  · rw [if_neg he, if_neg he]
end Go.Proofs.YtcpehlllgfffkaaDoor.GT
