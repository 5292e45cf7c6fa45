/- Get of a key's values, and Split, in plain Lean: ours and the document's read the same. -/
import Derived.Test.YtcpehlllgfffkaaDoorTGet
namespace Go.Proofs.YtcpehlllgfffkaaDoor.GT
open Go.RowKit Go.Proofs.YtcpehlllgfffkaaDoorW.PrintWords Go.Proofs.YtcpehlllgfffkaaDoorW.PrintLast Go.Proofs.YtcpehlllgfffkaaDoorW.PrintMore
set_option linter.unusedVariables false
set_option linter.unusedSimpArgs false
set_option maxHeartbeats 400000

abbrev V3 := ByteArray × Int × Bool
def toA (v : V3) : S25 := ⟨v.1, v.2.1, v.2.2⟩
theorem numF_snoc (x : Nat) (L : List UInt8) (b : UInt8) : numF x (L ++ [b]) = numF x L * 256 + b.toNat := by
  unfold numF
  rw [List.foldl_append]
  rfl
theorem num_step (L : List UInt8) (i : Nat) (h : i < L.length) : numL (L.take (i + 1)) = numL (L.take i) * 256 + (L[i]).toNat := by
  unfold numL
  rw [List.take_succ_eq_append_getElem h, numF_snoc]
theorem num_take_lt (L : List UInt8) (i : Nat) (h : i ≤ 6) : numL (L.take i) < 281474976710656 := by
  have h1 := numL_lt (L.take i)
  have h2 : (256 : Nat) ^ (L.take i).length ≤ 256 ^ 6 := Nat.pow_le_pow_right (by omega) (by rw [List.length_take]; omega)
  exact Nat.lt_of_lt_of_le h1 (Nat.le_trans h2 (by decide))
theorem num_take_lt5 (L : List UInt8) (i : Nat) (h : i ≤ 5) : numL (L.take i) < 1099511627776 := by
  have h1 := numL_lt (L.take i)
  have h2 : (256 : Nat) ^ (L.take i).length ≤ 256 ^ 5 := Nat.pow_le_pow_right (by omega) (by rw [List.length_take]; omega)
  exact Nat.lt_of_lt_of_le h1 (Nat.le_trans h2 (by decide))
/-- Six bytes behind a tag. -/
def numOut (L : List UInt8) : ByteArray × Int × Bool × Int × Int :=
  if 2199023255552 < numL (L.take 6) then (⟨#[]⟩, 0, false, 0, 2) else (⟨#[]⟩, (numL (L.take 6) : Int) - 1099511627776, false, 7, 0)
theorem wrN (m : Nat) (h : m < 9223372036854775808) : wrap64 (m : Int) = (m : Int) := wid _ (by omega) (by omega)
theorem number_loop (x : ByteArray) (b : UInt8) (L : List UInt8) (hx : x.data.toList = b :: L) (h6 : 6 ≤ L.length) (hxs : x.size ≤ 1000) : ∀ (d k i : Nat), i + d = 6 → d + 1 < k →
    keys_number.l0 k x (numL (L.take i) : Int) ((i + 1 : Nat) : Int) = some (numOut L) := by
  have hsz : x.size = L.length + 1 := by rw [← size_len, hx]; rfl
  intro d
  induction d with
  | zero =>
    intro k i h1 h2
    obtain ⟨k, rfl⟩ : ∃ m, k = m + 1 := ⟨k - 1, by omega⟩
    have hi : i = 6 := by omega
    subst hi
    have hlt := num_take_lt L 6 (by omega)
    rw [keys_number.l0.eq_2, if_neg (by omega)]
    unfold numOut
    by_cases hb : 2199023255552 < numL (L.take 6)
    · rw [if_pos (by omega), if_pos hb]
    · rw [if_neg (by omega), if_neg hb, widn ((numL (L.take 6) : Int) - 1099511627776) (by omega) (by omega)]
      rfl
  | succ d ih =>
    intro k i h1 h2
    obtain ⟨k, rfl⟩ : ∃ m, k = m + 1 := ⟨k - 1, by omega⟩
    have hi : i < L.length := by omega
    have hlt := num_take_lt5 L i (by omega)
    have hst := num_step L i hi
    have hc := (L[i]).toNat_lt
    have hxi : i + 1 < x.data.toList.length := by rw [size_len]; omega
    have hbt : bt x ((i + 1 : Nat) : Int) = ((L[i]).toNat : Int) := by
      rw [bt_at' x (i + 1) hxi]
      have : x.data.toList[i + 1] = L[i] := by
        have h := congrArg (fun M => M[i + 1]?) hx
        simp only [List.getElem?_cons_succ] at h
        rw [List.getElem?_eq_getElem hxi, List.getElem?_eq_getElem hi] at h
        exact Option.some.inj h
      rw [this]
    rw [keys_number.l0.eq_2, if_pos (by omega), if_pos (by omega), if_pos (by omega), hbt, show (numL (L.take i) : Int) * 256 = ((numL (L.take i) * 256 : Nat) : Int) by omega, wrN _ (by omega), wrN _ (by omega), or_join2 _ _ (by omega) hc, wr1 (i + 1) (by omega), ← hst]
    exact ih k (i + 1) (by omega) (by omega)
theorem number_tells (x : ByteArray) (b : UInt8) (L : List UInt8) (hx : x.data.toList = b :: L) (hxs : x.size ≤ 1000) (k : Nat) (hk : 9 ≤ k) :
    keys_number.f k x = some (if L.length < 6 then (⟨#[]⟩, 0, false, 0, 3) else numOut L) := by
  have hsz : x.size = L.length + 1 := by rw [← size_len, hx]; rfl
  unfold keys_number.f
  by_cases h : L.length < 6
  · rw [if_pos (by omega), if_pos h]
  · rw [if_neg (by omega), if_neg h]
    exact number_loop x b L hx (by omega) hxs 6 k 0 (by omega) (by omega)
/-- The values of a key. -/
def getF : Nat → List UInt8 → List V3 → List V3 × Int
  | _, [], acc => (acc, 0)
  | 0, _ :: _, _ => ([], 2)
  | n + 1, b :: r, acc =>
    if b = 16 then (if r.length < 6 then ([], 3) else if 2199023255552 < numL (r.take 6) then ([], 2) else getF n (r.drop 6) (acc ++ [(⟨#[]⟩, (numL (r.take 6) : Int) - 1099511627776, false)]))
    else if b = 32 then (if (textF r.length r []).2.2 = 0 then getF n (textF r.length r []).2.1 (acc ++ [(⟨(textF r.length r []).1.toArray⟩, 0, true)]) else ([], (textF r.length r []).2.2))
    else ([], 2)
theorem rest_list (s : ByteArray) (n : Nat) : (s.extract n s.size).data.toList = s.data.toList.drop n := by
  rw [ByteArray.data_extract, Array.toList_extract, List.extract_eq_take_drop, List.take_of_length_le (by rw [List.length_drop, size_len]; omega)]
theorem textF_suffix : ∀ (n : Nat) (L acc : List UInt8), (textF n L acc).2.2 = 0 → (textF n L acc).2.1 = L.drop (L.length - (textF n L acc).2.1.length)
  | 0, L, acc, h => absurd h (show ¬ (3 : Int) = 0 by decide)
  | _ + 1, [], acc, h => absurd h (show ¬ (3 : Int) = 0 by decide)
  | n + 1, b :: r, acc, h => by
    have key : ∀ (M : List UInt8) (acc' : List UInt8) (K : List UInt8), (textF n M acc').2.2 = 0 → b :: r = K ++ M → (textF n M acc').2.1 = (b :: r).drop ((b :: r).length - (textF n M acc').2.1.length) := fun M acc' K h0 hK => by
      have hs := textF_suffix n M acc' h0
      have hr := textF_rest n M acc'
      rw [hK, List.length_append, show K.length + M.length - (textF n M acc').2.1.length = K.length + (M.length - (textF n M acc').2.1.length) by omega, ← List.drop_drop, List.drop_left' rfl]
      exact hs
    unfold textF at h ⊢
    by_cases hz : b = 0
    · rw [if_pos hz] at h ⊢
      cases r with
      | nil => exact absurd h (show ¬ (3 : Int) = 0 by decide)
      | cons c r' =>
        by_cases h255 : c = 255
        · simp only [h255, if_true] at h ⊢
          subst h255
          exact key r' _ [b, 255] h rfl
        · by_cases h01 : c = 1
          · simp only [h255, h01, if_true, if_false] at h ⊢
            by_cases h20 : 20 < acc.length
            · rw [if_pos h20] at h
              exact absurd h (show ¬ (6 : Int) = 0 by decide)
            · simp only [h20, if_false, List.length_cons]
              subst h01
              rw [if_neg (by decide)]
              show r' = List.drop (r'.length + 1 + 1 - r'.length) (b :: 1 :: r')
              rw [show r'.length + 1 + 1 - r'.length = 2 by omega]
              rfl
          · simp only [h255, h01, if_false] at h
            exact absurd h (show ¬ (2 : Int) = 0 by decide)
    · rw [if_neg hz] at h ⊢
      exact key r _ [b] h rfl
theorem get_loop : ∀ (n k : Nat) (x : ByteArray) (acc : List V3), x.size ≤ n → x.size ≤ 1000 → acc.length + n ≤ 2000 → n + 1010 ≤ k →
    keys_Get.l0 k x (acc.map toA) = some ((getF n x.data.toList acc).1.map toA, (getF n x.data.toList acc).2) := by
  intro n
  induction n with
  | zero =>
    intro k x acc h1 h2 h3 h4
    obtain ⟨k, rfl⟩ : ∃ m, k = m + 1 := ⟨k - 1, by omega⟩
    have hx : x.data.toList = [] := List.eq_nil_of_length_eq_zero (by rw [size_len]; omega)
    rw [keys_Get.l0.eq_2, if_pos (by rw [toListD]; exact hx), hx]
    rfl
  | succ n ih =>
    intro k x acc h1 h2 h3 h4
    obtain ⟨k, rfl⟩ : ∃ m, k = m + 1 := ⟨k - 1, by omega⟩
    have hal : (acc.map toA).length = acc.length := List.length_map _
    cases hx : x.data.toList with
    | nil =>
      rw [keys_Get.l0.eq_2, if_pos (by rw [toListD]; exact hx)]
      rfl
    | cons b r =>
      have hsz : x.size = r.length + 1 := by rw [← size_len, hx]; rfl
      have hb : bt x 0 = (b.toNat : Int) := by
        have h0 : 0 < x.data.toList.length := by rw [hx]; simp
        have := bt_at' x 0 h0
        rw [show ((0 : Nat) : Int) = 0 from rfl] at this
        rw [this]
        have : x.data.toList[0] = b := by
          have h := congrArg (fun M => M[0]?) hx
          rw [List.getElem?_eq_getElem h0] at h
          exact Option.some.inj h
        rw [this]
      rw [keys_Get.l0.eq_2, if_neg (by rw [toListD, hx]; simp), if_pos (by omega), hb]
      unfold getF
      by_cases h16 : b = 16
      · rw [if_pos ((u8_16 _).mpr h16), if_pos h16, number_tells x b r hx h2 k (by omega), Option.bind_some]
        by_cases hl : r.length < 6
        · rw [if_pos hl, if_pos hl]
          rfl
        · rw [if_neg hl, if_neg hl]
          unfold numOut
          by_cases hbig : 2199023255552 < numL (r.take 6)
          · rw [if_pos hbig, if_pos hbig]
            rfl
          · rw [if_neg hbig, if_neg hbig]
            show (if (0 : Int) = 0 then (if (acc.map toA).length < 4398046511104 then (if (0 : Int) ≤ 7 then (if (7 : Int) ≤ (x.size : Int) then keys_Get.l0 k (x.extract (7 : Int).toNat x.size) (acc.map toA ++ [(⟨⟨#[]⟩, (numL (r.take 6) : Int) - 1099511627776, false⟩ : S25)]) else none) else none) else none) else _) = _
            rw [if_pos (show (0 : Int) = 0 from rfl), if_pos (by omega), if_pos (by decide), if_pos (by omega), show (7 : Int).toNat = 7 from rfl]
            have hd : (x.extract 7 x.size).data.toList = r.drop 6 := by rw [rest_list, hx]; rfl
            have hds : (x.extract 7 x.size).size = r.length - 6 := by rw [← size_len, hd, List.length_drop]
            have h := ih k (x.extract 7 x.size) (acc ++ [(⟨#[]⟩, (numL (r.take 6) : Int) - 1099511627776, false)]) (by omega) (by omega) (by rw [List.length_append]; simp only [List.length_cons, List.length_nil]; omega) (by omega)
            rw [List.map_append, hd] at h
            exact h
      · rw [if_neg (fun h => h16 ((u8_16 _).mp h)), if_neg h16]
        by_cases h32 : b = 32
        · have hd1 : x.data.toList.drop 1 = r := by rw [hx]; rfl
          have htl := textF_rest r.length r []
          rw [if_pos ((u8_32 _).mpr h32), if_pos h32, text_tells x h2 (by omega) k (by omega), Option.bind_some, hd1, show x.size - 1 = r.length by omega]
          unfold textOut
          by_cases he : (textF r.length r []).2.2 = 0
          · have hsf := textF_suffix r.length r [] he
            generalize textF r.length r [] = T at *
            rw [if_pos he, if_pos he]
            show (if (0 : Int) = 0 then (if (acc.map toA).length < 4398046511104 then (if (0 : Int) ≤ ((x.size - T.2.1.length : Nat) : Int) then (if ((x.size - T.2.1.length : Nat) : Int) ≤ (x.size : Int) then keys_Get.l0 k (x.extract (((x.size - T.2.1.length : Nat) : Int)).toNat x.size) (acc.map toA ++ [(⟨⟨T.1.toArray⟩, 0, true⟩ : S25)]) else none) else none) else none) else _) = _
            rw [if_pos (show (0 : Int) = 0 from rfl), if_pos (by omega), if_pos (by omega), if_pos (by omega), Int.toNat_natCast]
            have hd : (x.extract (x.size - T.2.1.length) x.size).data.toList = T.2.1 := by
              rw [rest_list, hx, show x.size - T.2.1.length = (r.length - T.2.1.length) + 1 by omega, List.drop_succ_cons]
              exact hsf.symm
            have hds : (x.extract (x.size - T.2.1.length) x.size).size = T.2.1.length := by rw [← size_len, hd]
            have h := ih k (x.extract (x.size - T.2.1.length) x.size) (acc ++ [(⟨T.1.toArray⟩, 0, true)]) (by omega) (by omega) (by rw [List.length_append]; simp only [List.length_cons, List.length_nil]; omega) (by omega)
            rw [List.map_append, hd] at h
            exact h
          · rw [if_neg he, if_neg he, if_neg he]
            rfl
        · rw [if_neg (fun h => h32 ((u8_32 _).mp h)), if_neg h32]
          rfl
theorem get_tells (x : ByteArray) (hx : x.size ≤ 1000) (k : Nat) (hk : 2010 ≤ k) : keys_Get.f k x = some ((getF x.size x.data.toList []).1.map toA, (getF x.size x.data.toList []).2) := by
  unfold keys_Get.f
  exact get_loop x.size k x [] (Nat.le_refl _) hx (by simp; omega) (by omega)
end Go.Proofs.YtcpehlllgfffkaaDoor.GT
