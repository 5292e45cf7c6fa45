/- The document's One and Entry tell the same as ours, in plain Lean. -/
import Derived.Test.YtcpehlllgfffkaaDoorTOne
namespace Go.Proofs.YtcpehlllgfffkaaDoor.GT
open Go.RowKit Go.Proofs.YtcpehlllgfffkaaDoorW.PrintWords Go.Proofs.YtcpehlllgfffkaaDoorW.PrintLast Go.Proofs.YtcpehlllgfffkaaDoorW.PrintMore
set_option linter.unusedVariables false
set_option linter.unusedSimpArgs false
set_option maxHeartbeats 400000

theorem one_byte (x : Int) (h0 : 0 ≤ x) : strOfNums [Int.tmod x 256 % 256] = ⟨#[UInt8.ofNat (x % 256).toNat]⟩ := by
  rw [Int.tmod_eq_emod_of_nonneg h0, show x % 256 % 256 = x % 256 by omega]
  rfl
theorem div_step (x : Int) (h0 : 0 ≤ x) (h1 : x < 9223372036854775808) : wrap64 (Int.tdiv x 256) = x / 256 := by
  rw [Int.tdiv_eq_ediv_of_nonneg h0]
  exact wid _ (by omega) (by omega)
theorem ext_one (s : ByteArray) (i : Nat) (h : i < s.data.toList.length) : (s.extract i (i + 1)).data.toList = [s.data.toList[i]] := by
  rw [ByteArray.data_extract, Array.toList_extract, List.extract_eq_take_drop, show i + 1 - i = 1 by omega, List.drop_eq_getElem_cons h]
  rfl
theorem refOne_l0 (m : Int) (m0 : 0 ≤ m) (m1 : m < 281474976710656) (k : Nat) (hk : 8 ≤ k) : concordanceref01_One.l0 k (⟨#[]⟩ : ByteArray) m 0 = some (⟨(16 :: be6 m).toArray⟩, 0) := by
  obtain ⟨k, rfl⟩ : ∃ m, k = m + 1 + 1 + 1 + 1 + 1 + 1 + 1 := ⟨k - 7, by omega⟩
  have sz : ∀ (b : UInt8) (x : ByteArray), x.size ≤ 100 → (⟨#[b]⟩ : ByteArray).size + x.size ≤ 9223372036854775807 := fun b x h => by
    have : (⟨#[b]⟩ : ByteArray).size = 1 := rfl
    omega
  have step : ∀ (k : Nat) (x : ByteArray) (q : Int) (i : Nat), i < 6 → 0 ≤ q → q < 9223372036854775808 → x.size ≤ 100 →
      concordanceref01_One.l0 (k + 1) x q (i : Int) = concordanceref01_One.l0 k ((⟨#[UInt8.ofNat (q % 256).toNat]⟩ : ByteArray) ++ x) (q / 256) ((i + 1 : Nat) : Int) := fun k x q i hi h0 h1 hx => by
    rw [concordanceref01_One.l0.eq_2, if_pos (by omega), Option.bind_some, one_byte q h0, if_pos (sz _ x hx), div_step q h0 h1, wid ((i : Int) + 1) (by omega) (by omega), show (i : Int) + 1 = ((i + 1 : Nat) : Int) by omega]
  have hsz : ∀ (b : UInt8) (x : ByteArray), ((⟨#[b]⟩ : ByteArray) ++ x).size = 1 + x.size := fun b x => by rw [ByteArray.size_append]; rfl
  have hz : (⟨#[]⟩ : ByteArray).size = 0 := rfl
  rw [show (0 : Int) = ((0 : Nat) : Int) from rfl, step _ _ m 0 (by omega) m0 (by omega) (by rw [hz]; omega),
    step _ _ (m / 256) 1 (by omega) (by omega) (by omega) (by rw [hsz, hz]; omega),
    step _ _ (m / 256 / 256) 2 (by omega) (by omega) (by omega) (by rw [hsz, hsz, hz]; omega),
    step _ _ (m / 256 / 256 / 256) 3 (by omega) (by omega) (by omega) (by rw [hsz, hsz, hsz, hz]; omega),
    step _ _ (m / 256 / 256 / 256 / 256) 4 (by omega) (by omega) (by omega) (by rw [hsz, hsz, hsz, hsz, hz]; omega),
    step _ _ (m / 256 / 256 / 256 / 256 / 256) 5 (by omega) (by omega) (by omega) (by rw [hsz, hsz, hsz, hsz, hsz, hz]; omega),
    concordanceref01_One.l0.eq_2, if_neg (by omega), if_pos (by rw [hsz, hsz, hsz, hsz, hsz, hsz, hz]; omega)]
  have e1 : m / 256 / 256 / 256 / 256 / 256 % 256 = m / 1099511627776 := by omega
  have e2 : m / 256 / 256 / 256 / 256 % 256 = m / 4294967296 % 256 := by omega
  have e3 : m / 256 / 256 / 256 % 256 = m / 16777216 % 256 := by omega
  have e4 : m / 256 / 256 % 256 = m / 65536 % 256 := by omega
  rw [e1, e2, e3, e4]
  congr 2
theorem refOne_l1 (s : ByteArray) (hs : s.size ≤ 1000) (n : Int) (t : Bool) : ∀ (d k i : Nat) (x : ByteArray), i + d = s.size → x.size ≤ 2 * i → d < k →
    concordanceref01_One.l1 k x (i : Int) s n t = some (⟨(32 :: (x.data.toList ++ (s.data.toList.drop i).flatMap escB ++ [0, 1])).toArray⟩, 0) := by
  intro d
  induction d with
  | zero =>
    intro k i x h1 h2 h3
    obtain ⟨k, rfl⟩ : ∃ m, k = m + 1 := ⟨k - 1, by omega⟩
    have hsz : ((⟨#[32]⟩ : ByteArray) ++ x).size = 1 + x.size := by rw [ByteArray.size_append]; rfl
    rw [concordanceref01_One.l1.eq_2, if_neg (by omega), if_pos (by omega), if_pos (by rw [hsz]; omega), List.drop_of_length_le (by rw [size_len]; omega)]
    congr 2
    apply data_ext
    rw [ByteArray.data_append, ByteArray.data_append, Array.toList_append, Array.toList_append]
    simp
  | succ d ih =>
    intro k i x h1 h2 h3
    obtain ⟨k, rfl⟩ : ∃ m, k = m + 1 := ⟨k - 1, by omega⟩
    have hi : i < s.data.toList.length := by rw [size_len]; omega
    have hb := bt_at' s i hi
    have hx1 := ext_one s i hi
    have hxs : (s.extract i (i + 1)).size = 1 := by rw [← size_len, hx1]; rfl
    have hdr : (s.data.toList.drop i).flatMap escB = escB s.data.toList[i] ++ (s.data.toList.drop (i + 1)).flatMap escB := by rw [List.drop_eq_getElem_cons hi, List.flatMap_cons]
    have hsa : (x ++ s.extract i (i + 1)).size = x.size + 1 := by rw [ByteArray.size_append, hxs]
    have hda : (x ++ s.extract i (i + 1)).data.toList = x.data.toList ++ [s.data.toList[i]] := by rw [ByteArray.data_append, Array.toList_append, hx1]
    rw [concordanceref01_One.l1.eq_2, if_pos (by omega), if_pos (by omega), wid ((i : Int) + 1) (by omega) (by omega), if_pos (by omega), if_pos (by omega), show (i : Int) + 1 = ((i + 1 : Nat) : Int) by omega, Int.toNat_natCast, Int.toNat_natCast, if_pos (by rw [hxs]; omega), hb, hdr]
    by_cases hz : s.data.toList[i] = 0
    · rw [if_pos (by rw [hz]; rfl), if_pos (by rw [hsa]; omega), ih k (i + 1) _ (by omega) (by rw [ByteArray.size_append, hsa]; show x.size + 1 + 1 ≤ _; omega) (by omega)]
      congr 4
      rw [ByteArray.data_append, Array.toList_append, hda, hz]
      unfold escB
      rw [if_pos rfl]
      simp
    · have hz' : ¬ ((s.data.toList[i]).toNat : Int) = 0 := fun h => hz (UInt8.toNat_inj.mp (by rw [show s.data.toList[i].toNat = 0 by omega]; rfl))
      rw [if_neg hz', ih k (i + 1) _ (by omega) (by rw [hsa]; omega) (by omega), hda]
      unfold escB
      rw [if_neg hz]
      simp
theorem refOne_tells (s : ByteArray) (n : Int) (t : Bool) (hs : s.size ≤ 1000) (k : Nat) (hk : s.size + 20 ≤ k) : concordanceref01_One.f k s n t = some (oneL s n t) := by
  obtain ⟨k, rfl⟩ : ∃ m, k = m + 1 + 1 := ⟨k - 2, by omega⟩
  have jy : concordanceref01_One.j1 (k + 1) true s n t = some (⟨#[]⟩, 1) := by rw [concordanceref01_One.j1.eq_2, if_pos rfl]
  unfold oneL
  cases t with
  | true =>
    by_cases h1 : 20 < s.size
    · have e : errV s n true = 6 := by unfold errV; rw [if_pos ⟨rfl, h1⟩]
      unfold concordanceref01_One.f
      rw [e, if_neg (show ¬ (6 : Int) = 0 by decide), if_pos rfl, concordanceref01_One.j0.eq_2, if_pos (decide_eq_true (by omega))]
    · have e0 : errV s n true = if badV s n true then 1 else 0 := by unfold errV; rw [if_neg (fun h => h1 h.2)]
      unfold concordanceref01_One.f
      rw [if_pos (show true = true from rfl), concordanceref01_One.j0.eq_2, decide_eq_false (show ¬ (s.size : Int) > 20 by omega), if_neg (by decide), if_pos (show true = true from rfl)]
      by_cases h2 : n = 0
      · have b : ¬ badV s n true := by
          intro h
          rcases h with h | h | h | h
          · exact h.2 h2
          · exact absurd h.1 (by decide)
          · omega
          · omega
        rw [e0, if_neg b, if_pos rfl, if_pos h2, if_neg (by omega), decide_eq_false (by omega), concordanceref01_One.j1.eq_2, if_neg (by decide), if_pos (show true = true from rfl)]
        have h := refOne_l1 s hs n true s.size k 0 (⟨#[]⟩ : ByteArray) (by omega) (by show 0 ≤ _; omega) (by omega)
        rw [show ((0 : Nat) : Int) = 0 from rfl, List.drop_zero] at h
        rw [h]
        unfold bodyV
        rw [if_pos rfl]
        simp
      · rw [e0, if_pos (show badV s n true from Or.inl ⟨rfl, h2⟩), if_neg (show ¬ (1 : Int) = 0 by decide), if_neg h2]
        exact jy
  | false =>
    have e0 : errV s n false = if badV s n false then 1 else 0 := by unfold errV; rw [if_neg (fun h => absurd h.1 (by decide))]
    unfold concordanceref01_One.f
    rw [if_neg (show ¬ false = true by decide), concordanceref01_One.j0.eq_2, if_neg (show ¬ false = true by decide), if_neg (show ¬ false = true by decide)]
    by_cases h2 : s.size = 0
    · rw [if_pos ((data_nil s).mpr h2)]
      by_cases h3 : n < -1099511627776
      · rw [e0, if_pos (show badV s n false from Or.inr (Or.inr (Or.inl h3))), if_neg (show ¬ (1 : Int) = 0 by decide), if_pos h3]
        exact jy
      rw [if_neg h3]
      by_cases h4 : 1099511627776 < n
      · rw [e0, if_pos (show badV s n false from Or.inr (Or.inr (Or.inr h4))), if_neg (show ¬ (1 : Int) = 0 by decide), decide_eq_true (by omega)]
        exact jy
      have b : ¬ badV s n false := by
        intro h
        rcases h with h | h | h | h
        · exact absurd h.1 (by decide)
        · exact h.2 h2
        · exact h3 h
        · exact h4 h
      rw [e0, if_neg b, if_pos rfl, decide_eq_false (by omega), concordanceref01_One.j1.eq_2, if_neg (show ¬ false = true by decide), if_neg (show ¬ false = true by decide), widn (n + 1099511627776) (by omega) (by omega), refOne_l0 (n + 1099511627776) (by omega) (by omega) k (by omega)]
      unfold bodyV
      rw [if_neg (show ¬ false = true by decide)]
    · rw [if_neg (fun h => h2 ((data_nil s).mp h)), e0, if_pos (show badV s n false from Or.inr (Or.inl ⟨rfl, h2⟩)), if_neg (show ¬ (1 : Int) = 0 by decide)]
      exact jy

theorem body_len (s : ByteArray) (n : Int) (t : Bool) : (bodyV s n t).length ≤ 7 + 2 * s.size := by
  unfold bodyV
  split
  · have h : ∀ l : List UInt8, (l.flatMap escB).length ≤ 2 * l.length := by
      intro l
      induction l with
      | nil => simp
      | cons c l ih =>
        rw [List.flatMap_cons, List.length_append, List.length_cons]
        have : (escB c).length ≤ 2 := by unfold escB; split <;> simp
        omega
    have := h s.data.toList
    rw [size_len] at this
    simp only [List.length_cons, List.length_append, List.length_nil]
    omega
  · simp [be6]
theorem entry_join (L M : List UInt8) : ((⟨L.toArray⟩ : ByteArray) ++ ⟨M.toArray⟩) = ⟨(L ++ M).toArray⟩ := by
  apply data_ext
  rw [ByteArray.data_append, Array.toList_append]
end Go.Proofs.YtcpehlllgfffkaaDoor.GT
