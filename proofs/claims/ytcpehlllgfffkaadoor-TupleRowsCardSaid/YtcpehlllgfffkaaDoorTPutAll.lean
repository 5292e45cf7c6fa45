/- A whole row's bytes: the document's Put of values. Conditions: at most 100 values, texts of at most 50 bytes. -/
import Derived.Test.YtcpehlllgfffkaaDoorTFits
import Derived.Test.YtcpehlllgfffkaaDoorGTx8
namespace Go.Proofs.YtcpehlllgfffkaaDoor.GT
open Go.RowKit Go.Proofs.YtcpehlllgfffkaaDoorW.PrintWords Go.Proofs.YtcpehlllgfffkaaDoorW.PrintLast
set_option linter.unusedVariables false
set_option linter.unusedSimpArgs false
def bodyOf (v : S25) : List UInt8 := bodyV v.f0 v.f1 v.f2
def errOf (v : S25) : Int := errV v.f0 v.f1 v.f2
/-- The bytes of the values behind what is laid already, or the first one's fault. -/
def putGo : List S25 → List UInt8 → ByteArray × Int
  | [], acc => (⟨acc.toArray⟩, 0)
  | v :: a, acc => if errOf v = 0 then putGo a (acc ++ bodyOf v) else (⟨#[]⟩, errOf v)
theorem refPut_loop (a : List S25) (ha : a.length ≤ 100) (hs : ∀ x ∈ a, x.f0.size ≤ 50) : ∀ (d i k : Nat) (acc : List UInt8), i + d = a.length → acc.length ≤ 200 * i → 100 + d ≤ k →
    concordanceref01_Put.l0 k (a.map toU) ⟨acc.toArray⟩ (i : Int) = some (putGo (a.drop i) acc) := by
  have hm : ((a.map toU).length : Int) = (a.length : Int) := by rw [List.length_map]
  intro d
  induction d with
  | zero =>
    intro i k acc hi hl hk
    obtain ⟨k, rfl⟩ : ∃ m, k = m + 1 := ⟨k - 1, by omega⟩
    rw [concordanceref01_Put.l0.eq_2, hm, if_neg (by omega), List.drop_of_length_le (by omega)]
    rfl
  | succ d ih =>
    intro i k acc hi hl hk
    obtain ⟨k, rfl⟩ : ∃ m, k = m + 1 := ⟨k - 1, by omega⟩
    have hia : i < a.length := by omega
    have hz := hs a[i] (List.getElem_mem hia)
    have hw : wrap64 ((i : Int) + 1) = ((i + 1 : Nat) : Int) := by rw [widN _ (by omega) (by omega)]; omega
    have hbl := body_len a[i].f0 a[i].f1 a[i].f2
    rw [concordanceref01_Put.l0.eq_2, hm, if_pos (by omega), if_pos (by omega), rd_U a i hia, List.drop_eq_getElem_cons hia, putGo, hw]
    show ((concordanceref01_One.f k a[i].f0 a[i].f1 a[i].f2).bind fun bt => if bt.2 = 0 then (if (⟨acc.toArray⟩ : ByteArray).size + bt.1.size ≤ 9223372036854775807 then concordanceref01_Put.l0 k (a.map toU) ((⟨acc.toArray⟩ : ByteArray) ++ bt.1) ((i + 1 : Nat) : Int) else none) else some ((⟨#[]⟩ : ByteArray), bt.2)) = _
    rw [refOne_tells a[i].f0 a[i].f1 a[i].f2 (by omega) k (by omega), Option.bind_some]
    unfold oneL errOf
    by_cases he : errV a[i].f0 a[i].f1 a[i].f2 = 0
    · rw [if_pos he, if_pos he]
      show (if (0 : Int) = 0 then (if (⟨acc.toArray⟩ : ByteArray).size + (⟨(bodyV a[i].f0 a[i].f1 a[i].f2).toArray⟩ : ByteArray).size ≤ 9223372036854775807 then concordanceref01_Put.l0 k (a.map toU) ((⟨acc.toArray⟩ : ByteArray) ++ ⟨(bodyV a[i].f0 a[i].f1 a[i].f2).toArray⟩) ((i + 1 : Nat) : Int) else none) else _) = _
      have z1 : (⟨acc.toArray⟩ : ByteArray).size = acc.length := by show acc.toArray.size = _; simp
      have z2 : (⟨(bodyV a[i].f0 a[i].f1 a[i].f2).toArray⟩ : ByteArray).size = (bodyV a[i].f0 a[i].f1 a[i].f2).length := by show (bodyV a[i].f0 a[i].f1 a[i].f2).toArray.size = _; simp
      rw [if_pos rfl, if_pos (by rw [z1, z2]; omega), entry_join]
      exact ih (i + 1) k (acc ++ bodyOf a[i]) (by omega) (by unfold bodyOf; rw [List.length_append]; omega) (by omega)
    · rw [if_neg he, if_neg he, if_neg he]
theorem refPut_tells (a : List S25) (ha : a.length ≤ 100) (hs : ∀ x ∈ a, x.f0.size ≤ 50) (k : Nat) (hk : 200 ≤ k) : concordanceref01_Put.f k (a.map toU) = some (putGo a []) :=
  refPut_loop a ha hs a.length 0 k [] (by omega) (by simp) (by omega)
/-! The program's Put: one text behind what is laid already. -/
theorem put_l2g (s : ByteArray) (hs : s.size ≤ 1000) (n : Int) (a : List S25) (q : Nat) (hq : q < 1000) : ∀ (d m i : Nat) (L : List UInt8), i + d = s.size → L.length ≤ 300000 + 2 * i →
    keys_Put.l2 (m + d + 1) (nats L) a (a.length : Int) (q : Int) (s.size : Int) (i : Int) s n true = keys_Put.l0 m (nats (L ++ (s.data.toList.drop i).flatMap escB ++ [0, 1])) a (a.length : Int) ((q + 1 : Nat) : Int) := by
  intro d
  induction d with
  | zero =>
    intro m i L h1 h2
    have hl : (nats L).length = L.length := List.length_map _
    have hw : wrap64 ((q : Int) + 1) = ((q + 1 : Nat) : Int) := by rw [widN _ (by omega) (by omega)]; omega
    rw [keys_Put.l2.eq_2, if_neg (by omega), Option.bind_some, if_pos (by rw [hl]; simp; omega), hw, show nats L ++ [0, 1] = nats (L ++ [0, 1]) from (nats_app L [0, 1]).symm, List.drop_of_length_le (by rw [size_len]; omega)]
    simp
  | succ d ih =>
    intro m i L h1 h2
    have hl : (nats L).length = L.length := List.length_map _
    have hi : i < s.data.toList.length := by rw [size_len]; omega
    have hb := bt_at' s i hi
    have hdr : (s.data.toList.drop i).flatMap escB = escB s.data.toList[i] ++ (s.data.toList.drop (i + 1)).flatMap escB := by rw [List.drop_eq_getElem_cons hi, List.flatMap_cons]
    rw [show m + (d + 1) + 1 = (m + d + 1) + 1 by omega, keys_Put.l2.eq_2, if_pos (by omega), if_pos (by omega), if_pos (by omega), if_pos (by rw [hl]; omega), Option.bind_some, hb, wid ((i : Int) + 1) (by omega) (by omega), show (i : Int) + 1 = ((i + 1 : Nat) : Int) by omega,
      show nats L ++ [((s.data.toList[i]).toNat : Int)] = nats (L ++ [s.data.toList[i]]) from (nats_app L [s.data.toList[i]]).symm, hdr]
    have hl2 : (nats (L ++ [s.data.toList[i]])).length = L.length + 1 := by rw [nats, List.length_map, List.length_append]; rfl
    by_cases hz : s.data.toList[i] = 0
    · rw [if_pos (by rw [hz]; rfl), if_pos (by rw [hl2]; omega), show nats (L ++ [s.data.toList[i]]) ++ [255] = nats (L ++ [s.data.toList[i]] ++ [255]) from (nats_app _ [255]).symm, ih m (i + 1) _ (by omega) (by simp only [List.length_append, List.length_cons, List.length_nil]; omega)]
      rw [hz]
      unfold escB
      rw [if_pos rfl]
      simp
    · have hz' : ¬ ((s.data.toList[i]).toNat : Int) = 0 := fun h => hz (UInt8.toNat_inj.mp (by rw [show s.data.toList[i].toNat = 0 by omega]; rfl))
      rw [if_neg hz', ih m (i + 1) _ (by omega) (by simp only [List.length_append, List.length_cons, List.length_nil]; omega)]
      unfold escB
      rw [if_neg hz]
      simp
theorem nats_be6 (m : Int) (m0 : 0 ≤ m) (m1 : m ≤ 2199023255552) : nats (be6 m) = [m / 1099511627776 % 256, m / 4294967296 % 256, m / 16777216 % 256, m / 65536 % 256, m / 256 % 256, m / 1 % 256] := by
  have g : ∀ x : Int, 0 ≤ x → x < 256 → ((UInt8.ofNat x.toNat).toNat : Int) = x := fun x h0 h1 => by rw [UInt8.toNat_ofNat']; omega
  unfold nats be6
  simp only [List.map_cons, List.map_nil]
  rw [g _ (by omega) (by omega), g _ (by omega) (by omega), g _ (by omega) (by omega), g _ (by omega) (by omega), g _ (by omega) (by omega), g _ (by omega) (by omega), show m / 1099511627776 % 256 = m / 1099511627776 by omega, show m / 1 % 256 = m % 256 by omega]
theorem put_l1g (s : ByteArray) (n : Int) (a : List S25) (q : Nat) (hq : q < 1000) (hn0 : -1099511627776 ≤ n) (hn1 : n ≤ 1099511627776) (p : Nat) (L : List UInt8) (hL : L.length ≤ 300000) :
    keys_Put.l1 (p + 1 + 1 + 1 + 1 + 1 + 1 + 1) (nats L) 5 a (a.length : Int) (q : Int) s n false = keys_Put.l0 p (nats (L ++ be6 (n + 1099511627776))) a (a.length : Int) ((q + 1 : Nat) : Int) := by
  have hw : wrap64 ((q : Int) + 1) = ((q + 1 : Nat) : Int) := by rw [widN _ (by omega) (by omega)]; omega
  have hl : (nats L).length = L.length := List.length_map _
  rw [nats_app, nats_be6 _ (by omega) (by omega), ← hw]
  clear hw
  generalize nats L = N at hl ⊢
  have hm : wrap64 (n + 1099511627776) = n + 1099511627776 := widn _ (by omega) (by omega)
  obtain ⟨m, hmm⟩ : ∃ m, n + 1099511627776 = m := ⟨_, rfl⟩
  have m0 : 0 ≤ m := by omega
  have m1 : m ≤ 2199023255552 := by omega
  rw [hmm] at hm
  have s5 : shr .i64 m 40 = m / 1099511627776 := rfl
  have s4 : shr .i64 m 32 = m / 4294967296 := rfl
  have s3 : shr .i64 m 24 = m / 16777216 := rfl
  have s2 : shr .i64 m 16 = m / 65536 := rfl
  have s1 : shr .i64 m 8 = m / 256 := rfl
  have s0 : shr .i64 m 0 = m / 1 := rfl
  rw [hmm, keys_Put.l1.eq_2, if_pos (by omega), show wrap64 (8 * 5) = 40 from wid 40 (by omega) (by omega), if_pos (by omega), if_pos (by first | omega | (simp only [List.length_append, List.length_cons, List.length_nil]; omega)), hmm, hm, s5, show wrap64 (5 - 1) = 4 from wid 4 (by omega) (by omega),
    keys_Put.l1.eq_2, if_pos (by omega), show wrap64 (8 * 4) = 32 from wid 32 (by omega) (by omega), if_pos (by omega), if_pos (by first | omega | (simp only [List.length_append, List.length_cons, List.length_nil]; omega)), hmm, hm, s4, show wrap64 (4 - 1) = 3 from wid 3 (by omega) (by omega),
    keys_Put.l1.eq_2, if_pos (by omega), show wrap64 (8 * 3) = 24 from wid 24 (by omega) (by omega), if_pos (by omega), if_pos (by first | omega | (simp only [List.length_append, List.length_cons, List.length_nil]; omega)), hmm, hm, s3, show wrap64 (3 - 1) = 2 from wid 2 (by omega) (by omega),
    keys_Put.l1.eq_2, if_pos (by omega), show wrap64 (8 * 2) = 16 from wid 16 (by omega) (by omega), if_pos (by omega), if_pos (by first | omega | (simp only [List.length_append, List.length_cons, List.length_nil]; omega)), hmm, hm, s2, show wrap64 (2 - 1) = 1 from wid 1 (by omega) (by omega),
    keys_Put.l1.eq_2, if_pos (by omega), show wrap64 (8 * 1) = 8 from wid 8 (by omega) (by omega), if_pos (by omega), if_pos (by first | omega | (simp only [List.length_append, List.length_cons, List.length_nil]; omega)), hmm, hm, s1, show wrap64 (1 - 1) = 0 from wid 0 (by omega) (by omega),
    keys_Put.l1.eq_2, if_pos (by omega), show wrap64 (8 * 0) = 0 from wid 0 (by omega) (by omega), if_pos (by omega), if_pos (by first | omega | (simp only [List.length_append, List.length_cons, List.length_nil]; omega)), hmm, hm, s0, show wrap64 (0 - 1) = -1 by unfold wrap64; omega,
    keys_Put.l1.eq_2, if_neg (by omega)]
  simp only [List.append_assoc, List.cons_append, List.nil_append]
theorem right_numB (s : ByteArray) (n : Int) (t : Bool) (h : errV s n t = 0) : -1099511627776 ≤ n ∧ n ≤ 1099511627776 := by
  unfold errV at h
  split at h
  · exact absurd h (by decide)
  split at h
  · exact absurd h (by decide)
  · rename_i hb
    unfold badV at hb
    omega
theorem put_loop (a : List S25) (ha : a.length ≤ 100) (hs : ∀ x ∈ a, x.f0.size ≤ 50) : ∀ (d i k : Nat) (acc : List UInt8), i + d = a.length → acc.length ≤ 200 * i → 100 + 100 * d ≤ k →
    keys_Put.l0 k (nats acc) a (a.length : Int) (i : Int) = some (putGo (a.drop i) acc) := by
  intro d
  induction d with
  | zero =>
    intro i k acc hi hl hk
    obtain ⟨k, rfl⟩ : ∃ m, k = m + 1 := ⟨k - 1, by omega⟩
    rw [keys_Put.l0.eq_2, if_neg (by omega), List.drop_of_length_le (by omega), str_nats]
    rfl
  | succ d ih =>
    intro i k acc hi hl hk
    obtain ⟨k, rfl⟩ : ∃ m, k = m + 1 := ⟨k - 1, by omega⟩
    have hia : i < a.length := by omega
    have hz := hs a[i] (List.getElem_mem hia)
    have hbl := body_len a[i].f0 a[i].f1 a[i].f2
    have hln : (nats acc).length = acc.length := List.length_map _
    rw [keys_Put.l0.eq_2, if_pos (by omega), if_pos (by omega), if_pos (by omega), rd_A a i hia, right_tells a[i].f0 a[i].f1 a[i].f2 k (by omega), Option.bind_some, List.drop_eq_getElem_cons hia, putGo]
    unfold errOf
    by_cases he : errV a[i].f0 a[i].f1 a[i].f2 = 0
    · rw [if_pos he, if_pos he]
      have hbo : bodyOf a[i] = bodyV a[i].f0 a[i].f1 a[i].f2 := rfl
      have hnext : ∀ (k' : Nat), 100 + 100 * d ≤ k' → keys_Put.l0 k' (nats (acc ++ bodyOf a[i])) a (a.length : Int) ((i + 1 : Nat) : Int) = some (putGo (a.drop (i + 1)) (acc ++ bodyOf a[i])) := fun k' hk' =>
        ih (i + 1) k' (acc ++ bodyOf a[i]) (by omega) (by rw [hbo, List.length_append]; omega) hk'
      cases ht : a[i].f2 with
      | true =>
        rw [if_pos rfl, if_pos (by omega)]
        have h := put_l2g a[i].f0 (by omega) a[i].f1 a i (by omega) a[i].f0.size (k - a[i].f0.size - 1) 0 (acc ++ [32]) (by omega) (by rw [List.length_append, List.length_singleton]; omega)
        rw [show k - a[i].f0.size - 1 + a[i].f0.size + 1 = k by omega, List.drop_zero, show ((0 : Nat) : Int) = 0 from rfl, nats_app] at h
        rw [show ([32] : List Int) = nats [32] from rfl, h]
        have hb2 : acc ++ [32] ++ a[i].f0.data.toList.flatMap escB ++ [0, 1] = acc ++ bodyOf a[i] := by rw [hbo, ht]; unfold bodyV; rw [if_pos rfl]; simp
        rw [hb2]
        exact hnext _ (by omega)
      | false =>
        obtain ⟨n0, n1⟩ := right_numB a[i].f0 a[i].f1 a[i].f2 he
        rw [if_neg (show ¬ false = true by decide), if_pos (by omega)]
        have h := put_l1g a[i].f0 a[i].f1 a i (by omega) n0 n1 (k - 7) (acc ++ [16]) (by rw [List.length_append, List.length_singleton]; omega)
        rw [show k - 7 + 1 + 1 + 1 + 1 + 1 + 1 + 1 = k by omega, nats_app] at h
        rw [show ([16] : List Int) = nats [16] from rfl, h]
        have hb2 : acc ++ [16] ++ be6 (a[i].f1 + 1099511627776) = acc ++ bodyOf a[i] := by rw [hbo, ht]; unfold bodyV; rw [if_neg (by decide)]; simp
        rw [hb2]
        exact hnext _ (by omega)
    · rw [if_neg he, if_neg he]
theorem put_all (a : List S25) (ha : a.length ≤ 100) (hs : ∀ x ∈ a, x.f0.size ≤ 50) (k : Nat) (hk : 20000 ≤ k) : keys_Put.f k a = some (putGo a []) :=
  put_loop a ha hs a.length 0 k [] (by omega) (by simp) (by omega)
end Go.Proofs.YtcpehlllgfffkaaDoor.GT
