/- The document's Show tells what the program's Show tells; what lies behind a key (keys.After). Conditions: a text of at most 1000 bytes; a number from -2^62 on; keys that begin with a byte other than 255. -/
import Derived.Lib.ItoaLen
import Derived.Lib.ItoaMem
import Derived.Test.YtcpehlllgfffkaaDoorTOrder
import Derived.Test.YtcpehlllgfffkaaDoorTItoa
import Derived.Test.YtcpehlllgfffkaaDoorGTx7
import Derived.Test.YtcpehlllgfffkaaDoorGTx8
namespace Go.Proofs.YtcpehlllgfffkaaDoor.GT
open Go.RowKit Go.Proofs.YtcpehlllgfffkaaDoorW.PrintWords Go.Proofs.YtcpehlllgfffkaaDoorW.PrintLast
set_option linter.unusedVariables false
set_option linter.unusedSimpArgs false

/-! keys.After. -/
theorem after_loop (L : List UInt8) (hL : L.length ≤ 10000) : ∀ (i k : Nat), (h : i < L.length) → (∀ r ∈ L.drop (i + 1), r.toNat = 255) → i + 2 ≤ k → (∃ j, ∃ (hj : j < L.length), j ≤ i ∧ L[j].toNat ≠ 255) →
    ∃ hi : List UInt8, keys_After.l0 k ⟨L.toArray⟩ (i : Int) = some ⟨hi.toArray⟩ ∧ Behind L hi := by
  intro i
  induction i with
  | zero =>
    intro k h hr hk hex
    obtain ⟨j, hj, h0, hn⟩ := hex
    obtain rfl : j = 0 := by omega
    exact after_here L hL 0 k h hr (by omega) hn
  | succ i ih =>
    intro k h hr hk hex
    by_cases hn : L[i + 1].toNat = 255
    · obtain ⟨k, rfl⟩ : ∃ m, k = m + 1 := ⟨k - 1, by omega⟩
      have hz : ((⟨L.toArray⟩ : ByteArray).size : Int) = (L.length : Int) := by show ((L.toArray.size : Nat) : Int) = _; simp
      have hbt : bt (⟨L.toArray⟩ : ByteArray) ((i + 1 : Nat) : Int) = 255 := by
        rw [bt_at' (⟨L.toArray⟩ : ByteArray) (i + 1) (by simpa using h)]
        simpa using congrArg (fun x : Nat => (x : Int)) hn
      have hw : wrap64 (((i + 1 : Nat) : Int) - 1) = (i : Int) := by rw [wid _ (by omega) (by omega)]; omega
      rw [keys_After.l0.eq_2, if_pos (by omega), if_pos (by omega), hz, if_pos (by omega), hbt, if_pos rfl, hw]
      obtain ⟨j, hj, h0, hne⟩ := hex
      refine ih k (by omega) ?_ (by omega) ⟨j, hj, ?_, hne⟩
      · intro r hr'
        rw [List.drop_eq_getElem_cons h] at hr'
        rcases List.mem_cons.mp hr' with rfl | hr'
        · exact hn
        · exact hr r hr'
      · by_cases e : j = i + 1
        · subst e; exact absurd hn hne
        · omega
    · exact after_here L hL (i + 1) k h hr (by omega) hn
where
  after_here (L : List UInt8) (hL : L.length ≤ 10000) (i k : Nat) (h : i < L.length) (hr : ∀ r ∈ L.drop (i + 1), r.toNat = 255) (hk : 1 ≤ k) (hn : L[i].toNat ≠ 255) :
      ∃ hi : List UInt8, keys_After.l0 k ⟨L.toArray⟩ (i : Int) = some ⟨hi.toArray⟩ ∧ Behind L hi := by
    obtain ⟨k, rfl⟩ : ∃ m, k = m + 1 := ⟨k - 1, by omega⟩
    have hz : ((⟨L.toArray⟩ : ByteArray).size : Int) = (L.length : Int) := by show ((L.toArray.size : Nat) : Int) = _; simp
    have hbt : bt (⟨L.toArray⟩ : ByteArray) (i : Int) = (L[i].toNat : Int) := by
      rw [bt_at' (⟨L.toArray⟩ : ByteArray) i (by simpa using h)]
    have hlt := L[i].toNat_lt
    have hzz : (UInt8.ofNat (L[i].toNat + 1)).toNat = L[i].toNat + 1 := by rw [UInt8.toNat_ofNat']; omega
    have hmod : ((L[i].toNat : Int) + 1) % 256 = ((UInt8.ofNat (L[i].toNat + 1)).toNat : Int) := by rw [hzz]; omega
    have hst : strOfNums [(((UInt8.ofNat (L[i].toNat + 1)).toNat : Nat) : Int)] = ⟨[UInt8.ofNat (L[i].toNat + 1)].toArray⟩ := str_nats [UInt8.ofNat (L[i].toNat + 1)]
    have hex : (⟨L.toArray⟩ : ByteArray).extract 0 i = ⟨(L.take i).toArray⟩ := by
      apply data_ext
      simp
    have hs1 : (⟨(L.take i).toArray⟩ : ByteArray).size = i := by show (L.take i).toArray.size = i; simp; omega
    refine ⟨L.take i ++ [UInt8.ofNat (L[i].toNat + 1)], ?_, L.take i, L[i], UInt8.ofNat (L[i].toNat + 1), L.drop (i + 1), ?_, hr, hzz, rfl⟩
    · rw [keys_After.l0.eq_2, if_pos (by omega), if_pos (by omega), hz, if_pos (by omega), hbt, if_neg (by omega), if_pos (by omega), Option.bind_some, hmod, hst, Int.toNat_natCast, hex,
        if_pos (by rw [hs1]; show i + 1 ≤ _; omega), entry_join]
    · rw [← List.drop_eq_getElem_cons h, List.take_append_drop]
theorem after_tells (b : UInt8) (L : List UInt8) (hb : b.toNat ≠ 255) (hL : (b :: L).length ≤ 10000) (k : Nat) (hk : L.length + 2 ≤ k) : ∃ hi : List UInt8, keys_After.f k ⟨(b :: L).toArray⟩ = some ⟨hi.toArray⟩ ∧ Behind (b :: L) hi := by
  have hz : ((⟨(b :: L).toArray⟩ : ByteArray).size : Int) = ((L.length + 1 : Nat) : Int) := by show (((b :: L).toArray.size : Nat) : Int) = _; simp
  rw [List.length_cons] at hL
  have hw : wrap64 (((L.length + 1 : Nat) : Int) - 1) = (L.length : Int) := by rw [wid _ (by omega) (by omega)]; omega
  unfold keys_After.f
  rw [hz, hw]
  exact after_loop (b :: L) (by rw [List.length_cons]; omega) L.length k (by simp) (fun r hr => by simp at hr) hk ⟨0, by simp, by omega, hb⟩

/-! The document's digits. -/
theorem digits_one (i : Nat) (h : i < 10) (k : Nat) (hk : 1 ≤ k) : concordanceref19_Digits.f k (i : Int) = some ⟨(Lib.decDigits i).toArray⟩ := by
  obtain ⟨k, rfl⟩ : ∃ m, k = m + 1 := ⟨k - 1, by omega⟩
  have hz : (UInt8.ofNat (48 + i)).toNat = 48 + i := by rw [UInt8.toNat_ofNat']; omega
  have hm : wrap64 (48 + (i : Int)) % 256 = ((UInt8.ofNat (48 + i)).toNat : Int) := by rw [wid _ (by omega) (by omega), hz]; omega
  have hst : strOfNums [(((UInt8.ofNat (48 + i)).toNat : Nat) : Int)] = ⟨[UInt8.ofNat (48 + i)].toArray⟩ := str_nats [UInt8.ofNat (48 + i)]
  rw [concordanceref19_Digits.f.eq_2, if_neg (by omega), if_pos (by omega), hm, hst, Lib.decDigits_one h]
theorem dec_len (u : Nat) (h : u < 9223372036854775808) : (Lib.decDigits u).length ≤ 21 := by
  have := Lib.itoa_length_le (u : Int) (by omega) (by omega)
  rw [Lib.itoa_nonneg] at this
  exact this
theorem digits_tells : ∀ (m u k : Nat), u < 10 ^ m → u < 9223372036854775808 → m + 1 ≤ k → concordanceref19_Digits.f k (u : Int) = some ⟨(Lib.decDigits u).toArray⟩ := by
  intro m
  induction m with
  | zero =>
    intro u k hu _ hk
    exact digits_one u (by omega) k (by omega)
  | succ m ih =>
    intro u k hu hb hk
    by_cases h : u < 10
    · exact digits_one u h k (by omega)
    obtain ⟨k, rfl⟩ : ∃ m, k = m + 1 := ⟨k - 1, by omega⟩
    have h1 : Int.tdiv (u : Int) 10 = ((u / 10 : Nat) : Int) := by rw [Int.tdiv_eq_ediv_of_nonneg (by omega)]; omega
    have h2 : Int.tmod (u : Int) 10 = ((u % 10 : Nat) : Int) := by rw [Int.tmod_eq_emod_of_nonneg (by omega)]; omega
    have hw : wrap64 ((u / 10 : Nat) : Int) = ((u / 10 : Nat) : Int) := wid _ (by omega) (by omega)
    have hp : u / 10 < 10 ^ m := by rw [Nat.pow_succ] at hu; omega
    have hl := dec_len (u / 10) (by omega)
    have hd : Lib.decDigits u = Lib.decDigits (u / 10) ++ [UInt8.ofNat (48 + u % 10)] := by rw [Lib.decDigits, dif_neg h]
    have z1 : (⟨(Lib.decDigits (u / 10)).toArray⟩ : ByteArray).size = (Lib.decDigits (u / 10)).length := by show (Lib.decDigits (u / 10)).toArray.size = _; simp
    have z2 : (⟨[UInt8.ofNat (48 + u % 10)].toArray⟩ : ByteArray).size = 1 := rfl
    rw [concordanceref19_Digits.f.eq_2, if_neg (by omega), if_neg (by omega), h1, hw, h2, ih (u / 10) k hp (by omega) (by omega), Option.bind_some, digits_one (u % 10) (by omega) k (by omega), Option.bind_some, Lib.decDigits_one (by omega : u % 10 < 10),
      if_pos (by rw [z1, z2]; omega), entry_join, hd]
theorem digits_itoa (n : Int) (h0 : -4611686018427387904 ≤ n) (h1 : n ≤ 9223372036854775807) (k : Nat) (hk : 30 ≤ k) : concordanceref19_Digits.f k n = some ⟨(Lib.itoa n).toArray⟩ := by
  by_cases hn : n < 0
  · obtain ⟨u, rfl⟩ : ∃ u : Nat, n = -(u : Int) := ⟨n.natAbs, by omega⟩
    obtain ⟨k, rfl⟩ : ∃ m, k = m + 1 := ⟨k - 1, by omega⟩
    have hw : wrap64 (- -(u : Int)) = (u : Int) := by rw [Int.neg_neg, wid _ (by omega) (by omega)]
    have hl := dec_len u (by omega)
    have z1 : (⟨(Lib.decDigits u).toArray⟩ : ByteArray).size = (Lib.decDigits u).length := by show (Lib.decDigits u).toArray.size = _; simp
    rw [concordanceref19_Digits.f.eq_2, if_pos hn, hw, digits_tells 19 u k (by omega) (by omega) (by omega), Option.bind_some, if_pos (by rw [z1]; omega), Lib.itoa_neg u (by omega)]
    congr 1
  · obtain ⟨u, rfl⟩ : ∃ u : Nat, n = (u : Int) := ⟨n.toNat, by omega⟩
    rw [digits_tells 19 u k (by omega) (by omega) (by omega), Lib.itoa_nonneg]

/-! The document's quotes. -/
theorem hex_ext : ∀ i : Fin 16, (⟨#[48, 49, 50, 51, 52, 53, 54, 55, 56, 57, 97, 98, 99, 100, 101, 102]⟩ : ByteArray).extract i.1 (i.1 + 1) = ⟨#[hexd i.1]⟩ := by decide
theorem plain_iff (c : UInt8) : plainB c = true ↔ (31 < c.toNat ∧ c.toNat < 127 ∧ c.toNat ≠ 39 ∧ c.toNat ≠ 92) := by
  constructor
  · intro h
    obtain ⟨h1, h2, h3, h4⟩ := plain_yes c h
    have g1 := beq_eq_false_iff_ne.mp h1
    have g2 := beq_eq_false_iff_ne.mp h2
    have g3 := of_decide_eq_false h3
    have g4 := of_decide_eq_false h4
    omega
  · intro ⟨h1, h2, h3, h4⟩
    apply Classical.byContradiction
    intro h
    rcases plain_not c h with g | ⟨_, g⟩ | ⟨_, _, g⟩ | ⟨_, _, _, g⟩
    · have := beq_iff_eq.mp g; omega
    · have := beq_iff_eq.mp g; omega
    · have := of_decide_eq_true g; omega
    · have := of_decide_eq_true g; omega
theorem wid0 (m : Nat) (h : m < 1000) : wrap64 (m : Int) = (m : Int) := wid _ (by omega) (by omega)
theorem wid1 (m : Nat) (h : m < 1000) : wrap64 ((m : Int) + 1) = ((m + 1 : Nat) : Int) := by rw [wid _ (by omega) (by omega)]; omega
theorem tdiv16 (m : Nat) : Int.tdiv (m : Int) 16 = ((m / 16 : Nat) : Int) := by rw [Int.tdiv_eq_ediv_of_nonneg (by omega)]; omega
theorem tmod16 (m : Nat) : Int.tmod (m : Int) 16 = ((m % 16 : Nat) : Int) := by rw [Int.tmod_eq_emod_of_nonneg (by omega)]; omega
theorem g31 {c : Nat} (h : 31 < c) : (c : Int) > 31 := by omega
theorem g31' {c : Nat} (h : ¬ 31 < c) : ¬ (c : Int) > 31 := by omega
theorem l127 {c : Nat} (h : c < 127) : (c : Int) < 127 := by omega
theorem l127' {c : Nat} (h : ¬ c < 127) : ¬ (c : Int) < 127 := by omega
theorem e39 {c : Nat} (h : c = 39) : (c : Int) = 39 := by omega
theorem e39' {c : Nat} (h : ¬ c = 39) : ¬ (c : Int) = 39 := by omega
theorem e92 {c : Nat} (h : c = 92) : (c : Int) = 92 := by omega
theorem e92' {c : Nat} (h : ¬ c = 92) : ¬ (c : Int) = 92 := by omega
theorem refShow_l0 (s : ByteArray) (hs : s.size ≤ 1000) (n : Int) (t : Bool) : ∀ (d k i : Nat) (x : ByteArray), i + d = s.size → x.size ≤ 1 + 3 * i → d < k →
    concordanceref19_Show.l0 k x (i : Int) s n t = some ⟨(x.data.toList ++ (s.data.toList.drop i).flatMap showB ++ [39]).toArray⟩ := by
  intro d
  induction d with
  | zero =>
    intro k i x h1 h2 h3
    obtain ⟨k, rfl⟩ : ∃ m, k = m + 1 := ⟨k - 1, by omega⟩
    rw [concordanceref19_Show.l0.eq_2, if_neg (by omega), if_pos (by omega), List.drop_of_length_le (by rw [size_len]; omega)]
    congr 1
    apply data_ext
    rw [ByteArray.data_append, Array.toList_append]
    simp
  | succ d ih =>
    intro k i x h1 h2 h3
    obtain ⟨k, rfl⟩ : ∃ m, k = m + 1 := ⟨k - 1, by omega⟩
    have hi : i < s.data.toList.length := by rw [size_len]; omega
    have hb := bt_at' s i hi
    have hx1 := ext_one s i hi
    have hxs : (s.extract i (i + 1)).size = 1 := by rw [← size_len, hx1]; rfl
    have hdr : (s.data.toList.drop i).flatMap showB = showB s.data.toList[i] ++ (s.data.toList.drop (i + 1)).flatMap showB := by rw [List.drop_eq_getElem_cons hi, List.flatMap_cons]
    generalize hc : s.data.toList[i] = c at hb hx1 hdr
    have hc256 := c.toNat_lt
    have b1 : c.toNat / 16 < 1000 := by omega
    have b2 : c.toNat % 16 < 1000 := by omega
    have b3 : c.toNat < 1000 := by omega
    have b4 : i < 1000 := by omega
    have e1 := hex_ext ⟨c.toNat / 16, by omega⟩
    have e2 := hex_ext ⟨c.toNat % 16, by omega⟩
    simp only at e1 e2
    have j1 : (⟨#[92]⟩ : ByteArray) ++ ⟨#[hexd (c.toNat / 16)]⟩ = ⟨#[92, hexd (c.toNat / 16)]⟩ := entry_join [92] [hexd (c.toNat / 16)]
    have j2 : (⟨#[92, hexd (c.toNat / 16)]⟩ : ByteArray) ++ ⟨#[hexd (c.toNat % 16)]⟩ = ⟨#[92, hexd (c.toNat / 16), hexd (c.toNat % 16)]⟩ := entry_join [92, hexd (c.toNat / 16)] [hexd (c.toNat % 16)]
    have y1 : (⟨#[hexd (c.toNat / 16)]⟩ : ByteArray).size = 1 := rfl
    have y2 : (⟨#[92, hexd (c.toNat / 16)]⟩ : ByteArray).size = 2 := rfl
    have y3 : (⟨#[hexd (c.toNat % 16)]⟩ : ByteArray).size = 1 := rfl
    have y4 : (⟨#[92, hexd (c.toNat / 16), hexd (c.toNat % 16)]⟩ : ByteArray).size = 3 := rfl
    have q0 : ((i : Int) < (s.size : Int)) = True := eq_true (by omega)
    have q1 : (0 ≤ (i : Int)) = True := eq_true (by omega)
    have q2 : (0 ≤ ((c.toNat / 16 : Nat) : Int)) = True := eq_true (by omega)
    have q3 : (((c.toNat / 16 : Nat) : Int) ≤ ((c.toNat / 16 + 1 : Nat) : Int)) = True := eq_true (by omega)
    have q4 : (((c.toNat / 16 + 1 : Nat) : Int) ≤ 16) = True := eq_true (by omega)
    have q5 : (0 ≤ ((c.toNat % 16 : Nat) : Int)) = True := eq_true (by omega)
    have q6 : (((c.toNat % 16 : Nat) : Int) ≤ ((c.toNat % 16 + 1 : Nat) : Int)) = True := eq_true (by omega)
    have q7 : (((c.toNat % 16 + 1 : Nat) : Int) ≤ 16) = True := eq_true (by omega)
    have q8 : (1 + 1 ≤ 9223372036854775807) = True := eq_true (by omega)
    have q9 : (2 + 1 ≤ 9223372036854775807) = True := eq_true (by omega)
    have q10 : (x.size + 3 ≤ 9223372036854775807) = True := eq_true (by omega)
    have q11 : ((i : Int) ≤ ((i + 1 : Nat) : Int)) = True := eq_true (by omega)
    have q12 : (((i + 1 : Nat) : Int) ≤ (s.size : Int)) = True := eq_true (by omega)
    have q13 : (x.size + 1 ≤ 9223372036854775807) = True := eq_true (by omega)
    have fin_esc : plainB c = false → concordanceref19_Show.l0 k (x ++ ⟨#[92, hexd (c.toNat / 16), hexd (c.toNat % 16)]⟩) ((i + 1 : Nat) : Int) s n t = some ⟨(x.data.toList ++ (showB c ++ (s.data.toList.drop (i + 1)).flatMap showB) ++ [39]).toArray⟩ := by
      intro hp
      rw [ih k (i + 1) _ (by omega) (by rw [ByteArray.size_append, y4]; omega) (by omega)]
      congr 3
      rw [ByteArray.data_append, Array.toList_append]
      unfold showB
      rw [hp, if_neg (by decide)]
      simp
    have fin_plain : plainB c = true → concordanceref19_Show.l0 k (x ++ s.extract i (i + 1)) ((i + 1 : Nat) : Int) s n t = some ⟨(x.data.toList ++ (showB c ++ (s.data.toList.drop (i + 1)).flatMap showB) ++ [39]).toArray⟩ := by
      intro hp
      rw [ih k (i + 1) _ (by omega) (by rw [ByteArray.size_append, hxs]; omega) (by omega)]
      congr 3
      rw [ByteArray.data_append, Array.toList_append, hx1]
      unfold showB
      rw [if_pos hp]
      simp
    have hpl := plain_iff c
    have hnp : ¬ (31 < c.toNat ∧ c.toNat < 127 ∧ c.toNat ≠ 39 ∧ c.toNat ≠ 92) → plainB c = false := fun h => by rw [← Bool.not_eq_true, hpl]; exact h
    have a1 : wrap64 (bt s (i : Int)) = (c.toNat : Int) := by rw [hb]; exact wid0 _ b3
    have d0 : Int.tdiv (c.toNat : Int) 16 = ((c.toNat / 16 : Nat) : Int) := tdiv16 _
    have d1 : wrap64 ((c.toNat / 16 : Nat) : Int) = ((c.toNat / 16 : Nat) : Int) := wid0 _ b1
    have d2 : wrap64 (((c.toNat / 16 : Nat) : Int) + 1) = ((c.toNat / 16 + 1 : Nat) : Int) := wid1 _ b1
    have m1 : Int.tmod (c.toNat : Int) 16 = ((c.toNat % 16 : Nat) : Int) := tmod16 _
    have m2 : wrap64 (((c.toNat % 16 : Nat) : Int) + 1) = ((c.toNat % 16 + 1 : Nat) : Int) := wid1 _ b2
    have w1 : wrap64 ((i : Int) + 1) = ((i + 1 : Nat) : Int) := wid1 _ b4
    rw [concordanceref19_Show.l0.eq_2, hdr]
    by_cases p1 : 31 < c.toNat
    · have r1 : ((c.toNat : Int) > 31) = True := eq_true (g31 p1)
      by_cases p2 : c.toNat < 127
      · have r2 : ((c.toNat : Int) < 127) = True := eq_true (l127 p2)
        by_cases p3 : c.toNat = 39
        · have r3 : ((c.toNat : Int) = 39) = True := eq_true (e39 p3)
          simp only [a1, d0, d1, d2, m1, m2, w1, Int.toNat_natCast, e1, e2, j1, j2, y1, y2, y3, y4, q0, q1, q2, q3, q4, q5, q6, q7, q8, q9, q10, r1, r2, r3, if_true]
          exact fin_esc (hnp (fun h => h.2.2.1 p3))
        · have r3 : ((c.toNat : Int) = 39) = False := eq_false (e39' p3)
          by_cases p4 : c.toNat = 92
          · have r4 : ((c.toNat : Int) = 92) = True := eq_true (e92 p4)
            simp only [a1, d0, d1, d2, m1, m2, w1, Int.toNat_natCast, e1, e2, j1, j2, y1, y2, y3, y4, q0, q1, q2, q3, q4, q5, q6, q7, q8, q9, q10, r1, r2, r3, r4, if_true, if_false]
            exact fin_esc (hnp (fun h => h.2.2.2 p4))
          · have r4 : ((c.toNat : Int) = 92) = False := eq_false (e92' p4)
            simp only [a1, w1, Int.toNat_natCast, hxs, q0, q1, q11, q12, q13, r1, r2, r3, r4, if_true, if_false]
            exact fin_plain (hpl.mpr ⟨p1, p2, p3, p4⟩)
      · have r2 : ((c.toNat : Int) < 127) = False := eq_false (l127' p2)
        simp only [a1, d0, d1, d2, m1, m2, w1, Int.toNat_natCast, e1, e2, j1, j2, y1, y2, y3, y4, q0, q1, q2, q3, q4, q5, q6, q7, q8, q9, q10, r1, r2, if_true, if_false]
        exact fin_esc (hnp (fun h => p2 h.2.1))
    · have r1 : ((c.toNat : Int) > 31) = False := eq_false (g31' p1)
      simp only [a1, d0, d1, d2, m1, m2, w1, Int.toNat_natCast, e1, e2, j1, j2, y1, y2, y3, y4, q0, q1, q2, q3, q4, q5, q6, q7, q8, q9, q10, r1, if_true, if_false]
      exact fin_esc (hnp (fun h => p1 h.1))
theorem refShow_tells (s : ByteArray) (n : Int) (t : Bool) (hs : s.size ≤ 1000) (h0 : -4611686018427387904 ≤ n) (h1 : n ≤ 9223372036854775807) (k : Nat) (hk : 1030 ≤ k) :
    concordanceref19_Show.f k s n t = tuple_Show.g s n t ∧ ∃ r, tuple_Show.g s n t = some r := by
  unfold concordanceref19_Show.f tuple_Show.g
  cases t with
  | true =>
    rw [if_pos rfl, if_pos rfl, if_pos (by omega)]
    refine ⟨?_, _, rfl⟩
    have := refShow_l0 s hs n true s.size k 0 ⟨#[39]⟩ (by omega) (by show 1 ≤ _; omega) (by omega)
    rw [List.drop_zero] at this
    exact this
  | false =>
    rw [if_neg (by decide), if_neg (by decide), if_pos (by omega), digits_itoa n h0 h1 k (by omega)]
    exact ⟨rfl, _, rfl⟩
end Go.Proofs.YtcpehlllgfffkaaDoor.GT
