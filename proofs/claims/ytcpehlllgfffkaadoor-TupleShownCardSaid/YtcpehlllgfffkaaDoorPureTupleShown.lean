/- TupleShown in plain Lean: what is shown has bytes from 20 to 7E, is not empty, and is the same just where the values are. Conditions: the numbers are int64. -/
import Derived.Lib.ItoaLen
import Derived.Test.YtcpehlllgfffkaaDoorPureTupleIDs
import Derived.Test.YtcpehlllgfffkaaDoorGTx13
namespace Go.Proofs.YtcpehlllgfffkaaDoor.GT
open Go.RowKit Go.Proofs.YtcpehlllgfffkaaDoorW.PrintWords Go.Proofs.YtcpehlllgfffkaaDoorW.PrintLast
set_option linter.unusedVariables false
set_option linter.unusedSimpArgs false

/-! A number's numeral. -/
def decVal (l : List UInt8) : Nat := l.foldl (fun a b => 10 * a + (b.toNat - 48)) 0
theorem decVal_snoc (l : List UInt8) (b : UInt8) : decVal (l ++ [b]) = 10 * decVal l + (b.toNat - 48) := by simp [decVal]
theorem dig_nat (i : Nat) (h : i < 10) : (UInt8.ofNat (48 + i)).toNat = 48 + i := by
  rw [UInt8.toNat_ofNat']
  omega
theorem dec_all (u : Nat) : decVal (Lib.decDigits u) = u ∧ Lib.decDigits u ≠ [] ∧ ∀ b ∈ Lib.decDigits u, 48 ≤ b.toNat ∧ b.toNat ≤ 57 := by
  induction u using Nat.strongRecOn with
  | ind u ih =>
    rw [Lib.decDigits]
    by_cases h : u < 10
    · rw [dif_pos h]
      refine ⟨?_, by simp, ?_⟩
      · show 10 * 0 + ((UInt8.ofNat (48 + u)).toNat - 48) = u
        rw [dig_nat u h]; omega
      · intro b hb
        obtain rfl := List.mem_singleton.mp hb
        rw [dig_nat u h]; omega
    · rw [dif_neg h]
      obtain ⟨h1, h2, h3⟩ := ih (u / 10) (by omega)
      refine ⟨?_, by simp, ?_⟩
      · rw [decVal_snoc, h1, dig_nat _ (by omega)]; omega
      · intro b hb
        rcases List.mem_append.mp hb with hb | hb
        · exact h3 b hb
        · obtain rfl := List.mem_singleton.mp hb
          rw [dig_nat _ (by omega)]; omega
theorem dec_inj {u v : Nat} (h : Lib.decDigits u = Lib.decDigits v) : u = v := by
  rw [← (dec_all u).1, ← (dec_all v).1, h]
theorem dec_head (u : Nat) (c : UInt8) (l : List UInt8) (h : Lib.decDigits u = c :: l) : 48 ≤ c.toNat ∧ c.toNat ≤ 57 := (dec_all u).2.2 c (by rw [h]; exact List.mem_cons_self)
theorem itoa_inj {n m : Int} (h : Lib.itoa n = Lib.itoa m) : n = m := by
  unfold Lib.itoa at h
  by_cases h1 : n < 0
  · by_cases h2 : m < 0
    · rw [if_pos h1, if_pos h2] at h
      have := dec_inj (List.cons.inj h).2
      omega
    · rw [if_pos h1, if_neg h2] at h
      have := dec_head _ _ _ h.symm
      exact absurd this.1 (by decide)
  · by_cases h2 : m < 0
    · rw [if_neg h1, if_pos h2] at h
      have := dec_head _ _ _ h
      exact absurd this.1 (by decide)
    · rw [if_neg h1, if_neg h2] at h
      have := dec_inj h
      omega
theorem itoa_bytes (n : Int) : ∀ b ∈ Lib.itoa n, 45 ≤ b.toNat ∧ b.toNat ≤ 57 := by
  intro b hb
  unfold Lib.itoa at hb
  split at hb
  · rcases List.mem_cons.mp hb with rfl | hb
    · decide
    · have := (dec_all _).2.2 b hb; omega
  · have := (dec_all _).2.2 b hb; omega
theorem itoa_ne (n : Int) : Lib.itoa n ≠ [] := by
  unfold Lib.itoa
  split
  · simp
  · exact (dec_all _).2.1

/-! A text in quotes. -/
theorem hexd_tab : ∀ i : Fin 16, 48 ≤ (hexd i.1).toNat ∧ (hexd i.1).toNat ≤ 102 := by decide
theorem hexd_inj_tab : ∀ i j : Fin 16, hexd i.1 = hexd j.1 → i = j := by decide
theorem showB_bytes (c : UInt8) : ∀ b ∈ showB c, 32 ≤ b.toNat ∧ b.toNat ≤ 126 := by
  intro b hb
  have hc := c.toNat_lt
  unfold showB at hb
  split at hb
  · rename_i hp
    obtain rfl := List.mem_singleton.mp hb
    obtain ⟨_, _, h3, h4⟩ := plain_yes b hp
    have := of_decide_eq_false h3
    have := of_decide_eq_false h4
    omega
  · simp only [List.mem_cons, List.not_mem_nil, or_false] at hb
    rcases hb with rfl | rfl | rfl
    · decide
    · have h9 : 48 ≤ (hexd (c.toNat / 16)).toNat ∧ (hexd (c.toNat / 16)).toNat ≤ 102 := hexd_tab ⟨c.toNat / 16, by omega⟩
      omega
    · have h9 : 48 ≤ (hexd (c.toNat % 16)).toNat ∧ (hexd (c.toNat % 16)).toNat ≤ 102 := hexd_tab ⟨c.toNat % 16, by omega⟩
      omega
theorem show_bytes (s : ByteArray) : ∀ b ∈ showL s, 32 ≤ b.toNat ∧ b.toNat ≤ 126 := by
  intro b hb
  unfold showL at hb
  rcases List.mem_cons.mp hb with rfl | hb
  · decide
  rcases List.mem_append.mp hb with hb | hb
  · obtain ⟨c, _, hc⟩ := List.mem_flatMap.mp hb
    exact showB_bytes c b hc
  · obtain rfl := List.mem_singleton.mp hb
    decide
theorem plain_ne (c : UInt8) (h : plainB c = true) : c ≠ 39 ∧ c ≠ 92 := by
  obtain ⟨h1, h2, _⟩ := plain_yes c h
  refine ⟨fun e => ?_, fun e => ?_⟩
  · rw [e] at h1; exact absurd h1 (by decide)
  · rw [e] at h2; exact absurd h2 (by decide)
theorem flat_inj : ∀ l m : List UInt8, l.flatMap showB ++ [39] = m.flatMap showB ++ [39] → l = m
  | [], [], _ => rfl
  | [], c :: m, h => by
    exfalso
    rw [List.flatMap_nil, List.nil_append, List.flatMap_cons] at h
    unfold showB at h
    split at h
    · rename_i hp
      exact (plain_ne c hp).1 ((List.cons.inj h).1.symm)
    · exact absurd (List.cons.inj h).1 (by decide)
  | c :: l, [], h => by
    exfalso
    rw [List.flatMap_nil, List.nil_append, List.flatMap_cons] at h
    unfold showB at h
    split at h
    · rename_i hp
      exact (plain_ne c hp).1 ((List.cons.inj h).1)
    · exact absurd (List.cons.inj h).1 (by decide)
  | c :: l, d :: m, h => by
    have hc := c.toNat_lt
    have hd := d.toNat_lt
    have go : ∀ x y : List UInt8, x ++ (l.flatMap showB ++ [39]) = y ++ (m.flatMap showB ++ [39]) → x.length = y.length → x = y ∧ l = m := fun x y h hl =>
      ⟨List.append_inj_left h hl, flat_inj l m (List.append_inj_right h hl)⟩
    rw [List.flatMap_cons, List.flatMap_cons, List.append_assoc, List.append_assoc] at h
    by_cases p1 : plainB c = true
    · have e1 : showB c = [c] := by unfold showB; rw [if_pos p1]
      by_cases p2 : plainB d = true
      · have e2 : showB d = [d] := by unfold showB; rw [if_pos p2]
        rw [e1, e2] at h
        obtain ⟨h1, h2⟩ := go _ _ h rfl
        rw [(List.cons.inj h1).1, h2]
      · have e2 : showB d = [92, hexd (d.toNat / 16), hexd (d.toNat % 16)] := by unfold showB; rw [if_neg p2]
        rw [e1, e2] at h
        exact absurd (List.cons.inj h).1 (plain_ne c p1).2
    · have e1 : showB c = [92, hexd (c.toNat / 16), hexd (c.toNat % 16)] := by unfold showB; rw [if_neg p1]
      by_cases p2 : plainB d = true
      · have e2 : showB d = [d] := by unfold showB; rw [if_pos p2]
        rw [e1, e2] at h
        exact absurd (List.cons.inj h).1.symm (plain_ne d p2).2
      · have e2 : showB d = [92, hexd (d.toNat / 16), hexd (d.toNat % 16)] := by unfold showB; rw [if_neg p2]
        rw [e1, e2] at h
        obtain ⟨h1, h2⟩ := go _ _ h rfl
        simp only [List.cons.injEq, and_true, true_and] at h1
        have g1 := hexd_inj_tab ⟨c.toNat / 16, by omega⟩ ⟨d.toNat / 16, by omega⟩ h1.1
        have g2 := hexd_inj_tab ⟨c.toNat % 16, by omega⟩ ⟨d.toNat % 16, by omega⟩ h1.2
        have g1' : c.toNat / 16 = d.toNat / 16 := congrArg Fin.val g1
        have g2' : c.toNat % 16 = d.toNat % 16 := congrArg Fin.val g2
        have : c.toNat = d.toNat := by omega
        rw [UInt8.toNat_inj.mp this, h2]
theorem bytes_ext {a b : ByteArray} (h : a.data.toList = b.data.toList) : a = b := by
  cases a; cases b
  simp only at h
  rw [Array.ext' h]
theorem show_inj {s t : ByteArray} (h : showL s = showL t) : s = t := bytes_ext (flat_inj _ _ (List.cons.inj h).2)

/-! Both. -/
def outL (s : ByteArray) (n : Int) (t : Bool) : List UInt8 := if t = true then showL s else Lib.itoa n
theorem out_bytes (s : ByteArray) (n : Int) (t : Bool) : ∀ b ∈ outL s n t, 32 ≤ b.toNat ∧ b.toNat ≤ 126 := by
  intro b hb
  unfold outL at hb
  split at hb
  · exact show_bytes s b hb
  · have := itoa_bytes n b hb; omega
theorem out_ne (s : ByteArray) (n : Int) (t : Bool) : outL s n t ≠ [] := by
  unfold outL
  split
  · unfold showL; simp
  · exact itoa_ne n
theorem out_inj (s : ByteArray) (n : Int) (t : Bool) (s' : ByteArray) (n' : Int) (t' : Bool) (h1 : t = true → n = 0) (h2 : t = false → s = ⟨#[]⟩) (h1' : t' = true → n' = 0) (h2' : t' = false → s' = ⟨#[]⟩) (h : outL s n t = outL s' n' t') : s = s' ∧ n = n' ∧ t = t' := by
  have cross : ∀ (x : ByteArray) (m : Int), showL x = Lib.itoa m → False := fun x m e => by
    have := itoa_bytes m 39 (by rw [← e]; unfold showL; exact List.mem_cons_self)
    exact absurd this.1 (by decide)
  cases t with
  | true =>
    cases t' with
    | true => exact ⟨show_inj h, by rw [h1 rfl, h1' rfl], rfl⟩
    | false => exact (cross s n' h).elim
  | false =>
    cases t' with
    | true => exact (cross s' n h.symm).elim
    | false => exact ⟨by rw [h2 rfl, h2' rfl], itoa_inj h, rfl⟩
theorem out_len (s : ByteArray) (n : Int) (t : Bool) (hs : s.size ≤ 50) (h0 : -9223372036854775808 ≤ n) (h1 : n ≤ 9223372036854775807) : (outL s n t).length ≤ 1000 := by
  unfold outL
  split
  · unfold showL
    have := show_len s.data.toList
    have hz : s.data.toList.length = s.size := by simp
    rw [List.length_cons, List.length_append, List.length_singleton]
    omega
  · have := Lib.itoa_length_le n h0 h1
    omega
theorem show_g (s : ByteArray) (n : Int) (t : Bool) (hs : s.size ≤ 50) (h0 : -9223372036854775808 ≤ n) (h1 : n ≤ 9223372036854775807) : tuple_Show.g s n t = some ⟨(outL s n t).toArray⟩ := by
  unfold tuple_Show.g outL
  split
  · rw [if_pos (by omega)]
  · rw [if_pos ⟨h0, h1⟩]
theorem bt_shown (s : ByteArray) (i : Nat) (h : i < s.data.toList.length) : bt s (i : Int) = ((s.data.toList[i]).toNat : Int) := by
  have key : ((s.data.toList.getD i 0).toNat : Int) = bt s i := by
    unfold bt
    split
    · rename_i h
      have h' : i < s.data.toList.length := by simpa using h
      rw [List.getD_eq_getElem?_getD, List.getElem?_eq_getElem h']
      rfl
    · rename_i h
      have h' : s.data.toList.length ≤ i := by simpa using h
      rw [List.getD_eq_getElem?_getD, List.getElem?_eq_none h']
      rfl
  rw [← key, List.getD_eq_getElem?_getD, List.getElem?_eq_getElem h]; rfl
theorem shown_loop (L M : List UInt8) (hL : L.length ≤ 1000) (hb : ∀ b ∈ L, 32 ≤ b.toNat ∧ b.toNat ≤ 126) (hne : L ≠ []) (s : ByteArray) (n : Int) (t : Bool) (s' : ByteArray) (n' : Int) (t' : Bool) : ∀ (d i k : Nat), i + d = L.length → d + 1 ≤ k →
    concordancelaw19_TupleShown.l0 k ⟨L.toArray⟩ ⟨M.toArray⟩ i s n t s' n' t' = some (((⟨L.toArray⟩ : ByteArray).toList == (⟨M.toArray⟩ : ByteArray).toList) == (s.toList == s'.toList && (n == n' && (t == t')))) := by
  have hsz : ((⟨L.toArray⟩ : ByteArray).size : Int) = (L.length : Int) := by show ((L.toArray.size : Nat) : Int) = _; simp
  intro d
  induction d with
  | zero =>
    intro i k hi hk
    obtain ⟨k, rfl⟩ : ∃ m, k = m + 1 := ⟨k - 1, by omega⟩
    rw [concordancelaw19_TupleShown.l0.eq_2, hsz, if_neg (by omega), if_neg (by
      rw [Pure.toList_data]
      show ¬ L.toArray.toList = []
      rw [List.toList_toArray]
      exact hne)]
  | succ d ih =>
    intro i k hi hk
    obtain ⟨k, rfl⟩ : ∃ m, k = m + 1 := ⟨k - 1, by omega⟩
    have hlt : i < (⟨L.toArray⟩ : ByteArray).data.toList.length := by simp; omega
    have hbt := bt_shown (⟨L.toArray⟩ : ByteArray) i hlt
    have hm := hb ((⟨L.toArray⟩ : ByteArray).data.toList[i]) (by
      have h9 := List.getElem_mem hlt
      generalize (⟨L.toArray⟩ : ByteArray).data.toList[i] = b at h9 ⊢
      simpa using h9)
    have hw : wrap64 ((i : Int) + 1) = ((i + 1 : Nat) : Int) := by rw [Pure.wid _ (by omega) (by omega)]; omega
    rw [concordancelaw19_TupleShown.l0.eq_2, hsz, if_pos (by omega), if_pos (by omega), hbt, if_neg (by omega), if_neg (by omega), hw]
    exact ih (i + 1) k (by omega) (by omega)
theorem one_range (s : ByteArray) (n : Int) (t : Bool) (h0 : -9223372036854775808 ≤ n) (h1 : n ≤ 9223372036854775807) : ∃ (s' : ByteArray) (n' : Int), s'.size ≤ 50 ∧ -9223372036854775808 ≤ n' ∧ n' ≤ 9223372036854775807 ∧ concordancelaw19_one.f s n t = some (s', n', t, s', n', t) := by
  have hm : mn (s.size : Int) 50 = ((min s.size 50 : Nat) : Int) := by
    unfold mn
    by_cases h : (50 : Int) < (s.size : Int)
    · rw [if_pos h]; omega
    · rw [if_neg h]; omega
  have hsz : (s.extract 0 (min s.size 50)).size ≤ 50 := by rw [ByteArray.size_extract]; omega
  unfold concordancelaw19_one.f
  rw [hm, if_pos (by omega), if_pos (by omega), Int.toNat_natCast]
  by_cases hn : n < -1125899906842624
  · rw [if_pos hn]
    exact ⟨_, _, hsz, by omega, by omega, rfl⟩
  · rw [if_neg hn]
    exact ⟨_, _, hsz, h0, h1, rfl⟩
theorem same_out (s : ByteArray) (n : Int) (t : Bool) (s' : ByteArray) (n' : Int) (t' : Bool) (h1 : t = true → n = 0) (h2 : t = false → s = ⟨#[]⟩) (h1' : t' = true → n' = 0) (h2' : t' = false → s' = ⟨#[]⟩) :
    (((⟨(outL s n t).toArray⟩ : ByteArray).toList == (⟨(outL s' n' t').toArray⟩ : ByteArray).toList) == (s.toList == s'.toList && (n == n' && (t == t')))) = true := by
  rw [Pure.toList_data, Pure.toList_data]
  show (((outL s n t).toArray.toList == (outL s' n' t').toArray.toList) == _) = true
  rw [List.toList_toArray, List.toList_toArray]
  by_cases h : outL s n t = outL s' n' t'
  · obtain ⟨rfl, rfl, rfl⟩ := out_inj s n t s' n' t' h1 h2 h1' h2' h
    simp
  · have e1 : (outL s n t == outL s' n' t') = false := beq_eq_false_iff_ne.mpr h
    have e2 : (s.toList == s'.toList && (n == n' && (t == t'))) = false := by
      rw [← Bool.not_eq_true]
      intro hh
      simp only [Bool.and_eq_true, beq_iff_eq] at hh
      obtain ⟨a1, rfl, rfl⟩ := hh
      rw [Pure.toList_data, Pure.toList_data] at a1
      obtain rfl := bytes_ext a1
      exact h rfl
    rw [e1, e2]
    rfl
theorem shown_j1 (k : Nat) (hk : 1003 ≤ k) (s : ByteArray) (n : Int) (t : Bool) (s' : ByteArray) (n' : Int) (t' : Bool) (hs : s.size ≤ 50) (hs' : s'.size ≤ 50) (r0 : -9223372036854775808 ≤ n) (r1 : n ≤ 9223372036854775807) (r0' : -9223372036854775808 ≤ n') (r1' : n' ≤ 9223372036854775807) (h1 : t = true → n = 0) (h2 : t = false → s = ⟨#[]⟩) (h1' : t' = true → n' = 0) (h2' : t' = false → s' = ⟨#[]⟩) :
    concordancelaw19_TupleShown.j1 k s n t s' n' t' = some true := by
  obtain ⟨k, rfl⟩ : ∃ m, k = m + 1 := ⟨k - 1, by omega⟩
  have hl := out_len s n t hs r0 r1
  rw [concordancelaw19_TupleShown.j1.eq_2, show_g s n t hs r0 r1, show_g s' n' t' hs' r0' r1', Option.bind_some, Option.bind_some]
  have := shown_loop (outL s n t) (outL s' n' t') hl (out_bytes s n t) (out_ne s n t) s n t s' n' t' (outL s n t).length 0 k (by omega) (by omega)
  rw [same_out s n t s' n' t' h1 h2 h1' h2'] at this
  exact this
theorem shown_true (s : ByteArray) (n : Int) (t : Bool) (s' : ByteArray) (n' : Int) (t' : Bool) (r0 : -9223372036854775808 ≤ n) (r1 : n ≤ 9223372036854775807) (r0' : -9223372036854775808 ≤ n') (r1' : n' ≤ 9223372036854775807) :
    concordancelaw19_TupleShown.f 2000 s n t s' n' t' = some true := by
  obtain ⟨x, m, hx, m0, m1, e1⟩ := one_range s n t r0 r1
  obtain ⟨x', m', hx', m0', m1', e2⟩ := one_range s' n' t' r0' r1'
  have z50 : (⟨#[]⟩ : ByteArray).size ≤ 50 := by decide
  have step : ∀ (y : ByteArray) (p : Int) (b : Bool), y.size ≤ 50 → -9223372036854775808 ≤ p → p ≤ 9223372036854775807 → (b = true → p = 0) → (b = false → y = ⟨#[]⟩) → concordancelaw19_TupleShown.j0 2000 y p b x' m' t' = some true := by
    intro y p b hy hp0 hp1 hb1 hb2
    rw [show (2000 : Nat) = 1999 + 1 from rfl, concordancelaw19_TupleShown.j0.eq_2]
    by_cases h : t' = true
    · rw [if_pos h]
      exact shown_j1 1999 (by omega) y p b x' 0 t' hy hx' hp0 hp1 (by omega) (by omega) hb1 hb2 (fun _ => rfl) (fun e => by rw [h] at e; cases e)
    · rw [if_neg h]
      exact shown_j1 1999 (by omega) y p b ⟨#[]⟩ m' t' hy z50 hp0 hp1 m0' m1' hb1 hb2 (fun e => absurd e h) (fun _ => rfl)
  unfold concordancelaw19_TupleShown.f
  rw [Pure.speaks_tells 2000 (by omega), Option.bind_some, if_pos (show true = true from rfl), e1, e2, Option.bind_some, Option.bind_some]
  show (if t = true then concordancelaw19_TupleShown.j0 2000 x 0 t x' m' t' else concordancelaw19_TupleShown.j0 2000 ⟨#[]⟩ m t x' m' t') = some true
  by_cases h : t = true
  · rw [if_pos h]
    exact step x 0 t hx (by omega) (by omega) (fun _ => rfl) (fun e => by rw [h] at e; cases e)
  · rw [if_neg h]
    exact step ⟨#[]⟩ m t z50 m0 m1 (fun e => absurd e h) (fun _ => rfl)
end Go.Proofs.YtcpehlllgfffkaaDoor.GT
