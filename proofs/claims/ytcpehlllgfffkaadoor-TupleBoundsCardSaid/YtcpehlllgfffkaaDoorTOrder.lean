/- Values' keys are ordered as the values are, and no key is another's beginning; what comes behind a key; the document's Compare. No condition but that the values are right. -/
import Derived.Test.YtcpehlllgfffkaaDoorTEntry
import Derived.Test.YtcpehlllgfffkaaDoorPureTupleIDs
import Derived.Test.YtcpehlllgfffkaaDoorGTx8
namespace Go.Proofs.YtcpehlllgfffkaaDoor.GT
open Go.RowKit Go.Proofs.YtcpehlllgfffkaaDoorW.PrintWords Go.Proofs.YtcpehlllgfffkaaDoorW.PrintLast
set_option linter.unusedVariables false
set_option linter.unusedSimpArgs false

/-- One text is ahead of another one, and not by its end. -/
def Lt2 (V B : List UInt8) : Prop := ∃ P x y a b, V = P ++ x :: a ∧ B = P ++ y :: b ∧ x.toNat < y.toNat
theorem less_pre (P a b : List UInt8) : Op.bytesLess (P ++ a) (P ++ b) = Op.bytesLess a b := by
  induction P with
  | nil => rfl
  | cons c P ih =>
    rw [List.cons_append, List.cons_append, Op.bytesLess, ih]
    simp
theorem less_head (x y : UInt8) (a b : List UInt8) (h : x.toNat < y.toNat) : Op.bytesLess (x :: a) (y :: b) = true := by
  rw [Op.bytesLess, decide_eq_true (UInt8.lt_iff_toNat_lt.mpr h), Bool.true_or]
theorem less_head' (x y : UInt8) (a b : List UInt8) (h : y.toNat < x.toNat) : Op.bytesLess (x :: a) (y :: b) = false := by
  have h1 : decide (x < y) = false := decide_eq_false (by rw [UInt8.lt_iff_toNat_lt]; omega)
  have h2 : (x == y) = false := beq_eq_false_iff_ne.mpr (fun e => by rw [e] at h; omega)
  rw [Op.bytesLess, h1, h2]
  rfl
theorem less_nil (a : List UInt8) : Op.bytesLess a [] = false := by cases a <;> simp [Op.bytesLess]
theorem less_lt2 {V B : List UInt8} (h : Lt2 V B) (T U : List UInt8) : Op.bytesLess (V ++ T) (B ++ U) = true := by
  obtain ⟨P, x, y, a, b, rfl, rfl, hxy⟩ := h
  rw [List.append_assoc, List.append_assoc, less_pre]
  exact less_head x y _ _ hxy
theorem less_gt2 {V B : List UInt8} (h : Lt2 B V) (T U : List UInt8) : Op.bytesLess (V ++ T) (B ++ U) = false := by
  obtain ⟨P, x, y, a, b, rfl, rfl, hxy⟩ := h
  rw [List.append_assoc, List.append_assoc, less_pre]
  exact less_head' y x _ _ hxy
/-- What comes behind all that begins with B. -/
def Behind (B hi : List UInt8) : Prop := ∃ P x z R, B = P ++ x :: R ∧ (∀ r ∈ R, r.toNat = 255) ∧ z.toNat = x.toNat + 1 ∧ hi = P ++ [z]
theorem cut_eq (Q P : List UInt8) (b x : UInt8) (c R : List UInt8) (h : Q ++ b :: c = P ++ x :: R) : (Q = P ∧ b = x ∧ c = R) ∨ (∃ P', P = Q ++ b :: P') ∨ (∃ Q', Q = P ++ x :: Q' ∧ R = Q' ++ b :: c) := by
  rcases List.append_eq_append_iff.mp h with ⟨a', h1, h2⟩ | ⟨c', h1, h2⟩
  · cases a' with
    | nil =>
      rw [List.append_nil] at h1
      rw [List.nil_append] at h2
      exact .inl ⟨h1.symm, (List.cons.inj h2).1, (List.cons.inj h2).2⟩
    | cons d a' =>
      rw [List.cons_append] at h2
      exact .inr (.inl ⟨a', by rw [h1, (List.cons.inj h2).1]⟩)
  · cases c' with
    | nil =>
      rw [List.append_nil] at h1
      rw [List.nil_append] at h2
      exact .inl ⟨h1, (List.cons.inj h2).1.symm, (List.cons.inj h2).2.symm⟩
    | cons d c' =>
      rw [List.cons_append] at h2
      exact .inr (.inr ⟨c', by rw [h1, (List.cons.inj h2).1], (List.cons.inj h2).2⟩)
theorem behind_lt {V B hi : List UInt8} (hB : Behind B hi) (h : V = B ∨ Lt2 V B) (T : List UInt8) : Op.bytesLess (V ++ T) hi = true := by
  obtain ⟨P, x, z, R, rfl, hR, hz, rfl⟩ := hB
  rcases h with rfl | ⟨Q, v, b, a, c, rfl, e, hvb⟩
  · rw [List.append_assoc, less_pre]
    exact less_head x z _ _ (by omega)
  · rcases cut_eq Q P b x c R e.symm with ⟨rfl, rfl, rfl⟩ | ⟨P', rfl⟩ | ⟨Q', rfl, hr⟩
    · rw [List.append_assoc, less_pre]
      exact less_head v z _ _ (by omega)
    · rw [List.append_assoc, List.append_assoc, less_pre]
      exact less_head v b _ _ hvb
    · rw [List.append_assoc, List.append_assoc, less_pre]
      exact less_head x z _ _ (by omega)
theorem behind_gt {V B hi : List UInt8} (hB : Behind B hi) (h : Lt2 B V) (T : List UInt8) : Op.bytesLess (V ++ T) hi = false := by
  obtain ⟨P, x, z, R, rfl, hR, hz, rfl⟩ := hB
  obtain ⟨Q, b, v, c, a, e, rfl, hbv⟩ := h
  rcases cut_eq Q P b x c R e.symm with ⟨rfl, rfl, rfl⟩ | ⟨P', rfl⟩ | ⟨Q', rfl, hr⟩
  · rw [List.append_assoc, less_pre]
    by_cases hvz : v.toNat = z.toNat
    · obtain rfl := UInt8.toNat_inj.mp hvz
      rw [List.cons_append]
      have := less_pre [v] (a ++ T) []
      rw [less_nil] at this
      exact this
    · exact less_head' v z _ _ (by omega)
  · rw [List.append_assoc, List.append_assoc, less_pre]
    exact less_head' v b _ _ hbv
  · exfalso
    have := hR b (by rw [hr]; exact List.mem_append_right _ List.mem_cons_self)
    have := v.toNat_lt
    omega
theorem lt2_pre (P : List UInt8) {V B : List UInt8} (h : Lt2 V B) : Lt2 (P ++ V) (P ++ B) := by
  obtain ⟨Q, x, y, a, b, rfl, rfl, hxy⟩ := h
  exact ⟨P ++ Q, x, y, a, b, by rw [List.append_assoc], by rw [List.append_assoc], hxy⟩
theorem lt2_head (x y : UInt8) (a b : List UInt8) (h : x.toNat < y.toNat) : Lt2 (x :: a) (y :: b) := ⟨[], x, y, a, b, rfl, rfl, h⟩
theorem lt2_of_less : ∀ l m : List UInt8, l.length = m.length → Op.bytesLess l m = true → Lt2 l m
  | [], [], _, h => by simp [Op.bytesLess] at h
  | [], b :: m, hl, _ => by simp at hl
  | a :: l, [], hl, _ => by simp at hl
  | a :: l, b :: m, hl, h => by
    rw [Op.bytesLess] at h
    by_cases hab : a.toNat < b.toNat
    · exact lt2_head a b l m hab
    · have h1 : decide (a < b) = false := decide_eq_false (by rw [UInt8.lt_iff_toNat_lt]; exact hab)
      rw [h1, Bool.false_or, Bool.and_eq_true, beq_iff_eq] at h
      obtain ⟨rfl, h2⟩ := h
      exact lt2_pre [a] (lt2_of_less l m (by simpa using hl) h2)

/-! Two texts, byte by byte. -/
def lx : List UInt8 → List UInt8 → Int
  | [], [] => 0
  | [], _ :: _ => -1
  | _ :: _, [] => 1
  | x :: a, y :: b => if x.toNat < y.toNat then -1 else if y.toNat < x.toNat then 1 else lx a b
def bodyT (l : List UInt8) : List UInt8 := l.flatMap escB ++ [0, 1]
theorem bodyT_cons (c : UInt8) (l : List UInt8) : bodyT (c :: l) = escB c ++ bodyT l := by unfold bodyT; rw [List.flatMap_cons, List.append_assoc]
theorem esc_lt (x y : UInt8) (a b : List UInt8) (h : x.toNat < y.toNat) : Lt2 (escB x ++ a) (escB y ++ b) := by
  have hy : y ≠ 0 := fun e => by rw [e] at h; exact absurd h (by simp)
  have ey : escB y = [y] := by unfold escB; rw [if_neg hy]
  by_cases hx : x = 0
  · have ex : escB x = [0, 255] := by unfold escB; rw [if_pos hx]
    rw [ex, ey]
    rw [hx] at h
    exact lt2_head 0 y _ _ h
  · have ex : escB x = [x] := by unfold escB; rw [if_neg hx]
    rw [ex, ey]
    exact lt2_head x y _ _ h
theorem nil_lt (c : UInt8) (m : List UInt8) : Lt2 (bodyT []) (bodyT (c :: m)) := by
  rw [bodyT_cons]
  by_cases hc : c = 0
  · have ec : escB c = [0, 255] := by unfold escB; rw [if_pos hc]
    rw [ec]
    exact lt2_pre [0] (lt2_head 1 255 [] (bodyT m) (by decide))
  · have ec : escB c = [c] := by unfold escB; rw [if_neg hc]
    rw [ec]
    refine lt2_head 0 c [1] (bodyT m) ?_
    have : c.toNat ≠ 0 := fun e => hc (UInt8.toNat_inj.mp (by rw [e]; rfl))
    show 0 < c.toNat
    omega
theorem lx_body : ∀ l m : List UInt8, (lx l m = 0 ∧ l = m) ∨ (lx l m = -1 ∧ Lt2 (bodyT l) (bodyT m)) ∨ (lx l m = 1 ∧ Lt2 (bodyT m) (bodyT l))
  | [], [] => .inl ⟨rfl, rfl⟩
  | [], c :: m => .inr (.inl ⟨rfl, nil_lt c m⟩)
  | c :: l, [] => .inr (.inr ⟨rfl, nil_lt c l⟩)
  | x :: a, y :: b => by
    unfold lx
    by_cases h1 : x.toNat < y.toNat
    · rw [if_pos h1, bodyT_cons, bodyT_cons]
      exact .inr (.inl ⟨rfl, esc_lt x y _ _ h1⟩)
    rw [if_neg h1]
    by_cases h2 : y.toNat < x.toNat
    · rw [if_pos h2, bodyT_cons, bodyT_cons]
      exact .inr (.inr ⟨rfl, esc_lt y x _ _ h2⟩)
    rw [if_neg h2]
    obtain rfl : x = y := UInt8.toNat_inj.mp (by omega)
    rw [bodyT_cons, bodyT_cons]
    rcases lx_body a b with ⟨h, e⟩ | ⟨h, e⟩ | ⟨h, e⟩
    · exact .inl ⟨h, by rw [e]⟩
    · exact .inr (.inl ⟨h, lt2_pre _ e⟩)
    · exact .inr (.inr ⟨h, lt2_pre _ e⟩)
theorem bytes_loop (s t : ByteArray) (hs : s.size ≤ 1000) (ht : t.size ≤ 1000) : ∀ (d i k : Nat), i + d = s.size → i ≤ t.size → 2 * d + 2 ≤ k →
    concordanceref01_Bytes.l0 k s t i = some (lx (s.data.toList.drop i) (t.data.toList.drop i)) ∨ ¬ (s.data.toList.take i = t.data.toList.take i) := by
  have zs : s.data.toList.length = s.size := by simp
  have zt : t.data.toList.length = t.size := by simp
  intro d
  induction d with
  | zero =>
    intro i k hi hit hk
    left
    obtain ⟨k, rfl⟩ : ∃ m, k = m + 2 := ⟨k - 2, by omega⟩
    rw [concordanceref01_Bytes.l0.eq_2, if_neg (by omega), concordanceref01_Bytes.j1.eq_2, if_neg (by decide)]
    have h1 : s.data.toList.drop i = [] := List.drop_eq_nil_of_le (by omega)
    rw [h1]
    by_cases h2 : i < t.size
    · rw [if_pos (by omega)]
      rw [List.drop_eq_getElem_cons (by omega)]
      rfl
    · have h3 : t.data.toList.drop i = [] := List.drop_eq_nil_of_le (by omega)
      rw [if_neg (by omega), if_neg (by omega), h3]
      rfl
  | succ d ih =>
    intro i k hi hit hk
    by_cases htk : s.data.toList.take i = t.data.toList.take i
    · left
      obtain ⟨k, rfl⟩ : ∃ m, k = m + 2 := ⟨k - 2, by omega⟩
      rw [concordanceref01_Bytes.l0.eq_2, if_pos (by omega), concordanceref01_Bytes.j1.eq_2]
      by_cases h2 : i < t.size
      · rw [decide_eq_true (show (i : Int) < (t.size : Int) by omega), if_pos rfl, if_pos (by omega), if_pos (by omega), if_pos (by omega), bt_at' s i (by omega), bt_at' t i (by omega),
          List.drop_eq_getElem_cons (show i < s.data.toList.length by omega), List.drop_eq_getElem_cons (show i < t.data.toList.length by omega)]
        generalize hx : s.data.toList[i]'(by omega) = x
        generalize hy : t.data.toList[i]'(by omega) = y
        unfold lx
        by_cases c1 : x.toNat < y.toNat
        · rw [if_pos (by omega), if_pos c1]
        rw [if_neg (by omega), if_neg c1]
        by_cases c2 : y.toNat < x.toNat
        · rw [if_pos (by omega), if_pos c2]
        rw [if_neg (by omega), if_neg c2]
        have hxy : x = y := UInt8.toNat_inj.mp (by omega)
        have hw : wrap64 ((i : Int) + 1) = ((i + 1 : Nat) : Int) := by rw [wid _ (by omega) (by omega)]; omega
        rw [hw]
        rcases ih (i + 1) k (by omega) (by omega) (by omega) with h | h
        · exact h
        · exact absurd (by rw [List.take_succ_eq_append_getElem (show i < s.data.toList.length by omega), List.take_succ_eq_append_getElem (show i < t.data.toList.length by omega), htk, hx, hy, hxy]) h
      · rw [decide_eq_false (show ¬ (i : Int) < (t.size : Int) by omega), if_neg (by decide), if_neg (by omega), if_pos (by omega),
          List.drop_eq_getElem_cons (show i < s.data.toList.length by omega), List.drop_eq_nil_of_le (show t.data.toList.length ≤ i by omega)]
        rfl
    · exact .inr htk
theorem bytes_tells (s t : ByteArray) (hs : s.size ≤ 1000) (ht : t.size ≤ 1000) (k : Nat) (hk : 2 * s.size + 2 ≤ k) : concordanceref01_Bytes.f k s t = some (lx s.data.toList t.data.toList) := by
  unfold concordanceref01_Bytes.f
  rcases bytes_loop s t hs ht s.size 0 k (by omega) (by omega) hk with h | h
  · rw [List.drop_zero, List.drop_zero] at h
    exact h
  · exact absurd rfl h
theorem num_lt (a b : Int) (h0 : -1099511627776 ≤ a) (h1 : a < b) (h2 : b ≤ 1099511627776) : Lt2 (be6 (a + 1099511627776)) (be6 (b + 1099511627776)) :=
  lt2_of_less _ _ (by unfold be6; simp only [List.length_cons]) ((Pure.less_ids (a + 1099511627776) (b + 1099511627776) (by omega) (by omega) (by omega) (by omega)).trans (decide_eq_true (by omega)))
theorem right_num (s : ByteArray) (n : Int) (t : Bool) (h : errV s n t = 0) : -1099511627776 ≤ n ∧ n ≤ 1099511627776 := by
  unfold errV at h
  split at h
  · exact absurd h (by decide)
  split at h
  · exact absurd h (by decide)
  · rename_i hb
    unfold badV at hb
    omega
/-- The document's Compare of right values goes by their keys. -/
theorem cmp_tells (s : ByteArray) (n : Int) (t : Bool) (s' : ByteArray) (n' : Int) (t' : Bool) (hs : s.size ≤ 1000) (hs' : s'.size ≤ 1000) (r : errV s n t = 0) (r' : errV s' n' t' = 0) (k : Nat) (hk : 2002 ≤ k) :
    ∃ c, concordanceref01_Compare.f k s n t s' n' t' = some c ∧ ((c = 0 ∧ bodyV s n t = bodyV s' n' t') ∨ (c = -1 ∧ Lt2 (bodyV s n t) (bodyV s' n' t')) ∨ (c = 1 ∧ Lt2 (bodyV s' n' t') (bodyV s n t))) := by
  obtain ⟨m0, m1⟩ := right_num s n t r
  obtain ⟨m0', m1'⟩ := right_num s' n' t' r'
  unfold concordanceref01_Compare.f bodyV
  cases t with
  | true =>
    cases t' with
    | true =>
      refine ⟨_, by rw [if_neg (by decide), if_pos rfl, bytes_tells s s' hs hs' k (by omega)]; rfl, ?_⟩
      rw [if_pos rfl, if_pos rfl]
      rcases lx_body s.data.toList s'.data.toList with ⟨h, e⟩ | ⟨h, e⟩ | ⟨h, e⟩
      · exact .inl ⟨h, by rw [e]⟩
      · exact .inr (.inl ⟨h, lt2_pre [32] e⟩)
      · exact .inr (.inr ⟨h, lt2_pre [32] e⟩)
    | false =>
      refine ⟨1, rfl, .inr (.inr ⟨rfl, ?_⟩)⟩
      rw [if_neg (by decide), if_pos rfl]
      exact lt2_head 16 32 _ _ (by decide)
  | false =>
    cases t' with
    | true =>
      refine ⟨-1, rfl, .inr (.inl ⟨rfl, ?_⟩)⟩
      rw [if_neg (by decide), if_pos rfl]
      exact lt2_head 16 32 _ _ (by decide)
    | false =>
      rw [if_neg (by decide), if_neg (by decide), if_neg (show ¬ false = true by decide), if_neg (show ¬ false = true by decide)]
      by_cases c1 : n < n'
      · exact ⟨-1, by rw [if_pos c1], .inr (.inl ⟨rfl, lt2_pre [16] (num_lt n n' m0 c1 m1')⟩)⟩
      rw [if_neg c1]
      by_cases c2 : n > n'
      · exact ⟨1, by rw [if_pos c2], .inr (.inr ⟨rfl, lt2_pre [16] (num_lt n' n m0' (by omega) m1)⟩)⟩
      · have : n = n' := by omega
        exact ⟨0, by rw [if_neg c2], .inl ⟨rfl, by rw [this]⟩⟩
end Go.Proofs.YtcpehlllgfffkaaDoor.GT
