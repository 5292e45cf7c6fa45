/- The document's Apply and Diff against ours, in plain words. No program in sight but the printed functions. -/
import Derived.Test.YtpdibkcpdngboaaHRefPut
import Derived.Test.YtpdibkcpdngboaaPSpeaks
import Derived.Test.YtpdibkcpdngboaaGPx12
import Derived.Test.YtpdibkcpdngboaaGPx23
import Derived.Test.YtpdibkcpdngboaaGPx22
namespace Go.Proofs.Ytpdibkcpdngboaa.GP
open Go.RowKit Go.Proofs.YtpdibkcpdngboaaW.PrintWords Go.Proofs.YtpdibkcpdngboaaW.PrintLast Go.Proofs.YtpdibkcpdngboaaW.PrintMore Go.Proofs.Ytpdibkcpdngboaa.Copy
set_option linter.unusedVariables false
set_option linter.unusedSimpArgs false

/-- One splice as the document makes it. -/
theorem splice_str (s d : ByteArray) (at_ : Nat) (h : at_ + d.size ≤ s.size) : ((s.extract 0 at_ ++ d) ++ s.extract (at_ + d.size) s.size).data.toList = splice s.data.toList at_ d.data.toList := by
  have h0 : s.data.toList.length = s.size := by simp
  rw [ByteArray.data_append, ByteArray.data_append, ByteArray.data_extract, ByteArray.data_extract]
  simp only [Array.toList_append, Array.toList_extract, List.extract_eq_take_drop, splice, List.drop_zero, Nat.sub_zero, List.append_assoc]
  congr 2
  rw [List.take_of_length_le (by rw [List.length_drop, h0]; omega)]
  congr 1

theorem splice_size (s d : ByteArray) (at_ : Nat) (h : at_ + d.size ≤ s.size) : ((s.extract 0 at_ ++ d) ++ s.extract (at_ + d.size) s.size).size = s.size := by
  rw [ByteArray.size_append, ByteArray.size_append, ByteArray.size_extract, ByteArray.size_extract]; omega

/-- The pieces' ends, as far as they matter. -/
def Fits (n : Nat) (l : List S53) : Prop := ∀ i (h : i < l.length), 0 ≤ l[i].f0 ∧ l[i].f0 ≤ 65535 ∧ l[i].f1.size ≤ 65535

theorem refApply_l1 (l : List S53) (hl : l.length ≤ 65535) : ∀ (d k i : Nat) (x : ByteArray), i + d = l.length → d < k → x.size ≤ 1000000 → Fits x.size l → (∀ j (h : j < l.length), i ≤ j → l[j].f0 + l[j].f1.size ≤ x.size) →
    concordanceref06_Apply.l1 k x l (i : Int) = some (⟨(overlay x.data.toList ((l.drop i).map toP)).toArray⟩, 0) := by
  intro d
  induction d with
  | zero =>
    intro k i x hi hk hx hf he
    obtain ⟨k, rfl⟩ : ∃ m, k = m + 1 := ⟨k - 1, by omega⟩
    rw [concordanceref06_Apply.l1.eq_2, if_neg (by omega), List.drop_of_length_le (by omega)]
    simp [overlay]
  | succ d ih =>
    intro k i x hi hk hx hf he
    obtain ⟨k, rfl⟩ : ∃ m, k = m + 1 := ⟨k - 1, by omega⟩
    have hlt : i < l.length := by omega
    obtain ⟨f1, f2, f3⟩ := hf i hlt
    have e1 := he i hlt (Nat.le_refl _)
    have hw : wrap64 (l[i].f0 + (l[i].f1.size : Int)) = l[i].f0 + (l[i].f1.size : Int) := by unfold wrap64; omega
    have hw2 : wrap64 ((i : Int) + 1) = ((i + 1 : Nat) : Int) := by unfold wrap64; omega
    have hn : (l[i].f0 + (l[i].f1.size : Int)).toNat = l[i].f0.toNat + l[i].f1.size := by omega
    rw [concordanceref06_Apply.l1.eq_2, if_pos (by omega), if_pos (by omega), rd_toP l i hlt, if_pos f1, if_pos (by omega), if_pos (by rw [ByteArray.size_extract]; omega), hw, if_pos (by omega), if_pos (by omega), hn,
      if_pos (by rw [ByteArray.size_append, ByteArray.size_extract, ByteArray.size_extract]; omega), hw2]
    have hfit : l[i].f0.toNat + l[i].f1.size ≤ x.size := by omega
    have hsz := splice_size x l[i].f1 l[i].f0.toNat hfit
    have hdt := splice_str x l[i].f1 l[i].f0.toNat hfit
    generalize (x.extract 0 l[i].f0.toNat ++ l[i].f1) ++ x.extract (l[i].f0.toNat + l[i].f1.size) x.size = y at *
    rw [ih k (i + 1) y (by omega) (by omega) (by omega) (by rw [hsz]; exact hf) (fun j h hj => by rw [hsz]; exact he j h (by omega)), hdt, List.drop_eq_getElem_cons hlt]
    rfl

theorem refApply_l0 (l : List S53) (hl : l.length ≤ 65535) (x : ByteArray) (hx : x.size ≤ 1000000) (hf : Fits x.size l) : ∀ (d k i : Nat), i + d = l.length → d + l.length + 1 < k → 
    ((∀ j (h : j < l.length), i ≤ j → l[j].f0 + l[j].f1.size ≤ x.size) → concordanceref06_Apply.l0 k x l (i : Int) = concordanceref06_Apply.l1 (k - (d + 1)) x l 0) ∧
    ((∃ j, ∃ h : j < l.length, i ≤ j ∧ (x.size : Int) < l[j].f0 + l[j].f1.size) → concordanceref06_Apply.l0 k x l (i : Int) = some (⟨#[]⟩, 6)) := by
  intro d
  induction d with
  | zero =>
    intro k i hi hk
    obtain ⟨k, rfl⟩ : ∃ m, k = m + 1 := ⟨k - 1, by omega⟩
    refine ⟨fun _ => ?_, fun ⟨j, h, h1, _⟩ => by omega⟩
    rw [concordanceref06_Apply.l0.eq_2, if_neg (by omega)]
    rfl
  | succ d ih =>
    intro k i hi hk
    obtain ⟨k, rfl⟩ : ∃ m, k = m + 1 := ⟨k - 1, by omega⟩
    have hlt : i < l.length := by omega
    obtain ⟨f1, f2, f3⟩ := hf i hlt
    have hw : wrap64 (l[i].f0 + (l[i].f1.size : Int)) = l[i].f0 + (l[i].f1.size : Int) := by unfold wrap64; omega
    have hw2 : wrap64 ((i : Int) + 1) = ((i + 1 : Nat) : Int) := by unfold wrap64; omega
    obtain ⟨i1, i2⟩ := ih k (i + 1) (by omega) (by omega)
    rw [concordanceref06_Apply.l0.eq_2, if_pos (by omega), if_pos (by omega), rd_toP l i hlt, hw, hw2]
    refine ⟨fun h => ?_, fun ⟨j, h, h1, h2⟩ => ?_⟩
    · rw [if_neg (by have := h i hlt (Nat.le_refl _); omega), i1 (fun j hj hij => h j hj (by omega)), show k + 1 - (d + 1 + 1) = k - (d + 1) by omega]
    · by_cases c : l[i].f0 + (l[i].f1.size : Int) > (x.size : Int)
      · rw [if_pos c]
      · rw [if_neg c, i2 ⟨j, h, by
          rcases Nat.eq_or_lt_of_le h1 with rfl | h3
          · omega
          · omega, h2⟩]

theorem refApply_tells (x : ByteArray) (l : List S53) (hx : x.size ≤ 1000000) (hl : l.length ≤ 65535) (k : Nat) (hk : 2 * l.length + 3 ≤ k) : concordanceref06_Apply.f k x l = patch_Apply.f x (l.map toP) := by
  have hP : x.size ≤ 140737488351232 ∧ (l.map toP).length ≤ 140737488351232 := ⟨by omega, by rw [List.length_map]; omega⟩
  have hQ : patch_Apply.f x (l.map toP) = (if rightB 0 (l.map toP) = true ∧ (l.map toP).length ≤ 65535 then (if endOf (l.map toP) ≤ x.size then some (⟨(overlay x.data.toList (l.map toP)).toArray⟩, 0) else some (⟨#[]⟩, 6)) else some (⟨#[]⟩, 1)) := by
    unfold patch_Apply.f
    rw [if_pos hP]
  have hm : (l.map toP).length ≤ 65535 := by rw [List.length_map]; exact hl
  unfold concordanceref06_Apply.f
  rw [hQ, refRight_tells l (by omega) k (by omega), Option.bind_some]
  by_cases hr : rightB 0 (l.map toP) = true
  · have hr2 : rightB 0 (l.map toP) = true ∧ (l.map toP).length ≤ 65535 := ⟨hr, hm⟩
    rw [if_pos hr2, hr, decide_eq_true hl, if_pos (by rfl)]
    have hat := rightB_at (l.map toP) 0 (by omega) hr
    have hat' : ∀ i (h : i < l.length), 0 ≤ l[i].f0 ∧ 0 < l[i].f1.size ∧ l[i].f1.size ≤ 65535 ∧ l[i].f0 ≤ 65535 ∧ l[i].f0 + l[i].f1.size ≤ endOf (l.map toP) := by
      intro i h
      have := hat i (by simpa using h)
      simp only [List.getElem_map, toP] at this
      exact this
    have hf : Fits x.size l := fun i h => ⟨(hat' i h).1, (hat' i h).2.2.2.1, (hat' i h).2.2.1⟩
    obtain ⟨i1, i2⟩ := refApply_l0 l hl x hx hf l.length k 0 (by omega) (by omega)
    by_cases he : endOf (l.map toP) ≤ x.size
    · rw [if_pos he]
      have hall : ∀ j (h : j < l.length), 0 ≤ j → l[j].f0 + l[j].f1.size ≤ x.size := fun j h _ => by have := (hat' j h).2.2.2.2; omega
      have h1 := i1 hall
      have h2 := refApply_l1 l hl l.length (k - (l.length + 1)) 0 x (by omega) (by omega) hx hf hall
      exact h1.trans h2
    · rw [if_neg he]
      have h0 : 0 < l.length := by
        rcases Nat.eq_zero_or_pos l.length with h0 | h0
        · obtain rfl := List.eq_nil_of_length_eq_zero h0
          simp [endOf] at he
        · exact h0
      have hel := endOf_last (l.map toP) (by simpa using h0)
      simp only [List.length_map, List.getElem_map, toP] at hel
      exact i2 ⟨l.length - 1, by omega, by omega, by omega⟩
  · have hr' : rightB 0 (l.map toP) = false := by simpa using hr
    have hr2 : ¬ (rightB 0 (l.map toP) = true ∧ (l.map toP).length ≤ 65535) := fun h => hr h.1
    rw [if_neg hr2, hr', Bool.false_and, if_neg (by simp)]

/-! ### Diff -/
def pieceQ (b : ByteArray) (r : Nat × Nat) : S53 := ⟨(r.1 : Int), b.extract r.1 r.2⟩
theorem toP_pieceQ (b : ByteArray) (R : List (Nat × Nat)) : (R.map (pieceQ b)).map toP = R.map (piece b) := by simp [pieceQ, piece, toP, Function.comp_def]

theorem rgo_skip (ne : Nat → Bool) : ∀ (m d i : Nat) (c : Option (Nat × Nat)), (∀ j, i ≤ j → j < i + m → ne j = false) → rgo ne (d + m) i c = rgo ne d (i + m) c
  | 0, _, _, _, _ => rfl
  | m + 1, d, i, c, h => by
    rw [show d + (m + 1) = (d + m) + 1 by omega, rgo_succ, if_neg (by rw [h i (Nat.le_refl _) (by omega)]; simp), rgo_skip ne m d (i + 1) c (fun j h1 h2 => h j (by omega) (by omega)), show i + 1 + m = i + (m + 1) by omega]
theorem rgo_close (ne : Nat → Bool) (f l : Nat) : ∀ (d i : Nat), l ≤ i → (∀ j, i ≤ j → j < l + 4 → j < i + d → ne j = false) → rgo ne d i (some (f, l)) = (f, l) :: rgo ne d i none
  | 0, _, _, _ => rfl
  | d + 1, i, hi, h => by
    rw [rgo_succ, rgo_succ]
    by_cases hne : ne i = true
    · rw [if_pos hne, if_pos hne]
      simp only []
      rw [if_pos]
      rcases Nat.lt_or_ge i (l + 4) with h1 | h1
      · rw [h i (Nat.le_refl _) h1 (by omega)] at hne; cases hne
      · omega
    · rw [if_neg hne, if_neg hne]
      exact rgo_close ne f l d (i + 1) (by omega) (fun j h1 h2 h3 => h j (by omega) h2 (by omega))

/-- What the three loops owe, at the places i, e and j. -/
def GoL0 (a b : ByteArray) (i : Nat) : Prop := ∀ (k : Nat) (out : List S53), 40 * (b.size - i) + 20 < k → out.length ≤ i → concordanceref06_Diff.l0 k a b out (i : Int) = some (out ++ (rgo (neAt a b) (b.size - i) i none).map (pieceQ b))
def GoL1 (a b : ByteArray) (e : Nat) : Prop := ∀ (k i : Nat) (out : List S53), i < e → 40 * (b.size - e) + 50 < k → out.length ≤ i → concordanceref06_Diff.l1 k a b out (i : Int) (e : Int) true = some (out ++ (rgo (neAt a b) (b.size - e) e (some (i, e))).map (pieceQ b))
def GoL2 (a b : ByteArray) (e j : Nat) : Prop := ∀ (k i : Nat) (out : List S53), i < e → 40 * (b.size - e) + 4 * (e + 4 - j) + 26 < k → out.length ≤ i → (∀ q, e ≤ q → q < j → neAt a b q = false) →
  concordanceref06_Diff.l2 k a b out (i : Int) (e : Int) false (j : Int) = some (out ++ (rgo (neAt a b) (b.size - e) e (some (i, e))).map (pieceQ b))

theorem goL0_end (a b : ByteArray) (i : Nat) (h : b.size ≤ i) : GoL0 a b i := by
  intro k out hk ho
  obtain ⟨k, rfl⟩ : ∃ q, k = q + 1 := ⟨k - 1, by omega⟩
  rw [concordanceref06_Diff.l0.eq_2, if_neg (by omega), show b.size - i = 0 by omega]
  simp [rgo]
theorem goL0_step (a b : ByteArray) (hab : a.size = b.size) (hn : b.size ≤ 65535) (i : Nat) (h : i < b.size) (h0 : GoL0 a b (i + 1)) (h1 : GoL1 a b (i + 1)) : GoL0 a b i := by
  intro k out hk ho
  obtain ⟨k, rfl⟩ : ∃ q, k = q + 1 := ⟨k - 1, by omega⟩
  have hw : wrap64 ((i : Int) + 1) = ((i + 1 : Nat) : Int) := by unfold wrap64; omega
  have hd : b.size - i = (b.size - (i + 1)) + 1 := by omega
  rw [concordanceref06_Diff.l0.eq_2, if_pos (by omega), if_pos (by omega), if_pos (by omega), hw, hd, rgo_succ]
  by_cases hb : bt a i = bt b i
  · have hne : neAt a b i = false := by simp [neAt, hb]
    rw [if_pos hb, hne, if_neg (by simp)]
    exact h0 k out (by omega) (by omega)
  · have hne : neAt a b i = true := by simp [neAt, hb]
    rw [if_neg hb, hne, if_pos (show true = true from rfl)]
    exact h1 k i out (by omega) (by omega) ho
theorem goL1_of (a b : ByteArray) (e : Nat) (h2 : GoL2 a b e e) : GoL1 a b e := by
  intro k i out hi hk ho
  obtain ⟨k, rfl⟩ : ∃ q, k = q + 1 := ⟨k - 1, by omega⟩
  rw [concordanceref06_Diff.l1.eq_2, if_pos (show true = true from rfl)]
  exact h2 k i out hi (by omega) ho (fun q h1 h2 => by omega)
theorem goL2_stop (a b : ByteArray) (hn : b.size ≤ 65535) (e : Nat) (he : e ≤ b.size) (h0 : GoL0 a b e) (k i : Nat) (out : List S53) (hi : i < e) (hk : 40 * (b.size - e) + 22 < k) (ho : out.length ≤ i) (hq : ∀ q, e ≤ q → q < e + 4 → q < b.size → neAt a b q = false) :
    concordanceref06_Diff.l1 k a b out (i : Int) (e : Int) false = some (out ++ (rgo (neAt a b) (b.size - e) e (some (i, e))).map (pieceQ b)) := by
  obtain ⟨k, rfl⟩ : ∃ q, k = q + 1 := ⟨k - 1, by omega⟩
  rw [concordanceref06_Diff.l1.eq_2, if_neg (by simp), if_pos (by omega), if_pos (by omega), if_pos (by omega), if_pos (by omega),
    h0 k _ (by omega) (by simp; omega), rgo_close (neAt a b) i e (b.size - e) e (Nat.le_refl _) (fun j h1 h2 h3 => hq j h1 h2 (by omega))]
  simp [pieceQ]
theorem goL2_far (a b : ByteArray) (hn : b.size ≤ 65535) (e j : Nat) (he : e ≤ b.size) (hj : e + 4 ≤ j ∨ b.size ≤ j) (h0 : GoL0 a b e) : GoL2 a b e j := by
  intro k i out hi hk ho hno
  obtain ⟨k, rfl⟩ : ∃ q, k = q + 1 + 1 := ⟨k - 2, by omega⟩
  have hw4 : wrap64 ((e : Int) + 4) = (e : Int) + 4 := by unfold wrap64; omega
  have hs := goL2_stop a b hn e he h0 k i out hi (by omega) ho (fun q h1 h2 h3 => hno q h1 (by omega))
  rw [concordanceref06_Diff.l2.eq_2, hw4]
  by_cases c1 : (j : Int) < (e : Int) + 4
  · rw [if_pos c1, decide_eq_false (by omega), concordanceref06_Diff.j4.eq_2, if_neg (by simp)]
    exact hs
  · rw [if_neg c1, concordanceref06_Diff.j4.eq_2, if_neg (by simp)]
    exact hs
theorem goL2_near (a b : ByteArray) (hab : a.size = b.size) (hn : b.size ≤ 65535) (e j : Nat) (hej : e ≤ j) (hj : j < e + 4) (hjn : j < b.size) (h1 : GoL1 a b (j + 1)) (h2 : GoL2 a b e (j + 1)) : GoL2 a b e j := by
  intro k i out hi hk ho hno
  obtain ⟨k, rfl⟩ : ∃ q, k = q + 1 + 1 := ⟨k - 2, by omega⟩
  have c1 : (j : Int) < (e : Int) + 4 := by omega
  have c2 : (j : Int) < (b.size : Int) := by omega
  have c3 : (j : Int) < (a.size : Int) := by omega
  have c0 : (0 : Int) ≤ (j : Int) := by omega
  have hw4 : wrap64 ((e : Int) + 4) = (e : Int) + 4 := by unfold wrap64; omega
  rw [concordanceref06_Diff.l2.eq_2, hw4, if_pos c1, decide_eq_true c2, concordanceref06_Diff.j4.eq_2, if_pos (show true = true from rfl), if_pos c0, if_pos c3, if_pos c2]
  clear hw4
  have hwj : wrap64 ((j : Int) + 1) = ((j + 1 : Nat) : Int) := by unfold wrap64; omega
  rw [hwj]
  clear hwj
  by_cases hb : bt a j = bt b j
  · rw [if_pos hb]
    exact h2 k i out hi (by omega) ho (fun q q1 q2 => by
      by_cases hqj : q = j
      · subst hqj; simp [neAt, hb]
      · exact hno q q1 (by omega))
  · have hne : neAt a b j = true := by simp [neAt, hb]
    have hs := rgo_skip (neAt a b) (j - e) (b.size - j) e (some (i, e)) (fun q q1 q2 => hno q q1 (by omega))
    have d1 : b.size - j + (j - e) = b.size - e := by omega
    have d2 : e + (j - e) = j := by omega
    have h3 : ∀ m, m = (b.size - (j + 1)) + 1 → rgo (neAt a b) m j (some (i, e)) = rgo (neAt a b) (b.size - (j + 1)) (j + 1) (some (i, j + 1)) := by
      intro m hm
      subst hm
      rw [rgo_succ, hne, if_pos (show true = true from rfl)]
      show (if 4 ≤ j - e then _ else _) = _
      rw [if_neg (by omega)]
    rw [d1, d2, h3 (b.size - j) (by omega)] at hs
    rw [if_neg hb, hs]
    exact h1 k i out (by omega) (by omega) ho

theorem goL_all (a b : ByteArray) (hab : a.size = b.size) (hn : b.size ≤ 65535) : ∀ (d : Nat), ∀ i, b.size - i ≤ d → GoL0 a b i ∧ (i ≤ b.size → GoL1 a b i) := by
  have l2 : ∀ e, e ≤ b.size → GoL0 a b e → (∀ j, e ≤ j → j < b.size → GoL1 a b (j + 1)) → ∀ m j, e ≤ j → e + 4 - j ≤ m → GoL2 a b e j := by
    intro e he h0 h1 m
    induction m with
    | zero => intro j hej hm; exact goL2_far a b hn e j he (.inl (by omega)) h0
    | succ m ih =>
      intro j hej hm
      by_cases c : j < e + 4 ∧ j < b.size
      · exact goL2_near a b hab hn e j hej c.1 c.2 (h1 j hej c.2) (ih (j + 1) (by omega) (by omega))
      · exact goL2_far a b hn e j he (by omega) h0
  intro d
  induction d with
  | zero =>
    intro i hi
    have h0 := goL0_end a b i (by omega)
    exact ⟨h0, fun h => goL1_of a b i (l2 i h h0 (fun j h1 h2 => by omega) 4 i (Nat.le_refl _) (by omega))⟩
  | succ d ih =>
    intro i hi
    have h0 : GoL0 a b i := by
      by_cases c : i < b.size
      · obtain ⟨x, y⟩ := ih (i + 1) (by omega)
        exact goL0_step a b hab hn i c x (y (by omega))
      · exact goL0_end a b i (by omega)
    exact ⟨h0, fun h => goL1_of a b i (l2 i h h0 (fun j h1 h2 => (ih (j + 1) (by omega)).2 (by omega)) 4 i (Nat.le_refl _) (by omega))⟩

theorem refDiff_tells (a b : ByteArray) (hab : a.size = b.size) (hn : b.size ≤ 65535) (k : Nat) (hk : 40 * b.size + 30 ≤ k) : concordanceref06_Diff.f k a b = some ((rgo (neAt a b) b.size 0 none).map (pieceQ b)) := by
  obtain ⟨k, rfl⟩ : ∃ q, k = q + 1 := ⟨k - 1, by omega⟩
  unfold concordanceref06_Diff.f
  rw [if_pos (by omega), decide_eq_false (by omega), concordanceref06_Diff.j0.eq_2, if_neg (by simp)]
  have h := (goL_all a b hab hn b.size 0 (by omega)).1 k [] (by omega) (by simp)
  simpa using h

theorem same_loop (A : List S31) (B : List S53) (h : A = B.map toP) (hl : B.length ≤ 1000000) : ∀ (d k i : Nat), i + d = B.length → d < k → concordancelaw06_same.l0 k A B (i : Int) = some true := by
  intro d
  induction d with
  | zero =>
    intro k i hi hk
    obtain ⟨k, rfl⟩ : ∃ m, k = m + 1 := ⟨k - 1, by omega⟩
    rw [concordancelaw06_same.l0.eq_2, if_neg (by omega)]
  | succ d ih =>
    intro k i hi hk
    obtain ⟨k, rfl⟩ : ∃ m, k = m + 1 := ⟨k - 1, by omega⟩
    have hlt : i < B.length := by omega
    have hA : A.length = B.length := by rw [h, List.length_map]
    have e1 : rd_T31 A (i : Int) = toP B[i] := by rw [getD_at A i (by omega)]; simp [h]
    rw [concordancelaw06_same.l0.eq_2, if_pos (by omega), if_pos (by omega), if_pos (by omega), e1, rd_toP B i hlt, if_neg (by simp [toP]), show wrap64 ((i : Int) + 1) = ((i + 1 : Nat) : Int) by unfold wrap64; omega]
    exact ih k (i + 1) (by omega) (by omega)
theorem same_tells (A : List S31) (B : List S53) (h : A = B.map toP) (hl : B.length ≤ 1000000) (k : Nat) (hk : B.length < k) : concordancelaw06_same.f k A B = some true := by
  unfold concordancelaw06_same.f
  rw [if_pos (by rw [h, List.length_map])]
  exact same_loop A B h hl B.length k 0 (by omega) hk
end Go.Proofs.Ytpdibkcpdngboaa.GP
