/- What patch.Diff comes to, in plain words: the ranges of unlike bytes, and their pieces; that they are right, and make the one text the other one. No program in sight but the printed functions. -/
import Derived.Test.YtpdibkcpdngboaaGPx6
import Derived.Test.YtpdibkcpdngboaaHApply
namespace Go.Proofs.Ytpdibkcpdngboaa.GP
open Go.RowKit Go.Proofs.YtpdibkcpdngboaaW.PrintWords Go.Proofs.YtpdibkcpdngboaaW.PrintLast Go.Proofs.YtpdibkcpdngboaaW.PrintMore Go.Proofs.Ytpdibkcpdngboaa.Copy
set_option linter.unusedVariables false
set_option linter.unusedSimpArgs false

/-- The ranges that a walk over the next d places from i on tells; c: the range that is open. -/
def rgo (ne : Nat → Bool) : Nat → Nat → Option (Nat × Nat) → List (Nat × Nat)
  | 0, _, none => []
  | 0, _, some c => [c]
  | d + 1, i, c => if ne i = true then (match c with
      | none => rgo ne d (i + 1) (some (i, i + 1))
      | some (f, l) => if 4 ≤ i - l then (f, l) :: rgo ne d (i + 1) (some (i, i + 1)) else rgo ne d (i + 1) (some (f, i + 1)))
    else rgo ne d (i + 1) c
theorem rgo_succ (ne : Nat → Bool) (d i : Nat) (c : Option (Nat × Nat)) : rgo ne (d + 1) i c = if ne i = true then (match c with
      | none => rgo ne d (i + 1) (some (i, i + 1))
      | some (f, l) => if 4 ≤ i - l then (f, l) :: rgo ne d (i + 1) (some (i, i + 1)) else rgo ne d (i + 1) (some (f, i + 1)))
    else rgo ne d (i + 1) c := by cases c <;> rfl
def neAt (a b : ByteArray) (i : Nat) : Bool := decide (bt a i ≠ bt b i)
def piece (b : ByteArray) (r : Nat × Nat) : S31 := ⟨(r.1 : Int), b.extract r.1 r.2⟩
def diffL (a b : ByteArray) : List S31 := (rgo (neAt a b) b.size 0 none).map (piece b)

theorem diff_loop (a b : ByteArray) (hab : a.size = b.size) (hn : b.size ≤ 65535) : ∀ (d k i : Nat) (out : List S31) (c : Option (Nat × Nat)) (fr last : Int), i + d = b.size → 2 * d < k → (c = none → fr = -1) →
    (∀ f l, c = some (f, l) → f < l ∧ l ≤ i ∧ last = (l : Int) ∧ fr = (f : Int)) → out.length ≤ i →
    patch_Diff.l0 k a b out fr last (b.size : Int) (i : Int) = some (out ++ (rgo (neAt a b) d i c).map (piece b)) := by
  intro d
  induction d with
  | zero =>
    intro k i out c fr last hi hk hf hc ho
    obtain ⟨k, rfl⟩ : ∃ m, k = m + 1 := ⟨k - 1, by omega⟩
    rw [patch_Diff.l0.eq_2]
    rw [if_neg (by omega)]
    cases c with
    | none => obtain rfl := hf rfl; simp [rgo]
    | some c =>
      obtain ⟨f, l⟩ := c
      obtain ⟨h1, h2, rfl, rfl⟩ := hc f l rfl
      simp only [rgo]
      rw [if_pos (by omega), if_pos (by omega), if_pos (by omega), if_pos (by omega), if_pos (by omega)]
      simp [piece]
  | succ d ih =>
    intro k i out c fr last hi hk hf hc ho
    obtain ⟨k, rfl⟩ : ∃ m, k = m + 1 + 1 := ⟨k - 2, by omega⟩
    have hw : wrap64 ((i : Int) + 1) = ((i + 1 : Nat) : Int) := by unfold wrap64; omega
    rw [patch_Diff.l0.eq_2]
    rw [if_pos (by omega), if_pos (by omega), if_pos (by omega), if_pos (by omega)]
    by_cases hb : bt a i = bt b i
    · rw [if_pos hb, hw, ih (k + 1) (i + 1) out c fr last (by omega) (by omega) hf (fun f l h => by obtain ⟨h1, h2, h3⟩ := hc f l h; exact ⟨h1, by omega, h3⟩) (by omega)]
      rw [rgo_succ, if_neg (by simp [neAt, hb])]
    · rw [if_neg hb]
      have hne : neAt a b i = true := by simp [neAt, hb]
      cases c with
      | none =>
        obtain rfl := hf rfl
        rw [if_neg (by omega)]
        rw [patch_Diff.j2.eq_2]
        rw [if_neg (by simp), if_pos (by omega), hw]
        have h := ih k (i + 1) out (some (i, i + 1)) (i : Int) ((i + 1 : Nat) : Int) (by omega) (by omega) (fun h => by cases h) (fun f l h => by cases h; exact ⟨by omega, by omega, rfl, rfl⟩) (by omega)
        rw [h, rgo_succ, if_pos hne]
      | some c =>
        obtain ⟨f, l⟩ := c
        obtain ⟨h1, h2, rfl, rfl⟩ := hc f l rfl
        have hw2 : wrap64 ((i : Int) - (l : Int)) = (i : Int) - (l : Int) := by unfold wrap64; omega
        rw [if_pos (by omega), hw2]
        by_cases h4 : 4 ≤ i - l
        · rw [decide_eq_true (show (i : Int) - (l : Int) ≥ 4 by omega)]
          rw [patch_Diff.j2.eq_2]
          rw [if_pos rfl, if_pos (by omega), if_pos (by omega), if_pos (by omega), if_pos (by omega), hw]
          have h := ih k (i + 1) (out ++ [(⟨(f : Int), b.extract (f : Int).toNat (l : Int).toNat⟩ : S31)]) (some (i, i + 1)) (i : Int) ((i + 1 : Nat) : Int) (by omega) (by omega) (fun h => by cases h) (fun f l h => by cases h; exact ⟨by omega, by omega, rfl, rfl⟩) (by simp; omega)
          rw [h, rgo_succ, if_pos hne]
          simp only []
          rw [if_pos h4]
          simp [piece]
        · rw [decide_eq_false (show ¬ (i : Int) - (l : Int) ≥ 4 by omega)]
          rw [patch_Diff.j2.eq_2]
          rw [if_neg (by simp), if_neg (by omega), hw]
          have h := ih k (i + 1) out (some (f, i + 1)) (f : Int) ((i + 1 : Nat) : Int) (by omega) (by omega) (fun h => by cases h) (fun f l h => by cases h; exact ⟨by omega, by omega, rfl, rfl⟩) (by omega)
          rw [h, rgo_succ, if_pos hne]
          simp only []
          rw [if_neg h4]

theorem diff_tells (a b : ByteArray) (hab : a.size = b.size) (hn : b.size ≤ 65535) (k : Nat) (hk : 2 * b.size + 2 < k) : patch_Diff.f k a b = some (diffL a b) := by
  obtain ⟨k, rfl⟩ : ∃ m, k = m + 1 := ⟨k - 1, by omega⟩
  unfold patch_Diff.f
  rw [if_pos (by omega), decide_eq_false (by omega)]
  rw [patch_Diff.j0.eq_2]
  rw [if_neg (by simp)]
  have h := diff_loop a b hab hn b.size k 0 [] none (-1) 0 (by omega) (by omega) (fun _ => rfl) (fun _ _ h => by cases h) (by simp)
  simpa [diffL] using h

/-- Ranges one behind the other, from e on, none beyond n, each with an unlike byte at its begin. -/
def Chain (ne : Nat → Bool) (n : Nat) : Nat → List (Nat × Nat) → Prop
  | _, [] => True
  | e, r :: R => e ≤ r.1 ∧ r.1 < r.2 ∧ r.2 ≤ n ∧ ne r.1 = true ∧ Chain ne n r.2 R

theorem rgo_chain (ne : Nat → Bool) (n : Nat) : ∀ (d i e : Nat) (c : Option (Nat × Nat)), i + d = n → (c = none → e ≤ i) → (∀ f l, c = some (f, l) → e ≤ f ∧ f < l ∧ l ≤ i ∧ ne f = true) → Chain ne n e (rgo ne d i c) := by
  intro d
  induction d with
  | zero =>
    intro i e c hi h0 h1
    cases c with
    | none => simp [rgo, Chain]
    | some c =>
      obtain ⟨f, l⟩ := c
      obtain ⟨a1, a2, a3, a4⟩ := h1 f l rfl
      simp only [rgo, Chain]
      exact ⟨a1, a2, by omega, a4, trivial⟩
  | succ d ih =>
    intro i e c hi h0 h1
    rw [rgo_succ]
    by_cases hne : ne i = true
    · rw [if_pos hne]
      cases c with
      | none => exact ih (i + 1) e _ (by omega) (fun h => by cases h) (fun f l h => by cases h; exact ⟨h0 rfl, by omega, by omega, hne⟩)
      | some c =>
        obtain ⟨f, l⟩ := c
        obtain ⟨a1, a2, a3, a4⟩ := h1 f l rfl
        simp only []
        by_cases h4 : 4 ≤ i - l
        · rw [if_pos h4]
          exact ⟨a1, a2, by simp only []; omega, a4, ih (i + 1) l _ (by omega) (fun h => by cases h) (fun f l h => by cases h; exact ⟨by omega, by omega, by omega, hne⟩)⟩
        · rw [if_neg h4]
          exact ih (i + 1) e _ (by omega) (fun h => by cases h) (fun f l h => by cases h; exact ⟨a1, by omega, by omega, a4⟩)
    · rw [if_neg hne]
      exact ih (i + 1) e c (by omega) (fun h => by have := h0 h; omega) (fun f l h => by obtain ⟨a1, a2, a3, a4⟩ := h1 f l h; exact ⟨a1, a2, by omega, a4⟩)

theorem rgo_covers (ne : Nat → Bool) : ∀ (d i j : Nat) (c : Option (Nat × Nat)), (∀ f l, c = some (f, l) → f < l ∧ l ≤ i) → ((∃ f l, c = some (f, l) ∧ f ≤ j ∧ j < l) ∨ (i ≤ j ∧ j < i + d ∧ ne j = true)) → ∃ r ∈ rgo ne d i c, r.1 ≤ j ∧ j < r.2 := by
  intro d
  induction d with
  | zero =>
    intro i j c hc h
    rcases h with ⟨f, l, rfl, h1, h2⟩ | ⟨h1, h2, _⟩
    · exact ⟨(f, l), by simp [rgo], h1, h2⟩
    · omega
  | succ d ih =>
    intro i j c hc h
    rw [rgo_succ]
    by_cases hne : ne i = true
    · rw [if_pos hne]
      cases c with
      | none =>
        refine ih (i + 1) j _ (fun f l h => by cases h; omega) ?_
        rcases h with ⟨f, l, h, _⟩ | ⟨h1, h2, h3⟩
        · cases h
        · rcases Nat.eq_or_lt_of_le h1 with rfl | hlt
          · exact .inl ⟨i, i + 1, rfl, by omega, by omega⟩
          · exact .inr ⟨by omega, by omega, h3⟩
      | some c =>
        obtain ⟨f, l⟩ := c
        have hc' := hc f l rfl
        simp only []
        by_cases h4 : 4 ≤ i - l
        · rw [if_pos h4]
          rcases h with ⟨f', l', h, h1, h2⟩ | ⟨h1, h2, h3⟩
          · cases h; exact ⟨(f, l), by simp, h1, h2⟩
          · obtain ⟨r, hr, h⟩ := ih (i + 1) j (some (i, i + 1)) (fun f l h => by cases h; omega) (by
              rcases Nat.eq_or_lt_of_le h1 with rfl | hlt
              · exact .inl ⟨i, i + 1, rfl, by omega, by omega⟩
              · exact .inr ⟨by omega, by omega, h3⟩)
            exact ⟨r, List.mem_cons_of_mem _ hr, h⟩
        · rw [if_neg h4]
          refine ih (i + 1) j _ (fun f l h => by cases h; omega) ?_
          rcases h with ⟨f', l', h, h1, h2⟩ | ⟨h1, h2, h3⟩
          · cases h; exact .inl ⟨f, i + 1, rfl, h1, by omega⟩
          · rcases Nat.eq_or_lt_of_le h1 with rfl | hlt
            · exact .inl ⟨f, i + 1, rfl, by omega, by omega⟩
            · exact .inr ⟨by omega, by omega, h3⟩
    · rw [if_neg hne]
      refine ih (i + 1) j c (fun f l h => by have := hc f l h; omega) ?_
      rcases h with h | ⟨h1, h2, h3⟩
      · exact .inl h
      · rcases Nat.eq_or_lt_of_le h1 with rfl | hlt
        · exact absurd h3 hne
        · exact .inr ⟨by omega, by omega, h3⟩

theorem rgo_length (ne : Nat → Bool) : ∀ (d i : Nat) (c : Option (Nat × Nat)), (rgo ne d i c).length ≤ d + 1 ∧ (c = none → (rgo ne d i c).length ≤ d) := by
  intro d
  induction d with
  | zero => intro i c; cases c <;> simp [rgo]
  | succ d ih =>
    intro i c
    rw [rgo_succ]
    by_cases hne : ne i = true
    · rw [if_pos hne]
      cases c with
      | none => have := (ih (i + 1) (some (i, i + 1))).1; exact ⟨by simp only []; omega, fun _ => this⟩
      | some c =>
        obtain ⟨f, l⟩ := c
        simp only []
        refine ⟨?_, fun h => by cases h⟩
        by_cases h4 : 4 ≤ i - l
        · rw [if_pos h4]; have := (ih (i + 1) (some (i, i + 1))).1; simp; omega
        · rw [if_neg h4]; have := (ih (i + 1) (some (f, i + 1))).1; omega
    · rw [if_neg hne]
      obtain ⟨h1, h2⟩ := ih (i + 1) c
      exact ⟨by omega, fun h => by have := h2 h; omega⟩

theorem extract_size (b : ByteArray) (f l : Nat) (h : l ≤ b.size) : (b.extract f l).size = l - f := by
  rw [ByteArray.size_extract]; omega

theorem chain_right (ne : Nat → Bool) (b : ByteArray) (hn : b.size ≤ 65535) : ∀ (R : List (Nat × Nat)) (e : Nat), Chain ne b.size e R → rightB (e : Int) (R.map (piece b)) = true ∧ (e ≤ b.size → endOf (R.map (piece b)) ≤ b.size)
  | [], _, _ => by simp [rightB, endOf]
  | r :: R, e, h => by
    obtain ⟨h1, h2, h3, h4, h5⟩ := h
    obtain ⟨i1, i2⟩ := chain_right ne b hn R r.2 h5
    have hs := extract_size b r.1 r.2 h3
    have he : ((r.1 : Int) + ((b.extract r.1 r.2).size : Int)) = (r.2 : Int) := by rw [hs]; omega
    refine ⟨?_, fun _ => ?_⟩
    · simp only [List.map_cons, rightB, piece]
      rw [he, hs]
      simp only [Bool.and_eq_true, decide_eq_true_eq]
      exact ⟨⟨⟨⟨by omega, by omega⟩, by omega⟩, by omega⟩, i1⟩
    · cases R with
      | nil => simp only [List.map_cons, List.map_nil, endOf, piece]; rw [he]; omega
      | cons q R => exact i2 h3

theorem getD_bt (s : ByteArray) (i : Nat) : ((s.data.toList.getD i 0).toNat : Int) = bt s i := by
  unfold bt
  split
  · rename_i h
    have h' : i < s.data.toList.length := by simpa using h
    rw [List.getD_eq_getElem?_getD, List.getElem?_eq_getElem h']
    rfl
  · rename_i h
    have h' : s.data.toList.length ≤ i := by simpa using h
    rw [List.getD_eq_getElem?_getD, List.getElem?_eq_none h']
    rfl

theorem extract_getD (b : ByteArray) (f l k : Nat) (hk : k < l - f) : (b.extract f l).data.toList.getD k 0 = b.data.toList.getD (f + k) 0 := by
  have h0 : b.data.toList.length = b.size := by simp
  rw [ByteArray.data_extract]
  simp only [Array.toList_extract, List.getD_eq_getElem?_getD]
  simp only [List.extract_eq_take_drop]
  rw [List.getElem?_take_of_lt hk, List.getElem?_drop]

/-- What pieces of b leave at place j: b's byte where one of them lies, else what was there. -/
theorem overlay_get (ne : Nat → Bool) (b : ByteArray) : ∀ (R : List (Nat × Nat)) (e : Nat) (L : List UInt8), Chain ne b.size e R → L.length = b.size → ∀ j, j < b.size →
    (overlay L (R.map (piece b))).getD j 0 = L.getD j 0 ∧ (∀ r ∈ R, ¬ (r.1 ≤ j ∧ j < r.2)) ∨ (overlay L (R.map (piece b))).getD j 0 = b.data.toList.getD j 0
  | [], _, L, _, _, j, _ => .inl ⟨rfl, by simp⟩
  | r :: R, e, L, h, hL, j, hj => by
    obtain ⟨h1, h2, h3, h4, h5⟩ := h
    have hs : (b.extract r.1 r.2).data.toList.length = r.2 - r.1 := by
      have := extract_size b r.1 r.2 h3
      rw [← this]
      rfl
    have hfit : r.1 + (b.extract r.1 r.2).data.toList.length ≤ L.length := by rw [hs]; omega
    have hlen := length_splice L r.1 (b.extract r.1 r.2).data.toList hfit
    simp only [List.map_cons, overlay, piece, Int.toNat_natCast]
    have hg := splice_getD L r.1 (b.extract r.1 r.2).data.toList j hfit
    rcases overlay_get ne b R r.2 (splice L r.1 (b.extract r.1 r.2).data.toList) h5 (by rw [hlen]; exact hL) j hj with ⟨g1, g2⟩ | g1
    · rw [hs] at hg
      by_cases c1 : r.1 ≤ j ∧ j < r.2
      · right
        rw [g1, hg, if_neg (by omega), if_pos (by omega), extract_getD b _ _ _ (by omega), show r.1 + (j - r.1) = j by omega]
      · left
        refine ⟨?_, fun q hq => ?_⟩
        · rw [g1, hg]
          by_cases c2 : j < r.1
          · rw [if_pos c2]
          · rw [if_neg c2, if_neg (by omega)]
        · rcases List.mem_cons.1 hq with rfl | hq
          · exact c1
          · exact g2 q hq
    · exact .inr g1

theorem byteArray_ext (b : ByteArray) (l : List UInt8) (h : l = b.data.toList) : (⟨l.toArray⟩ : ByteArray) = b := by
  subst h
  cases b
  simp

theorem list_ext_getD (l m : List UInt8) (h : l.length = m.length) (hg : ∀ j, j < m.length → l.getD j 0 = m.getD j 0) : l = m := by
  apply List.ext_getElem h
  intro j h1 h2
  have := hg j h2
  simpa [List.getD_eq_getElem?_getD, List.getElem?_eq_getElem h1, List.getElem?_eq_getElem h2] using this

/-- THE LAW: what makes a text another one does make it. -/
theorem apply_diff (a b : ByteArray) (hab : a.size = b.size) (hn : b.size ≤ 65535) : patch_Apply.f a (diffL a b) = some (b, 0) := by
  have hch : Chain (neAt a b) b.size 0 (rgo (neAt a b) b.size 0 none) := rgo_chain _ _ _ _ _ _ (by omega) (fun _ => by omega) (fun _ _ h => by cases h)
  have hR : (diffL a b).length ≤ b.size := by
    rw [diffL, List.length_map]
    exact (rgo_length _ _ _ _).2 rfl
  obtain ⟨h1, h2⟩ := chain_right (neAt a b) b hn _ 0 hch
  have h1' : rightB 0 (diffL a b) = true := h1
  have h2' : endOf (diffL a b) ≤ b.size := h2 (by omega)
  unfold patch_Apply.f
  rw [if_pos ⟨by omega, by omega⟩, if_pos ⟨h1', by omega⟩, if_pos (by omega)]
  have hla : a.data.toList.length = a.size := by simp
  have hlb : b.data.toList.length = b.size := by simp
  have hlen : (overlay a.data.toList (diffL a b)).length = a.size := by rw [overlay_length _ _ 0 (by omega) h1' (by rw [hla]; omega), hla]
  congr 2
  apply byteArray_ext
  apply list_ext_getD _ _ (by rw [hlen, hlb, hab])
  intro j hj
  rw [hlb] at hj
  rcases overlay_get (neAt a b) b _ 0 a.data.toList hch (by rw [hla, hab]) j hj with ⟨g1, g2⟩ | g1
  · rw [show overlay a.data.toList (diffL a b) = overlay a.data.toList ((rgo (neAt a b) b.size 0 none).map (piece b)) from rfl, g1]
    by_cases hne : neAt a b j = true
    · obtain ⟨r, hr, hh⟩ := rgo_covers (neAt a b) b.size 0 j none (fun _ _ h => by cases h) (.inr ⟨by omega, by omega, hne⟩)
      exact absurd hh (g2 r hr)
    · have hb : bt a j = bt b j := by simpa [neAt] using hne
      rw [← getD_bt, ← getD_bt] at hb
      have : (a.data.toList.getD j 0).toNat = (b.data.toList.getD j 0).toNat := by omega
      exact UInt8.toNat_inj.1 this
  · exact g1
end Go.Proofs.Ytpdibkcpdngboaa.GP
