/- Get of a record, in plain Lean: the program's and the document's Get tell the same. -/
import Derived.Test.YteehchhmonlkkaaRRead
import Derived.Test.YteehchhmonlkkaaGPx3
import Derived.Test.YteehchhmonlkkaaRLists
import Derived.Test.YteehchhmonlkkaaGPx10
namespace Go.Proofs.Yteehchhmonlkkaa.GP
open Go.RowKit Go.Proofs.YteehchhmonlkkaaW.PrintWords Go.Proofs.YteehchhmonlkkaaW.PrintLast Go.Proofs.YteehchhmonlkkaaW.PrintMore Go.Proofs.Yteehchhmonlkkaa.Copy
set_option linter.unusedVariables false
set_option linter.unusedSimpArgs false
set_option maxHeartbeats 400000

/-- The pieces at a text's begin. -/
def patchG (s : ByteArray) : List S66 × Int × Int := if s.size < 2 then ([], 0, 3) else getOut (rightB 0) (getGo mkP s (num2 s 0) 2 [])
def patchQ (s : ByteArray) : List S67 × Int × Int := if s.size < 2 then ([], 0, 3) else getOut (fun l => rightB 0 (l.map toP)) (getGo mkQ s (num2 s 0) 2 [])
theorem patch_map (s : ByteArray) : patchG s = ((patchQ s).1.map toP, (patchQ s).2) := by
  unfold patchG patchQ
  by_cases h : s.size < 2
  · rw [if_pos h, if_pos h]; rfl
  · rw [if_neg h, if_neg h]
    have hm := getGo_map s (num2 s 0) 2 []
    rw [List.map_nil] at hm
    rw [hm]
    cases hq : getGo mkQ s (num2 s 0) 2 [] with
    | none => rfl
    | some lp =>
      obtain ⟨l, p⟩ := lp
      show getOut (rightB 0) (some (l.map toP, p)) = _
      rw [getOut_some, getOut_some]
      by_cases hr : rightB 0 (l.map toP) = true
      · rw [if_pos hr, if_pos hr]
      · rw [if_neg hr, if_neg hr]; rfl
/-- What was read, told. -/
theorem patchG_ok (s : ByteArray) (h : (patchG s).2.2 = 0) : 2 ≤ s.size ∧ ∃ p : Nat, getGo mkP s (num2 s 0) 2 [] = some ((patchG s).1, p) ∧ (patchG s).2.1 = (p : Int) ∧ rightB 0 (patchG s).1 = true := by
  unfold patchG at h ⊢
  by_cases h2 : s.size < 2
  · rw [if_pos h2] at h; exact absurd h (show ¬ (3 : Int) = 0 by decide)
  · rw [if_neg h2] at h ⊢
    refine ⟨by omega, ?_⟩
    cases hq : getGo mkP s (num2 s 0) 2 [] with
    | none => rw [hq] at h; exact absurd h (show ¬ (3 : Int) = 0 by decide)
    | some lp =>
      obtain ⟨l, p⟩ := lp
      rw [hq, getOut_some] at h
      rw [getOut_some]
      by_cases hr : rightB 0 l = true
      · rw [if_pos hr]; exact ⟨p, rfl, rfl, hr⟩
      · rw [if_neg hr] at h; exact absurd h (show ¬ (2 : Int) = 0 by decide)
theorem patchG_fits (s : ByteArray) (h : (patchG s).2.2 = 0) : 0 ≤ (patchG s).2.1 ∧ (patchG s).2.1 ≤ (s.size : Int) := by
  obtain ⟨h2, p, h3, h4, _⟩ := patchG_ok s h
  obtain ⟨_, h5, _⟩ := putL_get s _ p h2 h3
  rw [h4]
  omega

/-- So many changed pages, one behind the other. -/
def pagesG {α β : Type} (g : ByteArray → List β × Int × Int) (mk : Int → List β → α) : Nat → ByteArray → List α → List α × ByteArray × Int
  | 0, s, acc => (acc, s, 0)
  | c + 1, s, acc =>
    if (numP s 0 2).2.2 = 0 then
      (if (g (numP s 0 2).2.1).2.2 = 0 then pagesG g mk c ((numP s 0 2).2.1.extract (g (numP s 0 2).2.1).2.1.toNat (numP s 0 2).2.1.size) (acc ++ [mk (numP s 0 2).1 (g (numP s 0 2).2.1).1])
       else ([], s, (g (numP s 0 2).2.1).2.2))
    else ([], s, (numP s 0 2).2.2)
def endR {α : Type} (a b c : Int) (u : ByteArray) (v : Int) (x : List α × ByteArray × Int) : Int × Int × Int × ByteArray × Int × List α × Int :=
  if x.2.2 = 0 then (if x.2.1.size = 0 then (if c < 1 then (0, 0, 0, ⟨#[]⟩, 0, [], 2) else if c > 4 then (0, 0, 0, ⟨#[]⟩, 0, [], 2) else (a, b, c, u, v, x.1, 0)) else (0, 0, 0, ⟨#[]⟩, 0, [], 4)) else (0, 0, 0, ⟨#[]⟩, 0, [], x.2.2)
def mkC (n : Int) (l : List S66) : S60 := ⟨n, l⟩
def mkD (n : Int) (l : List S67) : S63 := ⟨n, l⟩
def toC (d : S63) : S60 := ⟨d.f0, d.f1.map toP⟩
/-- The head's numbers and text. -/
structure Head where
  a : Nat
  b : Nat
  c : Nat
  u : ByteArray
  v : Nat
  n : Nat
  q : ByteArray
  e : Int
def headP (s : ByteArray) : Head :=
  let n1 := numP s 0 6
  let n2 := numP n1.2.1 n1.2.2 6
  let n3 := numP n2.2.1 n2.2.2 1
  let t := textP n3.2.1 n3.2.2
  let n5 := numP t.2.1 t.2.2 2
  let n6 := numP n5.2.1 n5.2.2 1
  ⟨n1.1, n2.1, n3.1, t.1, n5.1, n6.1, n6.2.1, n6.2.2⟩
def recG {α β : Type} (g : ByteArray → List β × Int × Int) (mk : Int → List β → α) (s : ByteArray) : Int × Int × Int × ByteArray × Int × List α × Int :=
  if (s.size : Int) > 16384 then (0, 0, 0, ⟨#[]⟩, 0, [], 6)
  else if (headP s).e = 0 then endR (headP s).a (headP s).b (headP s).c (headP s).u (headP s).v (pagesG g mk (headP s).n (headP s).q [])
  else (0, 0, 0, ⟨#[]⟩, 0, [], (headP s).e)
theorem numP_e (s : ByteArray) (e : Int) (n : Nat) (h : (numP s e n).2.2 ≠ 0) : (numP s e n).1 = 0 := by
  by_cases he : e = 0
  · subst he
    by_cases hn : n ≤ s.size
    · rw [numP_ok s n hn] at h; exact absurd rfl h
    · rw [numP_short s n hn]
  · rw [numP_err s e n he]
theorem takeP_rest (s : ByteArray) (e : Int) (n : Nat) : (takeP s e n).2.1.size ≤ s.size := by
  unfold takeP
  split
  · split
    · rw [extract_size _ _ _ (Nat.le_refl _)]; omega
    · exact Nat.le_refl _
  · exact Nat.le_refl _
theorem numP_rest (s : ByteArray) (e : Int) (n : Nat) : (numP s e n).2.1.size ≤ s.size := takeP_rest s e n
theorem textP_rest (s : ByteArray) (e : Int) : (textP s e).2.1.size ≤ s.size := Nat.le_trans (takeP_rest _ _ _) (numP_rest s e 2)
theorem headP_rest (s : ByteArray) : (headP s).q.size ≤ s.size := by
  unfold headP
  exact Nat.le_trans (numP_rest _ _ _) (Nat.le_trans (numP_rest _ _ _) (Nat.le_trans (textP_rest _ _) (Nat.le_trans (numP_rest _ _ _) (Nat.le_trans (numP_rest _ _ _) (numP_rest _ _ _)))))
theorem headP_n (s : ByteArray) : (headP s).n ≤ 255 := by
  have h := numP_lt (numP (textP (numP (numP (numP s 0 6).2.1 (numP s 0 6).2.2 6).2.1 (numP (numP s 0 6).2.1 (numP s 0 6).2.2 6).2.2 1).2.1 (numP (numP (numP s 0 6).2.1 (numP s 0 6).2.2 6).2.1 (numP (numP s 0 6).2.1 (numP s 0 6).2.2 6).2.2 1).2.2).2.1 (textP (numP (numP (numP s 0 6).2.1 (numP s 0 6).2.2 6).2.1 (numP (numP s 0 6).2.1 (numP s 0 6).2.2 6).2.2 1).2.1 (numP (numP (numP s 0 6).2.1 (numP s 0 6).2.2 6).2.1 (numP (numP s 0 6).2.1 (numP s 0 6).2.2 6).2.2 1).2.2).2.2 2).2.1 (numP (textP (numP (numP (numP s 0 6).2.1 (numP s 0 6).2.2 6).2.1 (numP (numP s 0 6).2.1 (numP s 0 6).2.2 6).2.2 1).2.1 (numP (numP (numP s 0 6).2.1 (numP s 0 6).2.2 6).2.1 (numP (numP s 0 6).2.1 (numP s 0 6).2.2 6).2.2 1).2.2).2.1 (textP (numP (numP (numP s 0 6).2.1 (numP s 0 6).2.2 6).2.1 (numP (numP s 0 6).2.1 (numP s 0 6).2.2 6).2.2 1).2.1 (numP (numP (numP s 0 6).2.1 (numP s 0 6).2.2 6).2.1 (numP (numP s 0 6).2.1 (numP s 0 6).2.2 6).2.2 1).2.2).2.2 2).2.2 1
  show (numP _ _ 1).1 ≤ 255
  omega
theorem headP_e (s : ByteArray) (h : (headP s).e ≠ 0) : (headP s).n = 0 := numP_e _ _ _ h

theorem pieces_tells (s : ByteArray) (hs : s.size ≤ 100000000) (k : Nat) (hk : 300000 ≤ k) :
    record_reader_pieces.f k s 0 = some (if (patchG s).2.2 = 0 then ((patchG s).1, s.extract (patchG s).2.1.toNat s.size, 0) else ([], s, (patchG s).2.2)) := by
  unfold record_reader_pieces.f
  rw [if_pos rfl, get_tells s hs k hk, Option.bind_some]
  show (if (patchG s).2.2 = 0 then (if 0 ≤ (patchG s).2.1 then (if (patchG s).2.1 ≤ (s.size : Int) then some ((patchG s).1, s.extract ((patchG s).2.1).toNat s.size, (0 : Int)) else none) else none) else some ([], s, (patchG s).2.2)) = _
  by_cases he : (patchG s).2.2 = 0
  · obtain ⟨h1, h2⟩ := patchG_fits s he
    rw [if_pos he, if_pos he, if_pos h1, if_pos h2]
  · rw [if_neg he, if_neg he]
theorem pieces_err (s : ByteArray) (e : Int) (he : e ≠ 0) (k : Nat) : record_reader_pieces.f k s e = some ([], s, e) := by
  unfold record_reader_pieces.f
  rw [if_neg he]

/-- Behind an error the rest of the loop changes nothing of it. -/
theorem get_err (n : Nat) (hn : n ≤ 255) (e : Int) (he : e ≠ 0) (a b c : Int) (u : ByteArray) (v : Int) : ∀ (d k i : Nat) (s : ByteArray) (acc : List S60), i + d = n → acc.length = i → d + 10 ≤ k →
    record_Get.l0 k (n : Int) (i : Int) s e a b c u v acc = some (0, 0, 0, ⟨#[]⟩, 0, [], e) := by
  intro d
  induction d with
  | zero =>
    intro k i s acc h1 h2 h3
    obtain ⟨k, rfl⟩ : ∃ m, k = m + 1 := ⟨k - 1, by omega⟩
    rw [record_Get.l0.eq_2, if_neg (by omega), if_neg he]
  | succ d ih =>
    intro k i s acc h1 h2 h3
    obtain ⟨k, rfl⟩ : ∃ m, k = m + 1 := ⟨k - 1, by omega⟩
    rw [record_Get.l0.eq_2, if_pos (by omega), show (2 : Int) = ((2 : Nat) : Int) from rfl, number_tells s e 2 (by omega) k (by omega), numP_err s e 2 he, Option.bind_some]
    show (Option.bind (record_reader_pieces.f k s e) _) = _
    rw [pieces_err s e he k, Option.bind_some, if_pos (by omega), wid ((i : Int) + 1) (by omega) (by omega), show (i : Int) + 1 = ((i + 1 : Nat) : Int) by omega]
    exact ih k (i + 1) s _ (by omega) (by rw [List.length_append, h2]; rfl) (by omega)
theorem get_end (k : Nat) (hk : 1 ≤ k) (n i : Nat) (h : ¬ i < n) (s : ByteArray) (e a b c : Int) (u : ByteArray) (v : Int) (acc : List S60) : record_Get.l0 k (n : Int) (i : Int) s e a b c u v acc = some (endR a b c u v (acc, s, e)) := by
  obtain ⟨k, rfl⟩ : ∃ m, k = m + 1 := ⟨k - 1, by omega⟩
  rw [record_Get.l0.eq_2, if_neg (by omega)]
  unfold endR
  by_cases he : e = 0
  · subst he
    rw [if_pos rfl, if_pos (show ((acc, s, (0 : Int)) : List S60 × ByteArray × Int).2.2 = 0 from rfl)]
    by_cases hs : s.size = 0
    · rw [if_pos ((data_nil s).mpr hs), if_pos (show ((acc, s, (0 : Int)) : List S60 × ByteArray × Int).2.1.size = 0 from hs)]
      by_cases c1 : c < 1
      · rw [if_pos c1, if_pos c1]
      rw [if_neg c1, if_neg c1]
      by_cases c2 : c > 4
      · rw [if_pos c2, if_pos c2]
      rw [if_neg c2, if_neg c2]
    · rw [if_neg (fun h => hs ((data_nil s).mp h)), if_neg (show ¬ ((acc, s, (0 : Int)) : List S60 × ByteArray × Int).2.1.size = 0 from hs)]
  · rw [if_neg he, if_neg (show ¬ ((acc, s, e) : List S60 × ByteArray × Int).2.2 = 0 from he)]
theorem recGet_loop (n : Nat) (hn : n ≤ 255) (a b c : Int) (u : ByteArray) (v : Int) : ∀ (d k i : Nat) (s : ByteArray) (acc : List S60), i + d = n → acc.length = i → s.size ≤ 100000000 → d + 300010 ≤ k →
    record_Get.l0 k (n : Int) (i : Int) s 0 a b c u v acc = some (endR a b c u v (pagesG patchG mkC d s acc)) := by
  intro d
  induction d with
  | zero =>
    intro k i s acc h1 h2 h3 h4
    exact get_end k (by omega) n i (by omega) s 0 a b c u v acc
  | succ d ih =>
    intro k i s acc h1 h2 h3 h4
    obtain ⟨k, rfl⟩ : ∃ m, k = m + 1 := ⟨k - 1, by omega⟩
    have hrs := numP_rest s 0 2
    rw [record_Get.l0.eq_2, if_pos (by omega), show (2 : Int) = ((2 : Nat) : Int) from rfl, number_tells s 0 2 (by omega) k (by omega), Option.bind_some]
    show (Option.bind (record_reader_pieces.f k (numP s 0 2).2.1 (numP s 0 2).2.2) _) = _
    rw [wid ((i : Int) + 1) (by omega) (by omega), show (i : Int) + 1 = ((i + 1 : Nat) : Int) by omega]
    unfold pagesG
    by_cases he : (numP s 0 2).2.2 = 0
    · rw [if_pos he, he, pieces_tells _ (by omega) k (by omega), Option.bind_some, if_pos (by omega)]
      by_cases hg : (patchG (numP s 0 2).2.1).2.2 = 0
      · rw [if_pos hg, if_pos hg]
        refine ih k (i + 1) _ _ (by omega) (by rw [List.length_append, h2]; rfl) ?_ (by omega)
        rw [extract_size _ _ _ (Nat.le_refl _)]; omega
      · rw [if_neg hg, if_neg hg]
        show record_Get.l0 k (n : Int) ((i + 1 : Nat) : Int) _ (patchG (numP s 0 2).2.1).2.2 a b c u v _ = _
        rw [get_err n hn _ hg a b c u v d k (i + 1) _ _ (by omega) (by rw [List.length_append, h2]; rfl) (by omega)]
        unfold endR
        rw [if_neg hg]
    · rw [if_neg he, pieces_err _ _ he k, Option.bind_some, if_pos (by omega)]
      show record_Get.l0 k (n : Int) ((i + 1 : Nat) : Int) _ (numP s 0 2).2.2 a b c u v _ = _
      rw [get_err n hn _ he a b c u v d k (i + 1) _ _ (by omega) (by rw [List.length_append, h2]; rfl) (by omega)]
      unfold endR
      rw [if_neg he]
theorem recGet_tells (s : ByteArray) (k : Nat) (hk : 301000 ≤ k) : record_Get.f k s = some (recG patchG mkC s) := by
  unfold record_Get.f recG
  by_cases hs : (s.size : Int) > 16384
  · rw [if_pos hs, if_pos hs]
  rw [if_neg hs, if_neg hs]
  have hq := headP_rest s
  have hn := headP_n s
  rw [show (6 : Int) = ((6 : Nat) : Int) from rfl, number_tells s 0 6 (by omega) k (by omega), Option.bind_some]
  show (Option.bind (record_reader_number.f k (numP s 0 6).2.1 (numP s 0 6).2.2 ((6 : Nat) : Int)) _) = _
  rw [number_tells _ _ 6 (by omega) k (by omega), Option.bind_some, show (1 : Int) = ((1 : Nat) : Int) from rfl]
  show (Option.bind (record_reader_number.f k (numP (numP s 0 6).2.1 (numP s 0 6).2.2 6).2.1 (numP (numP s 0 6).2.1 (numP s 0 6).2.2 6).2.2 ((1 : Nat) : Int)) _) = _
  rw [number_tells _ _ 1 (by omega) k (by omega), Option.bind_some]
  show (Option.bind (record_reader_text.f k (numP (numP (numP s 0 6).2.1 (numP s 0 6).2.2 6).2.1 (numP (numP s 0 6).2.1 (numP s 0 6).2.2 6).2.2 1).2.1 (numP (numP (numP s 0 6).2.1 (numP s 0 6).2.2 6).2.1 (numP (numP s 0 6).2.1 (numP s 0 6).2.2 6).2.2 1).2.2) _) = _
  rw [text_tells _ _ k (by omega), Option.bind_some, show (2 : Int) = ((2 : Nat) : Int) from rfl, number_tells _ _ 2 (by omega) k (by omega), Option.bind_some]
  refine Eq.trans (congrArg (fun x => Option.bind x _) (number_tells _ _ 1 (by omega) k (by omega))) ?_
  rw [Option.bind_some]
  show record_Get.l0 k ((headP s).n : Int) 0 (headP s).q (headP s).e ((headP s).a : Int) ((headP s).b : Int) ((headP s).c : Int) (headP s).u ((headP s).v : Int) [] = _
  by_cases he : (headP s).e = 0
  · rw [if_pos he, he]
    exact recGet_loop _ hn _ _ _ _ _ _ k 0 _ [] (by omega) rfl (by omega) (by omega)
  · rw [if_neg he, headP_e s he]
    exact get_err 0 (by omega) _ he _ _ _ _ _ 0 k 0 _ [] (by omega) rfl (by omega)

end Go.Proofs.Yteehchhmonlkkaa.GP

/- Put and Get of a record go back and forth, in plain Lean. -/
namespace Go.Proofs.Yteehchhmonlkkaa.GP
open Go.RowKit Go.Proofs.YteehchhmonlkkaaW.PrintWords Go.Proofs.YteehchhmonlkkaaW.PrintLast Go.Proofs.YteehchhmonlkkaaW.PrintMore Go.Proofs.Yteehchhmonlkkaa.Copy
set_option linter.unusedVariables false
set_option linter.unusedSimpArgs false
set_option maxHeartbeats 400000

theorem numP_e0 (s : ByteArray) (e : Int) (n : Nat) (h : (numP s e n).2.2 = 0) : e = 0 := by
  by_cases he : e = 0
  · exact he
  · rw [numP_err s e n he] at h; exact h
theorem takeP_e0 (s : ByteArray) (e : Int) (n : Nat) (h : (takeP s e n).2.2 = 0) : e = 0 := by
  by_cases he : e = 0
  · exact he
  · rw [takeP_err s e n he] at h; exact h
theorem textP_e0 (s : ByteArray) (e : Int) (h : (textP s e).2.2 = 0) : e = 0 := numP_e0 s e 2 (takeP_e0 _ _ _ h)
/-- A number that was read says its bytes. -/
theorem numP_bytes (s : ByteArray) (n : Nat) (h : (numP s 0 n).2.2 = 0) : n ≤ s.size ∧ (numP s 0 n).1 = numL (s.data.toList.take n) ∧ (numP s 0 n).2.1.data.toList = s.data.toList.drop n := by
  by_cases hn : n ≤ s.size
  · rw [numP_ok s n hn]; exact ⟨hn, rfl, rest_list s n⟩
  · rw [numP_short s n hn] at h; exact absurd h (show ¬ (3 : Int) = 0 by decide)
theorem numP_1 (s : ByteArray) (h : (numP s 0 1).2.2 = 0) : s.data.toList = be1 ((numP s 0 1).1 : Int) ++ (numP s 0 1).2.1.data.toList := by
  obtain ⟨h1, h2, h3⟩ := numP_bytes s 1 h
  rw [h2, h3, be1_numL _ (by rw [List.length_take, size_len]; omega), List.take_append_drop]
theorem numP_2 (s : ByteArray) (h : (numP s 0 2).2.2 = 0) : s.data.toList = be2 ((numP s 0 2).1 : Int) ++ (numP s 0 2).2.1.data.toList := by
  obtain ⟨h1, h2, h3⟩ := numP_bytes s 2 h
  rw [h2, h3, be2_numL _ (by rw [List.length_take, size_len]; omega), List.take_append_drop]
theorem numP_6 (s : ByteArray) (h : (numP s 0 6).2.2 = 0) : s.data.toList = be6 ((numP s 0 6).1 : Int) ++ (numP s 0 6).2.1.data.toList := by
  obtain ⟨h1, h2, h3⟩ := numP_bytes s 6 h
  rw [h2, h3, be6_numL _ (by rw [List.length_take, size_len]; omega), List.take_append_drop]
theorem textP_2 (s : ByteArray) (h : (textP s 0).2.2 = 0) : (textP s 0).1.size ≤ 65535 ∧ s.data.toList = be2 ((textP s 0).1.size : Int) ++ ((textP s 0).1.data.toList ++ (textP s 0).2.1.data.toList) := by
  have hlt := numP_lt s 0 2
  have hn : (numP s 0 2).2.2 = 0 := takeP_e0 _ _ _ h
  have h2 := numP_2 s hn
  unfold textP at h ⊢
  rw [hn] at h ⊢
  by_cases hm : (numP s 0 2).1 ≤ (numP s 0 2).2.1.size
  · rw [takeP_ok _ _ hm]
    have hsz : ((numP s 0 2).2.1.extract 0 (numP s 0 2).1).size = (numP s 0 2).1 := by rw [extract_size _ _ _ hm]; omega
    refine ⟨by show ((numP s 0 2).2.1.extract 0 (numP s 0 2).1).size ≤ 65535; rw [hsz]; omega, ?_⟩
    show _ = be2 (((numP s 0 2).2.1.extract 0 (numP s 0 2).1).size : Int) ++ (((numP s 0 2).2.1.extract 0 (numP s 0 2).1).data.toList ++ ((numP s 0 2).2.1.extract (numP s 0 2).1 (numP s 0 2).2.1.size).data.toList)
    rw [hsz, take_list, rest_list, List.take_append_drop]
    exact h2
  · rw [takeP_short _ _ hm] at h; exact absurd h (show ¬ (3 : Int) = 0 by decide)
/-- What the head says of the bytes. -/
theorem headP_bytes (s : ByteArray) (h : (headP s).e = 0) : (headP s).a < 281474976710656 ∧ (headP s).b < 281474976710656 ∧ (headP s).u.size ≤ 65535 ∧ (headP s).v ≤ 65535 ∧ (headP s).n ≤ 255 ∧
    s.data.toList = headB (headP s).a (headP s).b (headP s).c (headP s).u (headP s).v (headP s).n ++ (headP s).q.data.toList := by
  have g := headP_n s
  unfold headP at h g ⊢
  simp only at h g ⊢
  have e6 := numP_e0 _ _ _ h
  have e5 := numP_e0 _ _ _ e6
  have e4 := textP_e0 _ _ e5
  have e3 := numP_e0 _ _ _ e4
  have e2 := numP_e0 _ _ _ e3
  have b1 := numP_6 s e2
  rw [e2] at e3 e4 e5 e6 h g ⊢
  have b2 := numP_6 _ e3
  have l1 := numP_lt s 0 6
  have l2 := numP_lt (numP s 0 6).2.1 0 6
  generalize hx1 : numP s 0 6 = x1 at *
  generalize hx2 : numP x1.2.1 0 6 = x2 at *
  rw [e3] at e4 e5 e6 h g ⊢
  have b3 := numP_1 _ e4
  generalize hx3 : numP x2.2.1 0 1 = x3 at *
  rw [e4] at e5 e6 h g ⊢
  obtain ⟨l4, b4⟩ := textP_2 _ e5
  generalize hx4 : textP x3.2.1 0 = x4 at *
  rw [e5] at e6 h g ⊢
  have b5 := numP_2 _ e6
  have l5 := numP_lt x4.2.1 0 2
  generalize hx5 : numP x4.2.1 0 2 = x5 at *
  rw [e6] at h g ⊢
  have b6 := numP_1 _ h
  generalize hx6 : numP x5.2.1 0 1 = x6 at *
  refine ⟨by omega, by omega, l4, by omega, g, ?_⟩
  rw [b1, b2, b3, b4, b5, b6]
  unfold headB
  simp only [List.append_assoc]
theorem pagesG_bytes : ∀ (c : Nat) (s : ByteArray) (acc l : List S60) (q : ByteArray), pagesG patchG mkC c s acc = (l, q, 0) → acc.all pageOK = true →
    l.all pageOK = true ∧ l.length = acc.length + c ∧ acc.flatMap pageB ++ s.data.toList = l.flatMap pageB ++ q.data.toList
  | 0, s, acc, l, q, h, ha => by
    have h1 := congrArg Prod.fst h
    have h2 := congrArg (fun x => x.2.1) h
    simp only [pagesG] at h1 h2
    subst h1; subst h2
    exact ⟨ha, rfl, rfl⟩
  | c + 1, s, acc, l, q, h, ha => by
    have hlt := numP_lt s 0 2
    unfold pagesG at h
    by_cases he : (numP s 0 2).2.2 = 0
    · rw [if_pos he] at h
      have b1 := numP_2 s he
      generalize hx : numP s 0 2 = x at *
      by_cases hg : (patchG x.2.1).2.2 = 0
      · rw [if_pos hg] at h
        obtain ⟨h2, p, h3, h4, h5⟩ := patchG_ok x.2.1 hg
        obtain ⟨h6, h7, h8⟩ := putL_get x.2.1 _ p h2 h3
        have hl := getGo_length mkP _ _ _ _ _ _ h3
        have hn2 := num2_lt x.2.1 0
        simp only [List.length_nil, Nat.zero_add] at hl
        have hok : pageOK (mkC (x.1 : Int) (patchG x.2.1).1) = true := by
          unfold pageOK mkC
          simp only [Bool.and_eq_true, decide_eq_true_eq]
          exact ⟨⟨⟨by omega, by omega⟩, h5⟩, by omega⟩
        obtain ⟨i1, i2, i3⟩ := pagesG_bytes c _ _ l q h (by rw [List.all_append, ha]; simp [hok])
        refine ⟨i1, by rw [i2, List.length_append]; simp only [List.length_cons, List.length_nil]; omega, ?_⟩
        rw [← i3, List.flatMap_append, List.flatMap_cons, List.flatMap_nil, List.append_nil, List.append_assoc, rest_list, h4, Int.toNat_natCast]
        congr 1
        rw [b1]
        show _ = (be2 (x.1 : Int) ++ putL (patchG x.2.1).1) ++ _
        rw [h8, take_list, List.append_assoc, List.take_append_drop]
      · rw [if_neg hg] at h
        exact absurd (congrArg (fun x => x.2.2) h) hg
    · rw [if_neg he] at h
      exact absurd (congrArg (fun x => x.2.2) h) he
/-- What Get reads, Put writes. -/
theorem put_of_get (s : ByteArray) (a b c : Int) (u : ByteArray) (v : Int) (l : List S60) (h : recG patchG mkC s = (a, b, c, u, v, l, 0)) : record_Put.f a b c u v l = some (s, 0) := by
  unfold recG at h
  by_cases hs : (s.size : Int) > 16384
  · rw [if_pos hs] at h
    exact absurd (congrArg (fun x => x.2.2.2.2.2.2) h) (show ¬ (6 : Int) = 0 by decide)
  rw [if_neg hs] at h
  by_cases he : (headP s).e = 0
  · rw [if_pos he] at h
    obtain ⟨g1, g2, g3, g4, g5, g6⟩ := headP_bytes s he
    generalize hd : headP s = d at *
    rcases hx : pagesG patchG mkC d.n d.q [] with ⟨m, q, e⟩
    rw [hx] at h
    unfold endR at h
    by_cases h0 : e = 0
    · subst h0
      rw [if_pos (show ((m, q, (0 : Int)) : List S60 × ByteArray × Int).2.2 = 0 from rfl)] at h
      by_cases hq : q.size = 0
      · rw [if_pos (show ((m, q, (0 : Int)) : List S60 × ByteArray × Int).2.1.size = 0 from hq)] at h
        by_cases c1 : (d.c : Int) < 1
        · rw [if_pos c1] at h
          exact absurd (congrArg (fun x => x.2.2.2.2.2.2) h) (show ¬ (2 : Int) = 0 by decide)
        rw [if_neg c1] at h
        by_cases c2 : (d.c : Int) > 4
        · rw [if_pos c2] at h
          exact absurd (congrArg (fun x => x.2.2.2.2.2.2) h) (show ¬ (2 : Int) = 0 by decide)
        rw [if_neg c2] at h
        have t1 := congrArg (fun x => x.1) h
        have t2 := congrArg (fun x => x.2.1) h
        have t3 := congrArg (fun x => x.2.2.1) h
        have t4 := congrArg (fun x => x.2.2.2.1) h
        have t5 := congrArg (fun x => x.2.2.2.2.1) h
        have t6 := congrArg (fun x => x.2.2.2.2.2.1) h
        simp only at t1 t2 t3 t4 t5 t6
        subst t1; subst t2; subst t3; subst t4; subst t5; subst t6
        obtain ⟨i1, i2, i3⟩ := pagesG_bytes _ _ _ _ _ hx rfl
        have hq0 : q.data.toList = [] := List.eq_nil_of_length_eq_zero (by rw [size_len]; exact hq)
        rw [List.flatMap_nil, List.nil_append, hq0, List.append_nil] at i3
        rw [List.length_nil, Nat.zero_add] at i2
        have hrec : recL (d.a : Int) (d.b : Int) (d.c : Int) d.u (d.v : Int) m = s.data.toList := by
          unfold recL
          rw [g6, i3, i2]
        have hsm : (m.all fun c => decide (c.f1.length ≤ 140737488351232)) = true := by
          rw [List.all_eq_true] at i1 ⊢
          intro c hc
          have := i1 c hc
          unfold pageOK at this
          simp only [Bool.and_eq_true, decide_eq_true_eq] at this
          exact decide_eq_true (by omega)
        have hlen : (recL (d.a : Int) (d.b : Int) (d.c : Int) d.u (d.v : Int) m).length ≤ 16384 := by rw [hrec, size_len]; omega
        unfold record_Put.f
        rw [if_pos ⟨by omega, hsm⟩, if_pos (show recOK _ _ _ _ _ _ from ⟨⟨by omega, by omega⟩, ⟨by omega, by omega⟩, ⟨by omega, by omega⟩, g3, ⟨by omega, by omega⟩, by omega, i1⟩), if_pos hlen, hrec]
      · rw [if_neg (show ¬ ((m, q, (0 : Int)) : List S60 × ByteArray × Int).2.1.size = 0 from hq)] at h
        exact absurd (congrArg (fun x => x.2.2.2.2.2.2) h) (show ¬ (4 : Int) = 0 by decide)
    · rw [if_neg (show ¬ ((m, q, e) : List S60 × ByteArray × Int).2.2 = 0 from h0)] at h
      exact absurd (congrArg (fun x => x.2.2.2.2.2.2) h) h0
  · rw [if_neg he] at h
    exact absurd (congrArg (fun x => x.2.2.2.2.2.2) h) he

theorem numP_at (s : ByteArray) (n : Nat) (L r : List UInt8) (hL : L.length = n) (h : s.data.toList = L ++ r) : ∃ q : ByteArray, numP s 0 n = (numL L, q, 0) ∧ q.data.toList = r := by
  have hl := size_len s
  rw [h, List.length_append, hL] at hl
  refine ⟨s.extract n s.size, ?_, by rw [rest_list, h, List.drop_left' hL]⟩
  rw [numP_ok s n (by omega), h, List.take_left' hL]
theorem headP_at (s : ByteArray) (a b c : Int) (u : ByteArray) (v : Int) (n : Nat) (r : List UInt8) (ha0 : 0 ≤ a) (ha1 : a < 281474976710656) (hb0 : 0 ≤ b) (hb1 : b < 281474976710656) (hc0 : 0 ≤ c) (hc1 : c < 256) (hu : u.size ≤ 65535) (hv0 : 0 ≤ v) (hv1 : v < 65536) (hn : n < 256)
    (h : s.data.toList = headB a b c u v n ++ r) : ((headP s).a : Int) = a ∧ ((headP s).b : Int) = b ∧ ((headP s).c : Int) = c ∧ (headP s).u = u ∧ ((headP s).v : Int) = v ∧ (headP s).n = n ∧ (headP s).e = 0 ∧ (headP s).q.data.toList = r := by
  unfold headB at h
  simp only [List.append_assoc] at h
  obtain ⟨q1, h1, k1⟩ := numP_at s 6 (be6 a) _ rfl h
  obtain ⟨q2, h2, k2⟩ := numP_at q1 6 (be6 b) _ rfl k1
  obtain ⟨q3, h3, k3⟩ := numP_at q2 1 (be1 c) _ rfl k2
  obtain ⟨q4, h4, k4⟩ := textP_at q3 u (be2 v ++ (be1 (n : Int) ++ r)) hu (by rw [k3]; unfold joinB; simp only [List.append_assoc])
  obtain ⟨q5, h5, k5⟩ := numP_at q4 2 (be2 v) _ rfl k4
  obtain ⟨q6, h6, k6⟩ := numP_at q5 1 (be1 (n : Int)) _ rfl k5
  have e1 := numL_be6 a ha0 ha1
  have e2 := numL_be6 b hb0 hb1
  have e3 := numL_be1 c hc0 hc1
  have e5 := numL_be2 v hv0 hv1
  have e6 := numL_be1 (n : Int) (by omega) (by omega)
  unfold headP
  simp only [h1, h2, h3, h4, h5, h6]
  refine ⟨e1, e2, e3, ?_, e5, by omega, ?_, k6⟩ <;> trivial
theorem patchG_at (s : ByteArray) (l : List S66) (r : List UInt8) (hr : rightB 0 l = true) (hl : l.length ≤ 65535) (h : s.data.toList = putL l ++ r) : (patchG s).1 = l ∧ (patchG s).2.2 = 0 ∧ (s.extract (patchG s).2.1.toNat s.size).data.toList = r := by
  have hlen := size_len s
  have hp : (putL l).length = 2 + (l.flatMap pieceB).length := by unfold putL; rw [List.length_append, be2_length]
  have h' : s.data.toList = be2 (l.length : Int) ++ (l.flatMap pieceB ++ r) := by rw [h]; unfold putL; rw [List.append_assoc]
  rw [h, List.length_append, hp] at hlen
  have hn : num2 s 0 = l.length := by
    have := be2_get (l.length : Int) (by omega) (by omega) s 0 _ (by rw [List.drop_zero]; exact h')
    omega
  have hg := get_put s l [] 2 0 r (by omega) hr (by rw [h', List.drop_left' (be2_length _)]) (by omega)
  have hpg : patchG s = (l, ((2 + (l.flatMap pieceB).length : Nat) : Int), 0) := by
    unfold patchG
    rw [if_neg (by omega), hn, hg, getOut_some, List.nil_append, if_pos hr]
  rw [hpg]
  refine ⟨rfl, rfl, ?_⟩
  rw [rest_list, h]
  show List.drop (((2 + (l.flatMap pieceB).length : Nat) : Int)).toNat _ = _
  rw [Int.toNat_natCast, List.drop_left' hp]
theorem pagesG_at : ∀ (l acc : List S60) (s : ByteArray) (r : List UInt8), l.all pageOK = true → s.data.toList = l.flatMap pageB ++ r → ∃ q : ByteArray, pagesG patchG mkC l.length s acc = (acc ++ l, q, 0) ∧ q.data.toList = r
  | [], acc, s, r, _, h => ⟨s, by rw [List.append_nil]; rfl, by simpa using h⟩
  | c :: l, acc, s, r, ha, h => by
    rw [List.flatMap_cons, List.append_assoc] at h
    rw [List.all_cons, Bool.and_eq_true] at ha
    obtain ⟨hc, ha⟩ := ha
    unfold pageOK at hc
    simp only [Bool.and_eq_true, decide_eq_true_eq] at hc
    obtain ⟨⟨⟨c0, c1⟩, cr⟩, cl⟩ := hc
    unfold pageB at h
    rw [List.append_assoc] at h
    obtain ⟨q1, h1, k1⟩ := numP_at s 2 (be2 c.f0) _ rfl h
    obtain ⟨g1, g2, g3⟩ := patchG_at q1 c.f1 _ cr cl k1
    obtain ⟨q2, h3, h4⟩ := pagesG_at l (acc ++ [c]) (q1.extract (patchG q1).2.1.toNat q1.size) r ha g3
    refine ⟨q2, ?_, h4⟩
    have e2 := numL_be2 c.f0 c0 (by omega)
    rw [List.length_cons]
    unfold pagesG
    rw [h1]
    show (if (0 : Int) = 0 then (if (patchG q1).2.2 = 0 then pagesG patchG mkC l.length (q1.extract (patchG q1).2.1.toNat q1.size) (acc ++ [mkC (numL (be2 c.f0) : Int) (patchG q1).1]) else _) else _) = _
    rw [if_pos rfl, if_pos g2, e2, g1, show mkC c.f0 c.f1 = c from rfl, h3, List.append_assoc]
    rfl
/-- What Put writes, Get reads. -/
theorem get_of_put (a b c : Int) (u : ByteArray) (v : Int) (l : List S60) (s : ByteArray) (h : record_Put.f a b c u v l = some (s, 0)) : recG patchG mkC s = (a, b, c, u, v, l, 0) := by
  unfold record_Put.f at h
  split at h
  · split at h
    · rename_i hok
      split at h
      · rename_i hlen
        have hs := congrArg Prod.fst (Option.some.inj h)
        simp only at hs
        subst hs
        obtain ⟨⟨g1, g2⟩, ⟨g3, g4⟩, ⟨g5, g6⟩, g7, ⟨g8, g9⟩, g10, g11⟩ := hok
        have hsz : (⟨(recL a b c u v l).toArray⟩ : ByteArray).size = (recL a b c u v l).length := by rfl
        obtain ⟨k1, k2, k3, k4, k5, k6, k7, k8⟩ := headP_at (⟨(recL a b c u v l).toArray⟩ : ByteArray) a b c u v l.length (l.flatMap pageB) g1 (by omega) g3 (by omega) (by omega) (by omega) g7 g8 (by omega) (by omega) rfl
        obtain ⟨q, h1, h2⟩ := pagesG_at l [] (headP (⟨(recL a b c u v l).toArray⟩ : ByteArray)).q [] g11 (by rw [k8, List.append_nil])
        unfold recG
        rw [if_neg (by rw [hsz]; omega), if_pos k7, k1, k2, k3, k4, k5, k6, h1, List.nil_append]
        unfold endR
        have hq : q.size = 0 := by rw [← size_len, h2]; rfl
        rw [if_pos (show ((l, q, (0 : Int)) : List S60 × ByteArray × Int).2.2 = 0 from rfl), if_pos (show ((l, q, (0 : Int)) : List S60 × ByteArray × Int).2.1.size = 0 from hq), if_neg (by omega), if_neg (by omega)]
      · exact absurd (congrArg Prod.snd (Option.some.inj h)) (show ¬ (6 : Int) = 0 by decide)
    · exact absurd (congrArg Prod.snd (Option.some.inj h)) (show ¬ (1 : Int) = 0 by decide)
  · cases h
end Go.Proofs.Yteehchhmonlkkaa.GP

/- speaks says true, and same tells of equals, in plain Lean. -/
namespace Go.Proofs.Yteehchhmonlkkaa.GP
open Go.RowKit Go.Proofs.YteehchhmonlkkaaW.PrintWords Go.Proofs.YteehchhmonlkkaaW.PrintLast Go.Proofs.YteehchhmonlkkaaW.PrintMore Go.Proofs.Yteehchhmonlkkaa.Copy
set_option linter.unusedVariables false
set_option linter.unusedSimpArgs false
set_option maxHeartbeats 400000

theorem speaks_split : splitP (⟨#[0, 2, 0, 1, 97, 0, 0]⟩ : ByteArray) = ([⟨#[97]⟩, ⟨#[]⟩], 0) :=
  split_join [⟨#[97]⟩, ⟨#[]⟩] (by decide) (by intro t ht; simp only [List.mem_cons, List.not_mem_nil, or_false] at ht; rcases ht with rfl | rfl <;> decide) _ rfl
theorem speaks_join : record_Join.f [⟨#[97]⟩, ⟨#[]⟩] = some ⟨#[0, 2, 0, 1, 97, 0, 0]⟩ := rfl
theorem speaks_put : record_Put.f 5 0 2 (⟨#[]⟩ : ByteArray) 0 ([] : List S60) = some (⟨(recL 5 0 2 ⟨#[]⟩ 0 []).toArray⟩, 0) := by
  unfold record_Put.f
  rw [if_pos (by decide), if_pos (show recOK 5 0 2 ⟨#[]⟩ 0 [] from ⟨by decide, by decide, by decide, by decide, by decide, by decide, rfl⟩), if_pos (by decide)]
theorem speaks_tells (k : Nat) (hk : 301000 ≤ k) : concordancelaw07_speaks.f k = some true := by
  have hg := get_of_put 5 0 2 (⟨#[]⟩ : ByteArray) 0 [] _ speaks_put
  unfold concordancelaw07_speaks.f
  rw [split_tells _ k (by omega), Option.bind_some, speaks_split, speaks_put, Option.bind_some, recGet_tells _ k hk, Option.bind_some]
  show (if (0 : Int) = 0 then (if (([⟨#[97]⟩, ⟨#[]⟩] : List ByteArray).length : Int) = 2 then (if 0 < (([⟨#[97]⟩, ⟨#[]⟩] : List ByteArray).length : Int) then (if (⟨#[97]⟩ : ByteArray).toList = ([97] : List UInt8) then (Option.bind (record_Join.f [⟨#[97]⟩, ⟨#[]⟩]) fun t => _) else _) else _) else _) else _) = _
  rw [if_pos rfl, if_pos (by decide), if_pos (by decide), if_pos (by rw [toList_data]), speaks_join, Option.bind_some, if_pos (by rw [toList_data]), hg]
  show (if (0 : Int) = 0 then (if (0 : Int) = 0 then (if (5 : Int) = 5 then some _ else _) else _) else _) = _
  rw [if_pos rfl, if_pos rfl, if_pos rfl]
  rfl

end Go.Proofs.Yteehchhmonlkkaa.GP
