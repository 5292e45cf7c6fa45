/- Split and Join, in plain Lean: the program's and the document's Split tell the same; what Join wrote is split again, what was split is joined again. -/
import Derived.Test.YteehchhmonlkkaaRRead
import Derived.Test.YteehchhmonlkkaaHJoin
import Derived.Test.YteehchhmonlkkaaGPx3
namespace Go.Proofs.Yteehchhmonlkkaa.GP
open Go.RowKit Go.Proofs.YteehchhmonlkkaaW.PrintWords Go.Proofs.YteehchhmonlkkaaW.PrintLast Go.Proofs.YteehchhmonlkkaaW.PrintMore Go.Proofs.Yteehchhmonlkkaa.Copy
set_option linter.unusedVariables false
set_option linter.unusedSimpArgs false
set_option maxHeartbeats 400000

/-- So many texts, one behind the other; at an error those so far. -/
def splitGo : Nat → ByteArray → List ByteArray → List ByteArray × ByteArray × Int
  | 0, s, acc => (acc, s, 0)
  | c + 1, s, acc => if (textP s 0).2.2 = 0 then splitGo c (textP s 0).2.1 (acc ++ [(textP s 0).1]) else (acc ++ [(textP s 0).1], (textP s 0).2.1, (textP s 0).2.2)
def splitOut (x : List ByteArray × ByteArray × Int) : List ByteArray × Int :=
  if x.2.2 = 0 then (if x.2.1.size = 0 then (x.1, 0) else ([], 4)) else ([], x.2.2)
def splitP (s : ByteArray) : List ByteArray × Int :=
  if (numP s 0 2).2.2 = 0 then splitOut (splitGo (numP s 0 2).1 (numP s 0 2).2.1 []) else ([], (numP s 0 2).2.2)

theorem split_end (k : Nat) (hk : 1 ≤ k) (x5 : List ByteArray) (s : ByteArray) (e : Int) : record_Split.j1 k x5 s e = some (splitOut (x5, s, e)) := by
  obtain ⟨k, rfl⟩ : ∃ m, k = m + 1 := ⟨k - 1, by omega⟩
  rw [record_Split.j1.eq_2]
  unfold splitOut
  by_cases he : e = 0
  · subst he
    rw [if_pos rfl, if_pos (show ((x5, s, (0 : Int)) : List ByteArray × ByteArray × Int).2.2 = 0 from rfl)]
    by_cases hs : s.size = 0
    · rw [if_pos ((data_nil s).mpr hs), if_pos (show ((x5, s, (0 : Int)) : List ByteArray × ByteArray × Int).2.1.size = 0 from hs)]
    · rw [if_neg (fun h => hs ((data_nil s).mp h)), if_neg (show ¬ ((x5, s, (0 : Int)) : List ByteArray × ByteArray × Int).2.1.size = 0 from hs)]
  · rw [if_neg he, if_neg (show ¬ ((x5, s, e) : List ByteArray × ByteArray × Int).2.2 = 0 from he)]
theorem split_loop (n : Nat) (hn : n ≤ 65535) : ∀ (d k i : Nat) (s : ByteArray) (acc : List ByteArray), i + d = n → acc.length = i → d + 10 ≤ k →
    record_Split.l0 k acc (n : Int) (i : Int) s 0 = some (splitOut (splitGo d s acc)) := by
  intro d
  induction d with
  | zero =>
    intro k i s acc h1 h2 h3
    obtain ⟨k, rfl⟩ : ∃ m, k = m + 1 := ⟨k - 1, by omega⟩
    rw [record_Split.l0.eq_2, if_neg (by omega), split_end k (by omega)]
    rfl
  | succ d ih =>
    intro k i s acc h1 h2 h3
    obtain ⟨k, rfl⟩ : ∃ m, k = m + 1 := ⟨k - 1, by omega⟩
    rw [record_Split.l0.eq_2, if_pos (by omega), text_tells s 0 k (by omega), Option.bind_some, if_pos (by omega), Option.bind_some, wid ((i : Int) + 1) (by omega) (by omega), show (i : Int) + 1 = ((i + 1 : Nat) : Int) by omega]
    unfold splitGo
    by_cases he : (textP s 0).2.2 = 0
    · rw [if_pos he, if_pos he, he]
      exact ih k (i + 1) _ _ (by omega) (by rw [List.length_append, h2]; rfl) (by omega)
    · rw [if_neg he, if_neg he]
      exact split_end k (by omega) _ _ _
theorem split_tells (s : ByteArray) (k : Nat) (hk : 70000 ≤ k) : record_Split.f k s = some (splitP s) := by
  have hlt := numP_lt s 0 2
  unfold record_Split.f
  rw [show (2 : Int) = ((2 : Nat) : Int) from rfl, number_tells s 0 2 (by omega) k (by omega), Option.bind_some]
  show record_Split.l0 k ([] : List ByteArray) ((numP s 0 2).1 : Int) 0 (numP s 0 2).2.1 (numP s 0 2).2.2 = _
  unfold splitP
  by_cases he : (numP s 0 2).2.2 = 0
  · rw [if_pos he, he]
    exact split_loop _ (by omega) _ k 0 _ [] (by omega) rfl (by omega)
  · have h2 : ¬ 2 ≤ s.size := fun h => he (by rw [numP_ok s 2 h])
    rw [if_neg he]
    obtain ⟨k, rfl⟩ : ∃ m, k = m + 1 := ⟨k - 1, by omega⟩
    rw [numP_short s 2 h2, record_Split.l0.eq_2, if_neg (by omega), split_end k (by omega)]
    rfl

/-- A text behind its length is read. -/
theorem textP_at (s : ByteArray) (t : ByteArray) (r : List UInt8) (ht : t.size ≤ 65535) (h : s.data.toList = joinB t ++ r) : ∃ q : ByteArray, textP s 0 = (t, q, 0) ∧ q.data.toList = r := by
  have hl := size_len s
  rw [h, List.length_append, joinB_length] at hl
  have h' : s.data.toList = be2 (t.size : Int) ++ (t.data.toList ++ r) := by rw [h]; unfold joinB; rw [List.append_assoc]
  have hn : numP s 0 2 = (t.size, s.extract 2 s.size, 0) := by
    rw [numP_ok s 2 (by omega), h', List.take_left' (be2_length _)]
    have := numL_be2 (t.size : Int) (by omega) (by omega)
    rw [show numL (be2 (t.size : Int)) = t.size by omega]
  have hq : (s.extract 2 s.size).data.toList = t.data.toList ++ r := by rw [rest_list, h', List.drop_left' (be2_length _)]
  have hqs : t.size ≤ (s.extract 2 s.size).size := by rw [rest_size s 2 (by omega)]; omega
  refine ⟨(s.extract 2 s.size).extract t.size (s.extract 2 s.size).size, ?_, ?_⟩
  · unfold textP
    rw [hn]
    show takeP (s.extract 2 s.size) 0 t.size = _
    rw [takeP_ok _ _ hqs]
    congr 1
    apply data_ext
    rw [take_list, hq, List.take_left' (size_len t)]
  · rw [rest_list, hq, List.drop_left' (size_len t)]
theorem splitGo_join : ∀ (l acc : List ByteArray) (s : ByteArray) (r : List UInt8), (∀ t ∈ l, t.size ≤ 65535) → s.data.toList = l.flatMap joinB ++ r → ∃ q : ByteArray, splitGo l.length s acc = (acc ++ l, q, 0) ∧ q.data.toList = r
  | [], acc, s, r, _, h => ⟨s, by rw [List.append_nil]; rfl, by simpa using h⟩
  | t :: l, acc, s, r, ha, h => by
    rw [List.flatMap_cons, List.append_assoc] at h
    obtain ⟨q, h1, h2⟩ := textP_at s t _ (ha t (List.mem_cons_self ..)) h
    obtain ⟨q2, h3, h4⟩ := splitGo_join l (acc ++ [t]) q r (fun x hx => ha x (List.mem_cons_of_mem _ hx)) h2
    refine ⟨q2, ?_, h4⟩
    rw [List.length_cons]
    unfold splitGo
    rw [h1, if_pos rfl]
    show splitGo l.length q (acc ++ [t]) = _
    rw [h3, List.append_assoc]
    rfl
/-- What Join wrote is split again. -/
theorem split_join (l : List ByteArray) (hl : l.length ≤ 65535) (ha : ∀ t ∈ l, t.size ≤ 65535) (s : ByteArray) (h : s.data.toList = joinL l) : splitP s = (l, 0) := by
  have hlen := size_len s
  rw [h] at hlen
  unfold joinL at h hlen
  rw [List.length_append, be2_length] at hlen
  have hn : numP s 0 2 = (l.length, s.extract 2 s.size, 0) := by
    rw [numP_ok s 2 (by omega), h, List.take_left' (be2_length _)]
    have := numL_be2 (l.length : Int) (by omega) (by omega)
    rw [show numL (be2 (l.length : Int)) = l.length by omega]
  obtain ⟨q, h1, h2⟩ := splitGo_join l [] (s.extract 2 s.size) [] ha (by rw [rest_list, h, List.drop_left' (be2_length _), List.append_nil])
  unfold splitP
  rw [hn, if_pos rfl]
  show splitOut (splitGo l.length (s.extract 2 s.size) []) = _
  rw [h1, List.nil_append]
  unfold splitOut
  rw [if_pos rfl, if_pos (by show q.size = 0; rw [← size_len, h2]; rfl)]
/-- What a text that was read says of the bytes. -/
theorem textP_bytes (s : ByteArray) (h : (textP s 0).2.2 = 0) : (textP s 0).1.size ≤ 65535 ∧ s.data.toList = joinB (textP s 0).1 ++ (textP s 0).2.1.data.toList := by
  have hlt := numP_lt s 0 2
  by_cases h2 : 2 ≤ s.size
  · have hn := numP_ok s 2 h2
    by_cases hm : (numP s 0 2).1 ≤ (s.extract 2 s.size).size
    · have ht : textP s 0 = ((s.extract 2 s.size).extract 0 (numP s 0 2).1, (s.extract 2 s.size).extract (numP s 0 2).1 (s.extract 2 s.size).size, 0) := by
        unfold textP
        rw [hn] at hm ⊢
        exact takeP_ok _ _ hm
      have hsz : ((s.extract 2 s.size).extract 0 (numP s 0 2).1).size = (numP s 0 2).1 := by rw [extract_size _ _ _ hm]; omega
      rw [ht]
      refine ⟨by rw [hsz]; omega, ?_⟩
      show s.data.toList = joinB ((s.extract 2 s.size).extract 0 (numP s 0 2).1) ++ ((s.extract 2 s.size).extract (numP s 0 2).1 (s.extract 2 s.size).size).data.toList
      unfold joinB
      rw [hsz, rest_list, take_list, rest_list, List.append_assoc, List.take_append_drop, hn]
      show _ = be2 ((numL (s.data.toList.take 2) : Nat) : Int) ++ _
      rw [be2_numL _ (by rw [List.length_take, size_len]; omega), List.take_append_drop]
    · exfalso
      unfold textP at h
      rw [hn] at h hm
      rw [takeP_short _ _ hm] at h
      exact absurd h (show ¬ (3 : Int) = 0 by decide)
  · exfalso
    unfold textP at h
    rw [numP_short s 2 h2, takeP_err _ _ _ (show (3 : Int) ≠ 0 by decide)] at h
    exact absurd h (show ¬ (3 : Int) = 0 by decide)
theorem splitGo_bytes : ∀ (c : Nat) (s : ByteArray) (acc l : List ByteArray) (q : ByteArray), splitGo c s acc = (l, q, 0) → (∀ t ∈ acc, t.size ≤ 65535) →
    (∀ t ∈ l, t.size ≤ 65535) ∧ l.length = acc.length + c ∧ acc.flatMap joinB ++ s.data.toList = l.flatMap joinB ++ q.data.toList
  | 0, s, acc, l, q, h, ha => by
    have h1 := congrArg Prod.fst h
    have h2 := congrArg (fun x => x.2.1) h
    simp only [splitGo] at h1 h2
    subst h1; subst h2
    exact ⟨ha, rfl, rfl⟩
  | c + 1, s, acc, l, q, h, ha => by
    unfold splitGo at h
    by_cases he : (textP s 0).2.2 = 0
    · rw [if_pos he] at h
      obtain ⟨hb1, hb2⟩ := textP_bytes s he
      obtain ⟨h1, h2, h3⟩ := splitGo_bytes c _ _ l q h (fun t ht => by
        rcases List.mem_append.mp ht with ht | ht
        · exact ha t ht
        · rw [List.mem_singleton.mp ht]; exact hb1)
      refine ⟨h1, by rw [h2, List.length_append]; simp only [List.length_cons, List.length_nil]; omega, ?_⟩
      rw [← h3, List.flatMap_append, List.flatMap_cons, List.flatMap_nil, List.append_nil, List.append_assoc, ← hb2]
    · rw [if_neg he] at h
      exact absurd (congrArg (fun x => x.2.2) h) he
/-- What was split is joined again. -/
theorem join_split (s : ByteArray) (l : List ByteArray) (h : splitP s = (l, 0)) : l.length ≤ 65535 ∧ (∀ t ∈ l, t.size ≤ 65535) ∧ joinL l = s.data.toList := by
  have hlt := numP_lt s 0 2
  unfold splitP at h
  by_cases he : (numP s 0 2).2.2 = 0
  · rw [if_pos he] at h
    have h2 : 2 ≤ s.size := by
      rcases Nat.lt_or_ge s.size 2 with h2 | h2
      · rw [numP_short s 2 (by omega)] at he; exact absurd he (show ¬ (3 : Int) = 0 by decide)
      · exact h2
    have hn := numP_ok s 2 h2
    rcases hx : splitGo (numP s 0 2).1 (numP s 0 2).2.1 [] with ⟨m, q, e⟩
    rw [hx] at h
    unfold splitOut at h
    by_cases h0 : e = 0
    · rw [if_pos (show (m, q, e).2.2 = 0 from h0)] at h
      by_cases hq : q.size = 0
      · rw [if_pos (show (m, q, e).2.1.size = 0 from hq)] at h
        have hm : m = l := congrArg Prod.fst h
        subst hm; subst h0
        obtain ⟨h3, h4, h5⟩ := splitGo_bytes _ _ _ _ _ hx (fun t ht => absurd ht (List.not_mem_nil))
        have hq0 : q.data.toList = [] := List.eq_nil_of_length_eq_zero (by rw [size_len]; exact hq)
        rw [List.flatMap_nil, List.nil_append, hq0, List.append_nil] at h5
        rw [List.length_nil, Nat.zero_add] at h4
        refine ⟨by omega, h3, ?_⟩
        unfold joinL
        rw [h4, ← h5, hn]
        show be2 ((numL (s.data.toList.take 2) : Nat) : Int) ++ (s.extract 2 s.size).data.toList = _
        rw [be2_numL _ (by rw [List.length_take, size_len]; omega), rest_list, List.take_append_drop]
      · rw [if_neg (show ¬ (m, q, e).2.1.size = 0 from hq)] at h
        exact absurd (congrArg Prod.snd h) (show ¬ (4 : Int) = 0 by decide)
    · rw [if_neg (show ¬ (m, q, e).2.2 = 0 from h0)] at h
      exact absurd (congrArg Prod.snd h) h0
  · rw [if_neg he] at h
    exact absurd (congrArg Prod.snd h) he
end Go.Proofs.Yteehchhmonlkkaa.GP
