/- A row's bytes read again: what the values' bytes are parsed to is the values. No condition but that the values are right. -/
import Derived.Test.YtcpehlllgfffkaaDoorTParse
import Derived.Test.YtcpehlllgfffkaaDoorTPutAll
namespace Go.Proofs.YtcpehlllgfffkaaDoor.GT
open Go.RowKit Go.Proofs.YtcpehlllgfffkaaDoorW.PrintWords Go.Proofs.YtcpehlllgfffkaaDoorW.PrintLast
set_option linter.unusedVariables false
set_option linter.unusedSimpArgs false
theorem text_backR : ∀ (T acc rest : List UInt8) (N : Nat), acc.length + T.length ≤ 20 → (T.flatMap escB ++ 0 :: 1 :: rest).length ≤ N → textF N (T.flatMap escB ++ 0 :: 1 :: rest) acc = (acc ++ T, rest, 0)
  | [], acc, rest, N, h1, h2 => by
    rw [List.flatMap_nil, List.nil_append] at h2 ⊢
    obtain ⟨N, rfl⟩ : ∃ m, N = m + 1 := ⟨N - 1, by simp only [List.length_cons] at h2; omega⟩
    unfold textF
    rw [if_pos rfl, List.append_nil]
    show (if (1 : UInt8) = 255 then _ else if (1 : UInt8) = 1 then (if 20 < acc.length then (([] : List UInt8), ([] : List UInt8), (6 : Int)) else (acc, rest, 0)) else _) = _
    rw [if_neg (by decide), if_pos rfl, if_neg (by simp only [List.length_nil] at h1; omega)]
  | b :: T, acc, rest, N, h1, h2 => by
    rw [List.flatMap_cons, List.append_assoc] at h2 ⊢
    rw [List.length_append] at h2
    simp only [List.length_cons] at h1
    by_cases hz : b = 0
    · have hb : escB b = [0, 255] := by unfold escB; rw [if_pos hz]
      rw [hb] at h2 ⊢
      obtain ⟨N, rfl⟩ : ∃ m, N = m + 1 := ⟨N - 1, by simp only [List.length_cons, List.length_nil] at h2; omega⟩
      show textF (N + 1) (0 :: 255 :: (T.flatMap escB ++ 0 :: 1 :: rest)) acc = _
      unfold textF
      rw [if_pos rfl]
      show (if (255 : UInt8) = 255 then textF N (T.flatMap escB ++ 0 :: 1 :: rest) (acc ++ [0]) else _) = _
      rw [if_pos rfl, text_backR T (acc ++ [0]) rest N (by rw [List.length_append]; simp only [List.length_cons, List.length_nil]; omega) (by simp only [List.length_cons, List.length_nil] at h2; omega), hz, List.append_assoc]
      rfl
    · have hb : escB b = [b] := by unfold escB; rw [if_neg hz]
      rw [hb] at h2 ⊢
      obtain ⟨N, rfl⟩ : ∃ m, N = m + 1 := ⟨N - 1, by simp only [List.length_cons, List.length_nil] at h2; omega⟩
      show textF (N + 1) (b :: (T.flatMap escB ++ 0 :: 1 :: rest)) acc = _
      unfold textF
      rw [if_neg hz, text_backR T (acc ++ [b]) rest N (by rw [List.length_append]; simp only [List.length_cons, List.length_nil]; omega) (by simp only [List.length_cons, List.length_nil] at h2; omega), List.append_assoc]
      rfl
theorem arr_self (s : ByteArray) : (⟨s.data.toList.toArray⟩ : ByteArray) = s := by cases s; simp
theorem arr_selfR (s : ByteArray) : (⟨s.data.toList.toArray⟩ : ByteArray) = s := by cases s; simp
theorem body_step (s : ByteArray) (n : Int) (t : Bool) (h : errV s n t = 0) (rest : List UInt8) (acc : List V3) (N : Nat) (hN : (bodyV s n t ++ rest).length ≤ N) : ∃ M, N = M + 1 ∧ getF N (bodyV s n t ++ rest) acc = getF M rest (acc ++ [(s, n, t)]) := by
  have hb : ¬ badV s n t := by
    intro hb
    unfold errV at h
    by_cases g : t = true ∧ 20 < s.size
    · rw [if_pos g] at h; exact absurd h (by decide)
    · rw [if_neg g, if_pos hb] at h; exact absurd h (by decide)
  cases t with
  | true =>
    have h20 : s.size ≤ 20 := by
      rcases Nat.lt_or_ge 20 s.size with g | g
      · unfold errV at h
        rw [if_pos ⟨rfl, g⟩] at h
        exact absurd h (by decide)
      · exact g
    have hn : n = 0 := Classical.byContradiction fun g => hb (Or.inl ⟨rfl, g⟩)
    have hbd : bodyV s n true ++ rest = 32 :: (s.data.toList.flatMap escB ++ 0 :: 1 :: rest) := by unfold bodyV; rw [if_pos rfl]; simp
    rw [hbd] at hN ⊢
    obtain ⟨N, rfl⟩ : ∃ m, N = m + 1 := ⟨N - 1, by simp only [List.length_cons] at hN; omega⟩
    have htb := text_backR s.data.toList [] rest (s.data.toList.flatMap escB ++ 0 :: 1 :: rest).length (by rw [size_len]; simp only [List.length_nil]; omega) (Nat.le_refl _)
    refine ⟨N, rfl, ?_⟩
    rw [getF, if_neg (by decide), if_pos rfl, htb, if_pos rfl]
    show getF N rest (acc ++ [((⟨([] ++ s.data.toList).toArray⟩ : ByteArray), (0 : Int), true)]) = _
    rw [List.nil_append, arr_selfR, hn]
  | false =>
    have hs : s.size = 0 := Classical.byContradiction fun g => hb (Or.inr (Or.inl ⟨rfl, g⟩))
    have h0 : ¬ n < -1099511627776 := fun g => hb (Or.inr (Or.inr (Or.inl g)))
    have h1 : ¬ 1099511627776 < n := fun g => hb (Or.inr (Or.inr (Or.inr g)))
    have hbd : bodyV s n false ++ rest = 16 :: (be6 (n + 1099511627776) ++ rest) := by unfold bodyV; rw [if_neg (by decide)]; rfl
    have hv := numL_be6 (n + 1099511627776) (by omega) (by omega)
    rw [hbd] at hN ⊢
    obtain ⟨N, rfl⟩ : ∃ m, N = m + 1 := ⟨N - 1, by simp only [List.length_cons] at hN; omega⟩
    have hl : (be6 (n + 1099511627776)).length = 6 := rfl
    have htk : (be6 (n + 1099511627776) ++ rest).take 6 = be6 (n + 1099511627776) := by rw [← hl, List.take_left']; rfl
    have hdr : (be6 (n + 1099511627776) ++ rest).drop 6 = rest := by rw [← hl, List.drop_left']; rfl
    have hse : s = ⟨#[]⟩ := data_ext (List.eq_nil_of_length_eq_zero (by rw [size_len]; exact hs))
    refine ⟨N, rfl, ?_⟩
    rw [getF, if_pos rfl, htk, hdr, if_neg (by rw [List.length_append, hl]; omega)]
    generalize numL (be6 (n + 1099511627776)) = q at *
    rw [if_neg (by omega), show (q : Int) - 1099511627776 = n by omega, hse]

theorem getF_all : ∀ (a : List S25) (acc : List V3) (N : Nat), (∀ v ∈ a, errOf v = 0) → (a.flatMap bodyOf).length ≤ N → getF N (a.flatMap bodyOf) acc = (acc ++ a.map fun v => (v.f0, v.f1, v.f2), 0)
  | [], acc, N, _, _ => by
    rw [List.flatMap_nil, List.map_nil, List.append_nil]
    cases N <;> rfl
  | v :: a, acc, N, h, hN => by
    rw [List.flatMap_cons] at hN ⊢
    obtain ⟨M, rfl, e⟩ := body_step v.f0 v.f1 v.f2 (h v List.mem_cons_self) (a.flatMap bodyOf) acc N hN
    obtain ⟨b, r, hb⟩ : ∃ b r, bodyOf v = b :: r := by unfold bodyOf bodyV; split <;> exact ⟨_, _, rfl⟩
    have hM : (a.flatMap bodyOf).length ≤ M := by rw [List.length_append, hb, List.length_cons] at hN; omega
    show getF (M + 1) (bodyV v.f0 v.f1 v.f2 ++ a.flatMap bodyOf) acc = _
    rw [e, getF_all a _ M (fun x hx => h x (List.mem_cons_of_mem _ hx)) hM, List.map_cons, List.append_assoc]
    rfl
end Go.Proofs.YtcpehlllgfffkaaDoor.GT
