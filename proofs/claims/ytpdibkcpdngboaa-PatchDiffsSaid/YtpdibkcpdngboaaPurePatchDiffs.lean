/- PatchDiffs' pure statement: Diff's pieces are the document's, they make the first text the second, and Get reads them out of what Put writes. Conditions: none but the sizes that any string has. -/
import Derived.Test.YtpdibkcpdngboaaGPx26
import Derived.Test.YtpdibkcpdngboaaPGetPut
import Derived.Test.YtpdibkcpdngboaaPSpeaks
namespace Go.Proofs.Ytpdibkcpdngboaa.Pure
open Go.RowKit Go.Proofs.Ytpdibkcpdngboaa.GP Go.Proofs.YtpdibkcpdngboaaW.PrintWords Go.Proofs.YtpdibkcpdngboaaW.PrintLast
set_option linter.unusedVariables false
set_option linter.unusedSimpArgs false

theorem diff_unlike (a b : ByteArray) (hab : a.size ≠ b.size) (k : Nat) (hk : 1 ≤ k) : patch_Diff.f k a b = some [] := by
  obtain ⟨k, rfl⟩ : ∃ m, k = m + 1 := ⟨k - 1, by omega⟩
  unfold patch_Diff.f
  rw [if_neg (by omega), patch_Diff.j0.eq_2, if_pos (show true = true from rfl)]
theorem refDiff_unlike (a b : ByteArray) (hab : a.size ≠ b.size) (k : Nat) (hk : 1 ≤ k) : concordanceref06_Diff.f k a b = some [] := by
  obtain ⟨k, rfl⟩ : ∃ m, k = m + 1 := ⟨k - 1, by omega⟩
  unfold concordanceref06_Diff.f
  rw [if_neg (by omega), concordanceref06_Diff.j0.eq_2, if_pos (show true = true from rfl)]
theorem app_list (l : List UInt8) : ((⟨l.toArray⟩ : ByteArray) ++ (⟨#[120]⟩ : ByteArray)).data.toList = l ++ [120] := by simp
theorem putL_length (l : List S31) (hl : l.length ≤ 1000) (hr : rightB 0 l = true) : (putL l).length ≤ 70000000 := by
  have := flat_length l 0 (by omega) hr
  unfold putL
  rw [List.length_append, be2_length]
  have h2 : l.length * 65539 ≤ 1000 * 65539 := Nat.mul_le_mul_right _ hl
  omega
theorem get_of_put (l : List S31) (hl : l.length ≤ 1000) (hr : rightB 0 l = true) (k : Nat) (hk : 300000 ≤ k) :
    patch_Get.f k ((⟨(putL l).toArray⟩ : ByteArray) ++ (⟨#[120]⟩ : ByteArray)) = some (l, ((putL l).length : Int), 0) := by
  have h0 := app_list (putL l)
  generalize (⟨(putL l).toArray⟩ : ByteArray) ++ (⟨#[120]⟩ : ByteArray) = s at h0
  have hlen := putL_length l hl hr
  have hsz : s.size = (putL l).length + 1 := by rw [← size_len, h0, List.length_append]; rfl
  have hpl : (putL l).length = 2 + (l.flatMap pieceB).length := by unfold putL; rw [List.length_append, be2_length]
  have hn : num2 s 0 = l.length := by
    have := be2_get (l.length : Int) (by omega) (by omega) s 0 (l.flatMap pieceB ++ [120]) (by rw [List.drop_zero, h0]; unfold putL; rw [List.append_assoc])
    omega
  have hd : s.data.toList.drop 2 = l.flatMap pieceB ++ [120] := by
    rw [h0]; unfold putL; rw [List.append_assoc, List.drop_left' (be2_length _)]
  rw [get_tells s (by omega) k hk, if_neg (by omega), hn, get_put s l [] 2 0 [120] (by omega) hr hd (by omega), getOut_some, List.nil_append, if_pos hr, hpl]
theorem rest (a b : ByteArray) (l : List S31) (m : List S53) (e : l = m.map toP) (hl : l.length ≤ 1000) (hr : rightB 0 l = true) (x : ByteArray) (k : Nat) (hk : 300000 ≤ k)
    (h1 : patch_Diff.f k a b = some l) (h2 : concordanceref06_Diff.f k a b = some m) (h3 : patch_Apply.f a l = some (x, 0)) (h4 : x = b ∨ a.size ≠ b.size) : concordancelaw06_PatchDiffs.j0 (k + 1) a b false = some true := by
  have hm : m.length ≤ 1000 := by rw [e, List.length_map] at hl; exact hl
  have hput : patch_Put.f l = some ⟨(putL l).toArray⟩ := by
    unfold patch_Put.f
    rw [if_pos (by omega), if_pos ⟨hr, by omega⟩]
  have hlen := putL_length l hl hr
  have hsz : (⟨(putL l).toArray⟩ : ByteArray).size = (putL l).length := by
    show (putL l).toArray.size = _
    rw [List.size_toArray]
  rw [concordancelaw06_PatchDiffs.j0.eq_2, if_neg (show ¬ false = true by decide), h1, Option.bind_some, h2, Option.bind_some, same_tells l m e (by omega) k (by omega), Option.bind_some, if_pos (show true = true from rfl), h3, Option.bind_some, hput, Option.bind_some, if_pos (by rw [hsz]; omega),
    get_of_put l hl hr k hk, Option.bind_some]
  show (if (0 : Int) = 0 then _ else _) = _
  rw [if_pos (show (0 : Int) = 0 from rfl)]
  show (if x.toList = b.toList then _ else _) = _
  have fin : (if (0 : Int) = 0 then ((some (⟨(putL l).toArray⟩ : ByteArray)).bind fun t217 => (if ((putL l).length : Int) = (t217.size : Int) then (some ((l.length : Int) == (l.length : Int))) else (some false))) else (some false)) = some true := by
    rw [if_pos (show (0 : Int) = 0 from rfl), Option.bind_some, if_pos (by rw [hsz])]
    simp
  by_cases c : x.toList = b.toList
  · rw [if_pos c]; exact fin
  · rw [if_neg c, if_neg]
    · exact fin
    · rcases h4 with rfl | h4
      · exact absurd rfl c
      · omega
theorem PatchDiffs : concordancelaw06_PatchDiffs.Pure := by
  intro a b ha hb
  refine ⟨300001, ?_⟩
  unfold concordancelaw06_PatchDiffs.f
  rw [speaks_tells _ (by omega), Option.bind_some, if_pos (show true = true from rfl)]
  by_cases ha' : (a.size : Int) > 1000
  · rw [if_pos ha', show (300001 : Nat) = 300000 + 1 from rfl, concordancelaw06_PatchDiffs.j0.eq_2, if_pos (show true = true from rfl)]
  rw [if_neg ha']
  by_cases hb' : (b.size : Int) > 1000
  · rw [decide_eq_true hb', show (300001 : Nat) = 300000 + 1 from rfl, concordancelaw06_PatchDiffs.j0.eq_2, if_pos (show true = true from rfl)]
  rw [decide_eq_false hb', show (300001 : Nat) = 300000 + 1 from rfl]
  by_cases hab : a.size = b.size
  · have hch : Chain (neAt a b) b.size 0 (rgo (neAt a b) b.size 0 none) := rgo_chain _ _ _ _ _ _ (by omega) (fun _ => by omega) (fun _ _ h => by cases h)
    have hR : (diffL a b).length ≤ b.size := by
      rw [diffL, List.length_map]
      exact (rgo_length _ _ _ _).2 rfl
    obtain ⟨h1, h2⟩ := chain_right (neAt a b) b (by omega) _ 0 hch
    exact rest a b (diffL a b) ((rgo (neAt a b) b.size 0 none).map (pieceQ b)) (by rw [toP_pieceQ]; rfl) (by omega) h1 b 300000 (Nat.le_refl _) (diff_tells a b hab (by omega) _ (by omega)) (refDiff_tells a b hab (by omega) _ (by omega)) (apply_diff a b hab (by omega)) (.inl rfl)
  · have hA : patch_Apply.f a [] = some (a, 0) := by
      unfold patch_Apply.f
      rw [if_pos ⟨by omega, Nat.zero_le _⟩, if_pos ⟨rfl, Nat.zero_le _⟩, if_pos (show endOf [] ≤ (a.size : Int) from Int.natCast_nonneg _)]
      congr 2
    exact rest a b [] [] rfl (by simp) rfl a 300000 (Nat.le_refl _) (diff_unlike a b hab _ (by omega)) (refDiff_unlike a b hab _ (by omega)) hA (.inr hab)
end Go.Proofs.Ytpdibkcpdngboaa.Pure
