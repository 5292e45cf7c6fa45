/- PatchGets' pure statement: patch.Get and the document's Get read the same, and Put writes again what was read. Conditions: none but the sizes that any string has. -/
import Derived.Test.YtpdibkcpdngboaaGPx29
import Derived.Test.YtpdibkcpdngboaaPGetPut
import Derived.Test.YtpdibkcpdngboaaPSpeaks
namespace Go.Proofs.Ytpdibkcpdngboaa.Pure
open Go.RowKit Go.Proofs.Ytpdibkcpdngboaa.GP Go.Proofs.YtpdibkcpdngboaaW.PrintWords Go.Proofs.YtpdibkcpdngboaaW.PrintLast
set_option linter.unusedVariables false
set_option linter.unusedSimpArgs false

theorem PatchGets : concordancelaw06_PatchGets.Pure := by
  intro s hs
  refine ⟨300000, ?_⟩
  unfold concordancelaw06_PatchGets.f
  rw [speaks_tells _ (by omega), Option.bind_some, if_pos (show true = true from rfl)]
  by_cases hbig : (s.size : Int) > 1000
  · rw [if_pos hbig]
  rw [if_neg hbig, get_tells s (by omega) _ (Nat.le_refl _), refGet_tells s (by omega) _ (Nat.le_refl _), Option.bind_some, Option.bind_some]
  by_cases c : s.size < 2
  · rw [if_pos c, if_pos c, same_tells [] [] rfl (by simp) _ (by simp), Option.bind_some, if_pos (show true = true from rfl), if_pos (show (0 : Int) = 0 from rfl), if_pos (show (3 : Int) = 3 from rfl), if_neg (show ¬ (3 : Int) = 0 by decide)]
  rw [if_neg c, if_neg c]
  have hm := getGo_map s (num2 s 0) 2 []
  rw [List.map_nil] at hm
  have hn := num2_lt s 0
  cases hq : getGo mkQ s (num2 s 0) 2 [] with
  | none =>
    rw [hq] at hm
    rw [show getGo mkP s (num2 s 0) 2 [] = none from hm]
    show (Option.bind (concordancelaw06_same.f 300000 ([] : List S31) ([] : List S53)) _) = _
    rw [same_tells [] [] rfl (by simp) _ (by simp), Option.bind_some, if_pos (show true = true from rfl)]
    show (if (0 : Int) = 0 then _ else _) = _
    rw [if_pos (show (0 : Int) = 0 from rfl)]
    show (if (3 : Int) = 3 then _ else _) = _
    rw [if_pos (show (3 : Int) = 3 from rfl)]
    show (if (3 : Int) = 0 then _ else _) = _
    rw [if_neg (show ¬ (3 : Int) = 0 by decide)]
  | some lp =>
    obtain ⟨l, p⟩ := lp
    rw [hq] at hm
    have hm' : getGo mkP s (num2 s 0) 2 [] = some (l.map toP, p) := hm
    have hlen := getGo_length mkQ s _ _ _ _ _ hq
    simp only [List.length_nil, Nat.zero_add] at hlen
    rw [hm', getOut_some, getOut_some]
    by_cases hr : rightB 0 (l.map toP) = true
    · rw [if_pos hr, if_pos hr]
      show (Option.bind (concordancelaw06_same.f 300000 (l.map toP) l) _) = _
      rw [same_tells _ l rfl (by omega) _ (by omega), Option.bind_some, if_pos (show true = true from rfl)]
      show (if (p : Int) = (p : Int) then _ else _) = _
      rw [if_pos (show (p : Int) = (p : Int) from rfl)]
      show (if (0 : Int) = 0 then _ else _) = _
      rw [if_pos (show (0 : Int) = 0 from rfl)]
      show (if (0 : Int) = 0 then (Option.bind (patch_Put.f (l.map toP)) fun t => (if 0 ≤ (p : Int) then (if (p : Int) ≤ (s.size : Int) then (some (t.toList == (s.extract 0 (p : Int).toNat).toList)) else none) else none)) else _) = _
      rw [if_pos (show (0 : Int) = 0 from rfl)]
      obtain ⟨h1, h2, h3⟩ := putL_get s (l.map toP) p (by omega) hm'
      have hput : patch_Put.f (l.map toP) = some ⟨(putL (l.map toP)).toArray⟩ := by
        unfold patch_Put.f
        rw [if_pos (by rw [List.length_map]; omega), if_pos ⟨hr, by rw [List.length_map]; omega⟩]
      rw [hput, Option.bind_some, if_pos (by omega), if_pos (by omega), Int.toNat_natCast, toList_data, toList_data, h3]
      simp
    · rw [if_neg hr, if_neg hr]
      show (Option.bind (concordancelaw06_same.f 300000 ([] : List S31) ([] : List S53)) _) = _
      rw [same_tells [] [] rfl (by simp) _ (by simp), Option.bind_some, if_pos (show true = true from rfl)]
      show (if (0 : Int) = 0 then _ else _) = _
      rw [if_pos (show (0 : Int) = 0 from rfl)]
      show (if (2 : Int) = 2 then _ else _) = _
      rw [if_pos (show (2 : Int) = 2 from rfl)]
      show (if (2 : Int) = 0 then _ else _) = _
      rw [if_neg (show ¬ (2 : Int) = 0 by decide)]
end Go.Proofs.Ytpdibkcpdngboaa.Pure
