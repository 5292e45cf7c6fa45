/- PatchApplies' pure statement: any pieces in any text, and as bytes, as the document has it. Conditions: none but the sizes that any string has. -/
import Derived.Test.YtpdibkcpdngboaaGPx21
import Derived.Test.YtpdibkcpdngboaaPRef
import Derived.Test.YtpdibkcpdngboaaPSpeaks
namespace Go.Proofs.Ytpdibkcpdngboaa.Pure
open Go.RowKit Go.Proofs.Ytpdibkcpdngboaa.GP Go.Proofs.YtpdibkcpdngboaaW.PrintWords Go.Proofs.YtpdibkcpdngboaaW.PrintLast Go.Proofs.YtpdibkcpdngboaaW.PrintMore
set_option linter.unusedVariables false
set_option linter.unusedSimpArgs false

def capQ (p : S52) : S53 := ⟨p.f0, p.f1.extract 0 (mn (p.f1.size : Int) 300).toNat⟩
theorem both_loop (l : List S52) : ∀ (d k i : Nat) (m : List S53), i + d = min l.length 20 → d < k → m.length = i →
    concordancelaw06_both.l0 k l (m.map toP) m (i : Int) = some ((m ++ (((l.take 20).drop i).map capQ)).map toP, m ++ (((l.take 20).drop i).map capQ)) := by
  intro d
  induction d with
  | zero =>
    intro k i m hi hk hm
    obtain ⟨k, rfl⟩ : ∃ q, k = q + 1 := ⟨k - 1, by omega⟩
    have hd : (l.take 20).drop i = [] := List.drop_eq_nil_of_le (by rw [List.length_take]; omega)
    rw [hd, concordancelaw06_both.l0.eq_2, List.map_nil, List.append_nil]
    by_cases c : (i : Int) < (l.length : Int)
    · rw [if_pos c, if_neg (by omega)]
    · rw [if_neg c]
  | succ d ih =>
    intro k i m hi hk hm
    obtain ⟨k, rfl⟩ : ∃ q, k = q + 1 := ⟨k - 1, by omega⟩
    have hlt : i < l.length := by omega
    have h20 : i < 20 := by omega
    have e1 : rd_T52 l (i : Int) = l[i] := by simp [rd_T52, List.getD_eq_getElem?_getD, List.getElem?_eq_getElem hlt]
    have hmn : 0 ≤ mn (l[i].f1.size : Int) 300 ∧ mn (l[i].f1.size : Int) 300 ≤ (l[i].f1.size : Int) := by unfold mn; split <;> omega
    rw [concordancelaw06_both.l0.eq_2, if_pos (by omega), if_pos (by omega), if_pos (by omega), e1, if_pos hmn.1, if_pos hmn.2, Option.bind_some, if_pos (by rw [List.length_map, hm, List.length_singleton]; omega), Option.bind_some, if_pos (by rw [hm, List.length_singleton]; omega), show wrap64 ((i : Int) + 1) = ((i + 1 : Nat) : Int) by unfold wrap64; omega]
    have g := ih k (i + 1) (m ++ [capQ l[i]]) (by omega) (by omega) (by rw [List.length_append, hm]; rfl)
    have hd : (l.take 20).drop i = l[i] :: (l.take 20).drop (i + 1) := by
      rw [List.drop_eq_getElem_cons (by rw [List.length_take]; omega), List.getElem_take]
    rw [hd, List.map_cons, List.append_cons m (capQ l[i]) (((l.take 20).drop (i + 1)).map capQ), ← g, List.map_append]
    rfl
theorem both_tells (l : List S52) (k : Nat) (hk : 30 ≤ k) : concordancelaw06_both.f k l = some (((l.take 20).map capQ).map toP, (l.take 20).map capQ) := by
  unfold concordancelaw06_both.f
  have h := both_loop l (min l.length 20) k 0 [] (by omega) (by omega) rfl
  exact h
theorem put_some (l : List S31) (hl : l.length ≤ 65535) : ∃ s, patch_Put.f l = some s := by
  unfold patch_Put.f
  rw [if_pos (by omega)]
  split
  · exact ⟨_, rfl⟩
  · exact ⟨_, rfl⟩
theorem apply_some (s : ByteArray) (l : List S31) (hs : s.size ≤ 1000) (hl : l.length ≤ 65535) : ∃ r, patch_Apply.f s l = some r := by
  unfold patch_Apply.f
  rw [if_pos ⟨by omega, by omega⟩]
  split
  · split
    · exact ⟨_, rfl⟩
    · exact ⟨_, rfl⟩
  · exact ⟨_, rfl⟩
theorem PatchApplies (s : ByteArray) (l : List S52) : concordancelaw06_PatchApplies.f 100 s l = some true := by
  unfold concordancelaw06_PatchApplies.f
  rw [speaks_tells _ (by omega), Option.bind_some, if_pos (show true = true from rfl)]
  by_cases hbig : (s.size : Int) > 1000
  · rw [if_pos hbig]
  rw [if_neg hbig, both_tells l _ (by omega), Option.bind_some]
  have hn : ((l.take 20).map capQ).length ≤ 20 := by rw [List.length_map, List.length_take]; omega
  obtain ⟨x, hx⟩ := apply_some s (((l.take 20).map capQ).map toP) (by omega) (by rw [List.length_map]; omega)
  obtain ⟨t, ht⟩ := put_some (((l.take 20).map capQ).map toP) (by rw [List.length_map]; omega)
  show (Option.bind (patch_Apply.f s (((l.take 20).map capQ).map toP)) _) = _
  rw [hx, Option.bind_some]
  show (Option.bind (concordanceref06_Apply.f 100 s ((l.take 20).map capQ)) _) = _
  rw [refApply_tells s _ (by omega) (by omega) _ (by omega), hx, Option.bind_some, if_pos (show x.1.toList = x.1.toList from rfl), if_pos (show x.2 = x.2 from rfl)]
  show (Option.bind (patch_Put.f (((l.take 20).map capQ).map toP)) fun t187 => (Option.bind (concordanceref06_Put.f ((l.take 20).map capQ)) fun t188 => (some (t187.toList == t188.toList)))) = _
  rw [ht, Option.bind_some, show concordanceref06_Put.f ((l.take 20).map capQ) = some t from ht, Option.bind_some]
  simp
end Go.Proofs.Ytpdibkcpdngboaa.Pure
