/- RecordGets' pure statement: record.Get and the document's Get tell the same of any bytes, and Put writes again what was read. Conditions: none but the sizes that any string has. -/
import Derived.Test.YteehchhmonlkkaaRBack
import Derived.Test.YteehchhmonlkkaaGPx12
namespace Go.Proofs.Yteehchhmonlkkaa.Pure
open Go.RowKit Go.Proofs.Yteehchhmonlkkaa.GP Go.Proofs.YteehchhmonlkkaaW.PrintWords Go.Proofs.YteehchhmonlkkaaW.PrintLast
set_option linter.unusedVariables false
set_option linter.unusedSimpArgs false

theorem recG_err {α β : Type} (g : ByteArray → List β × Int × Int) (mk : Int → List β → α) (s : ByteArray) (a b c : Int) (u : ByteArray) (v : Int) (l : List α) (e : Int) (h : recG g mk s = (a, b, c, u, v, l, e)) (he : e ≠ 0) : (a, b, c, u, v, l) = (0, 0, 0, (⟨#[]⟩ : ByteArray), 0, []) := by
  have key : ∀ e', (0, 0, 0, (⟨#[]⟩ : ByteArray), 0, ([] : List α), e') = (a, b, c, u, v, l, e) → (a, b, c, u, v, l) = (0, 0, 0, (⟨#[]⟩ : ByteArray), 0, []) := fun e' h => by
    have t1 := congrArg (fun x => x.1) h
    have t2 := congrArg (fun x => x.2.1) h
    have t3 := congrArg (fun x => x.2.2.1) h
    have t4 := congrArg (fun x => x.2.2.2.1) h
    have t5 := congrArg (fun x => x.2.2.2.2.1) h
    have t6 := congrArg (fun x => x.2.2.2.2.2.1) h
    simp only at t1 t2 t3 t4 t5 t6
    rw [← t1, ← t2, ← t3, ← t4, ← t5, ← t6]
  unfold recG at h
  split at h
  · exact key _ h
  split at h
  · unfold endR at h
    split at h
    · split at h
      · split at h
        · exact key _ h
        split at h
        · exact key _ h
        · exact absurd (congrArg (fun x => x.2.2.2.2.2.2) h).symm he
      · exact key _ h
    · exact key _ h
  · exact key _ h
theorem put_small (a b c : Int) (u : ByteArray) (v : Int) (l : List S60) (s : ByteArray) (h : record_Put.f a b c u v l = some (s, 0)) : l.length ≤ 255 ∧ ∀ x ∈ l, x.f1.length ≤ 65535 := by
  unfold record_Put.f at h
  split at h
  · split at h
    · rename_i hok
      obtain ⟨_, _, _, _, _, g10, g11⟩ := hok
      refine ⟨g10, fun x hx => ?_⟩
      have := List.all_eq_true.mp g11 x hx
      unfold pageOK at this
      simp only [Bool.and_eq_true, decide_eq_true_eq] at this
      exact this.2
    · exact absurd (congrArg Prod.snd (Option.some.inj h)) (show ¬ (1 : Int) = 0 by decide)
  · cases h
theorem put_zero : record_Put.f 0 0 0 (⟨#[]⟩ : ByteArray) 0 ([] : List S60) = some (⟨#[]⟩, 1) := by
  unfold record_Put.f
  rw [if_pos (by decide), if_neg (fun h => absurd h.2.2.1.1 (by decide))]

theorem RecordGets : concordancelaw07_RecordGets.Pure := by
  intro s hs
  rcases hx : recG patchQ mkD s with ⟨a, b, c, u, v, m, e⟩
  have hm : recG patchG mkC s = (a, b, c, u, v, m.map toC, e) := by rw [recG_map, hx]
  by_cases he : e = 0
  · subst he
    have hput := put_of_get s _ _ _ _ _ _ hm
    obtain ⟨s1, s2⟩ := put_small _ _ _ _ _ _ _ hput
    rw [List.length_map] at s1
    obtain ⟨K, hK⟩ := same_tells a b c u v (m.map toC) a b c u v m (by omega) (fun x hx => by
      have := s2 (toC x) (List.mem_map_of_mem hx)
      unfold toC at this
      rw [List.length_map] at this
      omega)
    rw [decide_eq_true ⟨rfl, rfl, rfl, rfl, rfl, rfl⟩] at hK
    refine ⟨max K 301000, ?_⟩
    have hk : concordancelaw07_same.f (max K 301000) a b c u v (m.map toC) a b c u v m = some true := hK (max K 301000) (by omega)
    unfold concordancelaw07_RecordGets.f
    rw [speaks_tells _ (by omega), Option.bind_some, if_pos (show true = true from rfl)]
    by_cases hbig : (s.size : Int) > 17000
    · rw [if_pos hbig]
    rw [if_neg hbig, recGet_tells s _ (by omega), refRecGet_tells s _ (by omega), Option.bind_some, Option.bind_some, hm, hx]
    show (if (0 : Int) = 0 then (Option.bind (concordancelaw07_same.f (max K 301000) a b c u v (m.map toC) a b c u v m) fun t => (if t = true then (Option.bind (record_Put.f a b c u v (m.map toC)) fun bt => (if (0 : Int) = 0 then (if bt.2 = 0 then some (bt.1.toList == s.toList) else none) else some true)) else none)) else none) = _
    rw [if_pos rfl, hk, Option.bind_some, if_pos (show true = true from rfl), hput, Option.bind_some, if_pos rfl]
    show (if (0 : Int) = 0 then some (s.toList == s.toList) else none) = _
    rw [if_pos rfl]
    simp
  · have hz := recG_err patchQ mkD s a b c u v m e hx he
    have t1 := congrArg (fun x => x.1) hz
    have t2 := congrArg (fun x => x.2.1) hz
    have t3 := congrArg (fun x => x.2.2.1) hz
    have t4 := congrArg (fun x => x.2.2.2.1) hz
    have t5 := congrArg (fun x => x.2.2.2.2.1) hz
    have t6 := congrArg (fun x => x.2.2.2.2.2) hz
    simp only at t1 t2 t3 t4 t5 t6
    subst t1; subst t2; subst t3; subst t4; subst t5; subst t6
    obtain ⟨K, hK⟩ := same_tells 0 0 0 (⟨#[]⟩ : ByteArray) 0 ([] : List S60) 0 0 0 (⟨#[]⟩ : ByteArray) 0 ([] : List S63) (by simp) (fun x hx => absurd hx (List.not_mem_nil))
    rw [decide_eq_true ⟨rfl, rfl, rfl, rfl, rfl, rfl⟩] at hK
    refine ⟨max K 301000, ?_⟩
    have hk : concordancelaw07_same.f (max K 301000) 0 0 0 (⟨#[]⟩ : ByteArray) 0 ([] : List S60) 0 0 0 (⟨#[]⟩ : ByteArray) 0 ([] : List S63) = some true := hK (max K 301000) (by omega)
    unfold concordancelaw07_RecordGets.f
    rw [speaks_tells _ (by omega), Option.bind_some, if_pos (show true = true from rfl)]
    by_cases hbig : (s.size : Int) > 17000
    · rw [if_pos hbig]
    rw [if_neg hbig, recGet_tells s _ (by omega), refRecGet_tells s _ (by omega), Option.bind_some, Option.bind_some, hm, hx]
    show (if e = e then (Option.bind (concordancelaw07_same.f (max K 301000) 0 0 0 (⟨#[]⟩ : ByteArray) 0 ([] : List S60) 0 0 0 (⟨#[]⟩ : ByteArray) 0 ([] : List S63)) fun t => (if t = true then (Option.bind (record_Put.f 0 0 0 (⟨#[]⟩ : ByteArray) 0 ([] : List S60)) fun bt => (if e = 0 then (if bt.2 = 0 then some (bt.1.toList == s.toList) else none) else some true)) else none)) else none) = _
    rw [if_pos rfl, hk, Option.bind_some, if_pos (show true = true from rfl), put_zero, Option.bind_some, if_neg he]
end Go.Proofs.Yteehchhmonlkkaa.Pure
