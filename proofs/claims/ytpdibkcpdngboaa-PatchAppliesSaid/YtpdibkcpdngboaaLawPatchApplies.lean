/- The statement PatchApplies: whatever the text and the pieces, the law returns true and its arguments read afterwards as they read before. No condition. -/
import Derived.Test.YtpdibkcpdngboaaRows
import Derived.Test.YtpdibkcpdngboaaPurePatchApplies
import Derived.Test.YtpdibkcpdngboaaHOpen
import Derived.WalkKit
import Derived.ProofKit
import Derived.OpenShut
import Derived.ShutString
import Derived.ChangeOld
import Derived.Below
import Derived.SizedLaws
namespace Go.Proofs.Ytpdibkcpdngboaa.patchApplies
open Go.ChangeShapes Go.WideShapes Go.ChangeAt Go.RowKit Go.Proofs.Ytpdibkcpdngboaa.Open Go.Proofs.YtpdibkcpdngboaaW.PrintWords
open Go.ChangeMaps (open_string shut_string)
set_option linter.unusedVariables false
theorem own : ownKnob Try.prog.godebug = none := by kernel_rfl
theorem laidOut : laidOutB Try.prog = true := by kernel_rfl
theorem opensL {H : Type} {enc : TypeId × Value → H} {w : World} {base : Nat} {spare : Nat → Bool} {held : Bool} : Opens enc Try.prog w base spare held GP.k52 (fun _ => True) 52 := by
  intro n cs y h
  obtain ⟨x, k, _⟩ := opens_iso (f := fun x : GP.S52 => (x.f0, x.f1)) (fun p : Int × ByteArray => (⟨p.1, p.2⟩ : GP.S52)) (fun _ => rfl) (opens_two Try.underlying52 rfl (by kernel_rfl) (by kernel_rfl) (opens_int Try.underlying3) (opens_string Try.underlying9)) n cs y h
  exact ⟨x, k, trivial⟩
instance : Inhabited GP.S52 := ⟨GP.z52⟩
set_option maxRecDepth 100000 in
theorem lifted (os : Os) (started : os.Started) (H : Type) (enc : TypeId × Value → H) :
    ReturnsInHanded {} Try.checked os 5 .any (Rows.patchAppliesSpec.pre6 enc Try.prog Try.f5 Rows.patchAppliesRow.domain false) (Rows.patchAppliesSpec.post enc Try.prog Try.f5 false true false false) := by
  refine returnsInHanded_of_change_sized (C := Try.checked) own started (by kernel_rfl) Try.func5
    (ChangeSpec.witness6 (enc := enc) (C := Try.checked) false ⟨#[], #[.string ByteArray.empty, .slice none 0 0], []⟩ 8 (by kernel_rfl) (by kernel_rfl) (by kernel_rfl) (by kernel_rfl)) ?_
  intro W base args ds gs before hval0 hW hcnd hsz0 _
  have hval : ∀ (j : Nat) t v, Try.f5.params[j]? = some t → args[j]? = some v → Value.okWide Try.prog W .any base t v := hval0
  have hW' := hW
  obtain ⟨p, q, hA0, hV, rfl, hfz, hnd⟩ := hW
  have hA : DataW.TrodAll enc Try.prog W 0 (fun _ => true) true Try.f5.params.toList args.toList ds p := hA0
  rw [Try.params5] at hA hval
  obtain ⟨v0, vs0, d0, ds0, p0, q0, hargs0, rfl, rfl, h0, r0⟩ := trodAll_cons hA
  obtain ⟨v1, vs1, d1, ds1, p1, q1, hargs1, rfl, rfl, h1, r1⟩ := trodAll_cons r0
  obtain ⟨rfl, rfl, rfl⟩ := trodAll_nil r1
  obtain rfl : args = #[v0, v1] := by cases args; simp_all
  obtain ⟨rfl, rfl⟩ := trodVars_none hV
  obtain ⟨a0, rfl, rfl, rfl, y0⟩ := open_string Try.underlying9 (hval 0 9 v0 rfl rfl) h0
  obtain ⟨a1, len1, cap1, rfl⟩ := okWide_slice Try.underlying33 (hval 1 33 v1 rfl rfl)
  have k1 := h1
  have lt1 : ∀ x ∈ p1, x.block < W.heap.size := by obtain ⟨m, hm⟩ := k1; exact DataW.trod_lt m _ _ _ hm
  obtain ⟨l1, hlen, hcap, _, hC, _⟩ : ∃ xs : List GP.S52, xs.length = len1 ∧ len1 ≤ cap1 ∧ len1 ≤ maxLen ∧ GP.k52.C W a1 xs.length xs ∧ ∀ x ∈ xs, True := by
    obtain ⟨fuel, hf⟩ := h1
    exact opens_row Try.underlying33 (by kernel_rfl) opensL hf
  subst hlen
  clear hA0 hval0 hsz0
  refine (GP.concordancelaw06_PatchApplies.calls 100 a0 a1 cap1 l1 true W hC hcap (Pure.PatchApplies a0 l1)).mono fun e W' ⟨he, bel⟩ => ?_
  subst he
  exact ⟨_, rfl, _, _, _, [], _, [], hW', trodAll_mk1 (shut_bool Try.underlying4 _), (trodAll_cons_mk (shut_string Try.underlying9 y0) (trodAll_cons_mk (Below.trod laidOut (by kernel_rfl) (of_decide_eq_true (by kernel_rfl)) k1 bel lt1) trodAll_mk0)), rfl, bel.frame _, fun h => by cases h⟩
theorem over : Rows.patchAppliesRow.holds Try.pinned (OpenSpec.ofChange Rows.patchAppliesSpec) :=
  OpenClaim.holds_of_wide 5 Try.f5 rfl rfl rfl rfl rfl rfl rfl ⟨rfl, rfl, rfl, rfl, rfl⟩ rfl rfl rfl rfl rfl (by kernel_rfl) Try.func5 (by kernel_rfl)
    (of_decide_eq_true (by kernel_rfl)) (by unfold Func.isWrapper; first | (rw [if_pos (by decide +kernel)]; kernel_rfl) | (rw [if_neg (by decide +kernel)]; exact ⟨rfl, rfl⟩))
    (fun os started H enc _ => lifted os started H enc)
theorem proved : Rows.PatchAppliesSaid := over
#print axioms proved
end Go.Proofs.Ytpdibkcpdngboaa.patchApplies
namespace Go.Proofs.Ytpdibkcpdngboaa
/-- The row, under a short name, for the claim. -/
theorem patchApplies_holds : Rows.PatchAppliesSaid := patchApplies.proved
end Go.Proofs.Ytpdibkcpdngboaa
