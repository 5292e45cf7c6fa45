/- The statement OrderRecents: whatever the list of pairs, the law returns true and its argument reads afterwards as it read before. No condition. -/
import Derived.Test.YtfnfhiggmppecaaRows
import Derived.Test.YtfnfhiggmppecaaORecents
import Derived.Test.YtfnfhiggmppecaaHOpen
import Derived.WalkKit
import Derived.ProofKit
import Derived.OpenShut
import Derived.ShutString
import Derived.ChangeOld
import Derived.Below
import Derived.SizedLaws
namespace Go.Proofs.Ytfnfhiggmppecaa.orderRecents
open Go.ChangeShapes Go.WideShapes Go.ChangeAt Go.RowKit Go.Proofs.Ytfnfhiggmppecaa.Open Go.Proofs.YtfnfhiggmppecaaW.PrintWords
open Go.ChangeMaps (open_string shut_string)
set_option linter.unusedVariables false
theorem own : ownKnob Try.prog.godebug = none := by kernel_rfl
theorem laidOut : laidOutB Try.prog = true := by kernel_rfl
set_option maxRecDepth 100000 in
/-- Two numbers that are read. -/
theorem opens_Ar {H : Type} {enc : TypeId × Value → H} {w : World} {base : Nat} {spare : Nat → Bool} {held : Bool} : Opens enc Try.prog w base spare held GO.MI.kP (fun _ => True) 27 := by
  intro m cs y hf
  have c3 : Try.prog.cellsOf 3 = 1 := by kernel_rfl
  have cA : Try.prog.cellsOf 27 = 2 := by kernel_rfl
  obtain ⟨xs, m', _, _, hlen, hxl, hx⟩ := DataW.trod_array Try.underlying27 hf
  rw [cA] at hlen
  match cs, hlen with
  | [x0, x1], _ =>
    match xs, hxl with
    | [z0, z1], _ =>
      have e0 := hx 0 (by decide)
      have e1 := hx 1 (by decide)
      rw [c3] at e0 e1
      replace e0 : DataW.trod enc Try.prog w base spare held m' 3 [x0] = some z0 := e0
      replace e1 : DataW.trod enc Try.prog w base spare held m' 3 [x1] = some z1 := e1
      obtain ⟨a, k0, _⟩ := DataW.trod_int Try.underlying3 e0
      obtain ⟨c, k1, _⟩ := DataW.trod_int Try.underlying3 e1
      obtain rfl := (List.cons.inj k0).1
      obtain rfl := (List.cons.inj k1).1
      exact ⟨(a, c), GO.MI.kP_mk w (a, c), trivial⟩
set_option maxRecDepth 100000 in
theorem lifted (os : Os) (started : os.Started) (H : Type) (enc : TypeId × Value → H) :
    ReturnsInHanded {} Try.checked os 3 .any (Rows.orderRecentsSpec.pre6 enc Try.prog Try.f3 Rows.orderRecentsRow.domain false) (Rows.orderRecentsSpec.post enc Try.prog Try.f3 false true false false) := by
  refine returnsInHanded_of_change_sized (C := Try.checked) own started (by kernel_rfl) Try.func3
    (ChangeSpec.witness6 (enc := enc) (C := Try.checked) false ⟨#[], #[.slice none 0 0], []⟩ 8 (by kernel_rfl) (by kernel_rfl) (by kernel_rfl) (by kernel_rfl)) ?_
  intro W base args ds gs before hval0 hW hcnd hsz0 _
  have hval : ∀ (j : Nat) t v, Try.f3.params[j]? = some t → args[j]? = some v → Value.okWide Try.prog W .any base t v := hval0
  have hW' := hW
  obtain ⟨p, q, hA0, hV, rfl, hfz, hnd⟩ := hW
  have hA : DataW.TrodAll enc Try.prog W 0 (fun _ => true) true Try.f3.params.toList args.toList ds p := hA0
  rw [Try.params3] at hA hval
  obtain ⟨v0, vs0, d0, ds0, p0, q0, hargs0, rfl, rfl, h0, r0⟩ := trodAll_cons hA
  obtain ⟨rfl, rfl, rfl⟩ := trodAll_nil r0
  obtain rfl : args = #[v0] := by cases args; simp_all
  obtain ⟨rfl, rfl⟩ := trodVars_none hV
  obtain ⟨A0, len0, cap0, rfl⟩ := okWide_slice Try.underlying22 (hval 0 22 v0 rfl rfl)
  have k0 := h0
  have lt0 : ∀ x ∈ p0, x.block < W.heap.size := by obtain ⟨m, hm⟩ := k0; exact DataW.trod_lt m _ _ _ hm
  obtain ⟨l0, hlen0, hcap0, _, hC0, _⟩ : ∃ xs : List GO.MI.P2, xs.length = len0 ∧ len0 ≤ cap0 ∧ len0 ≤ maxLen ∧ GO.MI.kP.C W A0 xs.length xs ∧ ∀ x ∈ xs, True := by
    obtain ⟨fuel, hf⟩ := h0
    exact opens_row Try.underlying22 (by kernel_rfl) opens_Ar hf
  subst hlen0
  clear hA0 hval0 hsz0
  refine (GO.recents_calls A0 cap0 l0 W hC0 hcap0).mono fun e W' ⟨he, bel⟩ => ?_
  subst he
  exact ⟨_, rfl, _, _, _, [], _, [], hW', trodAll_mk1 (shut_bool Try.underlying4 _), (trodAll_cons_mk (Below.trod laidOut (by kernel_rfl) (of_decide_eq_true (by kernel_rfl)) k0 bel lt0) trodAll_mk0), rfl, bel.frame _, fun h => by cases h⟩
theorem over : Rows.orderRecentsRow.holds Try.pinned (OpenSpec.ofChange Rows.orderRecentsSpec) :=
  OpenClaim.holds_of_wide 3 Try.f3 rfl rfl rfl rfl rfl rfl rfl ⟨rfl, rfl, rfl, rfl, rfl⟩ rfl rfl rfl rfl rfl (by kernel_rfl) Try.func3 (by kernel_rfl)
    (of_decide_eq_true (by kernel_rfl)) (by unfold Func.isWrapper; first | (rw [if_pos (by decide +kernel)]; kernel_rfl) | (rw [if_neg (by decide +kernel)]; exact ⟨rfl, rfl⟩))
    (fun os started H enc _ => lifted os started H enc)
theorem proved : Rows.OrderRecentsSaid := over
#print axioms proved
end Go.Proofs.Ytfnfhiggmppecaa.orderRecents
namespace Go.Proofs.Ytfnfhiggmppecaa
/-- The row, under a short name, for the claim. -/
theorem orderRecents_holds : Rows.OrderRecentsSaid := orderRecents.proved
end Go.Proofs.Ytfnfhiggmppecaa
