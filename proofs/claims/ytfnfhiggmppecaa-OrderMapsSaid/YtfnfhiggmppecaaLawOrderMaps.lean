/- The statement OrderMaps: whatever the list of acts and the key, the law returns true and its arguments read afterwards as they read before. No condition. -/
import Derived.Test.YtfnfhiggmppecaaRows
import Derived.Test.YtfnfhiggmppecaaOMaps
import Derived.Test.YtfnfhiggmppecaaHOpen
import Derived.WalkKit
import Derived.ProofKit
import Derived.OpenShut
import Derived.Deep.Strs
import Derived.ShutString
import Derived.ChangeOld
import Derived.Below
import Derived.SizedLaws
namespace Go.Proofs.Ytfnfhiggmppecaa.orderMaps
open Go.ChangeShapes Go.WideShapes Go.ChangeAt Go.RowKit Go.Proofs.Ytfnfhiggmppecaa.Open Go.Proofs.YtfnfhiggmppecaaW.PrintWords
open Go.ChangeMaps (open_string shut_string)
set_option linter.unusedVariables false
theorem own : ownKnob Try.prog.godebug = none := by kernel_rfl
theorem laidOut : laidOutB Try.prog = true := by kernel_rfl
set_option maxRecDepth 100000 in
/-- An act that is read. -/
theorem opens_A {H : Type} {enc : TypeId × Value → H} {w : World} {base : Nat} {spare : Nat → Bool} {held : Bool} : Opens enc Try.prog w base spare held GO.Ref.kA (fun _ => True) 58 := by
  intro m cs y hf
  have c3 : Try.prog.cellsOf 3 = 1 := by kernel_rfl
  have c9 : Try.prog.cellsOf 9 = 1 := by kernel_rfl
  have cA : Try.prog.cellsOf 58 = 3 := by kernel_rfl
  obtain ⟨y0, y1, y2, m', _, hlen, g0, g1, g2⟩ := Go.Deep.trod_struct3 Try.underlying58 hf
  rw [cA] at hlen
  match cs, hlen with
  | [x0, x1, x2], _ =>
    simp only [c3] at g0
    simp only [c9] at g1
    simp only [c3] at g2
    replace g0 : DataW.trod enc Try.prog w base spare held m' 3 [x0] = some y0 := g0
    replace g1 : DataW.trod enc Try.prog w base spare held m' 9 [x1] = some y1 := g1
    replace g2 : DataW.trod enc Try.prog w base spare held m' 3 [x2] = some y2 := g2
    obtain ⟨a, k0, _⟩ := DataW.trod_int Try.underlying3 g0
    obtain ⟨b, k1, _⟩ := DataW.trod_string Try.underlying9 g1
    obtain ⟨c, k2, _⟩ := DataW.trod_int Try.underlying3 g2
    obtain rfl := (List.cons.inj k0).1
    obtain rfl := (List.cons.inj k1).1
    obtain rfl := (List.cons.inj k2).1
    exact ⟨(a, b, c), GO.Ref.kA_mk w (a, b, c), trivial⟩
set_option maxRecDepth 100000 in
theorem lifted (os : Os) (started : os.Started) (H : Type) (enc : TypeId × Value → H) :
    ReturnsInHanded {} Try.checked os 6 .any (Rows.orderMapsSpec.pre6 enc Try.prog Try.f6 Rows.orderMapsRow.domain false) (Rows.orderMapsSpec.post enc Try.prog Try.f6 false true false false) := by
  refine returnsInHanded_of_change_sized (C := Try.checked) own started (by kernel_rfl) Try.func6
    (ChangeSpec.witness6 (enc := enc) (C := Try.checked) false ⟨#[], #[.slice none 0 0, .string ByteArray.empty], []⟩ 8 (by kernel_rfl) (by kernel_rfl) (by kernel_rfl) (by kernel_rfl)) ?_
  intro W base args ds gs before hval0 hW hcnd hsz0 _
  have hval : ∀ (j : Nat) t v, Try.f6.params[j]? = some t → args[j]? = some v → Value.okWide Try.prog W .any base t v := hval0
  have hW' := hW
  obtain ⟨p, q, hA0, hV, rfl, hfz, hnd⟩ := hW
  have hA : DataW.TrodAll enc Try.prog W 0 (fun _ => true) true Try.f6.params.toList args.toList ds p := hA0
  rw [Try.params6] at hA hval
  obtain ⟨v0, vs0, d0, ds0, p0, q0, hargs0, rfl, rfl, h0, r0⟩ := trodAll_cons hA
  obtain ⟨v1, vs1, d1, ds1, p1, q1, hargs1, rfl, rfl, h1, r1⟩ := trodAll_cons r0
  obtain ⟨rfl, rfl, rfl⟩ := trodAll_nil r1
  obtain rfl : args = #[v0, v1] := by cases args; simp_all
  obtain ⟨rfl, rfl⟩ := trodVars_none hV
  obtain ⟨a1, rfl, rfl, rfl, y1⟩ := open_string Try.underlying9 (hval 1 9 v1 rfl rfl) h1
  obtain ⟨A0, len0, cap0, rfl⟩ := okWide_slice Try.underlying54 (hval 0 54 v0 rfl rfl)
  have k0 := h0
  have lt0 : ∀ x ∈ p0, x.block < W.heap.size := by obtain ⟨m, hm⟩ := k0; exact DataW.trod_lt m _ _ _ hm
  obtain ⟨l0, hlen0, hcap0, _, hC0, _⟩ : ∃ xs : List GO.Ref.A3, xs.length = len0 ∧ len0 ≤ cap0 ∧ len0 ≤ maxLen ∧ GO.Ref.kA.C W A0 xs.length xs ∧ ∀ x ∈ xs, True := by
    obtain ⟨fuel, hf⟩ := h0
    exact opens_row Try.underlying54 (by kernel_rfl) opens_A hf
  subst hlen0
  clear hA0 hval0 hsz0
  refine (GO.Ref.maps_calls A0 cap0 l0 a1 W hC0 hcap0).mono fun e W' ⟨he, bel⟩ => ?_
  subst he
  exact ⟨_, rfl, _, _, _, [], _, [], hW', trodAll_mk1 (shut_bool Try.underlying4 _), (trodAll_cons_mk (Below.trod laidOut (by kernel_rfl) (of_decide_eq_true (by kernel_rfl)) k0 bel lt0) (trodAll_cons_mk (shut_string Try.underlying9 y1) trodAll_mk0)), rfl, bel.frame _, fun h => by cases h⟩
theorem over : Rows.orderMapsRow.holds Try.pinned (OpenSpec.ofChange Rows.orderMapsSpec) :=
  OpenClaim.holds_of_wide 6 Try.f6 rfl rfl rfl rfl rfl rfl rfl ⟨rfl, rfl, rfl, rfl, rfl⟩ rfl rfl rfl rfl rfl (by kernel_rfl) Try.func6 (by kernel_rfl)
    (of_decide_eq_true (by kernel_rfl)) (by unfold Func.isWrapper; first | (rw [if_pos (by decide +kernel)]; kernel_rfl) | (rw [if_neg (by decide +kernel)]; exact ⟨rfl, rfl⟩))
    (fun os started H enc _ => lifted os started H enc)
theorem proved : Rows.OrderMapsSaid := over
#print axioms proved
end Go.Proofs.Ytfnfhiggmppecaa.orderMaps
namespace Go.Proofs.Ytfnfhiggmppecaa
/-- The row, under a short name, for the claim. -/
theorem orderMaps_holds : Rows.OrderMapsSaid := orderMaps.proved
end Go.Proofs.Ytfnfhiggmppecaa
