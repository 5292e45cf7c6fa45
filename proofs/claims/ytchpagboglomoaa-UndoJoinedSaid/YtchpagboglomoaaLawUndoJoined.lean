/- The statement UndoJoined: whatever the arguments, the law returns true and its arguments read afterwards as they read before. No condition. -/
import Derived.Test.YtchpagboglomoaaRows
import Derived.Test.YtchpagboglomoaaUJoined
import Derived.Test.YtchpagboglomoaaHOpen
import Derived.WalkKit
import Derived.ProofKit
import Derived.OpenShut
import Derived.Deep.Strs
import Derived.Lib.SmallJoins
import Derived.ShutString
import Derived.ChangeOld
import Derived.Below
import Derived.SizedLaws
namespace Go.Proofs.Ytchpagboglomoaa.undoJoined
open Go.ChangeShapes Go.WideShapes Go.ChangeAt Go.RowKit Go.Proofs.Ytchpagboglomoaa.Open Go.Proofs.YtchpagboglomoaaW.PrintWords
open Go.ChangeMaps (open_string shut_string)
set_option linter.unusedVariables false
theorem own : ownKnob Try.prog.godebug = none := by kernel_rfl
theorem laidOut : laidOutB Try.prog = true := by kernel_rfl
set_option maxRecDepth 100000 in
/-- An act that is read. -/
theorem opens_A {H : Type} {enc : TypeId × Value → H} {w : World} {base : Nat} {spare : Nat → Bool} {held : Bool} : Opens enc Try.prog w base spare held Ownd.kUA (fun _ => True) 34 := by
  intro m cs y hf
  have c3 : Try.prog.cellsOf 3 = 1 := by kernel_rfl
  have c9 : Try.prog.cellsOf 9 = 1 := by kernel_rfl
  have cL : Try.prog.cellsOf 32 = 3 := by kernel_rfl
  have cA : Try.prog.cellsOf 34 = 5 := by kernel_rfl
  obtain ⟨y0, y1, y2, m', _, hlen, g0, g1, g2⟩ := Go.Deep.trod_struct3 Try.underlying34 hf
  rw [cA] at hlen
  match cs, hlen with
  | [x0, x1, x2, x3, x4], _ =>
    simp only [c3] at g0
    simp only [c3] at g1
    simp only [cL] at g2
    replace g0 : DataW.trod enc Try.prog w base spare held m' 3 [x0] = some y0 := g0
    replace g1 : DataW.trod enc Try.prog w base spare held m' 3 [x1] = some y1 := g1
    replace g2 : DataW.trod enc Try.prog w base spare held m' 32 [x2, x3, x4] = some y2 := g2
    obtain ⟨z0, z1, z2, m2, _, _, q0, q1, q2⟩ := Go.Deep.trod_struct3 Try.underlying32 g2
    simp only [c3] at q0
    simp only [c3] at q1
    simp only [c9] at q2
    replace q0 : DataW.trod enc Try.prog w base spare held m2 3 [x2] = some z0 := q0
    replace q1 : DataW.trod enc Try.prog w base spare held m2 3 [x3] = some z1 := q1
    replace q2 : DataW.trod enc Try.prog w base spare held m2 9 [x4] = some z2 := q2
    obtain ⟨a, k0, _⟩ := DataW.trod_int Try.underlying3 g0
    obtain ⟨b, k1, _⟩ := DataW.trod_int Try.underlying3 g1
    obtain ⟨c, k2, _⟩ := DataW.trod_int Try.underlying3 q0
    obtain ⟨d, k3, _⟩ := DataW.trod_int Try.underlying3 q1
    obtain ⟨s, k4, _⟩ := DataW.trod_string Try.underlying9 q2
    obtain rfl := (List.cons.inj k0).1
    obtain rfl := (List.cons.inj k1).1
    obtain rfl := (List.cons.inj k2).1
    obtain rfl := (List.cons.inj k3).1
    obtain rfl := (List.cons.inj k4).1
    exact ⟨(a, b, c, d, s), Ownd.kUA_mk _ (a, b, c, d, s), trivial⟩
set_option maxRecDepth 100000 in
theorem lifted (os : Os) (started : os.Started) (H : Type) (enc : TypeId × Value → H) :
    ReturnsInHanded {} Try.checked os 6 .any (Rows.undoJoinedSpec.pre6 enc Try.prog Try.f6 Rows.undoJoinedRow.domain false) (Rows.undoJoinedSpec.post enc Try.prog Try.f6 false true false false) := by
  refine returnsInHanded_of_change_sized (C := Try.checked) own started (by kernel_rfl) Try.func6
    (ChangeSpec.witness6 (enc := enc) (C := Try.checked) false ⟨#[], #[.slice none 0 0, .int .i64 0], []⟩ 8 (by kernel_rfl) (by kernel_rfl) (by kernel_rfl) (by kernel_rfl)) ?_
  intro W base args ds gs before hval0 hW hcnd hsz0 _
  have hval : ∀ (j : Nat) t v, Try.f6.params[j]? = some t → args[j]? = some v → Value.okWide Try.prog W .any base t v := hval0
  have hW' := hW
  obtain ⟨p, q, hA0, hV, rfl, hfz, hnd⟩ := hW
  have hA : DataW.TrodAll enc Try.prog W 0 (fun _ => true) true Try.f6.params.toList args.toList ds p := hA0
  rw [Try.params6] at hA hval
  obtain ⟨v0, vs0, d0, ds0, p0, q0, hargs0, rfl, rfl, h0, r0⟩ := trodAll_cons hA
  obtain ⟨v1, vs1, d1, ds1, p1, q1, hargs1, rfl, rfl, h1, r1⟩ := trodAll_cons r0
  obtain ⟨rfl, rfl, rfl⟩ := trodAll_nil r1
  obtain rfl : args = #[v0, v1] := by cases args; simp_all
  obtain ⟨rfl, rfl⟩ := trodVars_none hV
  obtain ⟨a1, rfl, rfl, rfl, y1⟩ := open_int Try.underlying3 (hval 1 3 v1 rfl rfl) h1
  obtain ⟨A0, len0, cap0, rfl⟩ := okWide_slice Try.underlying22 (hval 0 22 v0 rfl rfl)
  have k0 := h0
  have lt0 : ∀ x ∈ p0, x.block < W.heap.size := by obtain ⟨m, hm⟩ := k0; exact DataW.trod_lt m _ _ _ hm
  obtain ⟨l0, hlen0, hcap0, _, hC0, _⟩ : ∃ xs : List Ownd.UAct, xs.length = len0 ∧ len0 ≤ cap0 ∧ len0 ≤ maxLen ∧ Ownd.kUA.C W A0 xs.length xs ∧ ∀ x ∈ xs, True := by
    obtain ⟨fuel, hf⟩ := h0
    exact opens_row Try.underlying22 (by kernel_rfl) opens_A hf
  subst hlen0
  clear hA0 hval0 hsz0
  refine (Ownd.joined_calls A0 cap0 l0 a1 W hC0 hcap0).mono fun e W' ⟨he, bel⟩ => ?_
  subst he
  exact ⟨_, rfl, _, _, _, [], _, [], hW', trodAll_mk1 (shut_bool Try.underlying4 _), (trodAll_cons_mk (Below.trod laidOut (by kernel_rfl) (of_decide_eq_true (by kernel_rfl)) k0 bel lt0) (trodAll_cons_mk (shut_int Try.underlying3 y1) trodAll_mk0)), rfl, bel.frame _, fun h => by cases h⟩
theorem over : Rows.undoJoinedRow.holds Try.pinned (OpenSpec.ofChange Rows.undoJoinedSpec) :=
  OpenClaim.holds_of_wide 6 Try.f6 rfl rfl rfl rfl rfl rfl rfl ⟨rfl, rfl, rfl, rfl, rfl⟩ rfl rfl rfl rfl rfl (by kernel_rfl) Try.func6 (by kernel_rfl)
    (of_decide_eq_true (by kernel_rfl)) (by unfold Func.isWrapper; first | (rw [if_pos (by decide +kernel)]; kernel_rfl) | (rw [if_neg (by decide +kernel)]; exact ⟨rfl, rfl⟩))
    (fun os started H enc _ => lifted os started H enc)
theorem proved : Rows.UndoJoinedSaid := over
#print axioms proved
end Go.Proofs.Ytchpagboglomoaa.undoJoined
namespace Go.Proofs.Ytchpagboglomoaa
/-- The row, under a short name, for the claim. -/
theorem undoJoined_holds : Rows.UndoJoinedSaid := undoJoined.proved
end Go.Proofs.Ytchpagboglomoaa
