/- The statement DeviceFuses: whatever the arguments, the law returns true and its arguments read afterwards as they read before. No condition. -/
import Derived.Test.YtjnbeijnlplclaaRows
import Derived.Test.YtjnbeijnlplclaaDFuses
import Derived.Test.YtjnbeijnlplclaaHOpen
import Derived.WalkKit
import Derived.ProofKit
import Derived.OpenShut
import Derived.Deep.Strs
import Derived.Lib.SmallJoins
import Derived.ShutString
import Derived.ChangeOld
import Derived.Below
import Derived.SizedLaws
namespace Go.Proofs.Ytjnbeijnlplclaa.deviceFuses
open Go.ChangeShapes Go.WideShapes Go.ChangeAt Go.RowKit Go.Proofs.Ytjnbeijnlplclaa.Open Go.Proofs.YtjnbeijnlplclaaW.PrintWords
open Go.ChangeMaps (open_string shut_string)
set_option linter.unusedVariables false
theorem own : ownKnob Try.prog.godebug = none := by kernel_rfl
theorem laidOut : laidOutB Try.prog = true := by kernel_rfl
theorem opens_I {H : Type} {enc : TypeId × Value → H} {w : World} {base : Nat} {spare : Nat → Bool} {held : Bool} : Opens enc Try.prog w base spare held (Kd.int .i64) (fun _ => True) 3 := by
  intro n cs y h
  obtain ⟨x, k, _⟩ := opens_int Try.underlying3 n cs y h
  exact ⟨x, k, trivial⟩
set_option maxRecDepth 100000 in
/-- An act that is read. -/
theorem opens_A {H : Type} {enc : TypeId × Value → H} {w : World} {base : Nat} {spare : Nat → Bool} {held : Bool} : Opens enc Try.prog w base spare held Ownd.kTA (fun _ => True) 36 := by
  intro m cs y hf
  have c3 : Try.prog.cellsOf 3 = 1 := by kernel_rfl
  have c9 : Try.prog.cellsOf 9 = 1 := by kernel_rfl
  have cI : Try.prog.cellsOf 34 = 1 := by kernel_rfl
  have cA : Try.prog.cellsOf 36 = 4 := by kernel_rfl
  obtain ⟨y0, y1, y2, y3, m', _, hlen, g0, g1, g2, g3⟩ := Go.Joins.trod_struct4 Try.underlying36 hf
  rw [cA] at hlen
  match cs, hlen with
  | [x0, x1, x2, x3], _ =>
    simp only [c3] at g0
    simp only [c3] at g1
    simp only [c9] at g2
    simp only [cI] at g3
    replace g0 : DataW.trod enc Try.prog w base spare held m' 3 [x0] = some y0 := g0
    replace g1 : DataW.trod enc Try.prog w base spare held m' 3 [x1] = some y1 := g1
    replace g2 : DataW.trod enc Try.prog w base spare held m' 9 [x2] = some y2 := g2
    replace g3 : DataW.trod enc Try.prog w base spare held m' 34 [x3] = some y3 := g3
    obtain ⟨a, k0, _⟩ := DataW.trod_int Try.underlying3 g0
    obtain ⟨b, k1, _⟩ := DataW.trod_int Try.underlying3 g1
    obtain ⟨c, k2, _⟩ := DataW.trod_string Try.underlying9 g2
    obtain ⟨l, ⟨B, cb, k3, hle, hC⟩, _⟩ := opens_slice (e' := 3) Try.underlying34 (by kernel_rfl) opens_I m' [x3] y3 g3
    obtain rfl := (List.cons.inj k0).1
    obtain rfl := (List.cons.inj k1).1
    obtain rfl := (List.cons.inj k2).1
    obtain rfl := (List.cons.inj k3).1
    exact ⟨(a, b, c, l), Ownd.kTA_mk (a, b, c, l) B cb hle hC, trivial⟩
set_option maxRecDepth 100000 in
theorem lifted (os : Os) (started : os.Started) (H : Type) (enc : TypeId × Value → H) :
    ReturnsInHanded {} Try.checked os 5 .any (Rows.deviceFusesSpec.pre6 enc Try.prog Try.f5 Rows.deviceFusesRow.domain false) (Rows.deviceFusesSpec.post enc Try.prog Try.f5 false true false false) := by
  refine returnsInHanded_of_change_sized (C := Try.checked) own started (by kernel_rfl) Try.func5
    (ChangeSpec.witness6 (enc := enc) (C := Try.checked) false ⟨#[], #[.slice none 0 0, .int .i64 0, .slice none 0 0], []⟩ 8 (by kernel_rfl) (by kernel_rfl) (by kernel_rfl) (by kernel_rfl)) ?_
  intro W base args ds gs before hval0 hW hcnd hsz0 _
  have hval : ∀ (j : Nat) t v, Try.f5.params[j]? = some t → args[j]? = some v → Value.okWide Try.prog W .any base t v := hval0
  have hW' := hW
  obtain ⟨p, q, hA0, hV, rfl, hfz, hnd⟩ := hW
  have hA : DataW.TrodAll enc Try.prog W 0 (fun _ => true) true Try.f5.params.toList args.toList ds p := hA0
  rw [Try.params5] at hA hval
  obtain ⟨v0, vs0, d0, ds0, p0, q0, hargs0, rfl, rfl, h0, r0⟩ := trodAll_cons hA
  obtain ⟨v1, vs1, d1, ds1, p1, q1, hargs1, rfl, rfl, h1, r1⟩ := trodAll_cons r0
  obtain ⟨v2, vs2, d2, ds2, p2, q2, hargs2, rfl, rfl, h2, r2⟩ := trodAll_cons r1
  obtain ⟨rfl, rfl, rfl⟩ := trodAll_nil r2
  obtain rfl : args = #[v0, v1, v2] := by cases args; simp_all
  obtain ⟨rfl, rfl⟩ := trodVars_none hV
  obtain ⟨a1, rfl, rfl, rfl, y1⟩ := open_int Try.underlying3 (hval 1 3 v1 rfl rfl) h1
  obtain ⟨A0, len0, cap0, rfl⟩ := okWide_slice Try.underlying33 (hval 0 33 v0 rfl rfl)
  have k0 := h0
  have lt0 : ∀ x ∈ p0, x.block < W.heap.size := by obtain ⟨m, hm⟩ := k0; exact DataW.trod_lt m _ _ _ hm
  obtain ⟨l0, hlen0, hcap0, _, hC0, _⟩ : ∃ xs : List Ownd.TA, xs.length = len0 ∧ len0 ≤ cap0 ∧ len0 ≤ maxLen ∧ Ownd.kTA.C W A0 xs.length xs ∧ ∀ x ∈ xs, True := by
    obtain ⟨fuel, hf⟩ := h0
    exact opens_row Try.underlying33 (by kernel_rfl) opens_A hf
  subst hlen0
  obtain ⟨A2, len2, cap2, rfl⟩ := okWide_slice Try.underlying34 (hval 2 34 v2 rfl rfl)
  have k2 := h2
  have lt2 : ∀ x ∈ p2, x.block < W.heap.size := by obtain ⟨m, hm⟩ := k2; exact DataW.trod_lt m _ _ _ hm
  obtain ⟨l2, hlen2, hcap2, _, hC2, _⟩ : ∃ xs : List Int, xs.length = len2 ∧ len2 ≤ cap2 ∧ len2 ≤ maxLen ∧ (Kd.int .i64).C W A2 xs.length xs ∧ ∀ x ∈ xs, True := by
    obtain ⟨fuel, hf⟩ := h2
    exact opens_row Try.underlying34 (by kernel_rfl) opens_I hf
  subst hlen2
  clear hA0 hval0 hsz0
  refine (Ownd.fuses_calls A0 cap0 l0 hC0 hcap0 a1 A2 cap2 l2 hC2 hcap2).mono fun e W' ⟨he, bel⟩ => ?_
  subst he
  exact ⟨_, rfl, _, _, _, [], _, [], hW', trodAll_mk1 (shut_bool Try.underlying4 _), (trodAll_cons_mk (Below.trod laidOut (by kernel_rfl) (of_decide_eq_true (by kernel_rfl)) k0 bel lt0) (trodAll_cons_mk (shut_int Try.underlying3 y1) (trodAll_cons_mk (Below.trod laidOut (by kernel_rfl) (of_decide_eq_true (by kernel_rfl)) k2 bel lt2) trodAll_mk0))), rfl, bel.frame _, fun h => by cases h⟩
theorem over : Rows.deviceFusesRow.holds Try.pinned (OpenSpec.ofChange Rows.deviceFusesSpec) :=
  OpenClaim.holds_of_wide 5 Try.f5 rfl rfl rfl rfl rfl rfl rfl ⟨rfl, rfl, rfl, rfl, rfl⟩ rfl rfl rfl rfl rfl (by kernel_rfl) Try.func5 (by kernel_rfl)
    (of_decide_eq_true (by kernel_rfl)) (by unfold Func.isWrapper; first | (rw [if_pos (by decide +kernel)]; kernel_rfl) | (rw [if_neg (by decide +kernel)]; exact ⟨rfl, rfl⟩))
    (fun os started H enc _ => lifted os started H enc)
theorem proved : Rows.DeviceFusesSaid := over
#print axioms proved
end Go.Proofs.Ytjnbeijnlplclaa.deviceFuses
namespace Go.Proofs.Ytjnbeijnlplclaa
/-- The row, under a short name, for the claim. -/
theorem deviceFuses_holds : Rows.DeviceFusesSaid := deviceFuses.proved
end Go.Proofs.Ytjnbeijnlplclaa
