/- The statement DevicePlays: whatever the arguments, the law returns true and its arguments read afterwards as they read before. No condition. -/
import Derived.Test.YtjnbeijnlplclaaRows
import Derived.Test.YtjnbeijnlplclaaDPlays
import Derived.Test.YtjnbeijnlplclaaHOpen
import Derived.WalkKit
import Derived.ProofKit
import Derived.OpenShut
import Derived.Deep.Strs
import Derived.Lib.SmallJoins
import Derived.ShutString
import Derived.ChangeOld
import Derived.Below
import Derived.SizedLaws
namespace Go.Proofs.Ytjnbeijnlplclaa.devicePlays
open Go.ChangeShapes Go.WideShapes Go.ChangeAt Go.RowKit Go.Proofs.Ytjnbeijnlplclaa.Open Go.Proofs.YtjnbeijnlplclaaW.PrintWords
open Go.ChangeMaps (open_string shut_string)
set_option linter.unusedVariables false
theorem own : ownKnob Try.prog.godebug = none := by kernel_rfl
theorem laidOut : laidOutB Try.prog = true := by kernel_rfl
theorem opens_I {H : Type} {enc : TypeId × Value → H} {w : World} {base : Nat} {spare : Nat → Bool} {held : Bool} : Opens enc Try.prog w base spare held (Kd.int .i64) (fun _ => True) 3 := by
  intro n cs y h
  obtain ⟨x, k, _⟩ := opens_int Try.underlying3 n cs y h
  exact ⟨x, k, trivial⟩
set_option maxRecDepth 100000 in
/-- An act that is read. -/
theorem opens_A {H : Type} {enc : TypeId × Value → H} {w : World} {base : Nat} {spare : Nat → Bool} {held : Bool} : Opens enc Try.prog w base spare held Ownd.kTA (fun _ => True) 36 := by
  intro m cs y hf
  have c3 : Try.prog.cellsOf 3 = 1 := by kernel_rfl
  have c9 : Try.prog.cellsOf 9 = 1 := by kernel_rfl
  have cI : Try.prog.cellsOf 34 = 1 := by kernel_rfl
  have cA : Try.prog.cellsOf 36 = 4 := by kernel_rfl
  obtain ⟨y0, y1, y2, y3, m', _, hlen, g0, g1, g2, g3⟩ := Go.Joins.trod_struct4 Try.underlying36 hf
  rw [cA] at hlen
  match cs, hlen with
  | [x0, x1, x2, x3], _ =>
    simp only [c3] at g0
    simp only [c3] at g1
    simp only [c9] at g2
    simp only [cI] at g3
    replace g0 : DataW.trod enc Try.prog w base spare held m' 3 [x0] = some y0 := g0
    replace g1 : DataW.trod enc Try.prog w base spare held m' 3 [x1] = some y1 := g1
    replace g2 : DataW.trod enc Try.prog w base spare held m' 9 [x2] = some y2 := g2
    replace g3 : DataW.trod enc Try.prog w base spare held m' 34 [x3] = some y3 := g3
    obtain ⟨a, k0, _⟩ := DataW.trod_int Try.underlying3 g0
    obtain ⟨b, k1, _⟩ := DataW.trod_int Try.underlying3 g1
    obtain ⟨c, k2, _⟩ := DataW.trod_string Try.underlying9 g2
    obtain ⟨l, ⟨B, cb, k3, hle, hC⟩, _⟩ := opens_slice (e' := 3) Try.underlying34 (by kernel_rfl) opens_I m' [x3] y3 g3
    obtain rfl := (List.cons.inj k0).1
    obtain rfl := (List.cons.inj k1).1
    obtain rfl := (List.cons.inj k2).1
    obtain rfl := (List.cons.inj k3).1
    exact ⟨(a, b, c, l), Ownd.kTA_mk (a, b, c, l) B cb hle hC, trivial⟩
set_option maxRecDepth 100000 in
theorem lifted (os : Os) (started : os.Started) (H : Type) (enc : TypeId × Value → H) :
    ReturnsInHanded {} Try.checked os 6 .any (Rows.devicePlaysSpec.pre6 enc Try.prog Try.f6 Rows.devicePlaysRow.domain false) (Rows.devicePlaysSpec.post enc Try.prog Try.f6 false true false false) := by
  refine returnsInHanded_of_change_sized (C := Try.checked) own started (by kernel_rfl) Try.func6
    (ChangeSpec.witness6 (enc := enc) (C := Try.checked) false ⟨#[], #[.int .i64 0, .slice none 0 0], []⟩ 8 (by kernel_rfl) (by kernel_rfl) (by kernel_rfl) (by kernel_rfl)) ?_
  intro W base args ds gs before hval0 hW hcnd hsz0 _
  have hval : ∀ (j : Nat) t v, Try.f6.params[j]? = some t → args[j]? = some v → Value.okWide Try.prog W .any base t v := hval0
  have hW' := hW
  obtain ⟨p, q, hA0, hV, rfl, hfz, hnd⟩ := hW
  have hA : DataW.TrodAll enc Try.prog W 0 (fun _ => true) true Try.f6.params.toList args.toList ds p := hA0
  rw [Try.params6] at hA hval
  obtain ⟨v0, vs0, d0, ds0, p0, q0, hargs0, rfl, rfl, h0, r0⟩ := trodAll_cons hA
  obtain ⟨v1, vs1, d1, ds1, p1, q1, hargs1, rfl, rfl, h1, r1⟩ := trodAll_cons r0
  obtain ⟨rfl, rfl, rfl⟩ := trodAll_nil r1
  obtain rfl : args = #[v0, v1] := by cases args; simp_all
  obtain ⟨rfl, rfl⟩ := trodVars_none hV
  obtain ⟨a0, rfl, rfl, rfl, y0⟩ := open_int Try.underlying3 (hval 0 3 v0 rfl rfl) h0
  obtain ⟨A1, len1, cap1, rfl⟩ := okWide_slice Try.underlying33 (hval 1 33 v1 rfl rfl)
  have k1 := h1
  have lt1 : ∀ x ∈ p1, x.block < W.heap.size := by obtain ⟨m, hm⟩ := k1; exact DataW.trod_lt m _ _ _ hm
  obtain ⟨l1, hlen1, hcap1, _, hC1, _⟩ : ∃ xs : List Ownd.TA, xs.length = len1 ∧ len1 ≤ cap1 ∧ len1 ≤ maxLen ∧ Ownd.kTA.C W A1 xs.length xs ∧ ∀ x ∈ xs, True := by
    obtain ⟨fuel, hf⟩ := h1
    exact opens_row Try.underlying33 (by kernel_rfl) opens_A hf
  subst hlen1
  clear hA0 hval0 hsz0
  refine (Ownd.plays_calls a0 A1 cap1 l1 hC1 hcap1).mono fun e W' ⟨he, bel⟩ => ?_
  subst he
  exact ⟨_, rfl, _, _, _, [], _, [], hW', trodAll_mk1 (shut_bool Try.underlying4 _), (trodAll_cons_mk (shut_int Try.underlying3 y0) (trodAll_cons_mk (Below.trod laidOut (by kernel_rfl) (of_decide_eq_true (by kernel_rfl)) k1 bel lt1) trodAll_mk0)), rfl, bel.frame _, fun h => by cases h⟩
theorem over : Rows.devicePlaysRow.holds Try.pinned (OpenSpec.ofChange Rows.devicePlaysSpec) :=
  OpenClaim.holds_of_wide 6 Try.f6 rfl rfl rfl rfl rfl rfl rfl ⟨rfl, rfl, rfl, rfl, rfl⟩ rfl rfl rfl rfl rfl (by kernel_rfl) Try.func6 (by kernel_rfl)
    (of_decide_eq_true (by kernel_rfl)) (by unfold Func.isWrapper; first | (rw [if_pos (by decide +kernel)]; kernel_rfl) | (rw [if_neg (by decide +kernel)]; exact ⟨rfl, rfl⟩))
    (fun os started H enc _ => lifted os started H enc)
theorem proved : Rows.DevicePlaysSaid := over
#print axioms proved
end Go.Proofs.Ytjnbeijnlplclaa.devicePlays
namespace Go.Proofs.Ytjnbeijnlplclaa
/-- The row, under a short name, for the claim. -/
theorem devicePlays_holds : Rows.DevicePlaysSaid := devicePlays.proved
end Go.Proofs.Ytjnbeijnlplclaa
