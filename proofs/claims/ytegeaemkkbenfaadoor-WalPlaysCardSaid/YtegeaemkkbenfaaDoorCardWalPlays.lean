/- The statement WalPlays (its tied card): whatever the arguments, the law returns true and its arguments read afterwards as they read before. No condition. -/
import Derived.Test.YtegeaemkkbenfaaDoorWPlays
import Derived.Test.YtegeaemkkbenfaaDoorHOpen
import Derived.Test.YtegeaemkkbenfaaDoorTie
import Derived.Test.YtegeaemkkbenfaaDoorCards
import Derived.WalkKit
import Derived.ProofKit
import Derived.OpenShut
import Derived.Deep.Strs
import Derived.Lib.SmallJoins
import Derived.ShutString
import Derived.ChangeOld
import Derived.ChangeSame
import Derived.Below
import Derived.SizedLaws
import Derived.LaidMore
import Derived.Lay
import Derived.Lib.LaidTab
import Derived.MakeChecks
import Derived.SevenTiedAt
namespace Go.Proofs.YtegeaemkkbenfaaDoor.walPlays
open Go.ChangeShapes Go.WideShapes Go.ChangeAt Go.RowKit Go.Proofs.YtegeaemkkbenfaaDoor.Open Go.Proofs.YtegeaemkkbenfaaDoorW.PrintWords
open Go.ChangeMaps (open_string shut_string)
set_option linter.unusedVariables false
theorem own : ownKnob Tryd.prog.godebug = none := by kernel_rfl
theorem laidOut : laidOutB Tryd.prog = true := by kernel_rfl
theorem opens_I {H : Type} {enc : TypeId × Value → H} {w : World} {base : Nat} {spare : Nat → Bool} {held : Bool} : Opens enc Tryd.prog w base spare held (Kd.int .i64) (fun _ => True) 3 := by
  intro n cs y h
  obtain ⟨x, k, _⟩ := opens_int Tryd.underlying3 n cs y h
  exact ⟨x, k, trivial⟩
set_option maxRecDepth 100000 in
/-- An act that is read. -/
theorem opens_A {H : Type} {enc : TypeId × Value → H} {w : World} {base : Nat} {spare : Nat → Bool} {held : Bool} : Opens enc Tryd.prog w base spare held Ownd.kWA (fun _ => True) 46 := by
  intro m cs y hf
  have c3 : Tryd.prog.cellsOf 3 = 1 := by kernel_rfl
  have c9 : Tryd.prog.cellsOf 9 = 1 := by kernel_rfl
  have cI : Tryd.prog.cellsOf 44 = 1 := by kernel_rfl
  have cA : Tryd.prog.cellsOf 46 = 4 := by kernel_rfl
  obtain ⟨y0, y1, y2, y3, m', _, hlen, g0, g1, g2, g3⟩ := Go.Joins.trod_struct4 Tryd.underlying46 hf
  rw [cA] at hlen
  match cs, hlen with
  | [x0, x1, x2, x3], _ =>
    simp only [c3] at g0
    simp only [c9] at g1
    simp only [c3] at g2
    simp only [cI] at g3
    replace g0 : DataW.trod enc Tryd.prog w base spare held m' 3 [x0] = some y0 := g0
    replace g1 : DataW.trod enc Tryd.prog w base spare held m' 9 [x1] = some y1 := g1
    replace g2 : DataW.trod enc Tryd.prog w base spare held m' 3 [x2] = some y2 := g2
    replace g3 : DataW.trod enc Tryd.prog w base spare held m' 44 [x3] = some y3 := g3
    obtain ⟨a, k0, _⟩ := DataW.trod_int Tryd.underlying3 g0
    obtain ⟨b, k1, _⟩ := DataW.trod_string Tryd.underlying9 g1
    obtain ⟨c, k2, _⟩ := DataW.trod_int Tryd.underlying3 g2
    obtain ⟨l, ⟨B, cb, k3, hle, hC⟩, _⟩ := opens_slice (e' := 3) Tryd.underlying44 (by kernel_rfl) opens_I m' [x3] y3 g3
    obtain rfl := (List.cons.inj k0).1
    obtain rfl := (List.cons.inj k1).1
    obtain rfl := (List.cons.inj k2).1
    obtain rfl := (List.cons.inj k3).1
    exact ⟨(a, b, c, l), Ownd.kWA_mk (a, b, c, l) B cb hle hC, trivial⟩
/-- The table lies as the row says. -/
theorem tab_of {W : World} (h : laidMetH Tryd.prog Rows.walPlaysRow.laid W) : Ownd.Tab W := by
  rw [MakeChecks.laidMetH_plain _ _ _ (by kernel_rfl)] at h
  obtain ⟨ps, hv, _⟩ := h
  obtain ⟨g, t, cs, fuel, p, q, g1, g2, g3, g4, _⟩ := hv
  have hg : Tryd.prog.globalNamed "concordance/sum.turns" = some 0 := by kernel_rfl
  obtain rfl := Option.some.inj (hg.symm.trans g1)
  have ht : (Tryd.prog.globals[0]?).map (·.type) = some 118 := by kernel_rfl
  obtain rfl := Option.some.inj (ht.symm.trans g2)
  have hd : (Rows.laid_concordance_sum_turns : DataW Unit) = Lib.tabData .u32 Ownd.turnsL := by rfl
  rw [hd] at g4
  have hc := Lib.cells_of_tab (n := 16) Tryd.underlying118 Tryd.underlying110 (by kernel_rfl) (by kernel_rfl) g4
  unfold Ownd.Tab Lib.TabIs
  rw [g3, ← hc]
set_option maxRecDepth 100000 in
theorem lifted (os : Os) (started : os.Started) (H : Type) (enc : TypeId × Value → H) :
    ReturnsInHanded {} Tryd.checked os 7 .any (fun w args => (Rows.walPlaysSpec.pre enc Tryd.prog Tryd.f7 Rows.walPlaysRow.domain false w args ∧ laidMetH Tryd.prog Rows.walPlaysRow.laid w) ∧ sizedMet enc Tryd.prog Tryd.f7 (OpenSpec.ofChange Rows.walPlaysSpec) false w args)
      (Rows.walPlaysSpec.post enc Tryd.prog Tryd.f7 false true false false) := by
  refine returnsInHanded_of_change_and (C := Tryd.checked) (X := fun w _ => laidMetH Tryd.prog Rows.walPlaysRow.laid w) (fun _ _ _ hh h => h.of_heap hh) own started (by kernel_rfl) Tryd.func7
    (ChangeSpec.witness_shaped (enc := enc) (C := Tryd.checked) (os := os) (X := fun w _ => laidMetH Tryd.prog Rows.walPlaysRow.laid w) false (World.laidAll Tryd.prog os Rows.walPlaysRow.laid) #[.slice none 0 0, .int .i64 0] 8 (World.laidAll_os _ _ _)
      (World.shaped_of_ZipB (by kernel_rfl) (by kernel_rfl)) (by kernel_rfl) (by kernel_rfl) (by kernel_rfl)
      (by rw [MakeChecks.laidMetH_plain _ _ _ (by kernel_rfl)]; exact laidMet_laidAll _ (by kernel_rfl) (by kernel_rfl))) ?_
  intro W base args ds gs before hval0 hW hc _ hL _
  have hval : ∀ (j : Nat) t v, Tryd.f7.params[j]? = some t → args[j]? = some v → Value.okWide Tryd.prog W .any base t v := hval0
  have hW' := hW
  obtain ⟨p, q, hA0, hV, rfl, hfz, hnd⟩ := hW
  have hA : DataW.TrodAll enc Tryd.prog W 0 (fun _ => true) true Tryd.f7.params.toList args.toList ds p := hA0
  rw [Tryd.params7] at hA hval
  obtain ⟨v0, vs0, d0, ds0, p0, q0, hargs0, rfl, rfl, h0, r0⟩ := trodAll_cons hA
  obtain ⟨v1, vs1, d1, ds1, p1, q1, hargs1, rfl, rfl, h1, r1⟩ := trodAll_cons r0
  obtain ⟨rfl, rfl, rfl⟩ := trodAll_nil r1
  obtain rfl : args = #[v0, v1] := by cases args; simp_all
  obtain ⟨rfl, rfl⟩ := trodVars_none hV
  have hT := tab_of hL
  obtain ⟨a1, rfl, rfl, rfl, y1⟩ := open_int Tryd.underlying3 (hval 1 3 v1 rfl rfl) h1
  obtain ⟨A0, len0, cap0, rfl⟩ := okWide_slice Tryd.underlying48 (hval 0 48 v0 rfl rfl)
  have k0 := h0
  have lt0 : ∀ x ∈ p0, x.block < W.heap.size := by obtain ⟨m, hm⟩ := k0; exact DataW.trod_lt m _ _ _ hm
  obtain ⟨l0, hlen0, hcap0, _, hC0, _⟩ : ∃ xs : List Ownd.WA, xs.length = len0 ∧ len0 ≤ cap0 ∧ len0 ≤ maxLen ∧ Ownd.kWA.C W A0 xs.length xs ∧ ∀ x ∈ xs, True := by
    obtain ⟨fuel, hf⟩ := h0
    exact opens_row Tryd.underlying48 (by kernel_rfl) opens_A hf
  subst hlen0
  clear hA0 hval0 hL
  refine (Ownd.plays_calls hT A0 cap0 l0 a1 hC0 hcap0).mono fun e W' ⟨he, bel⟩ => ?_
  subst he
  exact ⟨_, rfl, _, _, _, [], _, [], hW', trodAll_mk1 (shut_bool Tryd.underlying4 _), (trodAll_cons_mk (Below.trod laidOut (by kernel_rfl) (of_decide_eq_true (by kernel_rfl)) k0 bel lt0) (trodAll_cons_mk (shut_int Tryd.underlying3 y1) trodAll_mk0)), rfl, bel.frame _, fun h => by cases h⟩
theorem over : Rows.walPlaysRow.holds Tryd.pinned (OpenSpec.ofChange Rows.walPlaysSpec) :=
  OpenClaim.holds_of_wide 7 Tryd.f7 rfl rfl rfl rfl rfl rfl rfl ⟨rfl, rfl, rfl, rfl, rfl⟩ rfl rfl rfl rfl rfl (by kernel_rfl) Tryd.func7 (by kernel_rfl)
    (of_decide_eq_true (by kernel_rfl)) (by unfold Func.isWrapper; first | (rw [if_pos (by decide +kernel)]; kernel_rfl) | (rw [if_neg (by decide +kernel)]; exact ⟨rfl, rfl⟩))
    (fun os started H enc _ => lifted os started H enc)
end Go.Proofs.YtegeaemkkbenfaaDoor.walPlays
namespace Go.Proofs.YtegeaemkkbenfaaDoor
open Go
/-- The card: the row, and its listed variables tied to the program's text. -/
theorem walPlays_card_holds : Rows.WalPlaysCardSaid :=
  Claim7.holds_tied_plain_at .later [] [.data] true (true, "15d962b43baf39bf39019e21669393fb36bfcc22b21e885ee3881ee55d88bbc8") false
    walPlays.over (fun _ h => by cases h) (by kernel_rfl) (fun _ h => by cases h) walPlays_row_tie rfl ⟨rfl, rfl⟩ (by kernel_rfl) rfl
    (fun f fn hf hfn => by
      obtain rfl : f = 7 := Option.some.inj ((show Tryd.prog.funcNamed "concordance/concordancelaw08.WalPlays" = some 7 by kernel_rfl).symm.trans hf) |>.symm
      obtain rfl : fn = Tryd.f7 := (Option.some.inj (Tryd.func7.symm.trans hfn)).symm
      exact ⟨by kernel_rfl, fun j t ht => by
        rw [Tryd.params7] at ht
        have hm : t ∈ [48, 3] := by simpa using Array.mem_of_getElem? ht
        have hall : ([48, 3].all fun u => !Tryd.prog.wantsStandIn u) = true := by kernel_rfl
        exact (show Tryd.prog.wantsStandIn t = false by simpa using List.all_eq_true.1 hall t hm)⟩)
    (by kernel_rfl)
#print axioms walPlays_card_holds
end Go.Proofs.YtegeaemkkbenfaaDoor
