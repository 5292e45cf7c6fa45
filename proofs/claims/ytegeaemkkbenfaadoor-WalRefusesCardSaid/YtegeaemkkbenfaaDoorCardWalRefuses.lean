/- The statement WalRefuses (its tied card): whatever the arguments, the law returns true and its arguments read afterwards as they read before. No condition. -/
import Derived.Test.YtegeaemkkbenfaaDoorWRefuses
import Derived.Test.YtegeaemkkbenfaaDoorHOpen
import Derived.Test.YtegeaemkkbenfaaDoorTie
import Derived.Test.YtegeaemkkbenfaaDoorCards
import Derived.WalkKit
import Derived.ProofKit
import Derived.OpenShut
import Derived.Deep.Strs
import Derived.Lib.SmallJoins
import Derived.ShutString
import Derived.ChangeOld
import Derived.ChangeSame
import Derived.Below
import Derived.SizedLaws
import Derived.LaidMore
import Derived.Lay
import Derived.Lib.LaidTab
import Derived.MakeChecks
import Derived.SevenTiedAt
namespace Go.Proofs.YtegeaemkkbenfaaDoor.walRefuses
open Go.ChangeShapes Go.WideShapes Go.ChangeAt Go.RowKit Go.Proofs.YtegeaemkkbenfaaDoor.Open Go.Proofs.YtegeaemkkbenfaaDoorW.PrintWords
open Go.ChangeMaps (open_string shut_string)
set_option linter.unusedVariables false
theorem own : ownKnob Tryd.prog.godebug = none := by kernel_rfl
theorem laidOut : laidOutB Tryd.prog = true := by kernel_rfl
/-- The table lies as the row says. -/
theorem tab_of {W : World} (h : laidMetH Tryd.prog Rows.walRefusesRow.laid W) : Ownd.Tab W := by
  rw [MakeChecks.laidMetH_plain _ _ _ (by kernel_rfl)] at h
  obtain ⟨ps, hv, _⟩ := h
  obtain ⟨g, t, cs, fuel, p, q, g1, g2, g3, g4, _⟩ := hv
  have hg : Tryd.prog.globalNamed "concordance/sum.turns" = some 0 := by kernel_rfl
  obtain rfl := Option.some.inj (hg.symm.trans g1)
  have ht : (Tryd.prog.globals[0]?).map (·.type) = some 118 := by kernel_rfl
  obtain rfl := Option.some.inj (ht.symm.trans g2)
  have hd : (Rows.laid_concordance_sum_turns : DataW Unit) = Lib.tabData .u32 Ownd.turnsL := by rfl
  rw [hd] at g4
  have hc := Lib.cells_of_tab (n := 16) Tryd.underlying118 Tryd.underlying110 (by kernel_rfl) (by kernel_rfl) g4
  unfold Ownd.Tab Lib.TabIs
  rw [g3, ← hc]
set_option maxRecDepth 100000 in
theorem lifted (os : Os) (started : os.Started) (H : Type) (enc : TypeId × Value → H) :
    ReturnsInHanded {} Tryd.checked os 4 .any (fun w args => (Rows.walRefusesSpec.pre enc Tryd.prog Tryd.f4 Rows.walRefusesRow.domain false w args ∧ laidMetH Tryd.prog Rows.walRefusesRow.laid w) ∧ sizedMet enc Tryd.prog Tryd.f4 (OpenSpec.ofChange Rows.walRefusesSpec) false w args)
      (Rows.walRefusesSpec.post enc Tryd.prog Tryd.f4 false true false false) := by
  refine returnsInHanded_of_change_and (C := Tryd.checked) (X := fun w _ => laidMetH Tryd.prog Rows.walRefusesRow.laid w) (fun _ _ _ hh h => h.of_heap hh) own started (by kernel_rfl) Tryd.func4
    (ChangeSpec.witness_shaped (enc := enc) (C := Tryd.checked) (os := os) (X := fun w _ => laidMetH Tryd.prog Rows.walRefusesRow.laid w) false (World.laidAll Tryd.prog os Rows.walRefusesRow.laid) #[.int .i64 0, .int .i64 0, .int .i64 0] 8 (World.laidAll_os _ _ _)
      (World.shaped_of_ZipB (by kernel_rfl) (by kernel_rfl)) (by kernel_rfl) (by kernel_rfl) (by kernel_rfl)
      (by rw [MakeChecks.laidMetH_plain _ _ _ (by kernel_rfl)]; exact laidMet_laidAll _ (by kernel_rfl) (by kernel_rfl))) ?_
  intro W base args ds gs before hval0 hW hc _ hL _
  have hval : ∀ (j : Nat) t v, Tryd.f4.params[j]? = some t → args[j]? = some v → Value.okWide Tryd.prog W .any base t v := hval0
  have hW' := hW
  obtain ⟨p, q, hA0, hV, rfl, hfz, hnd⟩ := hW
  have hA : DataW.TrodAll enc Tryd.prog W 0 (fun _ => true) true Tryd.f4.params.toList args.toList ds p := hA0
  rw [Tryd.params4] at hA hval
  obtain ⟨v0, vs0, d0, ds0, p0, q0, hargs0, rfl, rfl, h0, r0⟩ := trodAll_cons hA
  obtain ⟨v1, vs1, d1, ds1, p1, q1, hargs1, rfl, rfl, h1, r1⟩ := trodAll_cons r0
  obtain ⟨v2, vs2, d2, ds2, p2, q2, hargs2, rfl, rfl, h2, r2⟩ := trodAll_cons r1
  obtain ⟨rfl, rfl, rfl⟩ := trodAll_nil r2
  obtain rfl : args = #[v0, v1, v2] := by cases args; simp_all
  obtain ⟨rfl, rfl⟩ := trodVars_none hV
  have hT := tab_of hL
  obtain ⟨a0, rfl, rfl, rfl, y0⟩ := open_int Tryd.underlying3 (hval 0 3 v0 rfl rfl) h0
  obtain ⟨a1, rfl, rfl, rfl, y1⟩ := open_int Tryd.underlying3 (hval 1 3 v1 rfl rfl) h1
  obtain ⟨a2, rfl, rfl, rfl, y2⟩ := open_int Tryd.underlying3 (hval 2 3 v2 rfl rfl) h2
  clear hA0 hval0 hL
  refine (Ownd.refuses_calls hT a0 a1 a2).mono fun e W' ⟨he, bel⟩ => ?_
  subst he
  exact ⟨_, rfl, _, _, _, [], _, [], hW', trodAll_mk1 (shut_bool Tryd.underlying4 _), (trodAll_cons_mk (shut_int Tryd.underlying3 y0) (trodAll_cons_mk (shut_int Tryd.underlying3 y1) (trodAll_cons_mk (shut_int Tryd.underlying3 y2) trodAll_mk0))), rfl, bel.frame _, fun h => by cases h⟩
theorem over : Rows.walRefusesRow.holds Tryd.pinned (OpenSpec.ofChange Rows.walRefusesSpec) :=
  OpenClaim.holds_of_wide 4 Tryd.f4 rfl rfl rfl rfl rfl rfl rfl ⟨rfl, rfl, rfl, rfl, rfl⟩ rfl rfl rfl rfl rfl (by kernel_rfl) Tryd.func4 (by kernel_rfl)
    (of_decide_eq_true (by kernel_rfl)) (by unfold Func.isWrapper; first | (rw [if_pos (by decide +kernel)]; kernel_rfl) | (rw [if_neg (by decide +kernel)]; exact ⟨rfl, rfl⟩))
    (fun os started H enc _ => lifted os started H enc)
end Go.Proofs.YtegeaemkkbenfaaDoor.walRefuses
namespace Go.Proofs.YtegeaemkkbenfaaDoor
open Go
/-- The card: the row, and its listed variables tied to the program's text. -/
theorem walRefuses_card_holds : Rows.WalRefusesCardSaid :=
  Claim7.holds_tied_plain_at .later [] [.data] true (true, "15d962b43baf39bf39019e21669393fb36bfcc22b21e885ee3881ee55d88bbc8") false
    walRefuses.over (fun _ h => by cases h) (by kernel_rfl) (fun _ h => by cases h) walRefuses_row_tie rfl ⟨rfl, rfl⟩ (by kernel_rfl) rfl
    (fun f fn hf hfn => by
      obtain rfl : f = 4 := Option.some.inj ((show Tryd.prog.funcNamed "concordance/concordancelaw08.WalRefuses" = some 4 by kernel_rfl).symm.trans hf) |>.symm
      obtain rfl : fn = Tryd.f4 := (Option.some.inj (Tryd.func4.symm.trans hfn)).symm
      exact ⟨by kernel_rfl, fun j t ht => by
        rw [Tryd.params4] at ht
        have hm : t ∈ [3, 3, 3] := by simpa using Array.mem_of_getElem? ht
        have hall : ([3, 3, 3].all fun u => !Tryd.prog.wantsStandIn u) = true := by kernel_rfl
        exact (show Tryd.prog.wantsStandIn t = false by simpa using List.all_eq_true.1 hall t hm)⟩)
    (by kernel_rfl)
#print axioms walRefuses_card_holds
end Go.Proofs.YtegeaemkkbenfaaDoor
