/- The statement TupleEntries (its tied card): whatever value, number and bytes come in, the law returns true and its arguments read afterwards as they read before. No condition. -/
import Derived.Test.YtcpehlllgfffkaaDoorPureTupleEntries
import Derived.Test.YtcpehlllgfffkaaDoorTie
import Derived.Test.YtcpehlllgfffkaaDoorCards
import Derived.WalkKit
import Derived.ProofKit
import Derived.OpenShut
import Derived.ShutString
import Derived.ChangeOld
import Derived.ChangeSame
import Derived.Below
import Derived.SizedLaws
import Derived.LaidMore
import Derived.Lay
import Derived.Deep.Strs
import Derived.SevenTiedAt
namespace Go.Proofs.YtcpehlllgfffkaaDoor.tupleEntries
open Go.ChangeShapes Go.WideShapes Go.ChangeAt Go.RowKit
open Go.ChangeMaps (open_string shut_string)
set_option linter.unusedVariables false
theorem own : ownKnob Tryd.prog.godebug = none := by kernel_rfl
theorem laidOut : laidOutB Tryd.prog = true := by kernel_rfl
set_option maxRecDepth 100000 in
/-- A value that comes in: its text, its number, its kind. -/
theorem open_value {H : Type} {enc : TypeId × Value → H} {w : World} {base : Nat} {spare : Nat → Bool} {held : Bool} {v : Value} {d : DataW H} {p : List MemPlace} {r : Reach} {b : Nat} (hv : Value.okWide Tryd.prog w r b 23 v) (h : DataW.Trod enc Tryd.prog w base spare held 23 v d p) :
    ∃ (s : ByteArray) (n : Int) (t : Bool), v = .agg #[.string s, .int .i64 n, .bool t] := by
  obtain ⟨cs, rfl, hl⟩ := okWide_struct Tryd.underlying23 hv
  obtain ⟨fuel, hf⟩ := h
  have hc : (Value.agg cs).cells.toList = cs.toList := by simp only [Value.cells]
  rw [hc] at hf
  obtain ⟨y0, y1, y2, m, _, hlen, g0, g1, g2⟩ := Go.Deep.trod_struct3 Tryd.underlying23 hf
  have c9 : Tryd.prog.cellsOf 9 = 1 := by kernel_rfl
  have c3 : Tryd.prog.cellsOf 3 = 1 := by kernel_rfl
  have c4 : Tryd.prog.cellsOf 4 = 1 := by kernel_rfl
  have cV : Tryd.prog.cellsOf 23 = 3 := by kernel_rfl
  obtain ⟨s, e0, _⟩ := DataW.trod_string Tryd.underlying9 g0
  obtain ⟨n, e1, _⟩ := DataW.trod_int Tryd.underlying3 g1
  obtain ⟨t, e2, _⟩ := DataW.trod_bool Tryd.underlying4 g2
  refine ⟨s, n, t, ?_⟩
  rw [cV] at hlen
  have hcs : cs.toList = [.string s, .int .i64 n, .bool t] := by
    match hq : cs.toList, hlen with
    | [a, b, c], _ =>
      rw [hq] at e0 e1 e2
      simp only [c9] at e0
      simp only [c3] at e1
      simp only [c4] at e2
      have k0 : [a] = [.string s] := e0
      have k1 : [b] = [.int .i64 n] := e1
      have k2 : [c] = [.bool t] := e2
      rw [(List.cons.inj k0).1, (List.cons.inj k1).1, (List.cons.inj k2).1]
  have : cs = #[.string s, .int .i64 n, .bool t] := by
    apply Array.ext'
    rw [hcs]
  rw [this]
set_option maxRecDepth 100000 in
theorem lifted (os : Os) (started : os.Started) (H : Type) (enc : TypeId × Value → H) :
    ReturnsInHanded {} Tryd.checked os 5 .any (fun w args => (Rows.tupleEntriesSpec.pre enc Tryd.prog Tryd.f5 Rows.tupleEntriesRow.domain false w args ∧ laidMetH Tryd.prog Rows.tupleEntriesRow.laid w) ∧ sizedMet enc Tryd.prog Tryd.f5 (OpenSpec.ofChange Rows.tupleEntriesSpec) false w args)
      (Rows.tupleEntriesSpec.post enc Tryd.prog Tryd.f5 false true false false) := by
  refine returnsInHanded_of_change_and (C := Tryd.checked) (X := fun w _ => laidMetH Tryd.prog Rows.tupleEntriesRow.laid w) (fun _ _ _ hh h => h.of_heap hh) own started (by kernel_rfl) Tryd.func5
    (ChangeSpec.witness_shaped (enc := enc) (C := Tryd.checked) (os := os) (X := fun w _ => laidMetH Tryd.prog Rows.tupleEntriesRow.laid w) false (World.laidAll Tryd.prog os Rows.tupleEntriesRow.laid) #[.agg #[.string ByteArray.empty, .int .i64 0, .bool false], .int .i64 0, .string ByteArray.empty] 8 (World.laidAll_os _ _ _)
      (World.shaped_of_ZipB (by kernel_rfl) (by kernel_rfl)) (by kernel_rfl) (by kernel_rfl) (by kernel_rfl)
      (by rw [MakeChecks.laidMetH_plain _ _ _ (by kernel_rfl)]; exact laidMet_laidAll _ (by kernel_rfl) (by kernel_rfl))) ?_
  intro W base args ds gs before hval0 hW hc _ hL _
  have hval : ∀ (j : Nat) t v, Tryd.f5.params[j]? = some t → args[j]? = some v → Value.okWide Tryd.prog W .any base t v := hval0
  have hW' := hW
  obtain ⟨p, q, hA0, hV, rfl, hfz, hnd⟩ := hW
  have hA : DataW.TrodAll enc Tryd.prog W 0 (fun _ => true) true Tryd.f5.params.toList args.toList ds p := hA0
  rw [Tryd.params5] at hA hval
  obtain ⟨v0, vs0, d0, ds0, p0, q0, hargs0, rfl, rfl, h0, r0⟩ := trodAll_cons hA
  obtain ⟨v1, vs1, d1, ds1, p1, q1, hargs1, rfl, rfl, h1, r1⟩ := trodAll_cons r0
  obtain ⟨v2, vs2, d2, ds2, p2, q2, hargs2, rfl, rfl, h2, r2⟩ := trodAll_cons r1
  obtain ⟨rfl, rfl, rfl⟩ := trodAll_nil r2
  obtain rfl : args = #[v0, v1, v2] := by cases args; simp_all
  obtain ⟨rfl, rfl⟩ := trodVars_none hV
  obtain ⟨s, n, t, rfl⟩ := open_value (hval 0 23 v0 rfl rfl) h0
  obtain ⟨a1, rfl, rfl, rfl, w1⟩ := open_int Tryd.underlying3 (hval 1 3 v1 rfl rfl) h1
  obtain ⟨a2, rfl, rfl, rfl, y2⟩ := open_string Tryd.underlying9 (hval 2 9 v2 rfl rfl) h2
  have k0 := h0
  have lt0 : ∀ x ∈ p0, x.block < W.heap.size := by obtain ⟨m, hm⟩ := k0; exact DataW.trod_lt m _ _ _ hm
  clear hA0 hval0 hL
  obtain ⟨K, hK⟩ := GT.entries_true s n t a1 a2
  refine (GT.concordancelaw19_TupleEntries.calls K s n t a1 a2 true W hK).mono fun e W' ⟨he, bel⟩ => ?_
  subst he
  exact ⟨_, rfl, _, _, _, [], _, [], hW', trodAll_mk1 (shut_bool Tryd.underlying4 _), (trodAll_cons_mk (Below.trod laidOut (by kernel_rfl) (of_decide_eq_true (by kernel_rfl)) k0 bel lt0) (trodAll_cons_mk (shut_int Tryd.underlying3 w1) (trodAll_cons_mk (shut_string Tryd.underlying9 y2) trodAll_mk0))), rfl, bel.frame _, fun h => by cases h⟩
theorem over : Rows.tupleEntriesRow.holds Tryd.pinned (OpenSpec.ofChange Rows.tupleEntriesSpec) :=
  OpenClaim.holds_of_wide 5 Tryd.f5 rfl rfl rfl rfl rfl rfl rfl ⟨rfl, rfl, rfl, rfl, rfl⟩ rfl rfl rfl rfl rfl (by kernel_rfl) Tryd.func5 (by kernel_rfl)
    (of_decide_eq_true (by kernel_rfl)) (by unfold Func.isWrapper; first | (rw [if_pos (by decide +kernel)]; kernel_rfl) | (rw [if_neg (by decide +kernel)]; exact ⟨rfl, rfl⟩))
    (fun os started H enc _ => lifted os started H enc)
end Go.Proofs.YtcpehlllgfffkaaDoor.tupleEntries
namespace Go.Proofs.YtcpehlllgfffkaaDoor
open Go
/-- The card: the row, and its listed variables tied to the program's text. -/
theorem tupleEntries_card_holds : Rows.TupleEntriesCardSaid :=
  Claim7.holds_tied_plain_at .later [] [.data, .data, .data] true (true, "ad1b43c5a1d40cf88a024c910d1b90b19792f9c30d9e3ca949ce3ce891cc635f") false
    tupleEntries.over (fun _ h => by cases h) (by kernel_rfl) (fun _ h => by cases h) tupleEntries_row_tie rfl ⟨rfl, rfl⟩ (by kernel_rfl) rfl
    (fun f fn hf hfn => by
      obtain rfl : f = 5 := Option.some.inj ((show Tryd.prog.funcNamed "concordance/concordancelaw19.TupleEntries" = some 5 by kernel_rfl).symm.trans hf) |>.symm
      obtain rfl : fn = Tryd.f5 := (Option.some.inj (Tryd.func5.symm.trans hfn)).symm
      exact ⟨by kernel_rfl, fun j t ht => by
        rw [Tryd.params5] at ht
        have hm : t ∈ [23, 3, 9] := by simpa using Array.mem_of_getElem? ht
        have hall : ([23, 3, 9].all fun u => !Tryd.prog.wantsStandIn u) = true := by kernel_rfl
        exact (show Tryd.prog.wantsStandIn t = false by simpa using List.all_eq_true.1 hall t hm)⟩)
    (by kernel_rfl)
#print axioms tupleEntries_card_holds
end Go.Proofs.YtcpehlllgfffkaaDoor
