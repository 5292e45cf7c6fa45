/- The statement TupleRows (its tied card): whatever columns and values come in, the law returns true and its arguments read afterwards as they read before. No condition. -/
import Derived.Test.YtcpehlllgfffkaaDoorPureTupleRows
import Derived.Test.YtcpehlllgfffkaaDoorHOpen
import Derived.Test.YtcpehlllgfffkaaDoorTie
import Derived.Test.YtcpehlllgfffkaaDoorCards
import Derived.WalkKit
import Derived.ProofKit
import Derived.OpenShut
import Derived.ShutString
import Derived.ChangeOld
import Derived.ChangeSame
import Derived.Below
import Derived.SizedLaws
import Derived.LaidMore
import Derived.Lay
import Derived.Deep.Strs
import Derived.Lib.LaidTab
import Derived.MakeChecks
import Derived.SevenTiedAt
namespace Go.Proofs.YtcpehlllgfffkaaDoor.tupleRows
open Go.ChangeShapes Go.WideShapes Go.ChangeAt Go.RowKit Go.Proofs.YtcpehlllgfffkaaDoor.Open Go.Proofs.YtcpehlllgfffkaaDoorW.PrintWords
open Go.ChangeMaps (open_string shut_string)
set_option linter.unusedVariables false
theorem own : ownKnob Tryd.prog.godebug = none := by kernel_rfl
theorem laidOut : laidOutB Tryd.prog = true := by kernel_rfl
set_option maxRecDepth 100000 in
/-- A value that is read: its text, its number, its kind. -/
theorem opens_V {H : Type} {enc : TypeId × Value → H} {w : World} {base : Nat} {spare : Nat → Bool} {held : Bool} : Opens enc Tryd.prog w base spare held GT.k23 (fun x => x.f1 ≤ 9223372036854775807) 23 := by
  intro m cs y hf
  obtain ⟨y0, y1, y2, m, _, hlen, g0, g1, g2⟩ := Go.Deep.trod_struct3 Tryd.underlying23 hf
  have c9 : Tryd.prog.cellsOf 9 = 1 := by kernel_rfl
  have c3 : Tryd.prog.cellsOf 3 = 1 := by kernel_rfl
  have c4 : Tryd.prog.cellsOf 4 = 1 := by kernel_rfl
  have cV : Tryd.prog.cellsOf 23 = 3 := by kernel_rfl
  obtain ⟨s, e0, _⟩ := DataW.trod_string Tryd.underlying9 g0
  obtain ⟨n, e1, _, wn⟩ := DataW.trod_int Tryd.underlying3 g1
  obtain ⟨t, e2, _⟩ := DataW.trod_bool Tryd.underlying4 g2
  have hn := bounds_i64 wn
  rw [cV] at hlen
  have hcs : cs = [.string s, .int .i64 n, .bool t] := by
    match cs, hlen, e0, e1, e2 with
    | [a, b, c], _, e0, e1, e2 =>
      simp only [c9] at e0
      simp only [c3] at e1
      simp only [c4] at e2
      have k0 : [a] = [.string s] := e0
      have k1 : [b] = [.int .i64 n] := e1
      have k2 : [c] = [.bool t] := e2
      rw [(List.cons.inj k0).1, (List.cons.inj k1).1, (List.cons.inj k2).1]
  refine ⟨⟨s, n, t⟩, ?_, hn.2⟩
  rw [hcs]
  exact GT.k23_mk w ⟨s, n, t⟩
instance : Inhabited GT.S23 := ⟨⟨ByteArray.empty, 0, false⟩⟩
set_option maxRecDepth 100000 in
/-- A column that is read: its name, its kind. -/
theorem opens_C {H : Type} {enc : TypeId × Value → H} {w : World} {base : Nat} {spare : Nat → Bool} {held : Bool} : Opens enc Tryd.prog w base spare held GT.k63 (fun _ => True) 63 := by
  intro m cs y hf
  obtain ⟨y0, y1, m, _, hlen, g0, g1⟩ := Go.ChangeShapes.trod_struct2 Tryd.underlying63 hf
  have c9 : Tryd.prog.cellsOf 9 = 1 := by kernel_rfl
  have c4 : Tryd.prog.cellsOf 4 = 1 := by kernel_rfl
  have cC : Tryd.prog.cellsOf 63 = 2 := by kernel_rfl
  obtain ⟨s, e0, _⟩ := DataW.trod_string Tryd.underlying9 g0
  obtain ⟨t, e1, _⟩ := DataW.trod_bool Tryd.underlying4 g1
  rw [cC] at hlen
  have hcs : cs = [.string s, .bool t] := by
    match cs, hlen, e0, e1 with
    | [a, b], _, e0, e1 =>
      simp only [c9] at e0 e1
      have k0 : [a] = [.string s] := e0
      have k1 : [b] = [.bool t] := e1
      rw [(List.cons.inj k0).1, (List.cons.inj k1).1]
  refine ⟨⟨s, t⟩, ?_, trivial⟩
  rw [hcs]
  exact GT.k63_mk w ⟨s, t⟩
instance : Inhabited GT.S63 := ⟨⟨ByteArray.empty, false⟩⟩
set_option maxRecDepth 100000 in
theorem lifted (os : Os) (started : os.Started) (H : Type) (enc : TypeId × Value → H) :
    ReturnsInHanded {} Tryd.checked os 7 .any (fun w args => (Rows.tupleRowsSpec.pre enc Tryd.prog Tryd.f7 Rows.tupleRowsRow.domain false w args ∧ laidMetH Tryd.prog Rows.tupleRowsRow.laid w) ∧ sizedMet enc Tryd.prog Tryd.f7 (OpenSpec.ofChange Rows.tupleRowsSpec) false w args)
      (Rows.tupleRowsSpec.post enc Tryd.prog Tryd.f7 false true false false) := by
  refine returnsInHanded_of_change_and (C := Tryd.checked) (X := fun w _ => laidMetH Tryd.prog Rows.tupleRowsRow.laid w) (fun _ _ _ hh h => h.of_heap hh) own started (by kernel_rfl) Tryd.func7
    (ChangeSpec.witness_shaped (enc := enc) (C := Tryd.checked) (os := os) (X := fun w _ => laidMetH Tryd.prog Rows.tupleRowsRow.laid w) false (World.laidAll Tryd.prog os Rows.tupleRowsRow.laid) #[.slice none 0 0, .slice none 0 0] 8 (World.laidAll_os _ _ _)
      (World.shaped_of_ZipB (by kernel_rfl) (by kernel_rfl)) (by kernel_rfl) (by kernel_rfl) (by kernel_rfl)
      (by rw [MakeChecks.laidMetH_plain _ _ _ (by kernel_rfl)]; exact laidMet_laidAll _ (by kernel_rfl) (by kernel_rfl))) ?_
  intro W base args ds gs before hval0 hW hc _ hL _
  have hval : ∀ (j : Nat) t v, Tryd.f7.params[j]? = some t → args[j]? = some v → Value.okWide Tryd.prog W .any base t v := hval0
  have hW' := hW
  obtain ⟨p, q, hA0, hV, rfl, hfz, hnd⟩ := hW
  have hA : DataW.TrodAll enc Tryd.prog W 0 (fun _ => true) true Tryd.f7.params.toList args.toList ds p := hA0
  rw [Tryd.params7] at hA hval
  obtain ⟨v0, vs0, d0, ds0, p0, q0, hargs0, rfl, rfl, h0, r0⟩ := trodAll_cons hA
  obtain ⟨v1, vs1, d1, ds1, p1, q1, hargs1, rfl, rfl, h1, r1⟩ := trodAll_cons r0
  obtain ⟨rfl, rfl, rfl⟩ := trodAll_nil r1
  obtain rfl : args = #[v0, v1] := by cases args; simp_all
  obtain ⟨rfl, rfl⟩ := trodVars_none hV
  obtain ⟨A0, len0, cap0, rfl⟩ := okWide_slice Tryd.underlying57 (hval 0 57 v0 rfl rfl)
  obtain ⟨A1, len1, cap1, rfl⟩ := okWide_slice Tryd.underlying49 (hval 1 49 v1 rfl rfl)
  have k0 := h0
  have lt0 : ∀ x ∈ p0, x.block < W.heap.size := by obtain ⟨m, hm⟩ := k0; exact DataW.trod_lt m _ _ _ hm
  have k1 := h1
  have lt1 : ∀ x ∈ p1, x.block < W.heap.size := by obtain ⟨m, hm⟩ := k1; exact DataW.trod_lt m _ _ _ hm
  obtain ⟨l0, hlen0, hcap0, _, hC0, _⟩ : ∃ xs : List GT.S63, xs.length = len0 ∧ len0 ≤ cap0 ∧ len0 ≤ maxLen ∧ GT.k63.C W A0 xs.length xs ∧ ∀ x ∈ xs, True := by
    obtain ⟨fuel, hf⟩ := h0
    exact opens_row Tryd.underlying57 (by kernel_rfl) opens_C hf
  obtain ⟨l1, hlen1, hcap1, _, hC1, _⟩ : ∃ xs : List GT.S23, xs.length = len1 ∧ len1 ≤ cap1 ∧ len1 ≤ maxLen ∧ GT.k23.C W A1 xs.length xs ∧ ∀ x ∈ xs, x.f1 ≤ 9223372036854775807 := by
    obtain ⟨fuel, hf⟩ := h1
    exact opens_row Tryd.underlying49 (by kernel_rfl) opens_V hf
  subst hlen0 hlen1
  clear hA0 hval0 hL
  refine (GT.concordancelaw19_TupleRows.calls 60000 A0 cap0 l0 A1 cap1 l1 true W hC0 hcap0 hC1 hcap1 (GT.rows_true l0 l1)).mono fun e W' ⟨he, bel⟩ => ?_
  subst he
  exact ⟨_, rfl, _, _, _, [], _, [], hW', trodAll_mk1 (shut_bool Tryd.underlying4 _), (trodAll_cons_mk (Below.trod laidOut (by kernel_rfl) (of_decide_eq_true (by kernel_rfl)) k0 bel lt0) (trodAll_cons_mk (Below.trod laidOut (by kernel_rfl) (of_decide_eq_true (by kernel_rfl)) k1 bel lt1) trodAll_mk0)), rfl, bel.frame _, fun h => by cases h⟩
theorem over : Rows.tupleRowsRow.holds Tryd.pinned (OpenSpec.ofChange Rows.tupleRowsSpec) :=
  OpenClaim.holds_of_wide 7 Tryd.f7 rfl rfl rfl rfl rfl rfl rfl ⟨rfl, rfl, rfl, rfl, rfl⟩ rfl rfl rfl rfl rfl (by kernel_rfl) Tryd.func7 (by kernel_rfl)
    (of_decide_eq_true (by kernel_rfl)) (by unfold Func.isWrapper; first | (rw [if_pos (by decide +kernel)]; kernel_rfl) | (rw [if_neg (by decide +kernel)]; exact ⟨rfl, rfl⟩))
    (fun os started H enc _ => lifted os started H enc)
end Go.Proofs.YtcpehlllgfffkaaDoor.tupleRows
namespace Go.Proofs.YtcpehlllgfffkaaDoor
open Go
/-- The card: the row, and its listed variables tied to the program's text. -/
theorem tupleRows_card_holds : Rows.TupleRowsCardSaid :=
  Claim7.holds_tied_plain_at .later [] [.data, .data, .data] true (true, "ad1b43c5a1d40cf88a024c910d1b90b19792f9c30d9e3ca949ce3ce891cc635f") false
    tupleRows.over (fun _ h => by cases h) (by kernel_rfl) (fun _ h => by cases h) tupleRows_row_tie rfl ⟨rfl, rfl⟩ (by kernel_rfl) rfl
    (fun f fn hf hfn => by
      obtain rfl : f = 7 := Option.some.inj ((show Tryd.prog.funcNamed "concordance/concordancelaw19.TupleRows" = some 7 by kernel_rfl).symm.trans hf) |>.symm
      obtain rfl : fn = Tryd.f7 := (Option.some.inj (Tryd.func7.symm.trans hfn)).symm
      exact ⟨by kernel_rfl, fun j t ht => by
        rw [Tryd.params7] at ht
        have hm : t ∈ [57, 49] := by simpa using Array.mem_of_getElem? ht
        have hall : ([57, 49].all fun u => !Tryd.prog.wantsStandIn u) = true := by kernel_rfl
        exact (show Tryd.prog.wantsStandIn t = false by simpa using List.all_eq_true.1 hall t hm)⟩)
    (by kernel_rfl)
#print axioms tupleRows_card_holds
end Go.Proofs.YtcpehlllgfffkaaDoor
