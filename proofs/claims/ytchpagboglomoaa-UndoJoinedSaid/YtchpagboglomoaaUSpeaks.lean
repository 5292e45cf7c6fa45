/- law22.speaks: true, whatever the memory. No condition. -/
import Derived.Test.YtchpagboglomoaaUReplayB
import Derived.Test.YtchpagboglomoaaUState
namespace Go.Proofs.Ytchpagboglomoaa.Ownd
open Go.RowKit Go.Proofs.Ytchpagboglomoaa.GP.MU Go.Proofs.Ytchpagboglomoaa.GP Go.Proofs.YtchpagboglomoaaW.PrintWords Go.Proofs.YtchpagboglomoaaW.PrintLast Go.Proofs.YtchpagboglomoaaW.PrintMore
set_option linter.unusedVariables false
set_option linter.unusedSimpArgs false
/-- A literal of some elements, ahead of all else. -/
theorem Own.lit_many {α : Type} {w W : World} {l : List Thing} (d : Kd α) (hflat : ∀ (W W' : World) (x : α) (c : List Value), d.K W x c → d.K W' x c) (hO : Own w W l) (e : TypeId) (xs : List α) (cs : List Value) (hK : Reps (fun x c => d.K W x c) d.sz xs cs) (hl : xs.length ≤ 1000) :
    Own w (W.alloc (.cells cs.toArray e)) (.row d e (.slice (some ⟨W.heap.size, 0, none⟩) xs.length xs.length) xs :: l) := by
  have hlen := hK.1
  have h : (W.alloc (.cells cs.toArray e)).ownsRow W.heap.size e d.sz (.slice (some ⟨W.heap.size, 0, none⟩) xs.length xs.length) xs.length cs :=
    ⟨hlen, .inr ⟨W.heap.size, xs.length, cs.toArray, rfl, Nat.le_refl _, blk_new W _, Nat.le_refl _, by unfold maxLen; omega, by simp [hlen], by simp [← hlen]⟩⟩
  have hN : Kd.N d e (W.alloc (.cells cs.toArray e)) W.heap.size (fun k => W.heap.size ≤ k) (.slice (some ⟨W.heap.size, 0, none⟩) xs.length xs.length) xs := by
    refine own_N (inner := cs) hflat h rfl (hK.imp_ (fun x c hk => hflat _ _ _ _ hk)) (fun k hk => ?_)
    have : W.heap.size = k := by simpa [Value.ownBlock] using hk
    omega
  exact hO.room.row_new 0 rfl (below_alloc (Below.refl _ _) _) hN (fun k hk => hk)
theorem recs_row {w : World} {l : List Thing} {j e c : Nat} {A : Option Addr} {rs : List Rc} (hj : l[j]? = some (.row kR e (.slice A rs.length c) rs)) : RecsIn w l A rs := fun W' t h => by
  obtain ⟨A', c', e', -, hC⟩ := h.reads (t.length + j) (by rw [List.getElem?_append_right (by omega), Nat.add_sub_cancel_left]; exact hj)
  obtain rfl := (Value.slice.inj e').1
  exact hC
theorem repsR : ∀ (W : World) (rs : List Rc), Reps (fun x c => kR.K W x c) kR.sz rs (rs.flatMap rcCells)
  | W, [] => Reps.none _ _
  | W, r :: t => by
    have h1 : Reps (fun x c => kR.K W x c) kR.sz [r] (rcCells r) := by
      refine ⟨rfl, fun j x hj => ?_⟩
      cases j with
      | zero =>
        obtain rfl : r = x := by simpa using hj
        exact kR_mk W r
      | succ j => simp at hj
    exact Kd.reps_append h1 (repsR W t)
def spK : ByteArray := ⟨#[2, 0, 5, 107]⟩
def spR : List Rc := [(0, 4, ⟨#[]⟩, 0), (7, 1, spK, 0), (7, 1, ⟨#[]⟩, 1)]
theorem sp_put : putE (2, 5, ⟨#[107]⟩) = spK := by decide +kernel
theorem sp_replay : replayS spR = ([(7, [])], 0) := by
  unfold spR
  rfl
set_option maxHeartbeats 8000000 in
set_option maxRecDepth 100000 in
theorem speaks_calls (W : World) : Calls Try.prog 7 #[] W fun ex W' => ex = .returned (.bool true) ∧ Below W.heap.size W W' := by
  have HP := Aside0.mk (putE_calls 2 5 ⟨#[107]⟩ W)
  rw [sp_put] at HP
  have HO0 := Aside0.mk (Own.start W 0)
  go_enter Try.func7, Try.ntmps7
  go_upto_region 2 with (go_at_call 19; refine HP.out.mono ?_; rintro e w1 ⟨rfl, hb⟩; have HO := Aside0.mk (HO0.out.below hb); clear hb)
  have hO1 : Own W (w1.alloc (.cells (spR.flatMap rcCells).toArray 66)) [.row kR 66 (.slice (some ⟨w1.heap.size, 0, none⟩) 3 3) spR] := HO.out.lit_many kR flatR 66 spR _ (repsR w1 spR) (by decide)
  have HR := Aside0.mk (Replay_O hO1 (rs := spR) (c := 3) (recs_row (j := 0) rfl) (by decide) (by decide) (by decide) (by decide))
  rw [sp_replay] at HR
  have HR2 : Aside0 (Calls Try.prog 25 #[.slice (some ⟨w1.heap.size, 0, none⟩) 3 3] (w1.alloc (.cells (spR.flatMap rcCells).toArray 66)) fun ex W' => ∃ g, ex = .returned (.tuple #[.pointer (some ⟨g, 0, none⟩), .int .i64 0]) ∧ OpenOwn W W' g [(7, [])] [.row kR 66 (.slice (some ⟨w1.heap.size, 0, none⟩) 3 3) spR]) := ⟨HR.out.mono fun ex W' h => by
    rcases h with ⟨_, h⟩ | ⟨h, _⟩
    · exact h
    · exact absurd rfl h⟩
  clear HR hO1 HO0 HP
  go_upto_region 3 with (go_at_call 25; refine HR2.out.mono ?_; rintro e w2 ⟨g, rfl, hO2⟩; have HO2 := Aside0.mk hO2; clear hO2)
  obtain ⟨v, xs, F, hO2, hi⟩ := HO2.out
  have HT1 := Aside0.mk (txns_I hO2 (i := 0) (j := 1) (f := 2) ⟨rfl, rfl, by decide⟩ rfl hi (by decide))
  have HI := Aside0.mk hi
  clear HO2 hO2 hi HR2
  have hs : spK.toList = [2, 0, 5, 107] := toList_data spK
  have hs2 : (spK.toList == [2, 0, 5, 107]) = true := by rw [hs]; decide
  go_wp2_with fail
  refine HT1.out.mono ?_
  rintro e w3 ⟨A3, c3, rfl, hO3⟩
  have HO3 := Aside0.mk hO3
  have HT2 := Aside0.mk (txns_I hO3 (i := 1) (j := 2) (f := 3) ⟨rfl, rfl, by decide⟩ rfl HI.out (by decide))
  clear hO3 HT1
  go_wp2_with fail
  refine HT2.out.mono ?_
  rintro e w4 ⟨A4, c4, rfl, hO4⟩
  have HO4 := Aside0.mk hO4
  have HE := Aside0.mk (entries_I hO4 (i := 2) (j := 3) (f := 4) ⟨rfl, rfl, by decide⟩ rfl HI.out (by decide) 7 (by decide))
  obtain ⟨gT, cT2, eT, -, hx⟩ := hO4.int_at 0 rfl 0 (by decide)
  obtain rfl := (Value.slice.inj eT).1
  replace hx : w4.cell? ⟨gT, 0, none⟩ = some (.int .i64 7) := hx
  clear hO4 HT2 HO3 eT
  go_wp2_with fail
  refine HE.out.mono ?_
  rintro e w5 ⟨A5, c5, rfl, hO5⟩
  have HO5 := Aside0.mk hO5
  clear HE hO5 hx
  go_wp2_with fail
  go_ret
  exact ⟨rfl, HO5.out.1⟩
end Go.Proofs.Ytchpagboglomoaa.Ownd
