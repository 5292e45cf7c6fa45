/- slices.ContainsFunc at the changed pages with record's own closure: is one of them not right? Conditions: the list is read at the slice that is handed in, each of its pages has pieces few enough for patch.Put's contract. -/
import Derived.Test.YteehchhmonlkkaaGPx8
namespace Go.Proofs.Yteehchhmonlkkaa.GP
open Go.RowKit Go.Sort Go.Proofs.YteehchhmonlkkaaW.PrintWords Go.Proofs.YteehchhmonlkkaaW.PrintLast Go.Proofs.YteehchhmonlkkaaW.PrintMore
set_option linter.unusedVariables false
set_option linter.unusedSimpArgs false

def wrong (x : S60) : Bool := (record_Record_right_1.f x.f0 x.f1).getD false
def wrongAll (l : List S60) : Bool := l.all fun x => (record_Record_right_1.f x.f0 x.f1).isSome
def record_Changed_34.f (l : List S60) : Option Bool := if wrongAll l = true ∧ l.length ≤ 9223372036854775807 then some (l.any wrong) else none

theorem any_hit (l : List S60) (k : Nat) (hk : k < l.length) (h : wrong l[k] = true) : l.any wrong = true := List.any_eq_true.mpr ⟨l[k], List.getElem_mem hk, h⟩
theorem any_miss (l : List S60) (h : ∀ i (h : i < l.length), wrong l[i] = false) : l.any wrong = false := by
  rw [List.any_eq_false]
  intro x hx
  obtain ⟨i, hi, rfl⟩ := List.getElem_of_mem hx
  rw [h i hi]; decide
theorem rd_at (l : List S60) (i : Nat) (h : i < l.length) : rd_T60 l (i : Int) = l[i] := by simp [rd_T60, List.getD_eq_getElem?_getD, List.getElem?_eq_getElem h]

set_option maxHeartbeats 2000000 in
set_option maxRecDepth 100000 in
theorem index_does (A0 : Option Addr) (c0 : Nat) (l0 : List S60) (w : World) (hr0 : Kd.C k60 w A0 l0.length l0) (hall : ∀ i (h : i < l0.length), ∃ b, record_Record_right_1.f l0[i].f0 l0[i].f1 = some b ∧ wrong l0[i] = b) (hbig : l0.length ≤ 9223372036854775807) (r : Bool) (hres : l0.any wrong = r) :
    Calls Try.prog 42 #[.slice A0 l0.length c0, .func (.func 35) #[] #[]] w fun e w' => ∃ j : Int, e = .returned (.int .i64 j) ∧ decide (0 ≤ j) = r ∧ Below w.heap.size w w' := by
  have HR := Aside0.mk hr0
  have HALL := Aside0.mk hall
  have HRES := Aside0.mk hres
  clear hr0 hall hres
  go_enter Try.func42, Try.ntmps42
  go_wp2
  go_loopg [5, 8] l0.length (fun gg _ s8 wr => ∃ kk : Nat, kk ≤ l0.length ∧ l0.length - kk ≤ gg ∧ s8 = .int .i64 kk ∧ Aside0 (Below w.heap.size w wr) ∧ Aside0 (∀ i (h : i < l0.length), i < kk → wrong l0[i] = false))
  case atStart => exact ⟨0, Nat.zero_le _, by omega, rfl, ⟨Below.refl _ w⟩, ⟨fun i _ h => absurd h (Nat.not_lt_zero _)⟩⟩
  case round =>
    obtain ⟨kk, hkk, hg, rfl, BW, AA⟩ := hrel
    by_cases hlt : kk < l0.length
    · have hltz : (kk : Int) < (l0.length : Int) := by omega
      obtain ⟨ad, A1, c1, e, hx0, hx1, hle, hC⟩ := at_T60 HR.out (kk : Int) (by omega) (by omega)
      cases e
      obtain ⟨b, hb, hwb⟩ := HALL.out kk hlt
      rw [rd_at l0 kk hlt] at hx0 hx1 hle hC
      simp only [Int.toNat_natCast] at hx0 hx1
      replace hx0 := (BW.out.cell (World.block_lt_of_cell? w _ hx0)).trans hx0
      replace hx1 := (BW.out.cell (World.block_lt_of_cell? w _ hx1)).trans hx1
      have HCW := Aside0.mk (Kd.C_below hC BW.out)
      have HLE := Aside0.mk hle
      have HFB := Aside0.mk hb
      have HWB := Aside0.mk hwb
      clear hC hle hb hwb
      obtain ⟨p0, hp0⟩ : ∃ p, l0[kk].f0 = p := ⟨_, rfl⟩
      obtain ⟨p1, hp1⟩ : ∃ p, l0[kk].f1 = p := ⟨_, rfl⟩
      have HP0 := Aside0.mk hp0
      have HP1 := Aside0.mk hp1
      rw [hp0] at hx0
      rw [hp1] at hx1
      replace HCW : Aside0 (Kd.C k66 wr A1 p1.length p1) := ⟨hp1 ▸ HCW.out⟩
      replace HLE : Aside0 (p1.length ≤ c1) := ⟨hp1 ▸ HLE.out⟩
      replace HFB : Aside0 (record_Record_right_1.f p0 p1 = some b) := ⟨by rw [← hp0, ← hp1]; exact HFB.out⟩
      clear hp0 hp1
      cases b with
      | true =>
        go_wp2_with (go_at_call 35; refine (record_Record_right_1.calls p0 A1 c1 p1 true wr HCW.out HLE.out HFB.out).mono ?_; rintro e w' ⟨rfl, hb'⟩)
        go_ret
        exact ⟨(kk : Int), rfl, by rw [← HRES.out, any_hit l0 kk hlt HWB.out]; simp, below_step BW.out hb'⟩
      | false =>
        go_wp2_with (go_at_call 35; refine (record_Record_right_1.calls p0 A1 c1 p1 false wr HCW.out HLE.out HFB.out).mono ?_; rintro e w' ⟨rfl, hb'⟩)
        go_roundg (l0.length - (kk + 1))
        case measure => omega
        case rel =>
          refine ⟨kk + 1, by omega, by omega, by go_num, ⟨below_step BW.out hb'⟩, ⟨fun i hi hik => ?_⟩⟩
          by_cases e : i = kk
          · subst e; exact HWB.out
          · exact AA.out i hi (by omega)
    · have hltz : ¬ (kk : Int) < (l0.length : Int) := by omega
      obtain rfl : kk = l0.length := by omega
      go_wp2
      go_ret
      exact ⟨-1, rfl, by rw [← HRES.out, any_miss l0 (fun i h => AA.out i h h)]; rfl, BW.out⟩

set_option maxHeartbeats 800000 in
set_option maxRecDepth 100000 in
/-- THE CONTRACT. -/
theorem record_Changed_34.calls (A0 : Option Addr) (c0 : Nat) (l0 : List S60) (r : Bool) (w : World) (hr0 : Kd.C k60 w A0 l0.length l0) (hc0 : l0.length ≤ c0) (h : record_Changed_34.f l0 = some r) :
    Calls Try.prog 34 #[.slice A0 l0.length c0, .func (.func 35) #[] #[]] w fun e w' => e = .returned (.bool r) ∧ Below w.heap.size w w' := by
  unfold record_Changed_34.f at h
  by_cases hs : wrongAll l0 = true ∧ l0.length ≤ 9223372036854775807
  · rw [if_pos hs] at h
    have hr := Option.some.inj h
    have hall : ∀ i (h : i < l0.length), ∃ b, record_Record_right_1.f l0[i].f0 l0[i].f1 = some b ∧ wrong l0[i] = b := fun i hi => by
      have h1 := List.all_eq_true.mp hs.1 l0[i] (List.getElem_mem hi)
      obtain ⟨b, hb⟩ := Option.isSome_iff_exists.mp h1
      exact ⟨b, hb, by unfold wrong; rw [hb]; rfl⟩
    have HI := Aside0.mk (index_does A0 c0 l0 w hr0 hall hs.2 r hr)
    clear hr hall hs h hc0 hr0
    go_enter Try.func34, Try.ntmps34
    go_wp2_with (go_at_call 42; refine HI.out.mono ?_; rintro e w' ⟨j, rfl, hj, hb'⟩)
    go_ret
    exact ⟨by rw [← hj]; rfl, hb'⟩
  · rw [if_neg hs] at h; cases h
end Go.Proofs.Yteehchhmonlkkaa.GP
