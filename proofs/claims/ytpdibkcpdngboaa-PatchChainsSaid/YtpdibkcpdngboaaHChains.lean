/- PatchChains, the walk: whatever the texts, the call returns true and leaves what was there. Conditions: the list is read at the slice that is handed in. -/
import Derived.Test.YtpdibkcpdngboaaPSpeaks
import Derived.Test.YtpdibkcpdngboaaHApplyW
namespace Go.Proofs.Ytpdibkcpdngboaa.GP
open Go.RowKit Go.Proofs.YtpdibkcpdngboaaW.PrintWords Go.Proofs.YtpdibkcpdngboaaW.PrintLast Go.Proofs.YtpdibkcpdngboaaW.PrintMore Go.Proofs.Ytpdibkcpdngboaa.Copy
attribute [local go_sem] max2_int min2_int max_two min_two max_three min_three max_four min_four
set_option linter.unusedVariables false
set_option linter.unusedSimpArgs false

theorem diff_same (a : ByteArray) : diffL a a = [] := by
  have : ∀ (d i : Nat), rgo (neAt a a) d i none = [] := by
    intro d
    induction d with
    | zero => intro i; rfl
    | succ d ih => intro i; rw [rgo_succ, if_neg (by simp [neAt])]; exact ih _
  simp [diffL, this]

theorem calls_str2 {P : Program} {f : FuncId} {a : Value} {W : World} {R : Ending → World → Prop} (s : ByteArray) (h : ∀ nx, nx = s → Calls P f #[a, .string nx] W R) : Calls P f #[a, .string s] W R := h s rfl

def Kept0 (w : World) (a : Option Addr) (l : List ByteArray) (now : ByteArray) (wr : World) : Prop :=
  now.size = 40 ∧ Below w.heap.size w wr

set_option maxHeartbeats 800000 in
set_option maxRecDepth 100000 in
theorem chains_calls (a : Option Addr) (n c : Nat) (l : List ByteArray) (w : World) (hn : l.length = n) (hl : n ≤ 9223372036854775807)
    (hc : ∀ i (h : i < n), ∃ ad, a = some ad ∧ w.cell? (ad.add i) = some (.string (l.getD i ByteArray.empty))) :
    Calls Try.prog 3 #[.slice a n c] w fun e w' => e = .returned (.bool true) ∧ Below w.heap.size w w' := by
  have HN := Aside0.mk hn
  have HC := Aside0.mk hc
  clear hn hc
  have HS := Aside0.mk (speaks_tells 20 (by omega))
  go_enter Try.func3, Try.ntmps3
  go_wp2_with (first | (go_at_call 8; refine (concordancelaw06_speaks.calls 20 true _ HS.out).mono ?_; rintro e w1 ⟨rfl, hb⟩))
  obtain ⟨S, hS⟩ : ∃ S : ByteArray, (⟨#[48, 49, 50, 51, 52, 53, 54, 55, 56, 57, 48, 49, 50, 51, 52, 53, 54, 55, 56, 57, 48, 49, 50, 51, 52, 53, 54, 55, 56, 57, 48, 49, 50, 51, 52, 53, 54, 55, 56, 57]⟩ : ByteArray) = S := ⟨_, rfl⟩
  rw [hS]
  have hS1 : S.size ≤ 40 := by rw [← hS]; decide
  have hS2 : 40 ≤ S.size := by rw [← hS]; decide
  have HB0 : Hid (Kept0 w a l S w1) := ⟨by omega, hb⟩
  clear hS hb
  go_loopw [4, 5] (fun x i wr => ∃ (now : ByteArray) (k : Nat), k ≤ n ∧ k ≤ 20 ∧ x = .string now ∧ i = .int .i64 k ∧ Hid (Kept0 w a l now wr)) (fun _ i _ => n - (intOf i).toNat)
  case atStart => exact ⟨S, 0, by omega, by omega, rfl, rfl, HB0⟩
  case round =>
    obtain ⟨now, k, hk, hk20, rfl, rfl, HB⟩ := hrel
    by_cases hlt : k < n
    · by_cases h20 : k < 20
      · have hcc := HC.out k hlt
        obtain ⟨ad, rfl, hcell⟩ := hcc
        have hz := (HB.out.2.cell (World.block_lt_of_cell? w _ hcell)).trans hcell
        obtain ⟨x, hx⟩ : ∃ x, l.getD k ByteArray.empty = x := ⟨_, rfl⟩
        rw [hx] at hz
        clear hcell hx
        have hi1 : decide ((k : Int) < 20) = true := decide_eq_true (by omega)
        have hi2 : decide ((k : Int) < (n : Int)) = true := decide_eq_true (by omega)
        have hi3 : (k : Int) < (n : Int) := by omega
        by_cases h40 : (40 : Int) < (x.size : Int)
        all_goals
          go_wp2_with fail
          go_quiet (fail)
          go_wp2_with fail
          refine calls_str2 _ (fun nx hnx => ?_)
          rw [← hnx]
          have hns : nx.size = 40 := by rw [hnx, ByteArray.size_append]; simp only [ByteArray.size_extract]; omega
          have hnow := HB.out.1
          obtain ⟨dl, hdl⟩ : ∃ dl, diffL now nx = dl := ⟨_, rfl⟩
          have HF1 : Aside0 (patch_Diff.f 200 now nx = some dl) := ⟨by rw [diff_tells now nx (by omega) (by omega) 200 (by omega), hdl]⟩
          have HF2 : Aside0 (patch_Apply.f now dl = some (nx, 0)) := ⟨by rw [← hdl]; exact apply_diff now nx (by omega) (by omega)⟩
          have HNS := Aside0.mk hns
          clear hnx hns hnow hdl
          go_wp2_with (first | (go_at_call 10; refine (patch_Diff.calls 200 now nx dl _ HF1.out).mono ?_; rintro e w2 ⟨v, rfl, ho, hb2⟩; obtain ⟨Ao, co, eo⟩ := Kd.R_slice ho; subst eo; have HO := Aside0.mk ho; have HB2 := Aside0.mk hb2; clear ho hb2) | (go_at_call 9; refine (patch_Apply.calls now _ _ dl nx 0 _ (Kd.R_reads' HO.out).2.2 (Kd.R_reads' HO.out).2.1 HF2.out).mono ?_; rintro e w3 ⟨rfl, hb3⟩))
          go_roundw
          case rel => exact ⟨nx, k + 1, by omega, by omega, rfl, by go_num, ⟨HNS.out, below_step (below_step (pw_below_drewN HB.out.2 _) HB2.out) hb3⟩⟩
          case measure => simp [intOf]; omega
      · have hi1 : decide ((k : Int) < 20) = false := decide_eq_false (by omega)
        have hi2 : decide ((k : Int) < (n : Int)) = true := decide_eq_true (by omega)
        obtain ⟨hf3⟩ : Aside0 (patch_Diff.f 200 now now = some []) := ⟨by rw [diff_tells now now rfl (by have := HB.out.1; omega) 200 (by have := HB.out.1; omega), diff_same]⟩
        have HF3 := Aside0.mk hf3
        clear hf3
        go_wp2_with (first | (go_at_call 10; refine (patch_Diff.calls 200 now now [] _ HF3.out).mono ?_; rintro e w2 ⟨v, rfl, ho, hb2⟩; obtain ⟨Ao, co, eo⟩ := Kd.R_slice ho; subst eo))
        go_ret
        exact ⟨rfl, below_step HB.out.2 hb2⟩
    · have hi2 : decide ((k : Int) < (n : Int)) = false := decide_eq_false (by omega)
      obtain ⟨hf3⟩ : Aside0 (patch_Diff.f 200 now now = some []) := ⟨by rw [diff_tells now now rfl (by have := HB.out.1; omega) 200 (by have := HB.out.1; omega), diff_same]⟩
      have HF3 := Aside0.mk hf3
      clear hf3
      go_wp2_with (first | (go_at_call 10; refine (patch_Diff.calls 200 now now [] _ HF3.out).mono ?_; rintro e w2 ⟨v, rfl, ho, hb2⟩; obtain ⟨Ao, co, eo⟩ := Kd.R_slice ho; subst eo))
      go_ret
      exact ⟨rfl, below_step HB.out.2 hb2⟩
end Go.Proofs.Ytpdibkcpdngboaa.GP
