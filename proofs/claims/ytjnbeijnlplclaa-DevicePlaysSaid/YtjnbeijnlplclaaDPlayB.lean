/- law03.same: both devices the same: it says true. Conditions: at most 1000000 writes wait, at most 1000000 sectors. -/
import Derived.Test.YtjnbeijnlplclaaDPlayA
import Derived.Deep.QuietTactic
import Derived.BigQuiet
namespace Go.Proofs.Ytjnbeijnlplclaa.Ownd
open Go.RowKit Go.Proofs.YtjnbeijnlplclaaW.PrintWords Go.Proofs.YtjnbeijnlplclaaW.PrintLast Go.Proofs.YtjnbeijnlplclaaW.PrintMore
set_option linter.unusedVariables false
set_option linter.unusedSimpArgs false
variable {w W : World} {l1 l2 ds : List (Nat × Dev)} {d r : Nat} {D : Dev} {R : RD} {post : List Thing}
/-- Devices and, among the further things, the document's. -/
def HLR (w W : World) (ds : List (Nat × Dev)) (r : Nat) (R : RD) (post : List Thing) : Prop := ∃ vl va vd vk, HL w W ds (RV r vl va vd vk R ++ post)
theorem HLR.below {W1 : World} (h : HLR w W ds r R post) (hb : Below W.heap.size W W1) : HLR w W1 ds r R post := by
  obtain ⟨vl, va, vd, vk, hO⟩ := h
  exact ⟨vl, va, vd, vk, hO.below hb⟩
theorem HLR.has (h : HLR w W ds r R post) : ∃ post', HasR w W post' r R ∧ ∀ W' R', HasR w W' post' r R' → HLR w W' ds r R' post := by
  obtain ⟨vl, va, vd, vk, rs, h1, h2, hO⟩ := h
  refine ⟨rs.flatMap Raw.things ++ post, ⟨vl, va, vd, vk, hO.rot⟩, ?_⟩
  rintro W' R' ⟨vl, va, vd, vk, hO'⟩
  exact ⟨vl, va, vd, vk, rs, h1, h2, hO'.rot⟩
theorem HLR.bel (h : HLR w W ds r R post) : Below w.heap.size w W := by
  obtain ⟨_, _, _, _, h⟩ := h
  exact h.bel
/-- A contract of the devices, whatever stands behind them. -/
theorem HLR.dev {P : Program} {f : FuncId} {args : Array Value} {Q : Ending → Prop} {ds' : List (Nat × Dev)} (h : HLR w W ds r R post)
    (hc : ∀ rest, HL w W ds rest → Calls P f args W fun ex W' => Q ex ∧ HL w W' ds' rest) : Calls P f args W fun ex W' => Q ex ∧ HLR w W' ds' r R post := by
  obtain ⟨vl, va, vd, vk, h⟩ := h
  exact (hc _ h).mono fun ex W' ⟨hq, h'⟩ => ⟨hq, vl, va, vd, vk, h'⟩
theorem HLR.ref {P : Program} {f : FuncId} {args : Array Value} {Q : Ending → Prop} {R' : RD} (h : HLR w W ds r R post)
    (hc : ∀ post', HasR w W post' r R → Calls P f args W fun ex W' => Q ex ∧ HasR w W' post' r R') : Calls P f args W fun ex W' => Q ex ∧ HLR w W' ds r R' post := by
  obtain ⟨post', h1, h2⟩ := h.has
  exact (hc post' h1).mono fun ex W' ⟨hq, h'⟩ => ⟨hq, h2 W' R' h'⟩
theorem refr_HLR (h : HLR w W ds r R post) (hl : R.wait.length ≤ 1000000) (i : Int) : Calls Try.prog 33 #[.pointer (some ⟨r, 0, none⟩), .int .i64 i] W fun ex W' => ex = .returned (.tuple #[.string (R.read i).1, .int .i64 (R.read i).2]) ∧ W' = W := by
  obtain ⟨post', h1, h2⟩ := h.has
  exact readR h1 hl i
theorem bneb (b : Bool) : (b != b) = false := by cases b <;> rfl
theorem sle {k n : Nat} (h : k < n + 2) : decide (((k : Int) - 1) ≤ (n : Int)) = true := decide_eq_true (by omega)
theorem sno {k n : Nat} (h : ¬ k < n + 2) (h2 : k ≤ n + 2) : decide (((k : Int) - 1) ≤ (n : Int)) = false := decide_eq_false (by omega)
theorem swr {k n : Nat} (h : k < n + 2) (hn : n ≤ 1000000) : wrap64 ((k : Int) - 1 + 1) = ((k + 1 : Nat) : Int) - 1 := by unfold wrap64; omega
theorem sidx {k : Nat} : ((k + 1 : Nat) : Int) - 1 = (k : Int) := by omega
theorem smeas {k n g : Nat} (h : k < n + 2) (hg : n + 2 - k ≤ g) : n + 2 - (k + 1) < g := by omega
set_option maxHeartbeats 8000000 in
set_option maxRecDepth 100000 in
theorem same_calls (h : HLR w W (l1 ++ (d, D) :: l2) r R post) (hs : Sim D R) (hl : D.wait.length ≤ 1000000) (hz : D.size ≤ 1000000) :
    Calls Try.prog 22 #[.pointer (some ⟨d, 0, none⟩), .pointer (some ⟨r, 0, none⟩)] W fun ex W' => ex = .returned (.bool true) ∧ HLR w W' (l1 ++ (d, D) :: l2) r R post := by
  have HH := Aside0.mk h
  have HRR := Aside0.mk (fun (i : Int) => sim_read hs i)
  have HWL : Aside0 (R.wait.length ≤ 1000000) := ⟨by rw [hs.wait]; exact hl⟩
  have HO := Aside0.mk (h.dev (fun rest h' => open_HL h'))
  have e1 := Aside0.mk hs.off
  have e2 := Aside0.mk hs.size
  have e3 : Aside0 (R.wait.length = D.wait.length) := ⟨by rw [hs.wait]⟩
  have e4 := Aside0.mk hs.cmds
  clear h hs
  go_enter Try.func22, Try.ntmps22
  go_upto_region 2 with (go_at_call 23; refine HO.out.mono ?_; rintro e w1 ⟨rfl, h1⟩; have H1 := Aside0.mk h1; clear h1 HH HO)
  have hc : ∃ Al cl Aa ca, w1.cell? ⟨r, 0, none⟩ = some (.slice Al D.size cl) ∧ w1.cell? ⟨r, 1, none⟩ = some (.slice Aa D.wait.length ca) ∧ w1.cell? ⟨r, 3, none⟩ = some (.bool D.off) ∧ w1.cell? ⟨r, 6, none⟩ = some (.int .i64 D.cmds) := by
    obtain ⟨post', ⟨vl, va, vd, vk, hO⟩, _⟩ := H1.out.has
    obtain ⟨Al, cl, Aa, ca, Ad, cd, Ak, ck, rfl, rfl, rfl, rfl, -, -, -⟩ := RCells.of hO
    refine ⟨Al, cl, Aa, ca, ?_, ?_, ?_, ?_⟩
    · rw [← e2.out]; exact hO.cell 0 rfl 0
    · rw [← e3.out]; exact hO.cell 0 rfl 1
    · rw [← e1.out]; exact hO.cell 0 rfl 3
    · rw [← e4.out]; exact hO.cell 0 rfl 6
  obtain ⟨Al, cl, Aa, ca, c0, c1, c3, c6⟩ := hc
  have HOF := Aside0.mk (show ∀ n, Calls Try.prog 18 #[.pointer (some ⟨d, 0, none⟩)] (w1.drewN n) fun ex W' => ex = .returned (.bool D.off) ∧ W' = w1.drewN n by intro n; obtain ⟨_, _, _, _, h⟩ := H1.out; exact off_HL (h.below (pw_below_drewN (Below.refl _ _) n)))
  have HSZ := Aside0.mk (show ∀ n, Calls Try.prog 24 #[.pointer (some ⟨d, 0, none⟩)] (w1.drewN n) fun ex W' => ex = .returned (.int .i64 D.size) ∧ W' = w1.drewN n by intro n; obtain ⟨_, _, _, _, h⟩ := H1.out; exact size_HL (h.below (pw_below_drewN (Below.refl _ _) n)))
  go_cut [50] (fun s50 wx => s50 = .bool false ∧ Aside0 (HLR w wx (l1 ++ (d, D) :: l2) r R post))
  case first =>
    generalize D.off = bo at c3 HOF
    generalize D.size = sz at c0 HSZ
    have hbo := bneb bo
    cases bo with
    | true =>
      go_quiet (first | (go_at_call 18; exact Calls.quiet_of_same (HOF.out _)) | (go_at_call 24; exact Calls.quiet_of_same (HSZ.out _)))
      go_wp2_with fail
      go_meet
      case rel => exact ⟨rfl, ⟨H1.out.below (pw_below_drewN (Below.refl _ _) nq)⟩⟩
    | false =>
      go_quiet (first | (go_at_call 18; exact Calls.quiet_of_same (HOF.out _)) | (go_at_call 24; exact Calls.quiet_of_same (HSZ.out _)))
      go_wp2_with fail
      go_meet
      case rel => exact ⟨rfl, ⟨H1.out.below (pw_below_drewN (Below.refl _ _) nq)⟩⟩
  case rest =>
    clear c0 c1 c3 c6 HOF HSZ H1
    obtain ⟨rfl, hcut⟩ := hcut
    go_wp2_with fail
    go_loopg [7] (D.size + 2) (fun gg s7 wr => ∃ k : Nat, k ≤ D.size + 2 ∧ D.size + 2 - k ≤ gg ∧ s7 = .int .i64 ((k : Int) - 1) ∧ Aside0 (HLR w wr (l1 ++ (d, D) :: l2) r R post))
    case atStart => exact ⟨0, Nat.zero_le _, Nat.le_refl _, rfl, hcut⟩
    case round =>
      clear hcut
      obtain ⟨k, hk, hg, rfl, H1⟩ := hrel
      have hc : ∃ Al cl, wr.cell? ⟨r, 0, none⟩ = some (.slice Al D.size cl) := by
        obtain ⟨post', ⟨vl, va, vd, vk, hO⟩, _⟩ := H1.out.has
        obtain ⟨Al, cl, Aa, ca, Ad, cd, Ak, ck, rfl, rfl, rfl, rfl, -, -, -⟩ := RCells.of hO
        exact ⟨Al, cl, by rw [← e2.out]; exact hO.cell 0 rfl 0⟩
      obtain ⟨Al, cl, c0⟩ := hc
      by_cases hlt : k < D.size + 2
      · have d1 := sle hlt
        have hw := swr hlt hz
        have HR1 := Aside0.mk (H1.out.dev (fun rest h' => read_HL h' hl ((k : Int) - 1)))
        have HR2 := Aside0.mk (fun (w' : World) (h : HLR w w' (l1 ++ (d, D) :: l2) r R post) => refr_HLR h HWL.out ((k : Int) - 1))
        simp only [HRR.out] at HR2
        generalize (D.read ((k : Int) - 1)).1 = s at HR1 HR2
        generalize (D.read ((k : Int) - 1)).2 = e at HR1 HR2
        go_wp2_with (first
          | (go_at_call 14; refine HR1.out.mono ?_; rintro e w3 ⟨rfl, h3⟩; have H3 := Aside0.mk h3; clear h3 HR1)
          | (go_at_call 33; refine (HR2.out _ H3.out).mono ?_; rintro e w4 ⟨rfl, h4⟩; rw [h4]; clear h4 HR2))
        go_roundg (D.size + 2 - (k + 1))
        case measure => exact smeas hlt hg
        case rel => exact ⟨k + 1, hlt, Nat.le_refl _, by first | rfl | (rw [sidx]) | rw [hw], H3⟩
      · have d1 := sno hlt hk
        go_wp2
        go_ret
        exact ⟨rfl, H1.out⟩
end Go.Proofs.Ytjnbeijnlplclaa.Ownd
