/- wal.place.find: the master that counts, the greatest epoch. Conditions: the table lies as the program lays it; what the device holds is what a log writes. -/
import Derived.Test.YtegeaemkkbenfaaDoorWPlace
namespace Go.Proofs.YtegeaemkkbenfaaDoor.Ownd
open Go.RowKit Go.Proofs.YtegeaemkkbenfaaDoorW.PrintWords Go.Proofs.YtegeaemkkbenfaaDoorW.PrintLast Go.Proofs.YtegeaemkkbenfaaDoorW.PrintMore
set_option linter.unusedVariables false
set_option linter.unusedSimpArgs false
def fstep (f : Int × Int) (c : Ct) : Int × Int := match c with | .m e h => if f.1 < e then (e, h) else f | _ => f
def gstep (g : Int) (c : Ct) : Int := match c with | .p e _ _ => if g < e then e else g | _ => g
def TD.fk (T : TD) (at_ : Int) : Nat → Int × Int
  | 0 => (0, 0)
  | k + 1 => fstep (T.fk at_ k) (T.get (at_ + k))
def TD.gk (T : TD) (at_ : Int) : Nat → Int
  | 0 => (T.fk at_ 2).1
  | k + 1 => gstep (T.gk at_ k) (T.get (at_ + 2 + k))
theorem size_found : (Tryd.prog.info? 63).map (·.size) = some 3 := by kernel_rfl
variable {w W : World} {l1 l2 : List (Nat × Dev)} {rest : List Thing} {d : Nat} {T : TD}
theorem f2 {k : Nat} (h : k < 2) : decide ((k : Int) < 2) = true := decide_eq_true (by omega)
theorem f2n : decide (((2 : Nat) : Int) < 2) = false := rfl
theorem fw2 {k : Nat} (h : k < 2) : wrap64 ((k : Int) + 1) = ((k + 1 : Nat) : Int) := by unfold wrap64; omega
theorem wadd {a : Int} {k : Nat} (h0 : 0 ≤ a ∧ a ≤ 5000) (h : k ≤ 2000) : wrap64 (a + (k : Int)) = a + (k : Int) := by unfold wrap64; omega
theorem max2_is (a b : Int) (ts : Array TypeId) (t : TypeId) (W : World) : (Builtin.max_ ts t #[.int .i64 a, .int .i64 b]).run Tryd.prog W = .ok (.int .i64 (if a < b then b else a)) W := by
  simp [Builtin.max_, Builtin.max2]
set_option maxHeartbeats 8000000 in
set_option maxRecDepth 100000 in
theorem find_calls (h : HL w W (l1 ++ (d, T.dev) :: l2) rest) {at_ G : Int} {half : Nat} (hA : T.All (Where at_ half G)) (ho : T.off = false) (h0 : 0 ≤ at_ ∧ at_ ≤ 5000) (hf : 1 ≤ half ∧ half ≤ 512) (hz : at_ + 2 + 2 * (half : Int) ≤ (T.size : Int)) (hl : T.wait.length ≤ 1000000) (hT : Tab w) :
    Calls Tryd.prog 27 #[.agg #[.pointer (some ⟨d, 0, none⟩), .int .i64 at_, .int .i64 half]] W fun ex W' => ex = .returned (.tuple #[.agg #[.int .i64 (T.fk at_ 2).1, .int .i64 (T.fk at_ 2).2, .int .i64 (T.gk at_ (2 * half))], .int .i64 0]) ∧ HL w W' (l1 ++ (d, T.dev) :: l2) rest := by
  have h3 : HL w (((W.alloc (.cells #[.pointer (some ⟨d, 0, none⟩), .int .i64 at_, .int .i64 half] 61)).alloc (.cells #[.int .i64 0, .int .i64 0, .int .i64 0] 63)).alloc (.cells #[.int .i64 0, .int .i64 0, .int .i64 0] 63)) (l1 ++ (d, T.dev) :: l2)
      (.box (W.heap.size + 2) (.cells #[.int .i64 0, .int .i64 0, .int .i64 0] 63 (0, 0)) :: .box (W.heap.size + 1) (.cells #[.int .i64 0, .int .i64 0, .int .i64 0] 63 (0, 0)) :: .box W.heap.size (.cells #[.pointer (some ⟨d, 0, none⟩), .int .i64 at_, .int .i64 half] 61 (0, 0)) :: rest) := by
    have h := ((h.alloc (.cells #[.pointer (some ⟨d, 0, none⟩), .int .i64 at_, .int .i64 half] 61)).alloc (.cells #[.int .i64 0, .int .i64 0, .int .i64 0] 63)).alloc (.cells #[.int .i64 0, .int .i64 0, .int .i64 0] 63)
    simpa using h
  have HT := Aside0.mk hT
  have HA := Aside0.mk hA
  have HLW : Aside0 (T.dev.wait.length ≤ 1000000) := ⟨by show (T.wait.map encW).length ≤ _; rw [List.length_map]; exact hl⟩
  clear h hT hA hl
  go_enter Tryd.func27, Tryd.ntmps27
  go_upto_block 0 with fail
  generalize ((W.alloc (.cells #[.pointer (some ⟨d, 0, none⟩), .int .i64 at_, .int .i64 half] 61)).alloc (.cells #[.int .i64 0, .int .i64 0, .int .i64 0] 63)).alloc (.cells #[.int .i64 0, .int .i64 0, .int .i64 0] 63) = w3 at h3 ⊢
  generalize W.heap.size + 2 = gf at h3 ⊢
  generalize W.heap.size + 1 = gr at h3 ⊢
  generalize W.heap.size = gp at h3 ⊢
  have H3 := Aside0.mk h3
  clear h3
  go_cut [] (fun wx => Aside0 (HL w wx (l1 ++ (d, T.dev) :: l2) (.box gf (.cells #[.int .i64 (T.fk at_ 2).1, .int .i64 (T.fk at_ 2).2, .int .i64 0] 63 (0, 0)) :: .box gr (.cells #[.int .i64 0, .int .i64 0, .int .i64 0] 63 (0, 0)) :: .box gp (.cells #[.pointer (some ⟨d, 0, none⟩), .int .i64 at_, .int .i64 half] 61 (0, 0)) :: rest)))
  case first =>
    go_wp2_with fail
    go_loopg [18] 2 (fun gg s18 wr => ∃ k : Nat, k ≤ 2 ∧ 2 - k ≤ gg ∧ s18 = .int .i64 k ∧ Aside0 (HL w wr (l1 ++ (d, T.dev) :: l2) (.box gf (.cells #[.int .i64 (T.fk at_ k).1, .int .i64 (T.fk at_ k).2, .int .i64 0] 63 (0, 0)) :: .box gr (.cells #[.int .i64 0, .int .i64 0, .int .i64 0] 63 (0, 0)) :: .box gp (.cells #[.pointer (some ⟨d, 0, none⟩), .int .i64 at_, .int .i64 half] 61 (0, 0)) :: rest)))
    case atStart => exact ⟨0, Nat.zero_le _, Nat.le_refl _, rfl, H3⟩
    case round =>
      clear H3
      obtain ⟨k, hk, hg, rfl, HO⟩ := hrel
      by_cases hlt : k < 2
      · have d1 := f2 hlt
        have hw := fw2 hlt
        have hwa := wadd h0 (show k ≤ 2000 by omega)
        have hWh := HA.out.get (i := at_ + k) Where.z
        have hcok := hWh.ok
        have hcm := hWh.isM (by omega)
        clear hWh
        have hr := T.dev_read ho (show 0 ≤ at_ + (k : Int) by omega) (show at_ + (k : Int) < (T.size : Int) by omega)
        have HR := Aside0.mk (read_HL HO.out HLW.out (at_ + (k : Int)))
        rw [hr] at HR
        have HM := Aside0.mk (fun W' hT' => rm_calls (W := W') hcok hcm hT')
        have hfk : T.fk at_ (k + 1) = fstep (T.fk at_ k) (T.get (at_ + k)) := rfl
        have p0 := HO.out.cell 2 rfl 0
        have p1 := HO.out.cell 2 rfl 1
        clear hr
        obtain ⟨c, hc⟩ : ∃ c, T.get (at_ + (k : Int)) = c := ⟨_, rfl⟩
        rw [hc] at HR HM hfk hcm
        clear hc hcok
        have HFK := Aside0.mk hfk
        clear hfk
        generalize T.fk at_ k = f at HO HR HFK
        obtain ⟨f0, f1⟩ := f
        dsimp only at HO HR
        have z0 := HO.out.cell 0 rfl 0
        have z1 := HO.out.cell 0 rfl 1
        replace p0 : wr.cell? ⟨gp, 0, none⟩ = some (.pointer (some ⟨d, 0, none⟩)) := p0
        replace p1 : wr.cell? ⟨gp, 1, none⟩ = some (.int .i64 at_) := p1
        clear z0 z1
        cases c with
        | z =>
          unfold Ct.rmV at HM
          have HE : Aside0 (T.fk at_ (k + 1) = (f0, f1)) := ⟨HFK.out⟩
          go_wp2_with (first
            | (go_at_call 28; refine HR.out.mono ?_; rintro e w4 ⟨rfl, h4⟩; have H4 := Aside0.mk h4; clear h4 HR HO)
            | (go_at_call 44; refine (HM.out _ (HT.out.below H4.out.bel)).mono ?_; rintro e w5 ⟨rfl, h5⟩; have H5 := Aside0.mk (H4.out.below h5); clear h5 H4 HM))
          go_roundg (2 - (k + 1))
          case measure => exact fmeas hlt hg
          case rel => exact ⟨k + 1, hlt, Nat.le_refl _, by first | rfl | rw [hw], by rw [HE.out]; exact H5⟩
        | p e i s => exact hcm.elim
        | m e g =>
          unfold Ct.rmV at HM
          by_cases hlt2 : f0 < e
          · have HE : Aside0 (T.fk at_ (k + 1) = (e, g)) := ⟨HFK.out.trans (if_pos hlt2)⟩
            go_wp2_with (first
              | (go_at_call 28; refine HR.out.mono ?_; rintro e w4 ⟨rfl, h4⟩; have H4 := Aside0.mk h4; clear h4 HR HO)
              | (go_at_call 44; refine (HM.out _ (HT.out.below H4.out.bel)).mono ?_; rintro e w5 ⟨rfl, h5⟩; have H5 := Aside0.mk (H4.out.below h5); clear h5 H4 HM;
                  have z0 : w5.cell? ⟨gf, 0, none⟩ = some (.int .i64 f0) := H5.out.cell 0 rfl 0; have z1 : w5.cell? ⟨gf, 1, none⟩ = some (.int .i64 f1) := H5.out.cell 0 rfl 1; have y0 : w5.frozen? ⟨gf, 0, none⟩ = false := H5.out.frozen 0 rfl 0; have y1 : w5.frozen? ⟨gf, 1, none⟩ = false := H5.out.frozen 0 rfl 1))
            have H7 := Aside0.mk ((H5.out.store 0 rfl 0 (.int .i64 e) (cs' := #[.int .i64 e, .int .i64 f1, .int .i64 0]) rfl).store 0 rfl 1 (.int .i64 g) (cs' := #[.int .i64 e, .int .i64 g, .int .i64 0]) rfl)
            go_roundg (2 - (k + 1))
            case measure => exact fmeas hlt hg
            case rel => exact ⟨k + 1, hlt, Nat.le_refl _, by first | rfl | rw [hw], by rw [HE.out]; exact H7⟩
          · have HE : Aside0 (T.fk at_ (k + 1) = (f0, f1)) := ⟨HFK.out.trans (if_neg hlt2)⟩
            go_wp2_with (first
              | (go_at_call 28; refine HR.out.mono ?_; rintro e w4 ⟨rfl, h4⟩; have H4 := Aside0.mk h4; clear h4 HR HO)
              | (go_at_call 44; refine (HM.out _ (HT.out.below H4.out.bel)).mono ?_; rintro e w5 ⟨rfl, h5⟩; have H5 := Aside0.mk (H4.out.below h5); clear h5 H4 HM;
                  have z0 : w5.cell? ⟨gf, 0, none⟩ = some (.int .i64 f0) := H5.out.cell 0 rfl 0))
            go_roundg (2 - (k + 1))
            case measure => exact fmeas hlt hg
            case rel => exact ⟨k + 1, hlt, Nat.le_refl _, by first | rfl | rw [hw], by rw [HE.out]; exact H5⟩
      · obtain rfl : k = 2 := Nat.le_antisymm hk (Nat.not_lt.mp hlt)
        have d1 := f2n
        go_wp2_with fail
        go_meet
        case rel => exact HO
  case rest =>
    clear H3
    have z0 : wc.cell? ⟨gf, 0, none⟩ = some (.int .i64 (T.fk at_ 2).1) := hcut.out.cell 0 rfl 0
    have z2 : wc.cell? ⟨gf, 2, none⟩ = some (.int .i64 0) := hcut.out.cell 0 rfl 2
    have y2 : wc.frozen? ⟨gf, 2, none⟩ = false := hcut.out.frozen 0 rfl 2
    have H4 := Aside0.mk (hcut.out.store 0 rfl 2 (.int .i64 (T.fk at_ 2).1) (cs' := #[.int .i64 (T.fk at_ 2).1, .int .i64 (T.fk at_ 2).2, .int .i64 (T.fk at_ 2).1]) rfl)
    clear hcut
    go_upto_region 13 with fail
    clear z0 z2 y2
    replace H4 : Aside0 (HL w (wc.setCell ⟨gf, 2, none⟩ (.int .i64 (T.fk at_ 2).1)) (l1 ++ (d, T.dev) :: l2) (.box gf (.cells #[.int .i64 (T.fk at_ 2).1, .int .i64 (T.fk at_ 2).2, .int .i64 (T.gk at_ 0)] 63 (0, 0)) :: .box gr (.cells #[.int .i64 0, .int .i64 0, .int .i64 0] 63 (0, 0)) :: .box gp (.cells #[.pointer (some ⟨d, 0, none⟩), .int .i64 at_, .int .i64 half] 61 (0, 0)) :: rest)) := H4
    generalize wc.setCell ⟨gf, 2, none⟩ (.int .i64 (T.fk at_ 2).1) = w4 at H4 ⊢
    have hw58 : wrap64 (2 * (half : Int)) = ((2 * half : Nat) : Int) := by unfold wrap64; omega
    have p2 : w4.cell? ⟨gp, 2, none⟩ = some (.int .i64 half) := H4.out.cell 2 rfl 2
    have HQ : Aside0 (2 * half ≤ 1024) := ⟨by omega⟩
    have hzq : at_ + 2 + ((2 * half : Nat) : Int) ≤ (T.size : Int) := by omega
    obtain ⟨q, hq⟩ : ∃ q, 2 * half = q := ⟨_, rfl⟩
    have HQE := Aside0.mk hq
    rw [hq] at hw58 HQ hzq
    clear hq
    go_upto_block 2 with fail
    clear p2
    have HF := Aside0.mk (show (T.fk at_ 2) = ((T.fk at_ 2).1, (T.fk at_ 2).2) from rfl)
    generalize (T.fk at_ 2).1 = f0 at H4 HF ⊢
    generalize (T.fk at_ 2).2 = f1 at H4 HF ⊢
    go_wp2_with fail
    go_loopg [59] q (fun gg s59 wr => ∃ k : Nat, k ≤ q ∧ q - k ≤ gg ∧ s59 = .int .i64 k ∧ Aside0 (HL w wr (l1 ++ (d, T.dev) :: l2) (.box gf (.cells #[.int .i64 f0, .int .i64 f1, .int .i64 (T.gk at_ k)] 63 (0, 0)) :: .box gr (.cells #[.int .i64 0, .int .i64 0, .int .i64 0] 63 (0, 0)) :: .box gp (.cells #[.pointer (some ⟨d, 0, none⟩), .int .i64 at_, .int .i64 half] 61 (0, 0)) :: rest)))
    case atStart => exact ⟨0, Nat.zero_le _, Nat.le_refl _, rfl, H4⟩
    case round =>
      clear H4
      obtain ⟨k, hk, hg, rfl, HO⟩ := hrel
      by_cases hlt : k < q
      · have hk2 : k ≤ 2000 := Nat.le_trans hk (Nat.le_trans HQ.out (by decide))
        have d1 : (k : Int) < 2 * (half : Int) := by have := HQE.out; omega
        have hw := fwr hlt (Nat.le_trans HQ.out (by decide))
        have hwa : wrap64 (at_ + 2) = at_ + 2 := by unfold wrap64; omega
        have hwb : wrap64 (at_ + 2 + (k : Int)) = at_ + 2 + (k : Int) := by unfold wrap64; omega
        have hWh := HA.out.get (i := at_ + 2 + k) Where.z
        have hcok := hWh.ok
        have hcp := hWh.isP (by omega)
        clear hWh
        have hr := T.dev_read ho (show 0 ≤ at_ + 2 + (k : Int) by omega) (show at_ + 2 + (k : Int) < (T.size : Int) by omega)
        have HR := Aside0.mk (read_HL HO.out HLW.out (at_ + 2 + (k : Int)))
        rw [hr] at HR
        have HM := Aside0.mk (fun W' hT' => rp_calls (W := W') hcok hcp hT')
        have hgk : T.gk at_ (k + 1) = gstep (T.gk at_ k) (T.get (at_ + 2 + k)) := rfl
        have p0 : wr.cell? ⟨gp, 0, none⟩ = some (.pointer (some ⟨d, 0, none⟩)) := HO.out.cell 2 rfl 0
        have p1 : wr.cell? ⟨gp, 1, none⟩ = some (.int .i64 at_) := HO.out.cell 2 rfl 1
        clear hr
        obtain ⟨c, hc⟩ : ∃ c, T.get (at_ + 2 + (k : Int)) = c := ⟨_, rfl⟩
        rw [hc] at HR HM hgk hcp
        clear hc hcok
        have HGK := Aside0.mk hgk
        clear hgk
        generalize T.gk at_ k = g0 at HO HR HGK
        cases c with
        | z =>
          unfold Ct.rpV at HM
          have HE : Aside0 (T.gk at_ (k + 1) = g0) := ⟨HGK.out⟩
          go_wp2_with (first
            | (go_at_call 28; refine HR.out.mono ?_; rintro e w4 ⟨rfl, h4⟩; have H4 := Aside0.mk h4; clear h4 HR HO)
            | (go_at_call 30; refine (HM.out _ (HT.out.below H4.out.bel)).mono ?_; rintro e w5 ⟨rfl, h5⟩; have H5 := Aside0.mk (H4.out.below h5); clear h5 H4 HM))
          go_roundg (q - (k + 1))
          case measure => exact fmeas hlt hg
          case rel => exact ⟨k + 1, hlt, Nat.le_refl _, by first | rfl | rw [hw], by rw [HE.out]; exact H5⟩
        | m e g => exact hcp.elim
        | p e i s =>
          unfold Ct.rpV at HM
          have HE : Aside0 (T.gk at_ (k + 1) = if g0 < e then e else g0) := ⟨HGK.out⟩
          have hmx := max2_is g0 e
          generalize (if g0 < e then e else g0) = mx at HE hmx
          go_wp2_with (first
            | (go_at_call 28; refine HR.out.mono ?_; rintro e w4 ⟨rfl, h4⟩; have H4 := Aside0.mk h4; clear h4 HR HO)
            | (go_at_call 30; refine (HM.out _ (HT.out.below H4.out.bel)).mono ?_; rintro e w5 ⟨rfl, h5⟩; have H5 := Aside0.mk (H4.out.below h5); clear h5 H4 HM;
                have z2 : w5.cell? ⟨gf, 2, none⟩ = some (.int .i64 g0) := H5.out.cell 0 rfl 2; have y2 : w5.frozen? ⟨gf, 2, none⟩ = false := H5.out.frozen 0 rfl 2))
          have H7 := Aside0.mk (H5.out.store 0 rfl 2 (.int .i64 mx) (cs' := #[.int .i64 f0, .int .i64 f1, .int .i64 mx]) rfl)
          go_roundg (q - (k + 1))
          case measure => exact fmeas hlt hg
          case rel => exact ⟨k + 1, hlt, Nat.le_refl _, by first | rfl | rw [hw], by rw [HE.out]; exact H7⟩
      · obtain rfl : k = q := Nat.le_antisymm hk (Nat.not_lt.mp hlt)
        have d1 : ¬ ((k : Int) < 2 * (half : Int)) := by have := HQE.out; omega
        rw [← HQE.out] at HO
        obtain ⟨g0, hg0⟩ : ∃ g0, T.gk at_ (2 * half) = g0 := ⟨_, rfl⟩
        rw [hg0] at HO
        have HG0 := Aside0.mk hg0
        clear hg0
        have z0 : wr.cell? ⟨gf, 0, none⟩ = some (.int .i64 f0) := HO.out.cell 0 rfl 0
        have z1 : wr.cell? ⟨gf, 1, none⟩ = some (.int .i64 f1) := HO.out.cell 0 rfl 1
        have z2 : wr.cell? ⟨gf, 2, none⟩ = some (.int .i64 g0) := HO.out.cell 0 rfl 2
        go_wp2_with (refine gate_ (.store 63 (.tmp 2) (.tmp 91)) rfl ?_; refine Aside0.out ?_)
        refine ⟨?_⟩
        refine HO.out.store_all 1 rfl rfl rfl 63 (.tmp 2) (.tmp 91) rfl #[.int .i64 f0, .int .i64 f1, .int .i64 g0] rfl rfl size_found rfl (by simp [Value.oneCell']) ?_
        intro wz hz
        have HZ := Aside0.mk hz
        clear hz z0 z1 z2
        go_wp2_with fail
        (try simp only [Exit.inBlock, Exit.then])
        refine bodyPost_ret (results_ct rfl _ _ gr 63 #[.int .i64 f0, .int .i64 f1, .int .i64 g0] (0, 0) _ rfl (HZ.out.box 1 rfl) Tryd.underlying63 rfl size_found) rfl ?_
        refine ⟨?_, HZ.out.drop1.drop1.drop1⟩
        rw [HF.out, HG0.out]
        rfl
end Go.Proofs.YtegeaemkkbenfaaDoor.Ownd
