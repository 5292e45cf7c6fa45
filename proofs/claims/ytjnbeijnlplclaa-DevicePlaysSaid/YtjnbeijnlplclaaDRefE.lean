/- concordanceref03.Sync. Conditions: as RD.Ok. -/
import Derived.Test.YtjnbeijnlplclaaDRefD
namespace Go.Proofs.Ytjnbeijnlplclaa.Ownd
open Go.RowKit Go.Proofs.YtjnbeijnlplclaaW.PrintWords Go.Proofs.YtjnbeijnlplclaaW.PrintLast Go.Proofs.YtjnbeijnlplclaaW.PrintMore
set_option linter.unusedVariables false
set_option linter.unusedSimpArgs false
variable {w W : World} {post : List Thing} {d : Nat} {R : RD}
def syncL (l : List PW) (f : List ByteArray) : List ByteArray := l.foldl (fun f p => f.set p.1.toNat p.2) f
theorem take_syncL (f : List ByteArray) {l : List PW} {k : Nat} (h : k < l.length) : syncL (l.take (k + 1)) f = (syncL (l.take k) f).set l[k].1.toNat l[k].2 := by
  rw [List.take_succ_eq_append_getElem h]
  unfold syncL
  rw [List.foldl_append]
  rfl
theorem syncL_length : ∀ (l : List PW) (f : List ByteArray), (syncL l f).length = f.length
  | [], f => rfl
  | p :: r, f => by
    show (syncL r _).length = _
    rw [syncL_length r, List.length_set]
def RD.sync (R : RD) : Int × RD :=
  if R.off = true then (7, R) else if R.step.1 = true then (0, { R.step.2 with last := syncL R.step.2.wait R.step.2.last, wait := [] }) else (7, R.step.2)
set_option maxHeartbeats 8000000 in
set_option maxRecDepth 100000 in
theorem syncR (h : HasR w W post d R) (hok : R.Ok) : Calls Try.prog 34 #[.pointer (some ⟨d, 0, none⟩)] W fun ex W' => ex = .returned (.int .i64 R.sync.1) ∧ HasR w W' post d R.sync.2 := by
  have HR := Aside0.mk h
  obtain ⟨vl, va, vd, vk, hO⟩ := h
  have c3 : W.cell? ⟨d, 3, none⟩ = some (.bool R.off) := hO.cell 0 rfl 3
  have HOK := Aside0.mk hok
  clear hO hok
  unfold RD.sync
  cases hoff : R.off with
  | true =>
    rw [hoff] at c3
    rw [if_pos rfl]
    go_enter Try.func34, Try.ntmps34
    go_wp2
    go_ret
    exact ⟨rfl, HR.out⟩
  | false =>
    rw [hoff] at c3
    rw [if_neg (by simp)]
    have HC := Aside0.mk (stepR HR.out HOK.out)
    have HW := Aside0.mk (R.step_rows)
    cases hc : R.step.1 with
    | false =>
      rw [if_neg (by simp)]
      rw [hc] at HC
      go_enter Try.func34, Try.ntmps34
      go_wp2_with (go_at_call 45; refine HC.out.mono ?_; rintro e w1 ⟨rfl, h5⟩; have H5 := Aside0.mk h5; clear h5)
      go_ret
      exact ⟨rfl, H5.out⟩
    | true =>
      rw [if_pos rfl]
      rw [hc] at HC
      replace HW := HW.out hc
      go_enter Try.func34, Try.ntmps34
      go_upto_region 3 with (go_at_call 45; refine HC.out.mono ?_; rintro e w1 ⟨rfl, h5⟩; have H5 := Aside0.mk h5; clear h5)
      clear HC HR c3
      have HOK1 : Aside0 (R.step.2.Ok) := ⟨⟨by rw [HW.1]; exact HOK.out.wait, by rw [HW.2]; exact HOK.out.last, by rw [HW.1, HW.2]; exact HOK.out.at_⟩⟩
      clear HW HOK
      generalize hD1 : R.step.2 = R1 at H5 HOK1
      have HDE := Aside0.mk hD1
      clear hD1 hc
      obtain ⟨vl, va, vd, vk, hO⟩ := H5.out
      obtain ⟨Al, cl, Aa, ca, Ad, cd, Ak, ck, rfl, rfl, rfl, rfl, -, xa, xd⟩ := RCells.of hO
      obtain ⟨Al', cl', e, -, hC⟩ := hO.reads 1 rfl
      simp only [Value.slice.injEq] at e
      obtain ⟨rfl, -, rfl⟩ := e
      have c0 : (w1.alloc (.cells #[] 9)).cell? ⟨d, 0, none⟩ = some (.slice Al R1.last.length cl) := (hO.below (below_alloc (Below.refl _ _) (.cells #[] 9))).cell 0 rfl 0
      have HO := Aside0.mk hO
      have HC := Aside0.mk hC
      have XA := Aside0.mk xa
      have XD := Aside0.mk xd
      have hl := HOK1.out.wait
      have HL := Aside0.mk (len16M HOK1.out.last)
      clear H5 hO hC xa xd
      go_upto_block 0 with (at_builtin; refine fresh_row Kd.string Kd.heap_string flatS HC.out rfl (.tmp 14) (.tmp 18) 44 (.string ⟨#[]⟩) 16 rfl Try.underlying44 infoS rfl (by decide) (by decide) rfl rfl HL.out ?_; intro A1 c1 w2 h1; have H1 := Aside0.mk h1; clear h1)
      clear c0
      go_cut [] (fun wx => Aside0 (Own w1 wx [.row Kd.string 9 (.slice A1 R1.last.length c1) (syncL R1.wait R1.last)]))
      case first =>
        go_wp2_with fail
        go_loopg [4] R1.wait.length (fun gg s5 wr => ∃ k : Nat, k ≤ R1.wait.length ∧ R1.wait.length - k ≤ gg ∧ s5 = .int .i64 k ∧ Aside0 (Own w1 wr [.row Kd.string 9 (.slice A1 R1.last.length c1) (syncL (R1.wait.take k) R1.last)]))
        case atStart => exact ⟨0, Nat.zero_le _, Nat.le_refl _, rfl, ⟨by rw [List.take_zero]; exact H1.out⟩⟩
        case round =>
          clear H1
          obtain ⟨k, hk, hg, rfl, hO1⟩ := hrel
          have hb := hO1.out.1
          have c1' : wr.cell? ⟨d, 1, none⟩ = some (.slice Aa R1.wait.length ca) := (HO.out.below hb).cell 0 rfl 1
          by_cases hlt : k < R1.wait.length
          · have d1 := fdlt hlt
            have hw := fwr hlt hl
            have hi1 := fltI hlt
            have hi0 := fgeI k
            have HT := Aside0.mk (take_syncL R1.last hlt)
            go_upto_region 7 with fail
            have hin := HOK1.out.at_ _ (List.getElem_mem hlt)
            obtain ⟨ga, rfl, ya⟩ := XA.out k hlt
            obtain ⟨gd, rfl, yd⟩ := XD.out k hlt
            replace ya := (hb.cell (World.block_lt_of_cell? w1 _ ya)).trans ya
            replace yd := (hb.cell (World.block_lt_of_cell? w1 _ yd)).trans yd
            have c2' : wr.cell? ⟨d, 2, none⟩ = some (.slice (some ⟨gd, 0, none⟩) R1.wait.length cd) := (HO.out.below hb).cell 0 rfl 2
            generalize (R1.wait[k]).1 = sec at ya HT hin
            generalize (R1.wait[k]).2 = data at yd HT
            obtain ⟨n, rfl⟩ : ∃ n : Nat, sec = (n : Int) := ⟨sec.toNat, by omega⟩
            have hn : n < R1.last.length := by omega
            rw [Int.toNat_natCast] at HT
            have hj1 := fltI hn
            have hj0 := fgeI n
            have hle : (syncL (R1.wait.take k) R1.last).length = R1.last.length := syncL_length _ _
            obtain ⟨g1, c1'', e, -, -, -⟩ := hO1.out.str_at 0 rfl n (by rw [hle]; exact hn)
            simp only [Value.slice.injEq] at e
            obtain ⟨rfl, -, -⟩ := e
            have HLE := Aside0.mk hle
            clear hle hb hin XA XD
            go_still_tail 16, (by kernel_rfl)
            change wpList _ _ _ _ _ wr.drew
            refine Own.set_str (hO1.out.below (below_drew (Below.refl _ _))) 0 rfl rfl rfl 9 (.tmp 44) (.tmp 43) rfl size_str n data rfl rfl (by rw [HLE.out]; exact hn) ?_
            intro wz hz
            have HZ := Aside0.mk hz
            clear hz
            go_wp2_with fail
            go_roundg (R1.wait.length - (k + 1))
            case measure => exact fmeas hlt hg
            case rel => exact ⟨k + 1, hlt, Nat.le_refl _, by first | rfl | rw [hw], ⟨by rw [HT.out]; exact HZ.out⟩⟩
          · obtain rfl : k = R1.wait.length := Nat.le_antisymm hk (Nat.not_lt.mp hlt)
            have d1 := fdno hlt
            clear hb
            rw [List.take_length] at hO1
            go_wp2
            go_meet
            case rel => exact hO1
      case rest =>
        have h3 := (((HO.out.add hcut.out 1 (by simp [RV])).nil 2 (Kd.int .i64) 3).nil 3 Kd.string 9)
        have z0 : wc.cell? ⟨d, 0, none⟩ = some (.slice Al R1.last.length cl) := h3.cell 0 rfl 0
        have z1 : wc.cell? ⟨d, 1, none⟩ = some (.slice Aa R1.wait.length ca) := h3.cell 0 rfl 1
        have z2 : wc.cell? ⟨d, 2, none⟩ = some (.slice Ad R1.wait.length cd) := h3.cell 0 rfl 2
        have y0 : wc.frozen? ⟨d, 0, none⟩ = false := h3.frozen 0 rfl 0
        have y1 : wc.frozen? ⟨d, 1, none⟩ = false := h3.frozen 0 rfl 1
        have y2 : wc.frozen? ⟨d, 2, none⟩ = false := h3.frozen 0 rfl 2
        have h4 := h3.store 0 rfl 0 (.slice A1 R1.last.length c1) (cs' := #[.slice A1 R1.last.length c1, .slice Aa R1.wait.length ca, .slice Ad R1.wait.length cd, .bool R1.off, .int .i64 R1.fuse, .slice Ak R1.keep.length ck, .int .i64 R1.cmds]) rfl
        have h5 := h4.store 0 rfl 1 (.slice none 0 0) (cs' := #[.slice A1 R1.last.length c1, .slice none 0 0, .slice Ad R1.wait.length cd, .bool R1.off, .int .i64 R1.fuse, .slice Ak R1.keep.length ck, .int .i64 R1.cmds]) rfl
        have h6 := h5.store 0 rfl 2 (.slice none 0 0) (cs' := #[.slice A1 R1.last.length c1, .slice none 0 0, .slice none 0 0, .bool R1.off, .int .i64 R1.fuse, .slice Ak R1.keep.length ck, .int .i64 R1.cmds]) rfl
        have H6 := Aside0.mk h6
        clear h3 h4 h5 h6 HO HC XA XD hcut H1
        go_wp2
        go_ret
        exact ⟨rfl, by rw [HDE.out]; exact ⟨.slice A1 R1.last.length c1, .slice none 0 0, .slice none 0 0, .slice Ak R1.keep.length ck, H6.out⟩⟩
end Go.Proofs.Ytjnbeijnlplclaa.Ownd
