/- law03.done: one act upon the document's device; both devices held at once (HL with the document's device among the further things). Conditions: as RD.Ok. -/
import Derived.Test.YtjnbeijnlplclaaDDo
namespace Go.Proofs.Ytjnbeijnlplclaa.Ownd
open Go.RowKit Go.Proofs.YtjnbeijnlplclaaW.PrintWords Go.Proofs.YtjnbeijnlplclaaW.PrintLast Go.Proofs.YtjnbeijnlplclaaW.PrintMore
set_option linter.unusedVariables false
set_option linter.unusedSimpArgs false
variable {w W : World} {d : Nat} {R : RD} {post : List Thing}
def donD (R : RD) (x : TA) : (ByteArray × Int) × RD := donK R (kindOf x) x.2.1 (keepOf x) (dataOf x)
set_option maxHeartbeats 8000000 in
set_option maxRecDepth 100000 in
theorem done_R (h : HasR w W post d R) (hok : R.Ok) (x : TA) (B : Option Addr) (c : Nat) (hc : x.2.2.2.length ≤ c) (hC : Kd.C (Kd.int .i64) W B x.2.2.2.length x.2.2.2) :
    Calls Try.prog 21 #[.pointer (some ⟨d, 0, none⟩), .agg #[.int .i64 x.1, .int .i64 x.2.1, .string x.2.2.1, .slice B x.2.2.2.length c]] W fun ex W' => ex = .returned (.tuple #[.string (donD R x).1.1, .int .i64 (donD R x).1.2]) ∧ HasR w W' post d (donD R x).2 := by
  obtain ⟨what, at_, dt, keep⟩ := x
  dsimp only at hc hC ⊢
  rw [show donD R (what, at_, dt, keep) = donK R ((wrap64 (what.tmod 9 + 9)).tmod 9) at_ (keep.take (min keep.length 9)) (dt.extract 0 (min dt.size 300)) from rfl]
  obtain ⟨K, hKE⟩ : ∃ K, (wrap64 (what.tmod 9 + 9)).tmod 9 = K := ⟨_, rfl⟩
  obtain ⟨kp, hKO⟩ : ∃ kp, keep.take (min keep.length 9) = kp := ⟨_, rfl⟩
  obtain ⟨dd, hDO⟩ : ∃ dd, dt.extract 0 (min dt.size 300) = dd := ⟨_, rfl⟩
  rw [hKE, hKO, hDO]
  have HKE := Aside0.mk hKE
  have HKO := Aside0.mk hKO
  have HDO := Aside0.mk hDO
  clear hKE hKO hDO
  have hba : Below W.heap.size W (W.alloc (.cells #[.int .i64 what, .int .i64 at_, .string dt, .slice B keep.length c] 36)) := below_alloc (Below.refl _ _) _
  have HH := Aside0.mk (h.below hba)
  have HK := Aside0.mk (fC_takes (Kd.Heap.C (Kd.heap_int _) (fun k hk => hba.block k hk) hC))
  have hblk := blk_new W (.cells #[.int .i64 what, .int .i64 at_, .string dt, .slice B keep.length c] 36)
  have HCc := Aside0.mk hc
  have HOK := Aside0.mk hok
  clear h hC hba hc hok
  go_enter Try.func21, Try.ntmps21
  go_upto_region 1 with fail
  generalize hwb : W.alloc (.cells #[.int .i64 what, .int .i64 at_, .string dt, .slice B keep.length c] 36) = wb at HH HK hblk ⊢
  clear hwb
  generalize W.heap.size = gb at hblk ⊢
  have HB := Aside0.mk hblk
  have hlt := blk_lt hblk
  have z0 : wb.cell? ⟨gb, 0, none⟩ = some (.int .i64 what) := (blk_cell hblk 0).trans rfl
  have z1 : wb.cell? ⟨gb, 1, none⟩ = some (.int .i64 at_) := (blk_cell hblk 1).trans rfl
  have z2 : wb.cell? ⟨gb, 2, none⟩ = some (.string dt) := (blk_cell hblk 2).trans rfl
  have z3 : (wb.alloc (.cells #[] 3)).cell? ⟨gb, 3, none⟩ = some (.slice B keep.length c) := (below_alloc (Below.refl _ _) _ : Below wb.heap.size wb _).cell hlt |>.trans ((blk_cell hblk 3).trans rfl)
  have m1 := g300 dt.size
  have g1 := fgeI (min dt.size 300)
  have k1 := g300l dt.size
  have hk9 := f9 keep.length
  have hk0 := fgeI (min keep.length 9)
  have hk1 := f9c HCc.out
  have hk2 := f9l keep.length
  have HQ : Aside0 (min keep.length 9 * 8 ≤ 140737488355328) := ⟨by omega⟩
  clear hblk hlt
  go_upto_region 3 with (at_builtin; refine fresh_row (Kd.int .i64) (Kd.heap_int _) flatI HK.out rfl (.tmp 15) (.tmp 22) 34 (.int .i64 0) 8 rfl Try.underlying34 infoI rfl (by decide) (by decide) rfl rfl HQ.out ?_; intro A1 c1 w1 h1; have H1 := Aside0.mk h1; clear h1)
  have hb1 := H1.out.1
  have hx := (hb1.block gb (blk_lt HB.out)).trans HB.out
  have y0 : w1.cell? ⟨gb, 0, none⟩ = some (.int .i64 what) := (blk_cell hx 0).trans rfl
  have y1 : w1.cell? ⟨gb, 1, none⟩ = some (.int .i64 at_) := (blk_cell hx 1).trans rfl
  have y2 : w1.cell? ⟨gb, 2, none⟩ = some (.string dt) := (blk_cell hx 2).trans rfl
  have y3 : w1.cell? ⟨gb, 3, none⟩ = some (.slice B keep.length c) := (blk_cell hx 3).trans rfl
  have HH1 := HH
  have hql : kp.length = min keep.length 9 := by rw [← HKO.out, List.length_take]; omega
  rw [HKO.out] at H1
  rw [← hql, HDO.out]
  have HKL : Aside0 (kp.length ≤ 9) := ⟨by rw [hql]; omega⟩
  clear hql
  have HX := Aside0.mk hx
  clear HH HK z0 z1 z2 z3 m1 g1 k1 hk9 hk0 hk1 hk2 hb1 hx HQ HKO HDO HB
  go_upto_block 0 with (go_at_call 17; refine (kind_calls what at_ dt B keep.length c).mono ?_; rintro e w2 ⟨rfl, hb2⟩; have HB2 := Aside0.mk hb2; clear hb2)
  rw [HKE.out]
  clear HKE
  have H2 := Aside0.mk (H1.out.below HB2.out)
  have hlt := blk_lt HX.out
  have x1 : w2.cell? ⟨gb, 1, none⟩ = some (.int .i64 at_) := (HB2.out.cell hlt).trans y1
  clear y0 y1 y2 y3 hlt HX H1 HB2
  have HH2 := Aside0.mk (HH1.out.below H2.out.1)
  obtain ⟨hKC, hnil⟩ := row_reads H2.out 0 rfl
  have HKC := Aside0.mk hKC
  clear hKC hnil
  by_cases e3 : K = 3
  · subst e3
    have HC := Aside0.mk (readR HH2.out HOK.out.wait at_)
    go_wp2_with (go_at_call 33; refine HC.out.mono ?_; rintro e w3 ⟨rfl, h3⟩; rw [h3]; clear h3)
    go_ret2
    exact ⟨rfl, HH2.out⟩
  have t3 : (K == 3) = false := beq_eq_false_iff_ne.mpr e3
  by_cases e4 : K = 4
  · subst e4
    have HC := Aside0.mk (syncR HH2.out HOK.out)
    go_wp2_with (go_at_call 34; refine HC.out.mono ?_; rintro e w3 ⟨rfl, h3⟩; have H3 := Aside0.mk h3; clear h3)
    go_ret2
    exact ⟨rfl, H3.out⟩
  have t4 : (K == 4) = false := beq_eq_false_iff_ne.mpr e4
  by_cases e5 : K = 5
  · subst e5
    have HDK : Aside0 (donK R 5 at_ kp dd = ((⟨#[]⟩, 0), R.setFuse at_ kp)) := ⟨rfl⟩
    unfold RD.setFuse at HDK
    obtain ⟨vl, va, vd, vk, hO⟩ := HH1.out
    have h4 := (hO.add H2.out 4 (by simp [RV]))
    have c3 : w2.cell? ⟨d, 3, none⟩ = some (.bool R.off) := h4.cell 0 rfl 3
    have H4 := Aside0.mk h4
    clear h4 hO
    cases hoff : R.off with
    | true =>
      rw [if_pos hoff] at HDK
      rw [hoff] at c3
      go_wp2_with fail
      go_ret2
      rw [HDK.out]
      exact ⟨rfl, HH2.out⟩
    | false =>
      rw [if_neg (by rw [hoff]; simp)] at HDK
      rw [hoff] at c3
      have hm := max1 at_
      generalize (if 1 < at_ then at_ else 1) = mx at hm HDK
      have c4 : w2.cell? ⟨d, 4, none⟩ = some (.int .i64 R.fuse) := H4.out.cell 0 rfl 4
      have c5 : w2.cell? ⟨d, 5, none⟩ = some vk := H4.out.cell 0 rfl 5
      have f4 : w2.frozen? ⟨d, 4, none⟩ = false := H4.out.frozen 0 rfl 4
      have f5 : w2.frozen? ⟨d, 5, none⟩ = false := H4.out.frozen 0 rfl 5
      have h5 := H4.out.store 0 rfl 4 (.int .i64 mx) (cs' := #[vl, va, vd, .bool R.off, .int .i64 mx, vk, .int .i64 R.cmds]) rfl
      have h6 := h5.store 0 rfl 5 (.slice A1 kp.length c1) (cs' := #[vl, va, vd, .bool R.off, .int .i64 mx, .slice A1 kp.length c1, .int .i64 R.cmds]) rfl
      have H6 := Aside0.mk h6
      clear h5 h6 H4
      go_wp2_with fail
      go_ret2
      rw [HDK.out]
      refine ⟨rfl, vl, va, vd, .slice A1 kp.length c1, ?_⟩
      exact H6.out
  have t5 : (K == 5) = false := beq_eq_false_iff_ne.mpr e5
  by_cases e6 : K = 6
  · subst e6
    have HDK : Aside0 (donK R 6 at_ kp dd = ((⟨#[]⟩, 0), R.blow kp)) := ⟨rfl⟩
    unfold RD.blow at HDK
    obtain ⟨vl, va, vd, vk, hO⟩ := HH2.out
    have c3 : w2.cell? ⟨d, 3, none⟩ = some (.bool R.off) := hO.cell 0 rfl 3
    have HC := Aside0.mk (failR HH2.out HOK.out A1 c1 kp HKC.out)
    clear hO
    cases hoff : R.off with
    | true =>
      rw [if_pos hoff] at HDK
      rw [hoff] at c3
      go_wp2_with fail
      go_ret2
      rw [HDK.out]
      exact ⟨rfl, HH2.out⟩
    | false =>
      rw [if_neg (by rw [hoff]; simp)] at HDK
      rw [hoff] at c3
      go_wp2_with (go_at_call 35; refine HC.out.mono ?_; rintro e w3 ⟨rfl, h3⟩; have H3 := Aside0.mk h3; clear h3)
      go_ret2
      rw [HDK.out]
      exact ⟨rfl, H3.out⟩
  have t6 : (K == 6) = false := beq_eq_false_iff_ne.mpr e6
  by_cases e7 : K = 7
  · subst e7
    obtain ⟨vl, va, vd, vk, hO⟩ := HH2.out
    have h4 := hO.nil 4 (Kd.int .i64) 3
    have f3 : w2.frozen? ⟨d, 3, none⟩ = false := h4.frozen 0 rfl 3
    have f4 : w2.frozen? ⟨d, 4, none⟩ = false := h4.frozen 0 rfl 4
    have f5 : w2.frozen? ⟨d, 5, none⟩ = false := h4.frozen 0 rfl 5
    have c3 : w2.cell? ⟨d, 3, none⟩ = some (.bool R.off) := h4.cell 0 rfl 3
    have c4 : w2.cell? ⟨d, 4, none⟩ = some (.int .i64 R.fuse) := h4.cell 0 rfl 4
    have c5 : w2.cell? ⟨d, 5, none⟩ = some vk := h4.cell 0 rfl 5
    have h5 := h4.store 0 rfl 3 (.bool false) (cs' := #[vl, va, vd, .bool false, .int .i64 R.fuse, vk, .int .i64 R.cmds]) rfl
    have h6 := h5.store 0 rfl 4 (.int .i64 0) (cs' := #[vl, va, vd, .bool false, .int .i64 0, vk, .int .i64 R.cmds]) rfl
    have h7 := h6.store 0 rfl 5 (.slice none 0 0) (cs' := #[vl, va, vd, .bool false, .int .i64 0, .slice none 0 0, .int .i64 R.cmds]) rfl
    have H7 := Aside0.mk h7
    clear h4 h5 h6 h7 hO
    go_wp2_with fail
    go_ret2
    exact ⟨rfl, vl, va, vd, .slice none 0 0, H7.out⟩
  have t7 : (K == 7) = false := beq_eq_false_iff_ne.mpr e7
  by_cases e8 : K = 8
  · subst e8
    go_wp2_with fail
    go_ret2
    exact ⟨rfl, HH2.out⟩
  have t8 : (K == 8) = false := beq_eq_false_iff_ne.mpr e8
  have HDK : Aside0 (donK R K at_ kp dd = ((⟨#[]⟩, (R.write at_ dd).1), (R.write at_ dd).2)) := ⟨by unfold donK; rw [if_neg e3, if_neg e4, if_neg e5, if_neg e6, if_neg e7, if_neg e8]⟩
  have HC := Aside0.mk (writeR HH2.out HOK.out at_ dd)
  go_wp2_with (go_at_call 36; refine HC.out.mono ?_; rintro e w3 ⟨rfl, h3⟩; have H3 := Aside0.mk h3; clear h3)
  go_ret2
  rw [HDK.out]
  exact ⟨rfl, H3.out⟩
end Go.Proofs.Ytjnbeijnlplclaa.Ownd
