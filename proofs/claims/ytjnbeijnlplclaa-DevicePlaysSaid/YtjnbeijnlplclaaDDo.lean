/- law03.do: one act upon the program's device. Conditions: at most 1000000 writes wait. -/
import Derived.Test.YtjnbeijnlplclaaDFuses
import Derived.Test.YtjnbeijnlplclaaDSim
namespace Go.Proofs.Ytjnbeijnlplclaa.Ownd
open Go.RowKit Go.Proofs.YtjnbeijnlplclaaW.PrintWords Go.Proofs.YtjnbeijnlplclaaW.PrintLast Go.Proofs.YtjnbeijnlplclaaW.PrintMore
set_option linter.unusedVariables false
set_option linter.unusedSimpArgs false
variable {w W : World} {l1 l2 : List (Nat × Dev)} {rest : List Thing} {d : Nat} {D : Dev}
def dataOf (x : TA) : ByteArray := x.2.2.1.extract 0 (min x.2.2.1.size 300)
def keepOf (x : TA) : List Int := x.2.2.2.take (min x.2.2.2.length 9)
def kindOf (x : TA) : Int := (wrap64 (x.1.tmod 9 + 9)).tmod 9
def doD (D : Dev) (x : TA) : (ByteArray × Int) × Dev := doK D (kindOf x) x.2.1 (keepOf x) (dataOf x)
theorem g300 (n : Nat) : min (n : Int) 300 = ((min n 300 : Nat) : Int) := by omega
theorem g300l (n : Nat) : ((min n 300 : Nat) : Int) ≤ (n : Int) := by omega
set_option maxHeartbeats 8000000 in
set_option maxRecDepth 100000 in
theorem do_HL (h : HL w W (l1 ++ (d, D) :: l2) rest) (hl : D.wait.length ≤ 1000000) (x : TA) (B : Option Addr) (c : Nat) (hc : x.2.2.2.length ≤ c) (hC : Kd.C (Kd.int .i64) W B x.2.2.2.length x.2.2.2) :
    Calls Try.prog 20 #[.pointer (some ⟨d, 0, none⟩), .agg #[.int .i64 x.1, .int .i64 x.2.1, .string x.2.2.1, .slice B x.2.2.2.length c]] W fun ex W' => ex = .returned (.tuple #[.string (doD D x).1.1, .int .i64 (doD D x).1.2]) ∧ HL w W' (l1 ++ (d, (doD D x).2) :: l2) rest := by
  obtain ⟨what, at_, dt, keep⟩ := x
  dsimp only at hc hC ⊢
  rw [show doD D (what, at_, dt, keep) = doK D ((wrap64 (what.tmod 9 + 9)).tmod 9) at_ (keep.take (min keep.length 9)) (dt.extract 0 (min dt.size 300)) from rfl]
  obtain ⟨K, hKE⟩ : ∃ K, (wrap64 (what.tmod 9 + 9)).tmod 9 = K := ⟨_, rfl⟩
  obtain ⟨kp, hKO⟩ : ∃ kp, keep.take (min keep.length 9) = kp := ⟨_, rfl⟩
  obtain ⟨dd, hDO⟩ : ∃ dd, dt.extract 0 (min dt.size 300) = dd := ⟨_, rfl⟩
  rw [hKE, hKO, hDO]
  have HKE := Aside0.mk hKE
  have HKO := Aside0.mk hKO
  have HDO := Aside0.mk hDO
  clear hKE hKO hDO
  have hba : Below W.heap.size W (W.alloc (.cells #[.int .i64 what, .int .i64 at_, .string dt, .slice B keep.length c] 36)) := below_alloc (Below.refl _ _) _
  have HH := Aside0.mk (h.below hba)
  have HK := Aside0.mk (fC_takes (Kd.Heap.C (Kd.heap_int _) (fun k hk => hba.block k hk) hC))
  have hblk := blk_new W (.cells #[.int .i64 what, .int .i64 at_, .string dt, .slice B keep.length c] 36)
  have HCc := Aside0.mk hc
  clear h hC hba hc
  go_enter Try.func20, Try.ntmps20
  go_upto_region 1 with fail
  generalize hwb : W.alloc (.cells #[.int .i64 what, .int .i64 at_, .string dt, .slice B keep.length c] 36) = wb at HH HK hblk ⊢
  clear hwb
  generalize W.heap.size = gb at hblk ⊢
  have HB := Aside0.mk hblk
  have hlt := blk_lt hblk
  have z0 : wb.cell? ⟨gb, 0, none⟩ = some (.int .i64 what) := (blk_cell hblk 0).trans rfl
  have z1 : wb.cell? ⟨gb, 1, none⟩ = some (.int .i64 at_) := (blk_cell hblk 1).trans rfl
  have z2 : wb.cell? ⟨gb, 2, none⟩ = some (.string dt) := (blk_cell hblk 2).trans rfl
  have z3 : (wb.alloc (.cells #[] 3)).cell? ⟨gb, 3, none⟩ = some (.slice B keep.length c) := (below_alloc (Below.refl _ _) _ : Below wb.heap.size wb _).cell hlt |>.trans ((blk_cell hblk 3).trans rfl)
  have m1 := g300 dt.size
  have g1 := fgeI (min dt.size 300)
  have k1 := g300l dt.size
  have hk9 := f9 keep.length
  have hk0 := fgeI (min keep.length 9)
  have hk1 := f9c HCc.out
  have hk2 := f9l keep.length
  have HQ : Aside0 (min keep.length 9 * 8 ≤ 140737488355328) := ⟨by omega⟩
  clear hblk hlt
  go_upto_region 3 with (at_builtin; refine fresh_row (Kd.int .i64) (Kd.heap_int _) flatI HK.out rfl (.tmp 15) (.tmp 22) 34 (.int .i64 0) 8 rfl Try.underlying34 infoI rfl (by decide) (by decide) rfl rfl HQ.out ?_; intro A1 c1 w1 h1; have H1 := Aside0.mk h1; clear h1)
  have hb1 := H1.out.1
  have hx := (hb1.block gb (blk_lt HB.out)).trans HB.out
  have y0 : w1.cell? ⟨gb, 0, none⟩ = some (.int .i64 what) := (blk_cell hx 0).trans rfl
  have y1 : w1.cell? ⟨gb, 1, none⟩ = some (.int .i64 at_) := (blk_cell hx 1).trans rfl
  have y2 : w1.cell? ⟨gb, 2, none⟩ = some (.string dt) := (blk_cell hx 2).trans rfl
  have y3 : w1.cell? ⟨gb, 3, none⟩ = some (.slice B keep.length c) := (blk_cell hx 3).trans rfl
  have HH1 := Aside0.mk (HH.out.below hb1)
  have hql : kp.length = min keep.length 9 := by rw [← HKO.out, List.length_take]; omega
  rw [HKO.out] at H1
  rw [← hql, HDO.out]
  have HKL : Aside0 (kp.length ≤ 9) := ⟨by rw [hql]; omega⟩
  clear hql
  have HX := Aside0.mk hx
  clear HH HK z0 z1 z2 z3 m1 g1 k1 hk9 hk0 hk1 hk2 hb1 hx HQ HKO HDO HB
  go_upto_block 0 with (go_at_call 17; refine (kind_calls what at_ dt B keep.length c).mono ?_; rintro e w2 ⟨rfl, hb2⟩; have HB2 := Aside0.mk hb2; clear hb2)
  rw [HKE.out]
  clear HKE
  have H2 := Aside0.mk (H1.out.below HB2.out)
  have HH2 := Aside0.mk (HH1.out.below HB2.out)
  have hlt := blk_lt HX.out
  have x1 : w2.cell? ⟨gb, 1, none⟩ = some (.int .i64 at_) := (HB2.out.cell hlt).trans y1
  clear y0 y1 y2 y3 hlt HX H1 HH1 HB2
  obtain ⟨hKC, hnil⟩ := row_reads H2.out 0 rfl
  have HKC := Aside0.mk hKC
  have HNL := Aside0.mk hnil
  clear hKC hnil
  by_cases e3 : K = 3
  · subst e3
    have HC := Aside0.mk (read_HL HH2.out hl at_)
    go_wp2_with (go_at_call 14; refine HC.out.mono ?_; rintro e w3 ⟨rfl, h3⟩; have H3 := Aside0.mk h3; clear h3)
    go_ret2
    exact ⟨rfl, H3.out⟩
  have t3 : (K == 3) = false := beq_eq_false_iff_ne.mpr e3
  by_cases e4 : K = 4
  · subst e4
    have HC := Aside0.mk (sync_HL HH2.out hl)
    go_wp2_with (go_at_call 11; refine HC.out.mono ?_; rintro e w3 ⟨rfl, h3⟩; have H3 := Aside0.mk h3; clear h3)
    go_ret2
    exact ⟨rfl, H3.out⟩
  have t4 : (K == 4) = false := beq_eq_false_iff_ne.mpr e4
  by_cases e5 : K = 5
  · subst e5
    have HC := Aside0.mk (fuse_HL HH2.out at_ A1 c1 kp HKC.out (Nat.le_trans HKL.out (by decide)) HNL.out)
    go_wp2_with (go_at_call 16; refine HC.out.mono ?_; rintro e w3 ⟨rfl, h3⟩; have H3 := Aside0.mk h3; clear h3)
    go_ret2
    exact ⟨rfl, H3.out⟩
  have t5 : (K == 5) = false := beq_eq_false_iff_ne.mpr e5
  by_cases e6 : K = 6
  · subst e6
    have HC := Aside0.mk (blow_HL HH2.out hl A1 c1 kp HKC.out)
    go_wp2_with (go_at_call 12; refine HC.out.mono ?_; rintro e w3 ⟨rfl, h3⟩; have H3 := Aside0.mk h3; clear h3)
    go_ret2
    exact ⟨rfl, H3.out⟩
  have t6 : (K == 6) = false := beq_eq_false_iff_ne.mpr e6
  by_cases e7 : K = 7
  · subst e7
    have HC := Aside0.mk (on_HL HH2.out)
    go_wp2_with (go_at_call 13; refine HC.out.mono ?_; rintro e w3 ⟨rfl, h3⟩; have H3 := Aside0.mk h3; clear h3)
    go_ret2
    exact ⟨rfl, H3.out⟩
  have t7 : (K == 7) = false := beq_eq_false_iff_ne.mpr e7
  by_cases e8 : K = 8
  · subst e8
    go_wp2_with fail
    go_ret2
    exact ⟨rfl, HH2.out⟩
  have t8 : (K == 8) = false := beq_eq_false_iff_ne.mpr e8
  have HDK : Aside0 (doK D K at_ kp dd = ((⟨#[]⟩, (D.write at_ dd).1), (D.write at_ dd).2)) := ⟨by unfold doK; rw [if_neg e3, if_neg e4, if_neg e5, if_neg e6, if_neg e7, if_neg e8]⟩
  have HC := Aside0.mk (write_HL HH2.out hl at_ dd)
  go_wp2_with (go_at_call 10; refine HC.out.mono ?_; rintro e w3 ⟨rfl, h3⟩; have H3 := Aside0.mk h3; clear h3)
  go_ret2
  rw [HDK.out]
  exact ⟨rfl, H3.out⟩
end Go.Proofs.Ytjnbeijnlplclaa.Ownd
