/- concordanceref03.Step and Write. Conditions: as RD.Ok. -/
import Derived.Test.YtjnbeijnlplclaaDRefC
namespace Go.Proofs.Ytjnbeijnlplclaa.Ownd
open Go.RowKit Go.Proofs.YtjnbeijnlplclaaW.PrintWords Go.Proofs.YtjnbeijnlplclaaW.PrintLast Go.Proofs.YtjnbeijnlplclaaW.PrintMore
set_option linter.unusedVariables false
set_option linter.unusedSimpArgs false
variable {w W : World} {post : List Thing} {d : Nat} {R : RD}
def RD.step (R : RD) : Bool × RD := if R.fuse = 1 then (false, R.fail R.keep) else (true, { R with fuse := if 0 < R.fuse then wrap64 (R.fuse - 1) else R.fuse, cmds := wrap64 (R.cmds + 1) })
theorem RD.step_rows (R : RD) (h : R.step.1 = true) : R.step.2.wait = R.wait ∧ R.step.2.last = R.last := by
  unfold RD.step at h ⊢
  split at h
  · cases h
  · rename_i h1; rw [if_neg h1]; exact ⟨rfl, rfl⟩
set_option maxHeartbeats 4000000 in
set_option maxRecDepth 100000 in
theorem stepR (h : HasR w W post d R) (hok : R.Ok) : Calls Try.prog 45 #[.pointer (some ⟨d, 0, none⟩)] W fun ex W' => ex = .returned (.bool R.step.1) ∧ HasR w W' post d R.step.2 := by
  have HR := Aside0.mk h
  obtain ⟨vl, va, vd, vk, hO⟩ := h
  obtain ⟨Al, cl, Aa, ca, Ad, cd, Ak, ck, rfl, rfl, rfl, rfl, -, -, -⟩ := RCells.of hO
  have c4 : W.cell? ⟨d, 4, none⟩ = some (.int .i64 R.fuse) := hO.cell 0 rfl 4
  unfold RD.step
  by_cases h1 : R.fuse = 1
  · have c5 : W.cell? ⟨d, 5, none⟩ = some (.slice Ak R.keep.length ck) := hO.cell 0 rfl 5
    obtain ⟨Ak', ck', e, -, hC⟩ := hO.reads 4 rfl
    simp only [Value.slice.injEq] at e
    obtain ⟨rfl, -, rfl⟩ := e
    have HF := Aside0.mk (failR HR.out hok Ak ck R.keep hC)
    rw [h1] at c4
    rw [if_pos h1]
    clear hO hok hC
    go_enter Try.func45, Try.ntmps45
    go_wp2_with (go_at_call 35; refine HF.out.mono ?_; rintro e w1 ⟨rfl, h1⟩; have H1 := Aside0.mk h1; clear h1)
    go_ret
    exact ⟨rfl, H1.out⟩
  · rw [if_neg h1]
    have c6 : W.cell? ⟨d, 6, none⟩ = some (.int .i64 R.cmds) := hO.cell 0 rfl 6
    have f4 : W.frozen? ⟨d, 4, none⟩ = false := hO.frozen 0 rfl 4
    have f6 : W.frozen? ⟨d, 6, none⟩ = false := hO.frozen 0 rfl 6
    clear hok HR
    by_cases h2 : 0 < R.fuse
    · rw [if_pos h2]
      have h3 := hO.store 0 rfl 4 (.int .i64 (wrap64 (R.fuse - 1))) (cs' := #[.slice Al R.last.length cl, .slice Aa R.wait.length ca, .slice Ad R.wait.length cd, .bool R.off, .int .i64 (wrap64 (R.fuse - 1)), .slice Ak R.keep.length ck, .int .i64 R.cmds]) rfl
      have h4 := h3.store 0 rfl 6 (.int .i64 (wrap64 (R.cmds + 1))) (cs' := #[.slice Al R.last.length cl, .slice Aa R.wait.length ca, .slice Ad R.wait.length cd, .bool R.off, .int .i64 (wrap64 (R.fuse - 1)), .slice Ak R.keep.length ck, .int .i64 (wrap64 (R.cmds + 1))]) rfl
      have H4 := Aside0.mk h4
      clear h3 h4 hO
      go_enter Try.func45, Try.ntmps45
      go_wp2
      go_ret
      exact ⟨rfl, _, _, _, _, H4.out⟩
    · rw [if_neg h2]
      have h4 := hO.store 0 rfl 6 (.int .i64 (wrap64 (R.cmds + 1))) (cs' := #[.slice Al R.last.length cl, .slice Aa R.wait.length ca, .slice Ad R.wait.length cd, .bool R.off, .int .i64 R.fuse, .slice Ak R.keep.length ck, .int .i64 (wrap64 (R.cmds + 1))]) rfl
      have H4 := Aside0.mk h4
      clear h4 hO
      go_enter Try.func45, Try.ntmps45
      go_wp2
      go_ret
      exact ⟨rfl, _, _, _, _, H4.out⟩
def RD.write (R : RD) (i : Int) (s : ByteArray) : Int × RD :=
  if R.off = true then (7, R) else if i < 0 ∨ (R.last.length : Int) ≤ i then (1, R) else if 256 < s.size then (6, R) else
    if R.step.1 = true then (0, { R.step.2 with wait := R.step.2.wait ++ [(i, pad s)] }) else (7, R.step.2)
theorem len8R {α : Type} {l : List α} (h : l.length ≤ 1000000) : (l.length + 1) * 8 ≤ 140737488355328 := by omega
theorem len16R {α : Type} {l : List α} (h : l.length ≤ 1000000) : (l.length + 1) * 16 ≤ 140737488355328 := by omega
theorem len8M {n : Nat} (h : n ≤ 1000000) : n * 8 ≤ 140737488355328 := by omega
theorem len16M {n : Nat} (h : n ≤ 1000000) : n * 16 ≤ 140737488355328 := by omega
set_option maxHeartbeats 8000000 in
set_option maxRecDepth 100000 in
theorem writeR (h : HasR w W post d R) (hok : R.Ok) (i : Int) (s : ByteArray) : Calls Try.prog 36 #[.pointer (some ⟨d, 0, none⟩), .int .i64 i, .string s] W fun ex W' => ex = .returned (.int .i64 (R.write i s).1) ∧ HasR w W' post d (R.write i s).2 := by
  have HR := Aside0.mk h
  obtain ⟨vl, va, vd, vk, hO⟩ := h
  obtain ⟨Al, cl, Aa, ca, Ad, cd, Ak, ck, rfl, rfl, rfl, rfl, -, -, -⟩ := RCells.of hO
  have c3 : W.cell? ⟨d, 3, none⟩ = some (.bool R.off) := hO.cell 0 rfl 3
  have c0 : W.cell? ⟨d, 0, none⟩ = some (.slice Al R.last.length cl) := hO.cell 0 rfl 0
  have HOK := Aside0.mk hok
  clear hO hok
  unfold RD.write
  cases hoff : R.off with
  | true =>
    rw [hoff] at c3
    rw [if_pos rfl]
    go_enter Try.func36, Try.ntmps36
    go_wp2
    go_ret
    exact ⟨rfl, HR.out⟩
  | false =>
    rw [hoff] at c3
    rw [if_neg (by simp)]
    by_cases h0 : i < 0
    · rw [if_pos (Or.inl h0)]
      go_enter Try.func36, Try.ntmps36
      go_wp2
      go_ret
      exact ⟨rfl, HR.out⟩
    · by_cases h1 : (R.last.length : Int) ≤ i
      · rw [if_pos (Or.inr h1)]
        go_enter Try.func36, Try.ntmps36
        go_wp2
        go_ret
        exact ⟨rfl, HR.out⟩
      · rw [if_neg (fun h => h.elim h0 h1)]
        by_cases h2 : 256 < s.size
        · rw [if_pos h2]
          have h2' : (256 : Int) < (s.size : Int) := by omega
          go_enter Try.func36, Try.ntmps36
          go_wp2
          go_ret
          exact ⟨rfl, HR.out⟩
        · rw [if_neg h2]
          have h2' : ¬ (256 : Int) < (s.size : Int) := by omega
          have H256 : Aside0 (s.size ≤ 256) := ⟨by omega⟩
          have HC := Aside0.mk (stepR HR.out HOK.out)
          have HW := Aside0.mk (R.step_rows)
          cases hc : R.step.1 with
          | false =>
            rw [if_neg (by simp)]
            rw [hc] at HC
            go_enter Try.func36, Try.ntmps36
            go_wp2_with (go_at_call 45; refine HC.out.mono ?_; rintro e w1 ⟨rfl, h5⟩; have H5 := Aside0.mk h5; clear h5)
            go_ret
            exact ⟨rfl, H5.out⟩
          | true =>
            rw [if_pos rfl]
            rw [hc] at HC
            replace HW := HW.out hc
            go_enter Try.func36, Try.ntmps36
            go_upto_region 9 with (go_at_call 45; refine HC.out.mono ?_; rintro e w1 ⟨rfl, h5⟩; have H5 := Aside0.mk h5; clear h5)
            clear HC HR c3 c0
            have HL1 : Aside0 (R.step.2.wait.length ≤ 1000000) := ⟨by rw [HW.1]; exact HOK.out.wait⟩
            clear HW HOK
            generalize hD1 : R.step.2 = R1 at H5 HL1
            have HDE := Aside0.mk hD1
            clear hD1 hc h0 h1 h2 h2'
            obtain ⟨vl, va, vd, vk, hO⟩ := H5.out
            obtain ⟨Al, cl, Aa, ca, Ad, cd, Ak, ck, rfl, rfl, rfl, rfl, -, -, -⟩ := RCells.of hO
            obtain ⟨Aa', ca', e, -, hC⟩ := hO.reads 2 rfl
            rw [List.length_map] at e hC
            simp only [Value.slice.injEq] at e
            obtain ⟨rfl, -, rfl⟩ := e
            have HCa := Aside0.mk hC
            have HO := Aside0.mk hO
            have c1 : (w1.alloc (.cells #[] 3)).cell? ⟨d, 1, none⟩ = some (.slice Aa R1.wait.length ca) := (hO.below (below_alloc (Below.refl _ _) (.cells #[] 3))).cell 0 rfl 1
            clear H5 hO hC
            go_upto_region 10 with (at_builtin; first
              | (refine fresh_row (Kd.int .i64) (Kd.heap_int _) flatI HCa.out rfl (.tmp 29) (.tmp 33) 34 (.int .i64 0) 8 rfl Try.underlying34 infoI rfl (by decide) (by decide) rfl rfl (len8M HL1.out) ?_; intro A1 c1 w2 h1; rw [List.length_map] at h1; have H1 := Aside0.mk h1; clear h1)
              | (refine gate_ (.call { callee := .builtin .append, args := #[.tmp 34, .tmp 36], argTypes := #[34, 34] }) rfl ?_; refine Aside0.out ?_))
            refine ⟨?_⟩
            refine Own.append (Kd.int .i64) H1.out 0 rfl rfl (.tmp 34) (.tmp 36) 34 (.int .i64 0) 8 rfl Try.underlying34 infoI rfl (by decide) (by decide) i [.int .i64 i] rfl rfl (fun _ _ => rfl) (by rw [List.length_map]; exact len8R HL1.out) ?_
            intro v2 w3 h2
            have H2 := Aside0.mk h2
            clear h2
            obtain ⟨A2, c2, e2⟩ := H2.out.row 0 rfl
            replace e2 : v2 = _ := e2
            generalize hn2 : List.length _ = n2 at e2
            subst e2
            have d1 : w3.cell? ⟨d, 1, none⟩ = some (.slice Aa R1.wait.length ca) := (HO.out.below H2.out.1).cell 0 rfl 1
            have f1 : w3.frozen? ⟨d, 1, none⟩ = false := (HO.out.below H2.out.1).frozen 0 rfl 1
            go_upto_region 10 with fail
            have HO4 := Aside0.mk ((HO.out.add H2.out 2 (by simp [RV])).store 0 rfl 1 (.slice A2 n2 c2) (cs' := #[.slice Al R1.last.length cl, .slice A2 n2 c2, .slice Ad R1.wait.length cd, .bool R1.off, .int .i64 R1.fuse, .slice Ak R1.keep.length ck, .int .i64 R1.cmds]) rfl)
            clear HO H1 H2 d1 f1 HCa hn2
            generalize w3.setCell ⟨d, 1, none⟩ (.slice A2 n2 c2) = w4 at HO4 ⊢
            obtain ⟨Ad', cd', e, -, hC⟩ := HO4.out.reads 3 rfl
            rw [List.length_map] at e hC
            simp only [Value.slice.injEq] at e
            obtain ⟨rfl, -, rfl⟩ := e
            have HCd := Aside0.mk hC
            have c2' : (w4.alloc (.cells #[] 9)).cell? ⟨d, 2, none⟩ = some (.slice Ad R1.wait.length cd) := (HO4.out.below (below_alloc (Below.refl _ _) (.cells #[] 9))).cell 0 rfl 2
            clear hC
            go_upto_region 11 with (first
              | (at_builtin; refine fresh_row Kd.string Kd.heap_string flatS HCd.out rfl (.tmp 41) (.tmp 45) 44 (.string ⟨#[]⟩) 16 rfl Try.underlying44 infoS rfl (by decide) (by decide) rfl rfl (len16M HL1.out) ?_; intro A5 c5 w5 h5; rw [List.length_map] at h5; have H5 := Aside0.mk h5; clear h5)
              | (go_at_call 32; refine (full_calls s H256.out _).mono ?_; rintro e w6 ⟨rfl, hb⟩; have H6 := Aside0.mk (H5.out.below hb); clear hb)
              | (refine gate_ (.call { callee := .builtin .append, args := #[.tmp 46, .tmp 49], argTypes := #[44, 44] }) rfl ?_; refine Aside0.out ?_))
            refine ⟨?_⟩
            refine Own.append Kd.string H6.out 0 rfl rfl (.tmp 46) (.tmp 49) 44 (.string ⟨#[]⟩) 16 rfl Try.underlying44 infoS rfl (by decide) (by decide) (pad s) [.string (pad s)] rfl rfl (fun _ _ => rfl) (by rw [List.length_map]; exact len16R HL1.out) ?_
            intro v7 w7 h7
            have H7 := Aside0.mk h7
            clear h7
            obtain ⟨A7, c7, e7⟩ := H7.out.row 0 rfl
            replace e7 : v7 = _ := e7
            generalize hn7 : List.length _ = n7 at e7
            subst e7
            have d2 : w7.cell? ⟨d, 2, none⟩ = some (.slice Ad R1.wait.length cd) := (HO4.out.below H7.out.1).cell 0 rfl 2
            have f2 : w7.frozen? ⟨d, 2, none⟩ = false := (HO4.out.below H7.out.1).frozen 0 rfl 2
            have HO8 := Aside0.mk ((HO4.out.add H7.out 3 (by simp [RV])).store 0 rfl 2 (.slice A7 n7 c7) (cs' := #[.slice Al R1.last.length cl, .slice A2 n2 c2, .slice A7 n7 c7, .bool R1.off, .int .i64 R1.fuse, .slice Ak R1.keep.length ck, .int .i64 R1.cmds]) rfl)
            clear HO4 H5 H6 H7 HCd hn7
            go_wp2_with fail
            go_ret
            refine ⟨rfl, .slice Al R1.last.length cl, .slice A2 n2 c2, .slice A7 n7 c7, .slice Ak R1.keep.length ck, ?_⟩
            rw [HDE.out]
            have h9 := HO8.out
            unfold RV
            rw [List.map_append, List.map_append]
            exact h9
end Go.Proofs.Ytjnbeijnlplclaa.Ownd
