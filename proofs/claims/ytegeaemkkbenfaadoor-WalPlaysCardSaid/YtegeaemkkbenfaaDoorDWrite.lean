/- (*Device).Write. Condition: at most 1000000 writes wait. -/
import Derived.Test.YtegeaemkkbenfaaDoorDCmd
import Derived.Test.YtegeaemkkbenfaaDoorWTab
import Derived.Test.YtegeaemkkbenfaaDoorWRepsOne
namespace Go.Proofs.YtegeaemkkbenfaaDoor.Ownd
open Go.RowKit Go.Proofs.YtegeaemkkbenfaaDoorW.PrintWords Go.Proofs.YtegeaemkkbenfaaDoorW.PrintLast Go.Proofs.YtegeaemkkbenfaaDoorW.PrintMore
set_option linter.unusedVariables false
set_option linter.unusedSimpArgs false
variable {w W : World} {post : List Thing} {d : Nat} {D : Dev}
def wr_T : Bool × List (List Nat × List Nat) := (true, [([], []), ([], []), ([1], [1]), ([2], [2]), ([3], [3]), ([], []), ([], []), ([], []), ([7], [7]), ([8], [8]), ([9], [9]), ([6, 10], [6, 10]), ([5, 11], [5, 11]), ([12], [12]), ([4, 13, 10], [4, 13]), ([0, 0, 1, 2, 3, 4, 5, 6, 7, 8, 9, 10, 11, 12, 13, 14], [0]), ([15, 0, 1, 2, 3, 4, 5, 6, 7, 8, 9, 10, 11, 12, 13, 14], [15]), ([16, 14, 14, 0, 1, 2, 3, 4, 5, 6, 7, 8, 9, 10, 11, 12, 13, 14], [14, 16])])
def wr_B : List Nat := [0, 0, 2, 6, 14, 0, 0, 0, 128, 384, 896, 1984, 4064, 8160, 16382, 32767, 65535, 131071]
theorem wr_tab : rtab .any (opsOf Tryd.f37 11) = wr_T := by kernel_rfl
theorem wr_bits : waitsOk wr_T.2 wr_B = true := by kernel_rfl
theorem infoW : (Tryd.prog.info? 94).map (fun i => (i.zero, i.size, i.bytes)) = some (some (.agg #[.int .i64 0, .string ⟨#[]⟩]), 2, 24) := by kernel_rfl
theorem wlen {l : List PW} (h : l.length ≤ 1000000) : (l.length + 1) * 24 ≤ 140737488355328 := by omega
theorem catOk {s : ByteArray} {m : Nat} (h : s.size ≤ 256) (hm : m ≤ 256) : ¬ 9223372036854775807 < s.size + (Bld.zs m).size := by rw [Bld.zs_size]; omega
/-- With zero bytes behind, 256 bytes. -/
def pad (s : ByteArray) : ByteArray := s ++ Bld.zs (256 - s.size)
theorem pad_size {s : ByteArray} (h : s.size ≤ 256) : (pad s).size = 256 := by
  unfold pad
  rw [ByteArray.size_append, Bld.zs_size]
  omega
def Dev.write (D : Dev) (i : Int) (s : ByteArray) : Int × Dev :=
  if D.off = true then (7, D) else if i < 0 ∨ (D.size : Int) ≤ i then (1, D) else if 256 < s.size then (6, D) else
    if D.command.1 = true then (0, { D.command.2 with wait := D.command.2.wait ++ [(i, pad s)] }) else (7, D.command.2)
theorem Dev.command_wait (D : Dev) (h : D.command.1 = true) : D.command.2.wait = D.wait := by
  unfold Dev.command at h ⊢
  split at h
  · cases h
  · rename_i h1; rw [if_neg h1]
theorem sub256 {n : Nat} (h : n ≤ 256) : wrap64 (256 - (n : Int)) = ((256 - n : Nat) : Int) := by unfold wrap64; omega
theorem sub256' {n : Nat} (h : n ≤ 256) : IntKind.i64.wrap (256 - (n : Int)) = ((256 - n : Nat) : Int) := by rw [IntKind.wrap_i64]; omega
set_option maxHeartbeats 8000000 in
set_option maxRecDepth 100000 in
theorem write_D (h : HasD w W post d D) (hl : D.wait.length ≤ 1000000) (i : Int) (s : ByteArray) : Calls Tryd.prog 37 #[.pointer (some ⟨d, 0, none⟩), .int .i64 i, .string s] W fun ex W' => ex = .returned (.int .i64 (D.write i s).1) ∧ HasD w W' post d (D.write i s).2 := by
  have HD := Aside0.mk h
  obtain ⟨r, vw, vk, es, clk, hm, hO⟩ := h
  have c3 : W.cell? ⟨d, 3, none⟩ = some (.bool D.off) := hO.cell 0 rfl 3
  have c0 : W.cell? ⟨d, 0, none⟩ = some (.int .i64 D.size) := hO.cell 0 rfl 0
  clear hO hm
  unfold Dev.write
  cases hoff : D.off with
  | true =>
    rw [hoff] at c3
    rw [if_pos rfl]
    go_enter Tryd.func37, Tryd.ntmps37
    go_wp2
    go_ret
    exact ⟨rfl, HD.out⟩
  | false =>
    rw [hoff] at c3
    rw [if_neg (by simp)]
    by_cases h0 : i < 0
    · rw [if_pos (Or.inl h0)]
      go_enter Tryd.func37, Tryd.ntmps37
      go_wp2
      go_ret
      exact ⟨rfl, HD.out⟩
    · by_cases h1 : (D.size : Int) ≤ i
      · rw [if_pos (Or.inr h1)]
        go_enter Tryd.func37, Tryd.ntmps37
        go_wp2
        go_ret
        exact ⟨rfl, HD.out⟩
      · rw [if_neg (fun h => h.elim h0 h1)]
        by_cases h2 : 256 < s.size
        · rw [if_pos h2]
          have h2' : (256 : Int) < (s.size : Int) := by omega
          go_enter Tryd.func37, Tryd.ntmps37
          go_wp2
          go_ret
          exact ⟨rfl, HD.out⟩
        · rw [if_neg h2]
          have h2' : ¬ (256 : Int) < (s.size : Int) := by omega
          have h3 : s.size ≤ 256 := by omega
          have HC := Aside0.mk (cmd_D HD.out hl)
          have HW := Aside0.mk (D.command_wait)
          cases hc : D.command.1 with
          | false =>
            rw [if_neg (by simp)]
            rw [hc] at HC
            go_enter Tryd.func37, Tryd.ntmps37
            go_wp2_with (go_at_call 51; refine HC.out.mono ?_; rintro e w1 ⟨rfl, h5⟩; have H5 := Aside0.mk h5; clear h5)
            go_ret
            exact ⟨rfl, H5.out⟩
          | true =>
            rw [if_pos rfl]
            rw [hc] at HC
            replace HW := HW.out hc
            go_enter Tryd.func37, Tryd.ntmps37
            go_upto_region 11 with (go_at_call 51; refine HC.out.mono ?_; rintro e w1 ⟨rfl, h5⟩; have H5 := Aside0.mk h5; clear h5)
            clear HC HD c3 c0
            have hl1 : D.command.2.wait.length ≤ 1000000 := by rw [HW]; exact hl
            have HDE : Aside0 (D.command.2 = D.command.2) := ⟨rfl⟩
            clear HW
            generalize hD1 : D.command.2 = D1 at H5 hl1
            clear HDE
            have HDE := Aside0.mk hD1
            clear hD1 hl hc
            obtain ⟨r, vw, vk, es, clk, hm, hO⟩ := H5.out
            obtain ⟨Aw, cw, rfl, -, -⟩ := hO.reads 2 rfl
            have HM := Aside0.mk hm
            have HO := Aside0.mk hO.room
            clear H5 hm hO
            have hs1 := sub256 h3
            have hs2 := sub256' h3
            have hmle : 256 - s.size ≤ 256 := Nat.sub_le _ _
            have HP : Aside0 (s ++ Bld.zs (256 - s.size) = pad s) := ⟨rfl⟩
            generalize 256 - s.size = m at hs1 hs2 hmle HP
            have hcat : ¬ 9223372036854775807 < s.size + (Bld.zs m).size := catOk h3 hmle
            go_cut [] (fun wx => Aside0 (HasD w wx post d { D1 with wait := D1.wait ++ [(i, pad s)] }))
            case first =>
              have HOd := Aside0.mk (HO.out.below (below_drew (Below.refl _ _)))
              clear HO
              have HO := HOd
              clear HOd
              refine start_ (n := 18) (S := fun w' => w'.cell? ⟨d, 0, none⟩ = some (.int .i64 D1.size) ∧ w'.cell? ⟨d, 2, none⟩ = some (.slice Aw D1.wait.length cw)) (ds := [17]) #[false, false, false, false, false, false, false, false, false, false, false, false, false, false, false, false, false, false] (by kernel_rfl) rfl rfl ⟨(HO.out.cell 0 rfl 0).trans rfl, (HO.out.cell 0 rfl 2).trans rfl⟩ (fun hHeld => ?_)
              refine with_tabW wr_tab wr_bits (fun HT_ HW_ => ?_)
              generalize World.drew _ = W0 at HO hHeld ⊢
              refine pure_ (i := 0) (N := some 34) (v := ?_) (a' := ?_) #[true, false, false, false, false, false, false, false, false, false, false, false, false, false, false, false, false, false] rfl rfl (any_of HT_.out (by kernel_rfl)) (fun _ _ _ h => h) (Or.inl ⟨by rfl, ?_⟩) ?_ ?_
              rotate_left
              · intro w'
                go_simp
                with_reducible rfl
              rotate_left
              · simp only [Act.put, List.setIfInBounds_toArray, List.set_cons_zero, List.set_cons_succ, i64_w, i32_w]
                rfl
              refine pure_ (i := 1) (N := some 35) (v := ?_) (a' := ?_) #[true, true, false, false, false, false, false, false, false, false, false, false, false, false, false, false, false, false] rfl rfl (any_of HT_.out (by kernel_rfl)) (fun _ _ _ h => h) (Or.inl ⟨by rfl, ?_⟩) ?_ ?_
              rotate_left
              · intro w'
                go_simp
                with_reducible rfl
              rotate_left
              · simp only [Act.put, List.setIfInBounds_toArray, List.set_cons_zero, List.set_cons_succ, i64_w, i32_w]
                rfl
              refine pure_ (i := 2) (N := some 36) (v := ?_) (a' := ?_) #[true, true, true, false, false, false, false, false, false, false, false, false, false, false, false, false, false, false] rfl rfl (any_of HT_.out (by kernel_rfl)) (fun _ _ _ h => h) (Or.inl ⟨by rfl, ?_⟩) ?_ ?_
              rotate_left
              · intro w'
                go_simp
                with_reducible rfl
              rotate_left
              · simp only [Act.put, List.setIfInBounds_toArray, List.set_cons_zero, List.set_cons_succ, i64_w, i32_w]
                rfl
              refine pure_ (i := 3) (N := some 37) (v := ?_) (a' := ?_) #[true, true, true, true, false, false, false, false, false, false, false, false, false, false, false, false, false, false] rfl rfl (any_of HT_.out (by kernel_rfl)) (fun _ _ _ h => h) (Or.inl ⟨by rfl, ?_⟩) ?_ ?_
              rotate_left
              · intro w'
                go_simp
                with_reducible rfl
              rotate_left
              · simp only [Act.put, List.setIfInBounds_toArray, List.set_cons_zero, List.set_cons_succ, i64_w, i32_w]
                rfl
              refine take_ (i := 4) (N := some 38) (v := ?_) (a' := ?_) #[true, true, true, true, true, false, false, false, false, false, false, false, false, false, false, false, false, false] rfl rfl (take_ofW HT_.out HW_.out (by kernel_rfl)) (fun _ _ _ h => h) (Or.inl ⟨by rfl, ?_⟩) hHeld ?_ ?_
              rotate_left
              · rintro w' ⟨s0, s1⟩
                go_simp
                with_reducible rfl
              rotate_left
              · simp only [Act.put, List.setIfInBounds_toArray, List.set_cons_zero, List.set_cons_succ, i64_w, i32_w]
                rfl
              refine pure_ (i := 5) (N := some 39) (v := ?_) (a' := ?_) #[true, true, true, true, true, true, false, false, false, false, false, false, false, false, false, false, false, false] rfl rfl (any_of HT_.out (by kernel_rfl)) (fun _ _ _ h => h) (Or.inl ⟨by rfl, ?_⟩) ?_ ?_
              rotate_left
              · intro w'
                go_simp
                with_reducible rfl
              rotate_left
              · simp only [Act.put, List.setIfInBounds_toArray, List.set_cons_zero, List.set_cons_succ, i64_w, i32_w]
                rfl
              refine pure_ (i := 6) (N := some 40) (v := ?_) (a' := ?_) #[true, true, true, true, true, true, true, false, false, false, false, false, false, false, false, false, false, false] rfl rfl (any_of HT_.out (by kernel_rfl)) (fun _ _ _ h => h) (Or.inl ⟨by rfl, ?_⟩) ?_ ?_
              rotate_left
              · intro w'
                go_simp
                with_reducible rfl
              rotate_left
              · simp only [Act.put, List.setIfInBounds_toArray, List.set_cons_zero, List.set_cons_succ, i64_w, i32_w]
                rfl
              refine pure_ (i := 7) (N := some 41) (v := ?_) (a' := ?_) #[true, true, true, true, true, true, true, true, false, false, false, false, false, false, false, false, false, false] rfl rfl (any_of HT_.out (by kernel_rfl)) (fun _ _ _ h => h) (Or.inl ⟨by rfl, ?_⟩) ?_ ?_
              rotate_left
              · intro w'
                go_simp
                with_reducible rfl
              rotate_left
              · simp only [Act.put, List.setIfInBounds_toArray, List.set_cons_zero, List.set_cons_succ, i64_w, i32_w]
                rfl
              refine pure_ (i := 8) (N := some 42) (v := ?_) (a' := ?_) #[true, true, true, true, true, true, true, true, true, false, false, false, false, false, false, false, false, false] rfl rfl (any_of HT_.out (by kernel_rfl)) (fun _ _ _ h => h) (Or.inl ⟨by rfl, ?_⟩) ?_ ?_
              rotate_left
              · intro w'
                go_simp
                with_reducible rfl
              rotate_left
              · simp only [Act.put, List.setIfInBounds_toArray, List.set_cons_zero, List.set_cons_succ, i64_w, i32_w]
                rfl
              refine pure_ (i := 9) (N := some 43) (v := ?_) (a' := ?_) #[true, true, true, true, true, true, true, true, true, true, false, false, false, false, false, false, false, false] rfl rfl (any_of HT_.out (by kernel_rfl)) (fun _ _ _ h => h) (Or.inl ⟨by rfl, ?_⟩) ?_ ?_
              rotate_left
              · intro w'
                go_simp
                with_reducible rfl
              rotate_left
              · simp only [Act.put, List.setIfInBounds_toArray, List.set_cons_zero, List.set_cons_succ, i64_w, i32_w]
                rfl
              refine one_ (i := 10) (N := some 44) #[true, true, true, true, true, true, true, true, true, true, true, false, false, false, false, false, false, false] rfl rfl (one_of HT_.out (by kernel_rfl)) (by decide) (fun K hK => ?_)
              refine goes_ Tryd.func46 (by kernel_rfl) rfl #[.string ⟨#[0]⟩, .int .i64 (m : Int)] (by rfl) rfl rfl (by first | rfl | (simp [Act.eval]; done) | (go_simp; done) | decide) ?_
              refine (Bld.rep_calls m hmle _).mono ?_
              rintro e wA ⟨rfl, hb⟩
              refine ⟨_, rfl, ?_⟩
              have HO1 := Aside0.mk (HO.out.below hb)
              clear HO hb
              have HO := HO1
              clear HO1
              refine hK.out _ _ ⟨(HO.out.cell 0 rfl 0).trans rfl, (HO.out.cell 0 rfl 2).trans rfl⟩ (fun hHeld => ?_)
              clear hK K
              refine norm_ (a' := ?_) ?_ ?_
              rotate_left
              · show Act.put _ (some 44) _ = _
                simp only [Act.put, List.setIfInBounds_toArray, List.set_cons_zero, List.set_cons_succ, i64_w, i32_w]
                rfl
              refine pure_ (i := 11) (N := some 45) (v := ?_) (a' := ?_) #[true, true, true, true, true, true, true, true, true, true, true, true, false, false, false, false, false, false] rfl rfl (any_of HT_.out (by kernel_rfl)) (fun _ _ _ h => h) (Or.inl ⟨by rfl, ?_⟩) ?_ ?_
              rotate_left
              · intro w'
                go_simp
                with_reducible rfl
              rotate_left
              · simp only [Act.put, List.setIfInBounds_toArray, List.set_cons_zero, List.set_cons_succ, i64_w, i32_w]
                rfl
              refine pure_ (i := 12) (N := some 46) (v := ?_) (a' := ?_) #[true, true, true, true, true, true, true, true, true, true, true, true, true, false, false, false, false, false] rfl rfl (any_of HT_.out (by kernel_rfl)) (fun _ _ _ h => h) (Or.inl ⟨by rfl, ?_⟩) ?_ ?_
              rotate_left
              · intro w'
                go_simp
                with_reducible rfl
              rotate_left
              · simp only [Act.put, List.setIfInBounds_toArray, List.set_cons_zero, List.set_cons_succ, i64_w, i32_w]
                rfl
              refine one_ (i := 13) (N := some 47) #[true, true, true, true, true, true, true, true, true, true, true, true, true, true, false, false, false, false] rfl rfl (one_of HT_.out (by kernel_rfl)) (by decide) (fun K hK => ?_)
              refine Own.lit_step kW HO.out 4 rfl 94 ?hg (N := 47) ?hd (xs := [((i, s ++ Bld.zs m) : PW)]) (inner := [.int .i64 i, .string (s ++ Bld.zs m)]) ?hr ?hp (by simp) ?_; (case hd => rfl); (case hg => rfl); (case hr => first | (go_simp; done) | (go_simp; rfl)); (case hp => exact Reps.c2 (fun W2 _ => kW_mk W2 (i, s ++ Bld.zs m)) (Reps.none _ _))
              intro vA wA HO'
              have HO1 := Aside0.mk HO'
              clear HO HO'
              have HO := HO1
              clear HO1
              obtain ⟨AvA_, cvA', evA⟩ := HO.out.row 4 rfl
              subst evA
              refine hK.out _ _ ⟨(HO.out.cell 0 rfl 0).trans rfl, (HO.out.cell 0 rfl 2).trans rfl⟩ (fun hHeld => ?_)
              clear hK K
              refine norm_ (a' := ?_) ?_ ?_
              rotate_left
              · show Act.put _ (some 47) _ = _
                simp only [Act.put, List.setIfInBounds_toArray, List.set_cons_zero, List.set_cons_succ, i64_w, i32_w]
                rfl
              refine one_ (i := 14) (N := some 48) #[true, true, true, true, true, true, true, true, true, true, true, true, true, true, true, false, false, false] rfl rfl (one_of HT_.out (by kernel_rfl)) (by decide) (fun K hK => ?_)
              refine Own.append_step kW HO.out 2 4 (by decide) 94 rfl rfl (by rfl) (.tmp 38) (.tmp 47) 57 (.agg #[.int .i64 0, .string ⟨#[]⟩]) 24 rfl Tryd.underlying57 infoW rfl (by decide) (by decide) rfl rfl (wlen hl1) ?_
              intro vC wA HO'
              have HO1 := Aside0.mk HO'
              clear HO HO'
              have HO := HO1
              clear HO1
              obtain ⟨AC, cC, eC⟩ := HO.out.row 2 rfl
              replace eC : vC = _ := eC
              generalize hnC : List.length _ = nC at eC
              subst eC
              refine hK.out _ _ ⟨(HO.out.cell 0 rfl 0).trans rfl, (HO.out.cell 0 rfl 2).trans rfl⟩ (fun hHeld => ?_)
              clear hK K
              refine norm_ (a' := ?_) ?_ ?_
              rotate_left
              · show Act.put _ (some 48) _ = _
                simp only [Act.put, List.setIfInBounds_toArray, List.set_cons_zero, List.set_cons_succ, i64_w, i32_w]
                rfl
              refine pure_ (i := 15) (N := some 49) (v := ?_) (a' := ?_) #[true, true, true, true, true, true, true, true, true, true, true, true, true, true, true, true, false, false] rfl rfl (any_of HT_.out (by kernel_rfl)) (fun _ _ _ h => h) (Or.inl ⟨by rfl, ?_⟩) ?_ ?_
              rotate_left
              · intro w'
                go_simp
                with_reducible rfl
              rotate_left
              · simp only [Act.put, List.setIfInBounds_toArray, List.set_cons_zero, List.set_cons_succ, i64_w, i32_w]
                rfl
              refine pure_ (i := 16) (N := some 50) (v := ?_) (a' := ?_) #[true, true, true, true, true, true, true, true, true, true, true, true, true, true, true, true, true, false] rfl rfl (any_of HT_.out (by kernel_rfl)) (fun _ _ _ h => h) (Or.inl ⟨by rfl, ?_⟩) ?_ ?_
              rotate_left
              · intro w'
                go_simp
                with_reducible rfl
              rotate_left
              · simp only [Act.put, List.setIfInBounds_toArray, List.set_cons_zero, List.set_cons_succ, i64_w, i32_w]
                rfl
              refine last_ (i := 17) (N := none) #[true, true, true, true, true, true, true, true, true, true, true, true, true, true, true, true, true, true] rfl rfl (one_of HT_.out (by kernel_rfl)) (by decide) (fun K hK => ?_)
              have hs0 : wA.cell? ⟨d, 2, none⟩ = some (.slice Aw D1.wait.length cw) := (HO.out.cell 0 rfl 2).trans rfl
              have hf0 := HO.out.frozen 0 rfl 2
              refine skip_ (w1 := ?_) (by rfl) rfl ?_ ?_
              rotate_left
              · go_simp
                rfl
              refine hK.out _ _ ?_
              clear hK K
              have HO1 := Aside0.mk (HO.out.store 0 rfl 2 (.slice AC nC cC) (cs' := #[.int .i64 D1.size, .map (some r), .slice AC nC cC, .bool D1.off, .int .i64 D1.fuse, vk, .int .i64 D1.cmds]) rfl)
              clear hs0 hf0 HO
              generalize wA.setCell ⟨d, 2, none⟩ (.slice AC nC cC) = W3 at HO1 ⊢
              have HO := HO1
              clear HO1
              refine done_ (done_of HT_.out (by kernel_rfl)) ?_
              go_wp2_with fail
              go_meet
              case rel => exact ⟨⟨r, .slice AC nC cC, vk, es, clk, HM.out, by rw [← HP.out]; exact HO.out.shut⟩⟩
            case rest =>
              go_wp2
              go_ret
              exact ⟨rfl, by rw [HDE.out]; exact hcut.out⟩
end Go.Proofs.YtegeaemkkbenfaaDoor.Ownd
