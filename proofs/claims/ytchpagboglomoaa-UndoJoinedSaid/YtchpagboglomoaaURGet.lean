/- Reading an entry: the document's Get. Conditions: none. -/
import Derived.Test.YtchpagboglomoaaUGet
namespace Go.Proofs.Ytchpagboglomoaa.Ownd
open Go.RowKit Go.Proofs.Ytchpagboglomoaa.GP Go.Proofs.YtchpagboglomoaaW.PrintWords Go.Proofs.YtchpagboglomoaaW.PrintLast Go.Proofs.YtchpagboglomoaaW.PrintMore
set_option linter.unusedVariables false
set_option linter.unusedSimpArgs false
theorem numL_num2 (s : ByteArray) (h : 3 ≤ s.size) : numL (s.extract 1 3).data.toList = num2 s 1 := by
  have hl : 3 ≤ s.data.toList.length := by simpa using h
  rw [ByteArray.data_extract, Array.toList_extract, List.extract_eq_take_drop]
  unfold num2
  cases hs : s.data.toList with
  | nil => rw [hs] at hl; simp at hl
  | cons x l => cases l with
    | nil => rw [hs] at hl; simp at hl
    | cons y l => cases l with
      | nil => rw [hs] at hl; simp at hl
      | cons z l => simp [numL, numF]
theorem rt_tab : rtab .any (opsOf Try.f22 3) = gt_T := by kernel_rfl
theorem rt_bits : waitsOk gt_T.2 gt_B = true := gt_bits
theorem size_RUE : (Try.prog.info? 39).map (·.size) = some 3 := by kernel_rfl
set_option maxHeartbeats 4000000 in
set_option maxRecDepth 100000 in
theorem rgetE_calls (s : ByteArray) (W : World) : Calls Try.prog 22 #[.string s] W fun ex W' => ex = .returned (.tuple #[.agg #[.int .i64 (getE s).1.1, .int .i64 (getE s).1.2.1, .string (getE s).1.2.2], .int .i64 (getE s).2]) ∧ Below W.heap.size W W' := by
  obtain ⟨⟨⟨ra, rb, rc⟩, re⟩, hv⟩ : ∃ v, getE s = v := ⟨_, rfl⟩
  rw [hv]
  have HV := Aside0.mk hv
  clear hv
  have HO : Aside0 (Own W (W.alloc (.cells #[.int .i64 0, .int .i64 0, .string ⟨#[]⟩] 39)) [.box W.heap.size (.cells #[.int .i64 0, .int .i64 0, .string ⟨#[]⟩] 39 (0, 0)), .gone]) := ⟨(Own.start W 2).alloc 0 rfl (.cells #[.int .i64 0, .int .i64 0, .string ⟨#[]⟩] 39)⟩
  go_enter Try.func22, Try.ntmps22
  go_upto_region 1 with fail
  generalize W.alloc (.cells #[.int .i64 0, .int .i64 0, .string ⟨#[]⟩] 39) = w0 at HO ⊢
  generalize W.heap.size = g at HO ⊢
  by_cases h3 : s.size < 3
  · have d0 : decide (s.size < 3) = true := decide_eq_true h3
    have d1 : decide ((s.size : Int) < 3) = true := decide_eq_true (by omega)
    have hr : getE s = ((0, 0, ⟨#[]⟩), 3) := if_pos h3
    rw [HV.out] at hr
    cases hr
    go_wp2_with (refine gate_ (.store 39 (.tmp 2) (.tmp 8)) rfl ?_; refine Aside0.out ?_)
    refine ⟨?_⟩
    refine Own.store_all HO.out 0 rfl rfl rfl 39 (.tmp 2) (.tmp 8) rfl #[.int .i64 0, .int .i64 0, .string ⟨#[]⟩] rfl rfl size_RUE rfl (by simp [Value.oneCell']) ?_
    intro wz hz
    have HZ := Aside0.mk hz
    clear hz
    go_wp2_with fail
    (try simp only [Exit.inBlock, Exit.then])
    refine bodyPost_ret (results_ct rfl _ _ g 39 #[.int .i64 0, .int .i64 0, .string ⟨#[]⟩] (0, 0) _ rfl (HZ.out.box 0 rfl) Try.underlying39 rfl size_RUE) rfl ?_
    exact ⟨rfl, HZ.out.1⟩
  · have d0 : decide (s.size < 3) = false := decide_eq_false h3
    have d1 : decide ((s.size : Int) < 3) = false := decide_eq_false (by omega)
    have HG := Aside0.mk (HV.out.symm.trans (show getE s = _ from if_neg h3))
    have HS := Aside0.mk (fun w => concordanceref02_Get.calls 7 (s.extract 1 3) ((num2 s 1 : Nat) : Int) w (by rw [ref02Get_tells _ (by rw [extract_size _ _ _ (by omega)]; omega) 7 (by omega), numL_num2 s (by omega)]))
    go_upto_region 3 with fail
    have hk : 3 ≤ s.size := by omega
    have hk2 : (3 : Int) ≤ (s.size : Int) := by omega
    have hk3 : 0 < s.size := by omega
    have hb0 : wrap64 ((s[0]'hk3).toNat : Int) = bt s 0 := by
      have h1 : bt s 0 = ((s.data.toList.getD 0 0).toNat : Int) := bt_nat s 0
      have h2 : s.data.toList.getD 0 0 = s[0]'hk3 := by
        rw [List.getD_eq_getElem?_getD, List.getElem?_eq_getElem (by simpa using hk3)]; rfl
      have h3 := (s[0]'hk3).toNat_lt
      rw [h1, h2]; unfold wrap64; omega
    have HOd := Aside0.mk (HO.out.below (below_drew (Below.refl _ _)))
    clear HO
    have HO := HOd
    clear HOd
    refine start_ (n := 11) (S := fun w' => True) (ds := [10]) #[false, false, false, false, false, false, false, false, false, false, false] (by kernel_rfl) rfl rfl trivial (fun hHeld => ?_)
    refine with_tabW rt_tab rt_bits (fun HT_ HW_ => ?_)
    generalize World.drew _ = W0 at HO hHeld ⊢
    refine pure_ (i := 0) (N := some 9) (v := ?_) (a' := ?_) #[true, false, false, false, false, false, false, false, false, false, false] rfl rfl (any_of HT_.out (by kernel_rfl)) (fun _ _ _ h => h) (Or.inl ⟨by rfl, ?_⟩) ?_ ?_
    rotate_left
    · intro w'
      go_simp
      with_reducible rfl
    rotate_left
    · simp only [Act.put, List.setIfInBounds_toArray, List.set_cons_zero, List.set_cons_succ, i64_w, i32_w]
      rfl
    refine pure_ (i := 1) (N := some 10) (v := ?_) (a' := ?_) #[true, true, false, false, false, false, false, false, false, false, false] rfl rfl (any_of HT_.out (by kernel_rfl)) (fun _ _ _ h => h) (Or.inl ⟨by rfl, ?_⟩) ?_ ?_
    rotate_left
    · intro w'
      go_simp
      with_reducible rfl
    rotate_left
    · simp only [Act.put, List.setIfInBounds_toArray, List.set_cons_zero, List.set_cons_succ, i64_w, i32_w]
      rfl
    refine pure_ (i := 2) (N := some 11) (v := ?_) (a' := ?_) #[true, true, true, false, false, false, false, false, false, false, false] rfl rfl (any_of HT_.out (by kernel_rfl)) (fun _ _ _ h => h) (Or.inl ⟨by rfl, ?_⟩) ?_ ?_
    rotate_left
    · intro w'
      go_simp
      with_reducible rfl
    rotate_left
    · simp only [Act.put, List.setIfInBounds_toArray, List.set_cons_zero, List.set_cons_succ, i64_w, i32_w]
      rfl
    refine pure_ (i := 3) (N := some 12) (v := ?_) (a' := ?_) #[true, true, true, true, false, false, false, false, false, false, false] rfl rfl (any_of HT_.out (by kernel_rfl)) (fun _ _ _ h => h) (Or.inl ⟨by rfl, ?_⟩) ?_ ?_
    rotate_left
    · intro w'
      go_simp
      with_reducible rfl
    rotate_left
    · simp only [Act.put, List.setIfInBounds_toArray, List.set_cons_zero, List.set_cons_succ, i64_w, i32_w]
      rfl
    refine pure_ (i := 4) (N := some 13) (v := ?_) (a' := ?_) #[true, true, true, true, true, false, false, false, false, false, false] rfl rfl (any_of HT_.out (by kernel_rfl)) (fun _ _ _ h => h) (Or.inl ⟨by rfl, ?_⟩) ?_ ?_
    rotate_left
    · intro w'
      go_simp
      with_reducible rfl
    rotate_left
    · simp only [Act.put, List.setIfInBounds_toArray, List.set_cons_zero, List.set_cons_succ, i64_w, i32_w]
      rfl
    refine pure_ (i := 6) (N := some 15) (v := ?_) (a' := ?_) #[true, true, true, true, true, false, true, false, false, false, false] rfl rfl (any_of HT_.out (by kernel_rfl)) (fun _ _ _ h => h) (Or.inl ⟨by rfl, ?_⟩) ?_ ?_
    rotate_left
    · intro w'
      go_simp
      with_reducible rfl
    rotate_left
    · simp only [Act.put, List.setIfInBounds_toArray, List.set_cons_zero, List.set_cons_succ, i64_w, i32_w]
      rfl
    refine pure_ (i := 7) (N := some 16) (v := ?_) (a' := ?_) #[true, true, true, true, true, false, true, true, false, false, false] rfl rfl (any_of HT_.out (by kernel_rfl)) (fun _ _ _ h => h) (Or.inl ⟨by rfl, ?_⟩) ?_ ?_
    rotate_left
    · intro w'
      go_simp
      with_reducible rfl
    rotate_left
    · simp only [Act.put, List.setIfInBounds_toArray, List.set_cons_zero, List.set_cons_succ, i64_w, i32_w]
      rfl
    refine two_ (i := 5) (j := 9) (Ni := some 14) (Nj := some 4) #[true, true, true, true, true, true, true, true, false, false, false] #[true, true, true, true, true, false, true, true, false, true, false] rfl rfl rfl rfl (two_of HT_.out (by kernel_rfl)) (by decide) (by decide) (fun K hK => ?_) (fun K hK => ?_)
    refine goes_ Try.func38 (by kernel_rfl) rfl #[.string (s.extract 1 3)] (by rfl) rfl rfl (by first | rfl | (simp [Act.eval]; done) | (go_simp; done) | decide) ?_
    refine (HS.out _).mono ?_
    rintro e wA ⟨rfl, hb⟩
    refine ⟨_, rfl, ?_⟩
    have HO1 := Aside0.mk (HO.out.below hb.below)
    clear HO hb
    have HO := HO1
    clear HO1
    refine hK.out _ _ trivial (fun hHeld => ?_)
    clear hK K
    refine norm_ (a' := ?_) ?_ ?_
    rotate_left
    · show Act.put _ (some 14) _ = _
      simp only [Act.put, List.setIfInBounds_toArray, List.set_cons_zero, List.set_cons_succ, i64_w, i32_w]
      rfl
    refine pure_ (i := 8) (N := some 17) (v := ?_) (a' := ?_) #[true, true, true, true, true, true, true, true, true, false, false] rfl rfl (any_of HT_.out (by kernel_rfl)) (fun _ _ _ h => h) (Or.inl ⟨by rfl, ?_⟩) ?_ ?_
    rotate_left
    · intro w'
      go_simp
      with_reducible rfl
    rotate_left
    · simp only [Act.put, List.setIfInBounds_toArray, List.set_cons_zero, List.set_cons_succ, i64_w, i32_w]
      rfl
    refine one_ (i := 9) (N := some 4) #[true, true, true, true, true, true, true, true, true, true, false] rfl rfl (one_of HT_.out (by kernel_rfl)) (by decide) (fun K hK => ?_)
    refine value_ (v := .pointer (some ⟨wA.heap.size, 0, none⟩)) (w1 := wA.alloc (.cells #[.int .i64 0, .int .i64 0, .string ⟨#[]⟩] 39)) (by rfl) rfl (by first | (go_simp; done) | (go_simp; rfl)) ?_
    have HO1 := Aside0.mk (HO.out.alloc 1 rfl (.cells #[.int .i64 0, .int .i64 0, .string ⟨#[]⟩] 39))
    clear HO
    have HO := HO1
    clear HO1
    generalize wA.alloc (.cells #[.int .i64 0, .int .i64 0, .string ⟨#[]⟩] 39) = wB at HO ⊢
    generalize wA.heap.size = x at HO ⊢
    refine hK.out _ _ trivial (fun hHeld => ?_)
    clear hK K
    refine norm_ (a' := ?_) ?_ ?_
    rotate_left
    · show Act.put _ (some 4) _ = _
      simp only [Act.put, List.setIfInBounds_toArray, List.set_cons_zero, List.set_cons_succ, i64_w, i32_w]
      rfl
    refine last_ (i := 10) (N := none) #[true, true, true, true, true, true, true, true, true, true, true] rfl rfl (one_of HT_.out (by kernel_rfl)) (by decide) (fun K hK => ?_)
    refine Own.store_wp HO.out 1 rfl (by rfl) rfl 39 (.tmp 4) (.tmp 17) rfl #[.int .i64 (bt s 0), .int .i64 ((num2 s 1 : Nat) : Int), .string (s.extract 3 s.size)] rfl rfl size_RUE rfl (by simp [Value.oneCell']) ?_
    intro wC hC
    have HC := Aside0.mk hC
    clear hC HO
    refine hK.out _ _ ?_
    clear hK K
    refine done_ (done_of HT_.out (by kernel_rfl)) ?_
    clear hb0
    have bx : wC.heap[x]? = some (.cells #[.int .i64 (bt s 0), .int .i64 ((num2 s 1 : Nat) : Int), .string (s.extract 3 s.size)] 39 (0, 0)) := HC.out.box 1 rfl
    have x0 : wC.cell? ⟨x, 0, none⟩ = some (.int .i64 (bt s 0)) := HC.out.cell 1 rfl 0
    have x1 : wC.cell? ⟨x, 1, none⟩ = some (.int .i64 ((num2 s 1 : Nat) : Int)) := HC.out.cell 1 rfl 1
    have x2 : wC.cell? ⟨x, 2, none⟩ = some (.string (s.extract 3 s.size)) := HC.out.cell 1 rfl 2
    cases hok : okE (getX s) with
    | true =>
      obtain ⟨q1, q2, q3, q4⟩ := okE_yes hok
      have hg2 : ((ra, rb, rc), re) = (((bt s 0, ((num2 s 1 : Nat) : Int), s.extract 3 s.size) : UE), (0 : Int)) := by
        have hg3 := HG.out
        rw [hok, if_pos rfl] at hg3
        exact hg3
      obtain ⟨hA, hB⟩ := Prod.mk.inj hg2
      obtain ⟨hA1, hA2⟩ := Prod.mk.inj hA
      obtain ⟨hA2, hA3⟩ := Prod.mk.inj hA2
      subst hB hA1 hA2 hA3
      have n1 : ¬ bt s 0 < 2 := by have : bt s 0 = 2 ∨ bt s 0 = 3 := q1; omega
      have n2 : ¬ 3 < bt s 0 := by have : bt s 0 = 2 ∨ bt s 0 = 3 := q1; omega
      have n3 : ¬ 64 < (s.extract 3 s.size).size := by have : (s.extract 3 s.size).size ≤ 64 := q4; omega
      have n4 : ¬ (64 : Int) < ((s.extract 3 s.size).size : Int) := by omega
      clear hg2 hA HG HV hok q1 q2 q3 q4
      generalize hss : s.extract 3 s.size = ss at *
      generalize hba : bt s 0 = aa at *
      go_wp2_with (refine gate_ (.store 39 (.tmp 2) (.tmp 33)) rfl ?_; refine Aside0.out ?_)
      refine ⟨?_⟩
      refine Own.store_all HC.out 0 rfl rfl rfl 39 (.tmp 2) (.tmp 33) rfl #[.int .i64 aa, .int .i64 ((num2 s 1 : Nat) : Int), .string ss] rfl rfl size_RUE rfl (by simp [Value.oneCell']) ?_
      intro wz hz
      have HZ := Aside0.mk hz
      clear hz x0 x1 x2 bx
      go_wp2_with fail
      (try simp only [Exit.inBlock, Exit.then])
      refine bodyPost_ret (results_ct rfl _ _ g 39 #[.int .i64 aa, .int .i64 ((num2 s 1 : Nat) : Int), .string ss] (0, 0) _ rfl (HZ.out.box 0 rfl) Try.underlying39 rfl size_RUE) rfl ?_
      exact ⟨by rw [hss, hba]; rfl, HZ.out.1⟩
    | false =>
      have hg2 := HG.out
      rw [hok, if_neg (by decide)] at hg2
      obtain ⟨hA, hB⟩ := Prod.mk.inj hg2
      obtain ⟨hA1, hA2⟩ := Prod.mk.inj hA
      obtain ⟨hA2, hA3⟩ := Prod.mk.inj hA2
      subst hB hA1 hA2 hA3
      have q : bt s 0 < 2 ∨ (¬ bt s 0 < 2 ∧ 3 < bt s 0) ∨ (¬ bt s 0 < 2 ∧ ¬ 3 < bt s 0 ∧ (64 : Int) < ((s.extract 3 s.size).size : Int)) := by
        have hno : ¬ ((bt s 0 = 2 ∨ bt s 0 = 3) ∧ 0 ≤ ((num2 s 1 : Nat) : Int) ∧ ((num2 s 1 : Nat) : Int) ≤ 65535 ∧ (s.extract 3 s.size).size ≤ 64) := of_decide_eq_false hok
        have := num2_lt s 1
        omega
      clear hg2 hA HG HV hok
      generalize hss : s.extract 3 s.size = ss at *
      generalize bt s 0 = aa at *
      rcases q with n1 | ⟨n1, n2⟩ | ⟨n1, n2, n3⟩
      · go_wp2_with (refine gate_ (.store 39 (.tmp 2) (.tmp 32)) rfl ?_; refine Aside0.out ?_)
        refine ⟨?_⟩
        refine Own.store_all HC.out 0 rfl rfl rfl 39 (.tmp 2) (.tmp 32) rfl #[.int .i64 0, .int .i64 0, .string ⟨#[]⟩] rfl rfl size_RUE rfl (by simp [Value.oneCell']) ?_
        intro wz hz
        have HZ := Aside0.mk hz
        clear hz x0 x1 x2 bx
        go_wp2_with fail
        (try simp only [Exit.inBlock, Exit.then])
        refine bodyPost_ret (results_ct rfl _ _ g 39 #[.int .i64 0, .int .i64 0, .string ⟨#[]⟩] (0, 0) _ rfl (HZ.out.box 0 rfl) Try.underlying39 rfl size_RUE) rfl ?_
        exact ⟨rfl, HZ.out.1⟩
      · go_wp2_with (refine gate_ (.store 39 (.tmp 2) (.tmp 32)) rfl ?_; refine Aside0.out ?_)
        refine ⟨?_⟩
        refine Own.store_all HC.out 0 rfl rfl rfl 39 (.tmp 2) (.tmp 32) rfl #[.int .i64 0, .int .i64 0, .string ⟨#[]⟩] rfl rfl size_RUE rfl (by simp [Value.oneCell']) ?_
        intro wz hz
        have HZ := Aside0.mk hz
        clear hz x0 x1 x2 bx
        go_wp2_with fail
        (try simp only [Exit.inBlock, Exit.then])
        refine bodyPost_ret (results_ct rfl _ _ g 39 #[.int .i64 0, .int .i64 0, .string ⟨#[]⟩] (0, 0) _ rfl (HZ.out.box 0 rfl) Try.underlying39 rfl size_RUE) rfl ?_
        exact ⟨rfl, HZ.out.1⟩
      · have n4 : 64 < ss.size := by omega
        go_wp2_with (refine gate_ (.store 39 (.tmp 2) (.tmp 32)) rfl ?_; refine Aside0.out ?_)
        refine ⟨?_⟩
        refine Own.store_all HC.out 0 rfl rfl rfl 39 (.tmp 2) (.tmp 32) rfl #[.int .i64 0, .int .i64 0, .string ⟨#[]⟩] rfl rfl size_RUE rfl (by simp [Value.oneCell']) ?_
        intro wz hz
        have HZ := Aside0.mk hz
        clear hz x0 x1 x2 bx
        go_wp2_with fail
        (try simp only [Exit.inBlock, Exit.then])
        refine bodyPost_ret (results_ct rfl _ _ g 39 #[.int .i64 0, .int .i64 0, .string ⟨#[]⟩] (0, 0) _ rfl (HZ.out.box 0 rfl) Try.underlying39 rfl size_RUE) rfl ?_
        exact ⟨rfl, HZ.out.1⟩
    refine value_ (v := .pointer (some ⟨W0.heap.size, 0, none⟩)) (w1 := W0.alloc (.cells #[.int .i64 0, .int .i64 0, .string ⟨#[]⟩] 39)) (by rfl) rfl (by first | (go_simp; done) | (go_simp; rfl)) ?_
    have HO1 := Aside0.mk (HO.out.alloc 1 rfl (.cells #[.int .i64 0, .int .i64 0, .string ⟨#[]⟩] 39))
    clear HO
    have HO := HO1
    clear HO1
    generalize W0.alloc (.cells #[.int .i64 0, .int .i64 0, .string ⟨#[]⟩] 39) = wB at HO ⊢
    generalize W0.heap.size = x at HO ⊢
    refine hK.out _ _ trivial (fun hHeld => ?_)
    clear hK K
    refine norm_ (a' := ?_) ?_ ?_
    rotate_left
    · show Act.put _ (some 4) _ = _
      simp only [Act.put, List.setIfInBounds_toArray, List.set_cons_zero, List.set_cons_succ, i64_w, i32_w]
      rfl
    refine one_ (i := 5) (N := some 14) #[true, true, true, true, true, true, true, true, false, true, false] rfl rfl (one_of HT_.out (by kernel_rfl)) (by decide) (fun K hK => ?_)
    refine goes_ Try.func38 (by kernel_rfl) rfl #[.string (s.extract 1 3)] (by rfl) rfl rfl (by first | rfl | (simp [Act.eval]; done) | (go_simp; done) | decide) ?_
    refine (HS.out _).mono ?_
    rintro e wA ⟨rfl, hb⟩
    refine ⟨_, rfl, ?_⟩
    have HO1 := Aside0.mk (HO.out.below hb.below)
    clear HO hb
    have HO := HO1
    clear HO1
    refine hK.out _ _ trivial (fun hHeld => ?_)
    clear hK K
    refine norm_ (a' := ?_) ?_ ?_
    rotate_left
    · show Act.put _ (some 14) _ = _
      simp only [Act.put, List.setIfInBounds_toArray, List.set_cons_zero, List.set_cons_succ, i64_w, i32_w]
      rfl
    refine pure_ (i := 8) (N := some 17) (v := ?_) (a' := ?_) #[true, true, true, true, true, true, true, true, true, true, false] rfl rfl (any_of HT_.out (by kernel_rfl)) (fun _ _ _ h => h) (Or.inl ⟨by rfl, ?_⟩) ?_ ?_
    rotate_left
    · intro w'
      go_simp
      with_reducible rfl
    rotate_left
    · simp only [Act.put, List.setIfInBounds_toArray, List.set_cons_zero, List.set_cons_succ, i64_w, i32_w]
      rfl
    refine last_ (i := 10) (N := none) #[true, true, true, true, true, true, true, true, true, true, true] rfl rfl (one_of HT_.out (by kernel_rfl)) (by decide) (fun K hK => ?_)
    refine Own.store_wp HO.out 1 rfl (by rfl) rfl 39 (.tmp 4) (.tmp 17) rfl #[.int .i64 (bt s 0), .int .i64 ((num2 s 1 : Nat) : Int), .string (s.extract 3 s.size)] rfl rfl size_RUE rfl (by simp [Value.oneCell']) ?_
    intro wC hC
    have HC := Aside0.mk hC
    clear hC HO
    refine hK.out _ _ ?_
    clear hK K
    refine done_ (done_of HT_.out (by kernel_rfl)) ?_
    clear hb0
    have bx : wC.heap[x]? = some (.cells #[.int .i64 (bt s 0), .int .i64 ((num2 s 1 : Nat) : Int), .string (s.extract 3 s.size)] 39 (0, 0)) := HC.out.box 1 rfl
    have x0 : wC.cell? ⟨x, 0, none⟩ = some (.int .i64 (bt s 0)) := HC.out.cell 1 rfl 0
    have x1 : wC.cell? ⟨x, 1, none⟩ = some (.int .i64 ((num2 s 1 : Nat) : Int)) := HC.out.cell 1 rfl 1
    have x2 : wC.cell? ⟨x, 2, none⟩ = some (.string (s.extract 3 s.size)) := HC.out.cell 1 rfl 2
    cases hok : okE (getX s) with
    | true =>
      obtain ⟨q1, q2, q3, q4⟩ := okE_yes hok
      have hg2 : ((ra, rb, rc), re) = (((bt s 0, ((num2 s 1 : Nat) : Int), s.extract 3 s.size) : UE), (0 : Int)) := by
        have hg3 := HG.out
        rw [hok, if_pos rfl] at hg3
        exact hg3
      obtain ⟨hA, hB⟩ := Prod.mk.inj hg2
      obtain ⟨hA1, hA2⟩ := Prod.mk.inj hA
      obtain ⟨hA2, hA3⟩ := Prod.mk.inj hA2
      subst hB hA1 hA2 hA3
      have n1 : ¬ bt s 0 < 2 := by have : bt s 0 = 2 ∨ bt s 0 = 3 := q1; omega
      have n2 : ¬ 3 < bt s 0 := by have : bt s 0 = 2 ∨ bt s 0 = 3 := q1; omega
      have n3 : ¬ 64 < (s.extract 3 s.size).size := by have : (s.extract 3 s.size).size ≤ 64 := q4; omega
      have n4 : ¬ (64 : Int) < ((s.extract 3 s.size).size : Int) := by omega
      clear hg2 hA HG HV hok q1 q2 q3 q4
      generalize hss : s.extract 3 s.size = ss at *
      generalize hba : bt s 0 = aa at *
      go_wp2_with (refine gate_ (.store 39 (.tmp 2) (.tmp 33)) rfl ?_; refine Aside0.out ?_)
      refine ⟨?_⟩
      refine Own.store_all HC.out 0 rfl rfl rfl 39 (.tmp 2) (.tmp 33) rfl #[.int .i64 aa, .int .i64 ((num2 s 1 : Nat) : Int), .string ss] rfl rfl size_RUE rfl (by simp [Value.oneCell']) ?_
      intro wz hz
      have HZ := Aside0.mk hz
      clear hz x0 x1 x2 bx
      go_wp2_with fail
      (try simp only [Exit.inBlock, Exit.then])
      refine bodyPost_ret (results_ct rfl _ _ g 39 #[.int .i64 aa, .int .i64 ((num2 s 1 : Nat) : Int), .string ss] (0, 0) _ rfl (HZ.out.box 0 rfl) Try.underlying39 rfl size_RUE) rfl ?_
      exact ⟨by rw [hss, hba]; rfl, HZ.out.1⟩
    | false =>
      have hg2 := HG.out
      rw [hok, if_neg (by decide)] at hg2
      obtain ⟨hA, hB⟩ := Prod.mk.inj hg2
      obtain ⟨hA1, hA2⟩ := Prod.mk.inj hA
      obtain ⟨hA2, hA3⟩ := Prod.mk.inj hA2
      subst hB hA1 hA2 hA3
      have q : bt s 0 < 2 ∨ (¬ bt s 0 < 2 ∧ 3 < bt s 0) ∨ (¬ bt s 0 < 2 ∧ ¬ 3 < bt s 0 ∧ (64 : Int) < ((s.extract 3 s.size).size : Int)) := by
        have hno : ¬ ((bt s 0 = 2 ∨ bt s 0 = 3) ∧ 0 ≤ ((num2 s 1 : Nat) : Int) ∧ ((num2 s 1 : Nat) : Int) ≤ 65535 ∧ (s.extract 3 s.size).size ≤ 64) := of_decide_eq_false hok
        have := num2_lt s 1
        omega
      clear hg2 hA HG HV hok
      generalize hss : s.extract 3 s.size = ss at *
      generalize bt s 0 = aa at *
      rcases q with n1 | ⟨n1, n2⟩ | ⟨n1, n2, n3⟩
      · go_wp2_with (refine gate_ (.store 39 (.tmp 2) (.tmp 32)) rfl ?_; refine Aside0.out ?_)
        refine ⟨?_⟩
        refine Own.store_all HC.out 0 rfl rfl rfl 39 (.tmp 2) (.tmp 32) rfl #[.int .i64 0, .int .i64 0, .string ⟨#[]⟩] rfl rfl size_RUE rfl (by simp [Value.oneCell']) ?_
        intro wz hz
        have HZ := Aside0.mk hz
        clear hz x0 x1 x2 bx
        go_wp2_with fail
        (try simp only [Exit.inBlock, Exit.then])
        refine bodyPost_ret (results_ct rfl _ _ g 39 #[.int .i64 0, .int .i64 0, .string ⟨#[]⟩] (0, 0) _ rfl (HZ.out.box 0 rfl) Try.underlying39 rfl size_RUE) rfl ?_
        exact ⟨rfl, HZ.out.1⟩
      · go_wp2_with (refine gate_ (.store 39 (.tmp 2) (.tmp 32)) rfl ?_; refine Aside0.out ?_)
        refine ⟨?_⟩
        refine Own.store_all HC.out 0 rfl rfl rfl 39 (.tmp 2) (.tmp 32) rfl #[.int .i64 0, .int .i64 0, .string ⟨#[]⟩] rfl rfl size_RUE rfl (by simp [Value.oneCell']) ?_
        intro wz hz
        have HZ := Aside0.mk hz
        clear hz x0 x1 x2 bx
        go_wp2_with fail
        (try simp only [Exit.inBlock, Exit.then])
        refine bodyPost_ret (results_ct rfl _ _ g 39 #[.int .i64 0, .int .i64 0, .string ⟨#[]⟩] (0, 0) _ rfl (HZ.out.box 0 rfl) Try.underlying39 rfl size_RUE) rfl ?_
        exact ⟨rfl, HZ.out.1⟩
      · have n4 : 64 < ss.size := by omega
        go_wp2_with (refine gate_ (.store 39 (.tmp 2) (.tmp 32)) rfl ?_; refine Aside0.out ?_)
        refine ⟨?_⟩
        refine Own.store_all HC.out 0 rfl rfl rfl 39 (.tmp 2) (.tmp 32) rfl #[.int .i64 0, .int .i64 0, .string ⟨#[]⟩] rfl rfl size_RUE rfl (by simp [Value.oneCell']) ?_
        intro wz hz
        have HZ := Aside0.mk hz
        clear hz x0 x1 x2 bx
        go_wp2_with fail
        (try simp only [Exit.inBlock, Exit.then])
        refine bodyPost_ret (results_ct rfl _ _ g 39 #[.int .i64 0, .int .i64 0, .string ⟨#[]⟩] (0, 0) _ rfl (HZ.out.box 0 rfl) Try.underlying39 rfl size_RUE) rfl ?_
        exact ⟨rfl, HZ.out.1⟩
end Go.Proofs.Ytchpagboglomoaa.Ownd
