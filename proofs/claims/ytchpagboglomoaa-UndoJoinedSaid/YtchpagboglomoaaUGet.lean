/- Reading an entry: undo.Get. Conditions: none. -/
import Derived.Test.YtchpagboglomoaaUEnt
namespace Go.Proofs.Ytchpagboglomoaa.Ownd
open Go.RowKit Go.Proofs.Ytchpagboglomoaa.GP Go.Proofs.YtchpagboglomoaaW.PrintWords Go.Proofs.YtchpagboglomoaaW.PrintLast Go.Proofs.YtchpagboglomoaaW.PrintMore
set_option linter.unusedVariables false
set_option linter.unusedSimpArgs false
def getX (s : ByteArray) : UE := (bt s 0, ((num2 s 1 : Nat) : Int), s.extract 3 s.size)
def getE (s : ByteArray) : UE × Int := if s.size < 3 then ((0, 0, ⟨#[]⟩), 3) else if okE (getX s) = true then (getX s, 0) else ((0, 0, ⟨#[]⟩), 2)
theorem put_get (s : ByteArray) (h : 3 ≤ s.size) (hx : okE (getX s) = true) : putE (getX s) = s := by
  unfold putE
  rw [if_pos hx]
  apply ByteArray.ext
  apply Array.ext'
  obtain ⟨h1, h2, h3, h4⟩ := okE_yes hx
  have e0 : (strOfNums [(getX s).1]).data.toList = s.data.toList.take 1 := by
    have hb : s.data.toList ≠ [] := by intro hn; have := congrArg List.length hn; simp only [Array.length_toList, List.length_nil] at this; exact absurd (show s.size = 0 from this) (by omega)
    show [UInt8.ofNat (bt s 0).toNat] = _
    rw [show bt s 0 = ((s.data.toList.getD 0 0).toNat : Int) from bt_nat s 0]
    cases hl : s.data.toList with
    | nil => exact absurd hl hb
    | cons x l => simp
  have e1 : (strOfNums [(getX s).2.1 / 256, (getX s).2.1 % 256]).data.toList = (s.data.toList.drop 1).take 2 := by
    rw [be2_str]
    exact be2_num2 s 1 (by omega)
  have e2 : (getX s).2.2.data.toList = s.data.toList.drop 3 := by
    show (s.extract 3 s.size).data.toList = _
    rw [ByteArray.data_extract, Array.toList_extract, List.extract_eq_take_drop, List.take_of_length_le (by rw [List.length_drop, size_len]; omega)]
  rw [ByteArray.data_append, ByteArray.data_append, Array.toList_append, Array.toList_append, e0, e1, e2]
  rw [List.append_assoc, show s.data.toList.drop 3 = (s.data.toList.drop 1).drop 2 by rw [List.drop_drop], List.take_append_drop, List.take_append_drop]
theorem put_getno (s : ByteArray) (h : 3 ≤ s.size) (hx : okE (getX s) = false) : ¬ putE (getX s) = s := by
  unfold putE
  rw [if_neg (by rw [hx]; decide)]
  rintro rfl
  exact absurd h (by decide)
/-- The object in block g is another one. -/
theorem Own.put {w W : World} {l : List Thing} {g : Nat} {o : Obj} (h : Own w W l) (j : Nat) (hj : l[j]? = some (.box g o)) (o' : Obj) : Own w { W with heap := W.heap.setIfInBounds g o' } (l.set j (.box g o')) := by
  obtain ⟨hB, col, hc⟩ := h
  obtain ⟨h1, h2, h3⟩ := hc j _ hj
  have hs := MapKept.heap_set (o' := o') h1
  refine ⟨⟨hB.os, hB.tape, hB.output, by simpa using hB.size, fun k hk => (hs.2 k (by omega)).trans (hB.block k hk)⟩, col, fun x it hx => ?_⟩
  rcases set_get (lt_of_get hj) hx with ⟨rfl, rfl⟩ | ⟨hne, hx⟩
  · exact ⟨hs.1, h2, h3⟩
  · refine (hc x it hx).keep (fun k _ hk he => ⟨hs.2 k ?_, he⟩)
    rintro rfl
    exact hne (he.symm.trans h2)
section
variable {P : Program} {ops : Array Oper} {rest : List Oper} {o : Oper} {a : Act} {Q : Exit → Act → World → Prop} {W : World}
/-- A whole variable is written. -/
theorem Own.store_all {w : World} {l : List Thing} (hO : Own w W l) (j : Nat) {g : Nat} {t : TypeId} {old : Array Value} (hj : l[j]? = some (.box g (.cells old t (0, 0)))) (hgd : o.guard = none) (hN : o.dst = none) (ty : TypeId) (x y : Operand) (ho : o.op = .store ty x y) (cells : Array Value)
    (hx : a.eval x = .pointer (some ⟨g, 0, none⟩)) (hy : a.eval y = .agg cells) (hi : (P.info? ty).map (·.size) = some cells.size) (hold : old.size = cells.size) (h1 : cells.all (·.oneCell') = true)
    (h : ∀ w1, Own w w1 (l.set j (.box g (.cells cells t (0, 0)))) → wpList P ops Q rest a w1) : wpList P ops Q (o :: rest) a W := by
  refine wpList_plain hgd fun K hK => ?_
  have hb := hO.box j hj
  refine wp_store_row ty x y ho g cells hx hy t old hb hi hold h1 ?_
  have e : W.setRow g cells = { W with heap := W.heap.setIfInBounds g (.cells cells t (0, 0)) } := by
    unfold World.setRow
    congr 1
    apply Array.ext_getElem?
    intro k
    rw [Array.getElem?_modify, Array.getElem?_setIfInBounds]
    by_cases hk : g = k
    · subst hk
      rw [if_pos rfl, if_pos rfl, hb]
      simp [blk_lt hb]
    · rw [if_neg hk, if_neg hk]
  rw [e]
  have hp := hO.put j hj (.cells cells t (0, 0))
  rw [hN]
  exact hK _ _ (h _ hp)
theorem Own.store_wp {w : World} {l : List Thing} (hO : Own w W l) (j : Nat) {g : Nat} {t : TypeId} {old : Array Value} (hj : l[j]? = some (.box g (.cells old t (0, 0)))) (hw : Region.wanted o (yielded ops a.tmps) = true) (hN : o.dst = none) (ty : TypeId) (x y : Operand) (ho : o.op = .store ty x y) (cells : Array Value)
    (hx : a.eval x = .pointer (some ⟨g, 0, none⟩)) (hy : a.eval y = .agg cells) (hi : (P.info? ty).map (·.size) = some cells.size) (hold : old.size = cells.size) (h1 : cells.all (·.oneCell') = true)
    {K : Act → World → Prop} (h : ∀ w1, Own w w1 (l.set j (.box g (.cells cells t (0, 0)))) → K a w1) : if Region.wanted o (yielded ops a.tmps) = true then Oper.wp P o a W K Q else K (a.put none undef) W := by
  rw [if_pos hw]
  have hb := hO.box j hj
  refine wp_store_row ty x y ho g cells hx hy t old hb hi hold h1 ?_
  have e : W.setRow g cells = { W with heap := W.heap.setIfInBounds g (.cells cells t (0, 0)) } := by
    unfold World.setRow
    congr 1
    apply Array.ext_getElem?
    intro k
    rw [Array.getElem?_modify, Array.getElem?_setIfInBounds]
    by_cases hk : g = k
    · subst hk
      rw [if_pos rfl, if_pos rfl, hb]
      simp [blk_lt hb]
    · rw [if_neg hk, if_neg hk]
  rw [e]
  have hp := hO.put j hj (.cells cells t (0, 0))
  rw [hN]
  exact h _ hp
end
def gt_T : Bool × List (List Nat × List Nat) := (true, [([], []), ([0], [0]), ([1], [1]), ([], []), ([3], [3]), ([4], [4]), ([], []), ([6], [6]), ([2, 5, 7], [2, 5, 7]), ([], []), ([9, 8, 5, 0, 1, 2, 3, 4, 5, 6, 7, 8, 9], [8, 9])])
def gt_B : List Nat := [0, 1, 3, 0, 8, 24, 0, 64, 255, 0, 1023]
theorem gt_tab : rtab .any (opsOf Try.f21 3) = gt_T := by kernel_rfl
theorem gt_bits : waitsOk gt_T.2 gt_B = true := by kernel_rfl
theorem size_UE : (Try.prog.info? 36).map (·.size) = some 3 := by kernel_rfl
set_option maxHeartbeats 4000000 in
set_option maxRecDepth 100000 in
theorem getE_calls (s : ByteArray) (W : World) : Calls Try.prog 21 #[.string s] W fun ex W' => ex = .returned (.tuple #[.agg #[.int .i64 (getE s).1.1, .int .i64 (getE s).1.2.1, .string (getE s).1.2.2], .int .i64 (getE s).2]) ∧ Below W.heap.size W W' := by
  obtain ⟨⟨⟨ra, rb, rc⟩, re⟩, hv⟩ : ∃ v, getE s = v := ⟨_, rfl⟩
  rw [hv]
  have HV := Aside0.mk hv
  clear hv
  have HO : Aside0 (Own W (W.alloc (.cells #[.int .i64 0, .int .i64 0, .string ⟨#[]⟩] 36)) [.box W.heap.size (.cells #[.int .i64 0, .int .i64 0, .string ⟨#[]⟩] 36 (0, 0)), .gone]) := ⟨(Own.start W 2).alloc 0 rfl (.cells #[.int .i64 0, .int .i64 0, .string ⟨#[]⟩] 36)⟩
  go_enter Try.func21, Try.ntmps21
  go_upto_region 1 with fail
  generalize W.alloc (.cells #[.int .i64 0, .int .i64 0, .string ⟨#[]⟩] 36) = w0 at HO ⊢
  generalize W.heap.size = g at HO ⊢
  by_cases h3 : s.size < 3
  · have d0 : decide (s.size < 3) = true := decide_eq_true h3
    have d1 : decide ((s.size : Int) < 3) = true := decide_eq_true (by omega)
    have hr : getE s = ((0, 0, ⟨#[]⟩), 3) := if_pos h3
    rw [HV.out] at hr
    cases hr
    go_wp2_with (refine gate_ (.store 36 (.tmp 2) (.tmp 8)) rfl ?_; refine Aside0.out ?_)
    refine ⟨?_⟩
    refine Own.store_all HO.out 0 rfl rfl rfl 36 (.tmp 2) (.tmp 8) rfl #[.int .i64 0, .int .i64 0, .string ⟨#[]⟩] rfl rfl size_UE rfl (by simp [Value.oneCell']) ?_
    intro wz hz
    have HZ := Aside0.mk hz
    clear hz
    go_wp2_with fail
    (try simp only [Exit.inBlock, Exit.then])
    refine bodyPost_ret (results_ct rfl _ _ g 36 #[.int .i64 0, .int .i64 0, .string ⟨#[]⟩] (0, 0) _ rfl (HZ.out.box 0 rfl) Try.underlying36 rfl size_UE) rfl ?_
    exact ⟨rfl, HZ.out.1⟩
  · have d0 : decide (s.size < 3) = false := decide_eq_false h3
    have d1 : decide ((s.size : Int) < 3) = false := decide_eq_false (by omega)
    have HG := Aside0.mk (HV.out.symm.trans (show getE s = _ from if_neg h3))
    have HS := Aside0.mk (fun w => sum_Get.calls 4 (s.extract 1 3) ((num2 s 1 : Nat) : Int) w (sumGet_two s 1 (by omega) 4 (by omega)))
    go_upto_region 3 with fail
    have hk : 3 ≤ s.size := by omega
    have hk2 : (3 : Int) ≤ (s.size : Int) := by omega
    have hk3 : 0 < s.size := by omega
    have hb0 : wrap64 ((s[0]'hk3).toNat : Int) = bt s 0 := by
      have h1 : bt s 0 = ((s.data.toList.getD 0 0).toNat : Int) := bt_nat s 0
      have h2 : s.data.toList.getD 0 0 = s[0]'hk3 := by
        rw [List.getD_eq_getElem?_getD, List.getElem?_eq_getElem (by simpa using hk3)]; rfl
      have h3 := (s[0]'hk3).toNat_lt
      rw [h1, h2]; unfold wrap64; omega
    have HOd := Aside0.mk (HO.out.below (below_drew (Below.refl _ _)))
    clear HO
    have HO := HOd
    clear HOd
    refine start_ (n := 11) (S := fun w' => True) (ds := [10]) #[false, false, false, false, false, false, false, false, false, false, false] (by kernel_rfl) rfl rfl trivial (fun hHeld => ?_)
    refine with_tabW gt_tab gt_bits (fun HT_ HW_ => ?_)
    generalize World.drew _ = W0 at HO hHeld ⊢
    refine pure_ (i := 0) (N := some 9) (v := ?_) (a' := ?_) #[true, false, false, false, false, false, false, false, false, false, false] rfl rfl (any_of HT_.out (by kernel_rfl)) (fun _ _ _ h => h) (Or.inl ⟨by rfl, ?_⟩) ?_ ?_
    rotate_left
    · intro w'
      go_simp
      with_reducible rfl
    rotate_left
    · simp only [Act.put, List.setIfInBounds_toArray, List.set_cons_zero, List.set_cons_succ, i64_w, i32_w]
      rfl
    refine pure_ (i := 1) (N := some 10) (v := ?_) (a' := ?_) #[true, true, false, false, false, false, false, false, false, false, false] rfl rfl (any_of HT_.out (by kernel_rfl)) (fun _ _ _ h => h) (Or.inl ⟨by rfl, ?_⟩) ?_ ?_
    rotate_left
    · intro w'
      go_simp
      with_reducible rfl
    rotate_left
    · simp only [Act.put, List.setIfInBounds_toArray, List.set_cons_zero, List.set_cons_succ, i64_w, i32_w]
      rfl
    refine pure_ (i := 2) (N := some 11) (v := ?_) (a' := ?_) #[true, true, true, false, false, false, false, false, false, false, false] rfl rfl (any_of HT_.out (by kernel_rfl)) (fun _ _ _ h => h) (Or.inl ⟨by rfl, ?_⟩) ?_ ?_
    rotate_left
    · intro w'
      go_simp
      with_reducible rfl
    rotate_left
    · simp only [Act.put, List.setIfInBounds_toArray, List.set_cons_zero, List.set_cons_succ, i64_w, i32_w]
      rfl
    refine pure_ (i := 3) (N := some 12) (v := ?_) (a' := ?_) #[true, true, true, true, false, false, false, false, false, false, false] rfl rfl (any_of HT_.out (by kernel_rfl)) (fun _ _ _ h => h) (Or.inl ⟨by rfl, ?_⟩) ?_ ?_
    rotate_left
    · intro w'
      go_simp
      with_reducible rfl
    rotate_left
    · simp only [Act.put, List.setIfInBounds_toArray, List.set_cons_zero, List.set_cons_succ, i64_w, i32_w]
      rfl
    refine pure_ (i := 4) (N := some 13) (v := ?_) (a' := ?_) #[true, true, true, true, true, false, false, false, false, false, false] rfl rfl (any_of HT_.out (by kernel_rfl)) (fun _ _ _ h => h) (Or.inl ⟨by rfl, ?_⟩) ?_ ?_
    rotate_left
    · intro w'
      go_simp
      with_reducible rfl
    rotate_left
    · simp only [Act.put, List.setIfInBounds_toArray, List.set_cons_zero, List.set_cons_succ, i64_w, i32_w]
      rfl
    refine pure_ (i := 6) (N := some 15) (v := ?_) (a' := ?_) #[true, true, true, true, true, false, true, false, false, false, false] rfl rfl (any_of HT_.out (by kernel_rfl)) (fun _ _ _ h => h) (Or.inl ⟨by rfl, ?_⟩) ?_ ?_
    rotate_left
    · intro w'
      go_simp
      with_reducible rfl
    rotate_left
    · simp only [Act.put, List.setIfInBounds_toArray, List.set_cons_zero, List.set_cons_succ, i64_w, i32_w]
      rfl
    refine pure_ (i := 7) (N := some 16) (v := ?_) (a' := ?_) #[true, true, true, true, true, false, true, true, false, false, false] rfl rfl (any_of HT_.out (by kernel_rfl)) (fun _ _ _ h => h) (Or.inl ⟨by rfl, ?_⟩) ?_ ?_
    rotate_left
    · intro w'
      go_simp
      with_reducible rfl
    rotate_left
    · simp only [Act.put, List.setIfInBounds_toArray, List.set_cons_zero, List.set_cons_succ, i64_w, i32_w]
      rfl
    refine two_ (i := 5) (j := 9) (Ni := some 14) (Nj := some 4) #[true, true, true, true, true, true, true, true, false, false, false] #[true, true, true, true, true, false, true, true, false, true, false] rfl rfl rfl rfl (two_of HT_.out (by kernel_rfl)) (by decide) (by decide) (fun K hK => ?_) (fun K hK => ?_)
    refine goes_ Try.func37 (by kernel_rfl) rfl #[.string (s.extract 1 3)] (by rfl) rfl rfl (by first | rfl | (simp [Act.eval]; done) | (go_simp; done) | decide) ?_
    refine (HS.out _).mono ?_
    rintro e wA ⟨rfl, hb⟩
    refine ⟨_, rfl, ?_⟩
    have HO1 := Aside0.mk (HO.out.below hb.below)
    clear HO hb
    have HO := HO1
    clear HO1
    refine hK.out _ _ trivial (fun hHeld => ?_)
    clear hK K
    refine norm_ (a' := ?_) ?_ ?_
    rotate_left
    · show Act.put _ (some 14) _ = _
      simp only [Act.put, List.setIfInBounds_toArray, List.set_cons_zero, List.set_cons_succ, i64_w, i32_w]
      rfl
    refine pure_ (i := 8) (N := some 17) (v := ?_) (a' := ?_) #[true, true, true, true, true, true, true, true, true, false, false] rfl rfl (any_of HT_.out (by kernel_rfl)) (fun _ _ _ h => h) (Or.inl ⟨by rfl, ?_⟩) ?_ ?_
    rotate_left
    · intro w'
      go_simp
      with_reducible rfl
    rotate_left
    · simp only [Act.put, List.setIfInBounds_toArray, List.set_cons_zero, List.set_cons_succ, i64_w, i32_w]
      rfl
    refine one_ (i := 9) (N := some 4) #[true, true, true, true, true, true, true, true, true, true, false] rfl rfl (one_of HT_.out (by kernel_rfl)) (by decide) (fun K hK => ?_)
    refine value_ (v := .pointer (some ⟨wA.heap.size, 0, none⟩)) (w1 := wA.alloc (.cells #[.int .i64 0, .int .i64 0, .string ⟨#[]⟩] 36)) (by rfl) rfl (by first | (go_simp; done) | (go_simp; rfl)) ?_
    have HO1 := Aside0.mk (HO.out.alloc 1 rfl (.cells #[.int .i64 0, .int .i64 0, .string ⟨#[]⟩] 36))
    clear HO
    have HO := HO1
    clear HO1
    generalize wA.alloc (.cells #[.int .i64 0, .int .i64 0, .string ⟨#[]⟩] 36) = wB at HO ⊢
    generalize wA.heap.size = x at HO ⊢
    refine hK.out _ _ trivial (fun hHeld => ?_)
    clear hK K
    refine norm_ (a' := ?_) ?_ ?_
    rotate_left
    · show Act.put _ (some 4) _ = _
      simp only [Act.put, List.setIfInBounds_toArray, List.set_cons_zero, List.set_cons_succ, i64_w, i32_w]
      rfl
    refine last_ (i := 10) (N := none) #[true, true, true, true, true, true, true, true, true, true, true] rfl rfl (one_of HT_.out (by kernel_rfl)) (by decide) (fun K hK => ?_)
    refine Own.store_wp HO.out 1 rfl (by rfl) rfl 36 (.tmp 4) (.tmp 17) rfl #[.int .i64 (bt s 0), .int .i64 ((num2 s 1 : Nat) : Int), .string (s.extract 3 s.size)] rfl rfl size_UE rfl (by simp [Value.oneCell']) ?_
    intro wC hC
    have HC := Aside0.mk hC
    clear hC HO
    refine hK.out _ _ ?_
    clear hK K
    refine done_ (done_of HT_.out (by kernel_rfl)) ?_
    clear hb0
    have bx : wC.heap[x]? = some (.cells #[.int .i64 (bt s 0), .int .i64 ((num2 s 1 : Nat) : Int), .string (s.extract 3 s.size)] 36 (0, 0)) := HC.out.box 1 rfl
    have x0 : wC.cell? ⟨x, 0, none⟩ = some (.int .i64 (bt s 0)) := HC.out.cell 1 rfl 0
    have x1 : wC.cell? ⟨x, 1, none⟩ = some (.int .i64 ((num2 s 1 : Nat) : Int)) := HC.out.cell 1 rfl 1
    have x2 : wC.cell? ⟨x, 2, none⟩ = some (.string (s.extract 3 s.size)) := HC.out.cell 1 rfl 2
    have HPC := Aside0.mk (fun w => putE_calls (bt s 0) ((num2 s 1 : Nat) : Int) (s.extract 3 s.size) w)
    cases hok : okE (getX s) with
    | true =>
      have hp := put_get s hk hok
      have hp' : putE (bt s 0, ((num2 s 1 : Nat) : Int), s.extract 3 s.size) = s := hp
      rw [hp'] at HPC
      have hg2 := HG.out
      rw [hok, if_pos rfl] at hg2
      obtain ⟨hA, hB⟩ := Prod.mk.inj hg2
      obtain ⟨hA1, hA2⟩ := Prod.mk.inj hA
      obtain ⟨hA2, hA3⟩ := Prod.mk.inj hA2
      subst hB hA1 hA2 hA3
      clear hg2 hA HG HV hok hp hp'
      go_wp2_with (first | (go_at_call 19; refine (HPC.out _).mono ?_; rintro e w5 ⟨rfl, h5⟩; have H5 := Aside0.mk (HC.out.below h5); clear h5; have bx5 : w5.heap[x]? = some (.cells #[.int .i64 (bt s 0), .int .i64 ((num2 s 1 : Nat) : Int), .string (s.extract 3 s.size)] 36 (0, 0)) := H5.out.box 1 rfl; have y0 : w5.cell? ⟨x, 0, none⟩ = some (.int .i64 (bt s 0)) := H5.out.cell 1 rfl 0; have y1 : w5.cell? ⟨x, 1, none⟩ = some (.int .i64 ((num2 s 1 : Nat) : Int)) := H5.out.cell 1 rfl 1; have y2 : w5.cell? ⟨x, 2, none⟩ = some (.string (s.extract 3 s.size)) := H5.out.cell 1 rfl 2) | (refine gate_ (.store 36 (.tmp 2) (.tmp 23)) rfl ?_; refine Aside0.out ?_))
      refine ⟨?_⟩
      refine Own.store_all H5.out 0 rfl rfl rfl 36 (.tmp 2) (.tmp 23) rfl #[.int .i64 (bt s 0), .int .i64 ((num2 s 1 : Nat) : Int), .string (s.extract 3 s.size)] rfl rfl size_UE rfl (by simp [Value.oneCell']) ?_
      intro wz hz
      have HZ := Aside0.mk hz
      clear hz x0 x1 x2 bx
      go_wp2_with fail
      (try simp only [Exit.inBlock, Exit.then])
      refine bodyPost_ret (results_ct rfl _ _ g 36 #[.int .i64 (bt s 0), .int .i64 ((num2 s 1 : Nat) : Int), .string (s.extract 3 s.size)] (0, 0) _ rfl (HZ.out.box 0 rfl) Try.underlying36 rfl size_UE) rfl ?_
      exact ⟨rfl, HZ.out.1⟩
    | false =>
      have hp' : putE (bt s 0, ((num2 s 1 : Nat) : Int), s.extract 3 s.size) = ⟨#[]⟩ := by
        show putE (getX s) = _
        unfold putE
        rw [hok]; rfl
      rw [hp'] at HPC
      have hne : s.toList.isEmpty = false := by
        rw [show s.toList = s.data.toList from by first | rfl | exact ByteArray.toList_eq s]
        cases hl : s.data.toList with
        | nil =>
          have := congrArg List.length hl
          simp only [Array.length_toList, List.length_nil] at this
          exact absurd (show s.size = 0 from this) (by omega)
        | cons a l => rfl
      have hg2 := HG.out
      rw [hok, if_neg (by decide)] at hg2
      obtain ⟨hA, hB⟩ := Prod.mk.inj hg2
      obtain ⟨hA1, hA2⟩ := Prod.mk.inj hA
      obtain ⟨hA2, hA3⟩ := Prod.mk.inj hA2
      subst hB hA1 hA2 hA3
      clear hg2 hA HG HV hok hp'
      go_wp2_with (first | (go_at_call 19; refine (HPC.out _).mono ?_; rintro e w5 ⟨rfl, h5⟩; have H5 := Aside0.mk (HC.out.below h5); clear h5) | (refine gate_ (.store 36 (.tmp 2) (.tmp 22)) rfl ?_; refine Aside0.out ?_))
      refine ⟨?_⟩
      refine Own.store_all H5.out 0 rfl rfl rfl 36 (.tmp 2) (.tmp 22) rfl #[.int .i64 0, .int .i64 0, .string ⟨#[]⟩] rfl rfl size_UE rfl (by simp [Value.oneCell']) ?_
      intro wz hz
      have HZ := Aside0.mk hz
      clear hz x0 x1 x2 bx
      go_wp2_with fail
      (try simp only [Exit.inBlock, Exit.then])
      refine bodyPost_ret (results_ct rfl _ _ g 36 #[.int .i64 0, .int .i64 0, .string ⟨#[]⟩] (0, 0) _ rfl (HZ.out.box 0 rfl) Try.underlying36 rfl size_UE) rfl ?_
      exact ⟨rfl, HZ.out.1⟩
    refine value_ (v := .pointer (some ⟨W0.heap.size, 0, none⟩)) (w1 := W0.alloc (.cells #[.int .i64 0, .int .i64 0, .string ⟨#[]⟩] 36)) (by rfl) rfl (by first | (go_simp; done) | (go_simp; rfl)) ?_
    have HO1 := Aside0.mk (HO.out.alloc 1 rfl (.cells #[.int .i64 0, .int .i64 0, .string ⟨#[]⟩] 36))
    clear HO
    have HO := HO1
    clear HO1
    generalize W0.alloc (.cells #[.int .i64 0, .int .i64 0, .string ⟨#[]⟩] 36) = wB at HO ⊢
    generalize W0.heap.size = x at HO ⊢
    refine hK.out _ _ trivial (fun hHeld => ?_)
    clear hK K
    refine norm_ (a' := ?_) ?_ ?_
    rotate_left
    · show Act.put _ (some 4) _ = _
      simp only [Act.put, List.setIfInBounds_toArray, List.set_cons_zero, List.set_cons_succ, i64_w, i32_w]
      rfl
    refine one_ (i := 5) (N := some 14) #[true, true, true, true, true, true, true, true, false, true, false] rfl rfl (one_of HT_.out (by kernel_rfl)) (by decide) (fun K hK => ?_)
    refine goes_ Try.func37 (by kernel_rfl) rfl #[.string (s.extract 1 3)] (by rfl) rfl rfl (by first | rfl | (simp [Act.eval]; done) | (go_simp; done) | decide) ?_
    refine (HS.out _).mono ?_
    rintro e wA ⟨rfl, hb⟩
    refine ⟨_, rfl, ?_⟩
    have HO1 := Aside0.mk (HO.out.below hb.below)
    clear HO hb
    have HO := HO1
    clear HO1
    refine hK.out _ _ trivial (fun hHeld => ?_)
    clear hK K
    refine norm_ (a' := ?_) ?_ ?_
    rotate_left
    · show Act.put _ (some 14) _ = _
      simp only [Act.put, List.setIfInBounds_toArray, List.set_cons_zero, List.set_cons_succ, i64_w, i32_w]
      rfl
    refine pure_ (i := 8) (N := some 17) (v := ?_) (a' := ?_) #[true, true, true, true, true, true, true, true, true, true, false] rfl rfl (any_of HT_.out (by kernel_rfl)) (fun _ _ _ h => h) (Or.inl ⟨by rfl, ?_⟩) ?_ ?_
    rotate_left
    · intro w'
      go_simp
      with_reducible rfl
    rotate_left
    · simp only [Act.put, List.setIfInBounds_toArray, List.set_cons_zero, List.set_cons_succ, i64_w, i32_w]
      rfl
    refine last_ (i := 10) (N := none) #[true, true, true, true, true, true, true, true, true, true, true] rfl rfl (one_of HT_.out (by kernel_rfl)) (by decide) (fun K hK => ?_)
    refine Own.store_wp HO.out 1 rfl (by rfl) rfl 36 (.tmp 4) (.tmp 17) rfl #[.int .i64 (bt s 0), .int .i64 ((num2 s 1 : Nat) : Int), .string (s.extract 3 s.size)] rfl rfl size_UE rfl (by simp [Value.oneCell']) ?_
    intro wC hC
    have HC := Aside0.mk hC
    clear hC HO
    refine hK.out _ _ ?_
    clear hK K
    refine done_ (done_of HT_.out (by kernel_rfl)) ?_
    clear hb0
    have bx : wC.heap[x]? = some (.cells #[.int .i64 (bt s 0), .int .i64 ((num2 s 1 : Nat) : Int), .string (s.extract 3 s.size)] 36 (0, 0)) := HC.out.box 1 rfl
    have x0 : wC.cell? ⟨x, 0, none⟩ = some (.int .i64 (bt s 0)) := HC.out.cell 1 rfl 0
    have x1 : wC.cell? ⟨x, 1, none⟩ = some (.int .i64 ((num2 s 1 : Nat) : Int)) := HC.out.cell 1 rfl 1
    have x2 : wC.cell? ⟨x, 2, none⟩ = some (.string (s.extract 3 s.size)) := HC.out.cell 1 rfl 2
    have HPC := Aside0.mk (fun w => putE_calls (bt s 0) ((num2 s 1 : Nat) : Int) (s.extract 3 s.size) w)
    cases hok : okE (getX s) with
    | true =>
      have hp := put_get s hk hok
      have hp' : putE (bt s 0, ((num2 s 1 : Nat) : Int), s.extract 3 s.size) = s := hp
      rw [hp'] at HPC
      have hg2 := HG.out
      rw [hok, if_pos rfl] at hg2
      obtain ⟨hA, hB⟩ := Prod.mk.inj hg2
      obtain ⟨hA1, hA2⟩ := Prod.mk.inj hA
      obtain ⟨hA2, hA3⟩ := Prod.mk.inj hA2
      subst hB hA1 hA2 hA3
      clear hg2 hA HG HV hok hp hp'
      go_wp2_with (first | (go_at_call 19; refine (HPC.out _).mono ?_; rintro e w5 ⟨rfl, h5⟩; have H5 := Aside0.mk (HC.out.below h5); clear h5; have bx5 : w5.heap[x]? = some (.cells #[.int .i64 (bt s 0), .int .i64 ((num2 s 1 : Nat) : Int), .string (s.extract 3 s.size)] 36 (0, 0)) := H5.out.box 1 rfl; have y0 : w5.cell? ⟨x, 0, none⟩ = some (.int .i64 (bt s 0)) := H5.out.cell 1 rfl 0; have y1 : w5.cell? ⟨x, 1, none⟩ = some (.int .i64 ((num2 s 1 : Nat) : Int)) := H5.out.cell 1 rfl 1; have y2 : w5.cell? ⟨x, 2, none⟩ = some (.string (s.extract 3 s.size)) := H5.out.cell 1 rfl 2) | (refine gate_ (.store 36 (.tmp 2) (.tmp 23)) rfl ?_; refine Aside0.out ?_))
      refine ⟨?_⟩
      refine Own.store_all H5.out 0 rfl rfl rfl 36 (.tmp 2) (.tmp 23) rfl #[.int .i64 (bt s 0), .int .i64 ((num2 s 1 : Nat) : Int), .string (s.extract 3 s.size)] rfl rfl size_UE rfl (by simp [Value.oneCell']) ?_
      intro wz hz
      have HZ := Aside0.mk hz
      clear hz x0 x1 x2 bx
      go_wp2_with fail
      (try simp only [Exit.inBlock, Exit.then])
      refine bodyPost_ret (results_ct rfl _ _ g 36 #[.int .i64 (bt s 0), .int .i64 ((num2 s 1 : Nat) : Int), .string (s.extract 3 s.size)] (0, 0) _ rfl (HZ.out.box 0 rfl) Try.underlying36 rfl size_UE) rfl ?_
      exact ⟨rfl, HZ.out.1⟩
    | false =>
      have hp' : putE (bt s 0, ((num2 s 1 : Nat) : Int), s.extract 3 s.size) = ⟨#[]⟩ := by
        show putE (getX s) = _
        unfold putE
        rw [hok]; rfl
      rw [hp'] at HPC
      have hne : s.toList.isEmpty = false := by
        rw [show s.toList = s.data.toList from by first | rfl | exact ByteArray.toList_eq s]
        cases hl : s.data.toList with
        | nil =>
          have := congrArg List.length hl
          simp only [Array.length_toList, List.length_nil] at this
          exact absurd (show s.size = 0 from this) (by omega)
        | cons a l => rfl
      have hg2 := HG.out
      rw [hok, if_neg (by decide)] at hg2
      obtain ⟨hA, hB⟩ := Prod.mk.inj hg2
      obtain ⟨hA1, hA2⟩ := Prod.mk.inj hA
      obtain ⟨hA2, hA3⟩ := Prod.mk.inj hA2
      subst hB hA1 hA2 hA3
      clear hg2 hA HG HV hok hp'
      go_wp2_with (first | (go_at_call 19; refine (HPC.out _).mono ?_; rintro e w5 ⟨rfl, h5⟩; have H5 := Aside0.mk (HC.out.below h5); clear h5) | (refine gate_ (.store 36 (.tmp 2) (.tmp 22)) rfl ?_; refine Aside0.out ?_))
      refine ⟨?_⟩
      refine Own.store_all H5.out 0 rfl rfl rfl 36 (.tmp 2) (.tmp 22) rfl #[.int .i64 0, .int .i64 0, .string ⟨#[]⟩] rfl rfl size_UE rfl (by simp [Value.oneCell']) ?_
      intro wz hz
      have HZ := Aside0.mk hz
      clear hz x0 x1 x2 bx
      go_wp2_with fail
      (try simp only [Exit.inBlock, Exit.then])
      refine bodyPost_ret (results_ct rfl _ _ g 36 #[.int .i64 0, .int .i64 0, .string ⟨#[]⟩] (0, 0) _ rfl (HZ.out.box 0 rfl) Try.underlying36 rfl size_UE) rfl ?_
      exact ⟨rfl, HZ.out.1⟩
end Go.Proofs.Ytchpagboglomoaa.Ownd
