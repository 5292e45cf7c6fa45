/- Open: Add, with no Open too. Conditions: at most 100000 transactions, 1000000 entries each. -/
import Derived.Test.YtchpagboglomoaaUOpB
namespace Go.Proofs.Ytchpagboglomoaa.GP.MU
open Go.RowKit Go.Proofs.Ytchpagboglomoaa.Ownd Go.Proofs.YtchpagboglomoaaW.PrintWords Go.Proofs.YtchpagboglomoaaW.PrintLast Go.Proofs.YtchpagboglomoaaW.PrintMore
set_option linter.unusedVariables false
set_option linter.unusedSimpArgs false
def ad_T : Bool × List (List Nat × List Nat) := (true, [([], []), ([0], [0]), ([1], [1]), ([], []), ([], []), ([4], [4]), ([], []), ([6], [6]), ([5, 7, 5], [5, 7]), ([2, 3, 8, 8], [2, 3, 8])])
def ad_B : List Nat := [0, 1, 3, 0, 0, 16, 0, 64, 240, 511]
theorem ad_tab : rtab .any (opsOf Try.f14 3) = ad_T := by kernel_rfl
theorem ad_bits : waitsOk ad_T.2 ad_B = true := by kernel_rfl
theorem repsE (W : World) (a b : Int) (s : ByteArray) : Reps (Kd.FK kE W (fun _ => False)) kE.sz [((a, b, s) : UE)] [.int .i64 a, .int .i64 b, .string s] := by
  refine ⟨rfl, fun j p hj => ?_⟩
  cases j with
  | zero => cases hj; exact fun W' _ => kE_mk W' (a, b, s)
  | succ j => simp at hj
theorem add_done {w W : World} {rest : List Thing} {g gx : Nat} {v' : Value} {xs : List P2} {F : World → Prop} {M : Opn} {k : Int} {es : List UE} {A : Option Addr} {n c : Nat} {o : Obj}
    (h : Own w W (.gone :: .row kE 36 (.slice A n c) es :: oB g v' :: oR v' (setL xs k (A, n, c)) :: .fact F :: .box gx o :: rest)) (hi : IsOpen xs F M) : OpenOwn w W g (setM M k es) rest := by
  have h1 := (Own.tail h).merge 3 0 (by decide) rfl rfl
  refine ⟨v', _, _, Own.tail (Own.up3 (Own.tail h1)), ⟨setL_rise hi.rise k _, fun W' hF => ?_⟩⟩
  exact (hi.heads W' hF.1).set k ⟨hF.2.1, by rw [← hF.2.1]; exact hF.2.2.1, hF.2.2.2⟩
set_option maxHeartbeats 4000000 in
set_option maxRecDepth 100000 in
theorem add_O {w W : World} {rest : List Thing} {g : Nat} {v : Value} {xs : List P2} {F : World → Prop} {M : Opn} (h : Own w W (oB g v :: oR v xs :: .fact F :: rest)) (hi : IsOpen xs F M) (hl : M.length ≤ 99999) (k : Int) (a b : Int) (s : ByteArray) (he : (ent M k).length ≤ 900000) :
    Calls Try.prog 14 #[.pointer (some ⟨g, 0, none⟩), .int .i64 k, .agg #[.int .i64 a, .int .i64 b, .string s]] W fun ex W' => ex = .returned (.tuple #[]) ∧ OpenOwn w W' g (addM M k (a, b, s)) rest := by
  have hlen := OpenOwn.len h hi
  have HO1 : Aside0 (Own w (W.alloc (.cells #[.int .i64 a, .int .i64 b, .string s] 36)) (oB g v :: oR v xs :: .fact F :: .box W.heap.size (.cells #[.int .i64 a, .int .i64 b, .string s] 36 (0, 0)) :: rest)) := ⟨Own.down3 (h.room.alloc 0 rfl (.cells #[.int .i64 a, .int .i64 b, .string s] 36))⟩
  have HI := Aside0.mk hi
  have hll : xs.length ≤ 99999 := by omega
  have HG := Aside0.mk (get_O (i := 0) (j := 1) HO1.out ⟨rfl, rfl, by decide⟩ hi.rise (by omega) k)
  have HV : Aside0 (∀ W' : World, F W' → Hd W' (valL xs k) (ent M k)) := ⟨fun W' hF => (hi.heads W' hF).val k⟩
  obtain ⟨es, hes⟩ : ∃ es, ent M k = es := ⟨_, rfl⟩
  unfold addM
  rw [hes] at HV he ⊢
  have HLe := Aside0.mk he
  clear h hi hlen he hes
  generalize valL xs k = y at HG HV
  generalize has xs k = bb at HG
  obtain ⟨yA, yn, yc⟩ := y
  go_enter Try.func14, Try.ntmps14
  go_upto_region 1 with fail
  generalize W.alloc (.cells #[.int .i64 a, .int .i64 b, .string s] 36) = w0 at *
  generalize W.heap.size = gx at *
  go_upto_region 3 with (go_at_call 30; refine HG.out.mono ?_; rintro e w1 ⟨rfl, hb⟩; have HO := Aside0.mk (HO1.out.below hb); clear hb)
  clear HG HO1
  have HOd := Aside0.mk (HO.out.below (below_drew (Below.refl _ _)))
  clear HO
  have HO := HOd
  clear HOd
  refine start_ (n := 10) (S := fun w' => w'.cell? ⟨gx, 0, none⟩ = some (.int .i64 a) ∧ w'.cell? ⟨gx, 1, none⟩ = some (.int .i64 b) ∧ w'.cell? ⟨gx, 2, none⟩ = some (.string s)) (ds := []) #[false, false, false, false, false, false, false, false, false, false] (by kernel_rfl) rfl rfl ⟨(HO.out.cell 3 rfl 0).trans rfl, (HO.out.cell 3 rfl 1).trans rfl, (HO.out.cell 3 rfl 2).trans rfl⟩ (fun hHeld => ?_)
  refine with_tabW ad_tab ad_bits (fun HT_ HW_ => ?_)
  generalize World.drew _ = W0 at HO hHeld ⊢
  refine pure_ (i := 0) (N := some 18) (v := ?_) (a' := ?_) #[true, false, false, false, false, false, false, false, false, false] rfl rfl (any_of HT_.out (by kernel_rfl)) (fun _ _ _ h => h) (Or.inl ⟨by rfl, ?_⟩) ?_ ?_
  rotate_left
  · intro w'
    go_simp
    with_reducible rfl
  rotate_left
  · simp only [Act.put, List.setIfInBounds_toArray, List.set_cons_zero, List.set_cons_succ, i64_w, i32_w]
    rfl
  refine pure_ (i := 1) (N := some 19) (v := ?_) (a' := ?_) #[true, true, false, false, false, false, false, false, false, false] rfl rfl (any_of HT_.out (by kernel_rfl)) (fun _ _ _ h => h) (Or.inl ⟨by rfl, ?_⟩) ?_ ?_
  rotate_left
  · intro w'
    go_simp
    with_reducible rfl
  rotate_left
  · simp only [Act.put, List.setIfInBounds_toArray, List.set_cons_zero, List.set_cons_succ, i64_w, i32_w]
    rfl
  refine pure_ (i := 2) (N := some 20) (v := ?_) (a' := ?_) #[true, true, true, false, false, false, false, false, false, false] rfl rfl (any_of HT_.out (by kernel_rfl)) (fun _ _ _ h => h) (Or.inl ⟨by rfl, ?_⟩) ?_ ?_
  rotate_left
  · intro w'
    go_simp
    with_reducible rfl
  rotate_left
  · simp only [Act.put, List.setIfInBounds_toArray, List.set_cons_zero, List.set_cons_succ, i64_w, i32_w]
    rfl
  refine pure_ (i := 3) (N := some 21) (v := ?_) (a' := ?_) #[true, true, true, true, false, false, false, false, false, false] rfl rfl (any_of HT_.out (by kernel_rfl)) (fun _ _ _ h => h) (Or.inl ⟨by rfl, ?_⟩) ?_ ?_
  rotate_left
  · intro w'
    go_simp
    with_reducible rfl
  rotate_left
  · simp only [Act.put, List.setIfInBounds_toArray, List.set_cons_zero, List.set_cons_succ, i64_w, i32_w]
    rfl
  refine pure_ (i := 4) (N := some 22) (v := ?_) (a' := ?_) #[true, true, true, true, true, false, false, false, false, false] rfl rfl (any_of HT_.out (by kernel_rfl)) (fun _ _ _ h => h) (Or.inl ⟨by rfl, ?_⟩) ?_ ?_
  rotate_left
  · intro w'
    go_simp
    with_reducible rfl
  rotate_left
  · simp only [Act.put, List.setIfInBounds_toArray, List.set_cons_zero, List.set_cons_succ, i64_w, i32_w]
    rfl
  refine take_ (i := 6) (N := some 24) (v := ?_) (a' := ?_) #[true, true, true, true, true, false, true, false, false, false] rfl rfl (take_ofW HT_.out HW_.out (by kernel_rfl)) (fun _ _ _ h => h) (Or.inl ⟨by rfl, ?_⟩) hHeld ?_ ?_
  rotate_left
  · rintro w' ⟨s0, s1, s2⟩
    go_simp
    with_reducible rfl
  rotate_left
  · simp only [Act.put, List.setIfInBounds_toArray, List.set_cons_zero, List.set_cons_succ, i64_w, i32_w]
    rfl
  refine two_ (i := 5) (j := 7) (Ni := some 23) (Nj := some 25) #[true, true, true, true, true, true, true, false, false, false] #[true, true, true, true, true, false, true, true, false, false] rfl rfl rfl rfl (two_of HT_.out (by kernel_rfl)) (by decide) (by decide) (fun K hK => ?_) (fun K hK => ?_)
  · skip
    refine goes_ Try.func31 (by kernel_rfl) rfl #[.slice yA yn yc] (by rfl) rfl rfl (by first | rfl | (simp [Act.eval]; done) | (go_simp; done) | decide) ?_
    refine (cloneE_O HO.out (HV.out _ (HO.out.now 2 rfl)) (Nat.le_trans HLe.out (by decide))).mono ?_
    rintro e wA ⟨A2, c2, rfl, hO2⟩
    refine ⟨_, rfl, ?_⟩
    have HO2 := Aside0.mk hO2
    clear hO2
    clear HO
    have HO := HO2
    clear HO2
    refine hK.out _ _ ⟨(HO.out.cell 4 rfl 0).trans rfl, (HO.out.cell 4 rfl 1).trans rfl, (HO.out.cell 4 rfl 2).trans rfl⟩ (fun hHeld => ?_)
    clear hK K
    refine norm_ (a' := ?_) ?_ ?_
    rotate_left
    · show Act.put _ (some 23) _ = _
      simp only [Act.put, List.setIfInBounds_toArray, List.set_cons_zero, List.set_cons_succ, i64_w, i32_w]
      rfl
    refine one_ (i := 7) (N := some 25) #[true, true, true, true, true, true, true, true, false, false] rfl rfl (one_of HT_.out (by kernel_rfl)) (by decide) (fun K hK => ?_)
    have HO2 := Aside0.mk HO.out.room
    clear HO
    have HO := HO2
    clear HO2
    refine Own.lit_step kE HO.out 0 rfl 36 ?hg (N := 25) ?hd (xs := [((a, b, s) : UE)]) (inner := [.int .i64 a, .int .i64 b, .string s]) ?hr ?hp (by simp) ?_; (case hd => rfl); (case hg => rfl); (case hr => first | (go_simp; done) | (go_simp; rfl)); (case hp => exact repsE _ _ _ _)
    intro vL wA HO'
    have HO2 := Aside0.mk HO'
    clear HO'
    clear HO
    have HO := HO2
    clear HO2
    obtain ⟨AL, cL, eL⟩ := HO.out.row 0 rfl
    subst eL
    refine hK.out _ _ ⟨(HO.out.cell 5 rfl 0).trans rfl, (HO.out.cell 5 rfl 1).trans rfl, (HO.out.cell 5 rfl 2).trans rfl⟩ (fun hHeld => ?_)
    clear hK K
    refine norm_ (a' := ?_) ?_ ?_
    rotate_left
    · show Act.put _ (some 25) _ = _
      simp only [Act.put, List.setIfInBounds_toArray, List.set_cons_zero, List.set_cons_succ, i64_w, i32_w]
      rfl
    refine one_ (i := 8) (N := some 26) #[true, true, true, true, true, true, true, true, true, false] rfl rfl (one_of HT_.out (by kernel_rfl)) (by decide) (fun K hK => ?_)
    refine Own.append_step kE HO.out 1 0 (by decide) 36 rfl rfl (by rfl) (.tmp 23) (.tmp 25) 71 zE 32 rfl Try.underlying71 infoE rfl (by decide) (by decide) rfl rfl (by have := HLe.out; simp only [List.length_singleton, List.length_cons, List.length_nil]; omega) ?_
    intro v3 wA HO'
    have HO2 := Aside0.mk HO'
    clear HO'
    clear HO
    have HO := HO2
    clear HO2
    obtain ⟨A3, c3, e3⟩ := HO.out.row 1 rfl
    replace e3 : v3 = _ := e3
    generalize hn3 : List.length _ = n3 at e3
    subst e3
    refine hK.out _ _ ⟨(HO.out.cell 5 rfl 0).trans rfl, (HO.out.cell 5 rfl 1).trans rfl, (HO.out.cell 5 rfl 2).trans rfl⟩ (fun hHeld => ?_)
    clear hK K
    refine norm_ (a' := ?_) ?_ ?_
    rotate_left
    · show Act.put _ (some 26) _ = _
      simp only [Act.put, List.setIfInBounds_toArray, List.set_cons_zero, List.set_cons_succ, i64_w, i32_w]
      rfl
    refine one_ (i := 9) (N := some 27) #[true, true, true, true, true, true, true, true, true, true] rfl rfl (one_of HT_.out (by kernel_rfl)) (by decide) (fun K hK => ?_)
    refine goes_ Try.func28 (by kernel_rfl) rfl #[.pointer (some ⟨g, 0, none⟩), .int .i64 k, .slice A3 n3 c3] (by rfl) rfl rfl (by first | rfl | (simp [Act.eval]; done) | (go_simp; done) | decide) ?_
    refine (set_O (i := 2) (j := 3) HO.out ⟨rfl, rfl, by decide⟩ HI.out.rise (by omega) k (A3, n3, c3)).mono ?_
    rintro e wA ⟨v4, rfl, hO2⟩
    refine ⟨_, rfl, ?_⟩
    have HO2 := Aside0.mk hO2
    clear hO2
    clear HO
    have HO := HO2
    clear HO2
    refine hK.out _ _ ⟨(HO.out.cell 5 rfl 0).trans rfl, (HO.out.cell 5 rfl 1).trans rfl, (HO.out.cell 5 rfl 2).trans rfl⟩ (fun hHeld => ?_)
    clear hK K
    refine norm_ (a' := ?_) ?_ ?_
    rotate_left
    · show Act.put _ (some 27) _ = _
      simp only [Act.put, List.setIfInBounds_toArray, List.set_cons_zero, List.set_cons_succ, i64_w, i32_w]
      rfl
    refine done_ (done_of HT_.out (by kernel_rfl)) ?_
    go_wp2_with fail
    go_end0
    exact ⟨rfl, add_done HO.out HI.out⟩
  · skip
    have HO2 := Aside0.mk HO.out.room
    clear HO
    have HO := HO2
    clear HO2
    refine Own.lit_step kE HO.out 0 rfl 36 ?hg (N := 25) ?hd (xs := [((a, b, s) : UE)]) (inner := [.int .i64 a, .int .i64 b, .string s]) ?hr ?hp (by simp) ?_; (case hd => rfl); (case hg => rfl); (case hr => first | (go_simp; done) | (go_simp; rfl)); (case hp => exact repsE _ _ _ _)
    intro vL wA HO'
    have HO2 := Aside0.mk HO'
    clear HO'
    clear HO
    have HO := HO2
    clear HO2
    obtain ⟨AL, cL, eL⟩ := HO.out.row 0 rfl
    subst eL
    refine hK.out _ _ ⟨(HO.out.cell 4 rfl 0).trans rfl, (HO.out.cell 4 rfl 1).trans rfl, (HO.out.cell 4 rfl 2).trans rfl⟩ (fun hHeld => ?_)
    clear hK K
    refine norm_ (a' := ?_) ?_ ?_
    rotate_left
    · show Act.put _ (some 25) _ = _
      simp only [Act.put, List.setIfInBounds_toArray, List.set_cons_zero, List.set_cons_succ, i64_w, i32_w]
      rfl
    refine one_ (i := 5) (N := some 23) #[true, true, true, true, true, true, true, true, false, false] rfl rfl (one_of HT_.out (by kernel_rfl)) (by decide) (fun K hK => ?_)
    refine goes_ Try.func31 (by kernel_rfl) rfl #[.slice yA yn yc] (by rfl) rfl rfl (by first | rfl | (simp [Act.eval]; done) | (go_simp; done) | decide) ?_
    refine (cloneE_O HO.out (HV.out _ (HO.out.now 3 rfl)) (Nat.le_trans HLe.out (by decide))).mono ?_
    rintro e wA ⟨A2, c2, rfl, hO2⟩
    refine ⟨_, rfl, ?_⟩
    have HO2 := Aside0.mk hO2
    clear hO2
    clear HO
    have HO := HO2
    clear HO2
    refine hK.out _ _ ⟨(HO.out.cell 5 rfl 0).trans rfl, (HO.out.cell 5 rfl 1).trans rfl, (HO.out.cell 5 rfl 2).trans rfl⟩ (fun hHeld => ?_)
    clear hK K
    refine norm_ (a' := ?_) ?_ ?_
    rotate_left
    · show Act.put _ (some 23) _ = _
      simp only [Act.put, List.setIfInBounds_toArray, List.set_cons_zero, List.set_cons_succ, i64_w, i32_w]
      rfl
    refine one_ (i := 8) (N := some 26) #[true, true, true, true, true, true, true, true, true, false] rfl rfl (one_of HT_.out (by kernel_rfl)) (by decide) (fun K hK => ?_)
    refine Own.append_step kE HO.out 0 1 (by decide) 36 rfl rfl (by rfl) (.tmp 23) (.tmp 25) 71 zE 32 rfl Try.underlying71 infoE rfl (by decide) (by decide) rfl rfl (by have := HLe.out; simp only [List.length_singleton, List.length_cons, List.length_nil]; omega) ?_
    intro v3 wA HO'
    have HO2 := Aside0.mk HO'
    clear HO'
    clear HO
    have HO := HO2
    clear HO2
    obtain ⟨A3, c3, e3⟩ := HO.out.row 0 rfl
    replace e3 : v3 = _ := e3
    generalize hn3 : List.length _ = n3 at e3
    subst e3
    refine hK.out _ _ ⟨(HO.out.cell 5 rfl 0).trans rfl, (HO.out.cell 5 rfl 1).trans rfl, (HO.out.cell 5 rfl 2).trans rfl⟩ (fun hHeld => ?_)
    clear hK K
    refine norm_ (a' := ?_) ?_ ?_
    rotate_left
    · show Act.put _ (some 26) _ = _
      simp only [Act.put, List.setIfInBounds_toArray, List.set_cons_zero, List.set_cons_succ, i64_w, i32_w]
      rfl
    refine one_ (i := 9) (N := some 27) #[true, true, true, true, true, true, true, true, true, true] rfl rfl (one_of HT_.out (by kernel_rfl)) (by decide) (fun K hK => ?_)
    refine goes_ Try.func28 (by kernel_rfl) rfl #[.pointer (some ⟨g, 0, none⟩), .int .i64 k, .slice A3 n3 c3] (by rfl) rfl rfl (by first | rfl | (simp [Act.eval]; done) | (go_simp; done) | decide) ?_
    refine (set_O (i := 2) (j := 3) HO.out ⟨rfl, rfl, by decide⟩ HI.out.rise (by omega) k (A3, n3, c3)).mono ?_
    rintro e wA ⟨v4, rfl, hO2⟩
    refine ⟨_, rfl, ?_⟩
    have HO2 := Aside0.mk hO2
    clear hO2
    clear HO
    have HO := HO2
    clear HO2
    refine hK.out _ _ ⟨(HO.out.cell 5 rfl 0).trans rfl, (HO.out.cell 5 rfl 1).trans rfl, (HO.out.cell 5 rfl 2).trans rfl⟩ (fun hHeld => ?_)
    clear hK K
    refine norm_ (a' := ?_) ?_ ?_
    rotate_left
    · show Act.put _ (some 27) _ = _
      simp only [Act.put, List.setIfInBounds_toArray, List.set_cons_zero, List.set_cons_succ, i64_w, i32_w]
      rfl
    refine done_ (done_of HT_.out (by kernel_rfl)) ?_
    go_wp2_with fail
    go_end0
    exact ⟨rfl, add_done (Own.swap2 HO.out) HI.out⟩
theorem add_nil (W : World) (k : Int) (a b : Int) (s : ByteArray) : Calls Try.prog 14 #[.pointer none, .int .i64 k, .agg #[.int .i64 a, .int .i64 b, .string s]] W fun ex W' => ex = .returned (.tuple #[]) ∧ Below W.heap.size W W' := by
  go_enter Try.func14, Try.ntmps14
  go_wp2
  go_end0
  exact ⟨rfl, below_alloc (Below.refl _ _) _⟩
end Go.Proofs.Ytchpagboglomoaa.GP.MU
