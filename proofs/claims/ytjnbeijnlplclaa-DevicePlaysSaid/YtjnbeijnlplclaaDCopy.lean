/- (*Device).Copy and maps.Clone. Conditions: at most 1000000 writes wait, at most 1000000 keeps. -/
import Derived.Test.YtjnbeijnlplclaaDMore
import Derived.Shelf.SlMaps.Clone
namespace Go.Proofs.Ytjnbeijnlplclaa.Ownd
open Go.RowKit Go.Proofs.YtjnbeijnlplclaaW.PrintWords Go.Proofs.YtjnbeijnlplclaaW.PrintLast Go.Proofs.YtjnbeijnlplclaaW.PrintMore
set_option linter.unusedVariables false
set_option linter.unusedSimpArgs false
variable {w W : World} {post : List Thing} {d : Nat} {D : Dev}
set_option maxHeartbeats 2000000 in
set_option maxRecDepth 100000 in
theorem mclone_run {r : Nat} {es : Array MapEntry} {clk : Nat} (h : W.heap[r]? = some (.map es clk)) :
    Calls Try.prog 29 #[.map (some r)] W fun ex W' => ex = .returned (.map (some W.heap.size)) ∧ W' = W.alloc (.map es clk) := by
  have hq := fun w => run_eql_map_nil_sl (P := Try.prog) w 58 _ _ (some r) Try.underlying58
  go_enter Try.func29, Try.ntmps29
  go_wp2
  rw [run_callFunc_extern Try.func44 (by kernel_rfl) (by kernel_rfl) (by kernel_rfl) (e := Extern.MapsClone.clone) (by kernel_rfl), run_maps_clone_sl W 58 h]
  simp only [Result.andThen]
  rw [Oper.upon_value]
  go_wp2
  rw [run_typeAssert_map_sl _ 58 20 _ _ _ Try.underlying58]
  simp only [Result.andThen]
  rw [Oper.upon_value]
  go_wp2
  go_ret
  exact ⟨rfl, rfl⟩
def cp_T : Bool × List (List Nat × List Nat) := (true, [([], []), ([0], [0]), ([1], [1]), ([2], [2]), ([3], [3]), ([], []), ([5], [5]), ([6], [6]), ([7], [7]), ([8, 4], [8]), ([], []), ([10], [10]), ([11], [11]), ([12], [12]), ([13, 9], [13]), ([0, 1, 2, 3, 4, 8, 9, 13, 14], []), ([15, 4, 14, 0, 1, 2, 3, 4, 8, 9, 13, 14], [4, 15]), ([0, 1, 2, 3, 4, 5, 6, 7, 8, 9, 13, 14, 15, 16], []), ([17, 9, 16, 0, 1, 2, 3, 4, 5, 6, 7, 8, 9, 13, 14, 15, 16], [9, 17]), ([0, 1, 2, 3, 4, 5, 6, 7, 8, 9, 10, 11, 12, 13, 14, 15, 16, 17, 18], []), ([19, 14, 18, 0, 1, 2, 3, 4, 5, 6, 7, 8, 9, 10, 11, 12, 13, 14, 15, 16, 17, 18], [14, 19])])
def cp_B : List Nat := [0, 1, 3, 7, 15, 0, 32, 96, 224, 511, 0, 1024, 3072, 7168, 16383, 32767, 65535, 131071, 262143, 524287, 1048575]
theorem cp_tab : rtab .any (opsOf Try.f15 4) = cp_T := by kernel_rfl
theorem cp_bits : waitsOk cp_T.2 cp_B = true := by kernel_rfl
theorem wlen' {l : List PW} (h : l.length ≤ 1000000) : l.length * 24 ≤ 140737488355328 := by omega
theorem ilen' {l : List Int} (h : l.length ≤ 1000000) : l.length * 8 ≤ 140737488355328 := by omega
theorem row_reads {α : Type} {l : List Thing} {k : Kd α} {e n c : Nat} {A : Option Addr} {xs : List α} (h : Own w W l) (j : Nat) (hj : l[j]? = some (.row k e (.slice A n c) xs)) : k.C W A n xs ∧ (A = none → n = 0) := by
  obtain ⟨A', c', e1, _, hC⟩ := h.reads j hj
  simp only [Value.slice.injEq] at e1
  obtain ⟨rfl, rfl, rfl⟩ := e1
  refine ⟨hC, fun hA => ?_⟩
  obtain ⟨ok, hN⟩ := h.N j hj
  rcases N_nonnil hN with ⟨_, h2⟩ | ⟨g, c', h', _⟩
  · rw [h2]; rfl
  · subst hA; cases h'
/-- Two devices alike, one behind the other. -/
def HasD2 (w W : World) (post : List Thing) (d g : Nat) (D D' : Dev) : Prop := ∃ r vw vk es clk r2 vw2 vk2 es2 clk2, MapIs es D.last ∧ MapIs es2 D'.last ∧ Own w W (DV d r vw vk es clk D ++ (DV g r2 vw2 vk2 es2 clk2 D' ++ post))
set_option maxHeartbeats 8000000 in
set_option maxRecDepth 100000 in
theorem copy_D (h : HasD w W post d D) (hl : D.wait.length ≤ 1000000) (hk : D.keep.length ≤ 1000000) :
    Calls Try.prog 15 #[.pointer (some ⟨d, 0, none⟩)] W fun ex W' => ∃ g, ex = .returned (.pointer (some ⟨g, 0, none⟩)) ∧ HasD2 w W' post d g D D := by
  obtain ⟨r, vw, vk, es, clk, hm, hO⟩ := h
  obtain ⟨Aw, cw, rfl, -, -⟩ := hO.reads 2 rfl
  obtain ⟨Ak, ck, rfl, -, -⟩ := hO.reads 3 rfl
  have HM := Aside0.mk hm
  have c0 : W.cell? ⟨d, 0, none⟩ = some (.int .i64 D.size) := hO.cell 0 rfl 0
  have c1 : W.cell? ⟨d, 1, none⟩ = some (.map (some r)) := hO.cell 0 rfl 1
  have c2 : W.cell? ⟨d, 2, none⟩ = some (.slice Aw D.wait.length cw) := hO.cell 0 rfl 2
  have c3 : W.cell? ⟨d, 3, none⟩ = some (.bool D.off) := hO.cell 0 rfl 3
  have c4 : W.cell? ⟨d, 4, none⟩ = some (.int .i64 D.fuse) := hO.cell 0 rfl 4
  have c5 : W.cell? ⟨d, 5, none⟩ = some (.slice Ak D.keep.length ck) := hO.cell 0 rfl 5
  have c6 : W.cell? ⟨d, 6, none⟩ = some (.int .i64 D.cmds) := hO.cell 0 rfl 6
  have hup := Try.underlying61
  have HO := Aside0.mk (hO.room.room.room.room.alloc 4 rfl (.cells #[.int .i64 D.size, .map (some r), .slice Aw D.wait.length cw, .bool D.off, .int .i64 D.fuse, .slice Ak D.keep.length ck, .int .i64 D.cmds] 61))
  clear hO hm
  go_enter Try.func15, Try.ntmps15
  go_upto_region 4 with fail
  clear c0 c1 c2 c3 c4 c5 c6
  generalize W.alloc (.cells #[.int .i64 D.size, .map (some r), .slice Aw D.wait.length cw, .bool D.off, .int .i64 D.fuse, .slice Ak D.keep.length ck, .int .i64 D.cmds] 61) = wq at HO ⊢
  generalize W.heap.size = g at HO ⊢
  go_cut [] (fun wx => Aside0 (HasD2 w wx post d g D D))
  case first =>
    have HOd := Aside0.mk (HO.out.below (below_drew (Below.refl _ _)))
    clear HO
    have HO := HOd
    clear HOd
    refine start_ (n := 21) (S := fun w' => w'.cell? ⟨d, 1, none⟩ = some (.map (some r)) ∧ w'.cell? ⟨d, 2, none⟩ = some (.slice Aw D.wait.length cw) ∧ w'.cell? ⟨d, 5, none⟩ = some (.slice Ak D.keep.length ck)) (ds := [16, 18, 20]) #[false, false, false, false, false, false, false, false, false, false, false, false, false, false, false, false, false, false, false, false, false] (by kernel_rfl) rfl rfl ⟨(HO.out.cell 0 rfl 1).trans rfl, (HO.out.cell 0 rfl 2).trans rfl, (HO.out.cell 0 rfl 5).trans rfl⟩ (fun hHeld => ?_)
    refine with_tabW cp_tab cp_bits (fun HT_ HW_ => ?_)
    generalize World.drew _ = W0 at HO hHeld ⊢
    refine pure_ (i := 0) (N := some 9) (v := ?_) (a' := ?_) #[true, false, false, false, false, false, false, false, false, false, false, false, false, false, false, false, false, false, false, false, false] rfl rfl (any_of HT_.out (by kernel_rfl)) (fun _ _ _ h => h) (Or.inl ⟨by rfl, ?_⟩) ?_ ?_
    rotate_left
    · intro w'
      go_simp
      with_reducible rfl
    rotate_left
    · simp only [Act.put, List.setIfInBounds_toArray, List.set_cons_zero, List.set_cons_succ, i64_w, i32_w]
      rfl
    refine pure_ (i := 1) (N := some 10) (v := ?_) (a' := ?_) #[true, true, false, false, false, false, false, false, false, false, false, false, false, false, false, false, false, false, false, false, false] rfl rfl (any_of HT_.out (by kernel_rfl)) (fun _ _ _ h => h) (Or.inl ⟨by rfl, ?_⟩) ?_ ?_
    rotate_left
    · intro w'
      go_simp
      with_reducible rfl
    rotate_left
    · simp only [Act.put, List.setIfInBounds_toArray, List.set_cons_zero, List.set_cons_succ, i64_w, i32_w]
      rfl
    refine pure_ (i := 2) (N := some 11) (v := ?_) (a' := ?_) #[true, true, true, false, false, false, false, false, false, false, false, false, false, false, false, false, false, false, false, false, false] rfl rfl (any_of HT_.out (by kernel_rfl)) (fun _ _ _ h => h) (Or.inl ⟨by rfl, ?_⟩) ?_ ?_
    rotate_left
    · intro w'
      go_simp
      with_reducible rfl
    rotate_left
    · simp only [Act.put, List.setIfInBounds_toArray, List.set_cons_zero, List.set_cons_succ, i64_w, i32_w]
      rfl
    refine take_ (i := 3) (N := some 12) (v := ?_) (a' := ?_) #[true, true, true, true, false, false, false, false, false, false, false, false, false, false, false, false, false, false, false, false, false] rfl rfl (take_ofW HT_.out HW_.out (by kernel_rfl)) (fun _ _ _ h => h) (Or.inl ⟨by rfl, ?_⟩) hHeld ?_ ?_
    rotate_left
    · rintro w' ⟨s0, s1, s2⟩
      go_simp
      with_reducible rfl
    rotate_left
    · simp only [Act.put, List.setIfInBounds_toArray, List.set_cons_zero, List.set_cons_succ, i64_w, i32_w]
      rfl
    refine pure_ (i := 5) (N := some 14) (v := ?_) (a' := ?_) #[true, true, true, true, false, true, false, false, false, false, false, false, false, false, false, false, false, false, false, false, false] rfl rfl (any_of HT_.out (by kernel_rfl)) (fun _ _ _ h => h) (Or.inl ⟨by rfl, ?_⟩) ?_ ?_
    rotate_left
    · intro w'
      go_simp
      with_reducible rfl
    rotate_left
    · simp only [Act.put, List.setIfInBounds_toArray, List.set_cons_zero, List.set_cons_succ, i64_w, i32_w]
      rfl
    refine pure_ (i := 6) (N := some 15) (v := ?_) (a' := ?_) #[true, true, true, true, false, true, true, false, false, false, false, false, false, false, false, false, false, false, false, false, false] rfl rfl (any_of HT_.out (by kernel_rfl)) (fun _ _ _ h => h) (Or.inl ⟨by rfl, ?_⟩) ?_ ?_
    rotate_left
    · intro w'
      go_simp
      with_reducible rfl
    rotate_left
    · simp only [Act.put, List.setIfInBounds_toArray, List.set_cons_zero, List.set_cons_succ, i64_w, i32_w]
      rfl
    refine pure_ (i := 7) (N := some 16) (v := ?_) (a' := ?_) #[true, true, true, true, false, true, true, true, false, false, false, false, false, false, false, false, false, false, false, false, false] rfl rfl (any_of HT_.out (by kernel_rfl)) (fun _ _ _ h => h) (Or.inl ⟨by rfl, ?_⟩) ?_ ?_
    rotate_left
    · intro w'
      go_simp
      with_reducible rfl
    rotate_left
    · simp only [Act.put, List.setIfInBounds_toArray, List.set_cons_zero, List.set_cons_succ, i64_w, i32_w]
      rfl
    refine take_ (i := 8) (N := some 17) (v := ?_) (a' := ?_) #[true, true, true, true, false, true, true, true, true, false, false, false, false, false, false, false, false, false, false, false, false] rfl rfl (take_ofW HT_.out HW_.out (by kernel_rfl)) (fun _ _ _ h => h) (Or.inl ⟨by rfl, ?_⟩) hHeld ?_ ?_
    rotate_left
    · rintro w' ⟨s0, s1, s2⟩
      go_simp
      with_reducible rfl
    rotate_left
    · simp only [Act.put, List.setIfInBounds_toArray, List.set_cons_zero, List.set_cons_succ, i64_w, i32_w]
      rfl
    refine pure_ (i := 10) (N := some 19) (v := ?_) (a' := ?_) #[true, true, true, true, false, true, true, true, true, false, true, false, false, false, false, false, false, false, false, false, false] rfl rfl (any_of HT_.out (by kernel_rfl)) (fun _ _ _ h => h) (Or.inl ⟨by rfl, ?_⟩) ?_ ?_
    rotate_left
    · intro w'
      go_simp
      with_reducible rfl
    rotate_left
    · simp only [Act.put, List.setIfInBounds_toArray, List.set_cons_zero, List.set_cons_succ, i64_w, i32_w]
      rfl
    refine pure_ (i := 11) (N := some 20) (v := ?_) (a' := ?_) #[true, true, true, true, false, true, true, true, true, false, true, true, false, false, false, false, false, false, false, false, false] rfl rfl (any_of HT_.out (by kernel_rfl)) (fun _ _ _ h => h) (Or.inl ⟨by rfl, ?_⟩) ?_ ?_
    rotate_left
    · intro w'
      go_simp
      with_reducible rfl
    rotate_left
    · simp only [Act.put, List.setIfInBounds_toArray, List.set_cons_zero, List.set_cons_succ, i64_w, i32_w]
      rfl
    refine pure_ (i := 12) (N := some 21) (v := ?_) (a' := ?_) #[true, true, true, true, false, true, true, true, true, false, true, true, true, false, false, false, false, false, false, false, false] rfl rfl (any_of HT_.out (by kernel_rfl)) (fun _ _ _ h => h) (Or.inl ⟨by rfl, ?_⟩) ?_ ?_
    rotate_left
    · intro w'
      go_simp
      with_reducible rfl
    rotate_left
    · simp only [Act.put, List.setIfInBounds_toArray, List.set_cons_zero, List.set_cons_succ, i64_w, i32_w]
      rfl
    refine take_ (i := 13) (N := some 22) (v := ?_) (a' := ?_) #[true, true, true, true, false, true, true, true, true, false, true, true, true, true, false, false, false, false, false, false, false] rfl rfl (take_ofW HT_.out HW_.out (by kernel_rfl)) (fun _ _ _ h => h) (Or.inl ⟨by rfl, ?_⟩) hHeld ?_ ?_
    rotate_left
    · rintro w' ⟨s0, s1, s2⟩
      go_simp
      with_reducible rfl
    rotate_left
    · simp only [Act.put, List.setIfInBounds_toArray, List.set_cons_zero, List.set_cons_succ, i64_w, i32_w]
      rfl
    refine one_ (i := 4) (N := some 13) #[true, true, true, true, true, true, true, true, true, false, true, true, true, true, false, false, false, false, false, false, false] rfl rfl (one_of HT_.out (by kernel_rfl)) (by decide) (fun K hK => ?_)
    refine goes_ Try.func29 (by kernel_rfl) rfl #[.map (some r)] (by rfl) rfl rfl (by first | rfl | (simp [Act.eval]; done) | (go_simp; done) | decide) ?_
    refine (mclone_run (HO.out.box 1 rfl)).mono ?_
    rintro e wA ⟨rfl, rfl⟩
    refine ⟨_, rfl, ?_⟩
    have HO1 := Aside0.mk (HO.out.alloc 5 rfl (.map es clk))
    generalize W0.alloc (.map es clk) = wB at HO1 ⊢
    generalize W0.heap.size = r2 at HO1 ⊢
    clear HO
    have HO := HO1
    clear HO1
    refine hK.out _ _ ⟨(HO.out.cell 0 rfl 1).trans rfl, (HO.out.cell 0 rfl 2).trans rfl, (HO.out.cell 0 rfl 5).trans rfl⟩ (fun hHeld => ?_)
    clear hK K
    refine norm_ (a' := ?_) ?_ ?_
    rotate_left
    · show Act.put _ (some 13) _ = _
      simp only [Act.put, List.setIfInBounds_toArray, List.set_cons_zero, List.set_cons_succ, i64_w, i32_w]
      rfl
    refine one_ (i := 9) (N := some 18) #[true, true, true, true, true, true, true, true, true, true, true, true, true, true, false, false, false, false, false, false, false] rfl rfl (one_of HT_.out (by kernel_rfl)) (by decide) (fun K hK => ?_)
    refine goes_ Try.func30 (by kernel_rfl) rfl #[.slice Aw D.wait.length cw] (by rfl) rfl rfl (by first | rfl | (simp [Act.eval]; done) | (go_simp; done) | decide) ?_
    refine (cloneW_N (row_reads HO.out 2 rfl).1 (wlen' hl) (row_reads HO.out 2 rfl).2).mono ?_
    rintro e wC ⟨v2, rfl, hN, hb⟩
    refine ⟨_, rfl, ?_⟩
    have HO1 := Aside0.mk (HO.out.row_new 6 rfl hb hN (fun k hk => hk))
    clear hN hb
    clear HO
    have HO := HO1
    clear HO1
    obtain ⟨A2, n2, c2, rfl⟩ := HO.out.isSlice 6 rfl
    refine hK.out _ _ ⟨(HO.out.cell 0 rfl 1).trans rfl, (HO.out.cell 0 rfl 2).trans rfl, (HO.out.cell 0 rfl 5).trans rfl⟩ (fun hHeld => ?_)
    clear hK K
    refine norm_ (a' := ?_) ?_ ?_
    rotate_left
    · show Act.put _ (some 18) _ = _
      simp only [Act.put, List.setIfInBounds_toArray, List.set_cons_zero, List.set_cons_succ, i64_w, i32_w]
      rfl
    refine one_ (i := 14) (N := some 23) #[true, true, true, true, true, true, true, true, true, true, true, true, true, true, true, false, false, false, false, false, false] rfl rfl (one_of HT_.out (by kernel_rfl)) (by decide) (fun K hK => ?_)
    refine goes_ Try.func31 (by kernel_rfl) rfl #[.slice Ak D.keep.length ck] (by rfl) rfl rfl (by first | rfl | (simp [Act.eval]; done) | (go_simp; done) | decide) ?_
    refine (cloneI_N (row_reads HO.out 3 rfl).1 (ilen' hk) (row_reads HO.out 3 rfl).2).mono ?_
    rintro e wD ⟨v3, rfl, hN, hb⟩
    refine ⟨_, rfl, ?_⟩
    have HO1 := Aside0.mk (HO.out.row_new 7 rfl hb hN (fun k hk => hk))
    clear hN hb
    clear HO
    have HO := HO1
    clear HO1
    obtain ⟨A3, n3, c3, rfl⟩ := HO.out.isSlice 7 rfl
    refine hK.out _ _ ⟨(HO.out.cell 0 rfl 1).trans rfl, (HO.out.cell 0 rfl 2).trans rfl, (HO.out.cell 0 rfl 5).trans rfl⟩ (fun hHeld => ?_)
    clear hK K
    refine norm_ (a' := ?_) ?_ ?_
    rotate_left
    · show Act.put _ (some 23) _ = _
      simp only [Act.put, List.setIfInBounds_toArray, List.set_cons_zero, List.set_cons_succ, i64_w, i32_w]
      rfl
    refine pure_ (i := 15) (N := some 24) (v := ?_) (a' := ?_) #[true, true, true, true, true, true, true, true, true, true, true, true, true, true, true, true, false, false, false, false, false] rfl rfl (any_of HT_.out (by kernel_rfl)) (fun _ _ _ h => h) (Or.inl ⟨by rfl, ?_⟩) ?_ ?_
    rotate_left
    · intro w'
      go_simp
      with_reducible rfl
    rotate_left
    · simp only [Act.put, List.setIfInBounds_toArray, List.set_cons_zero, List.set_cons_succ, i64_w, i32_w]
      rfl
    refine last_ (i := 16) (N := none) #[true, true, true, true, true, true, true, true, true, true, true, true, true, true, true, true, true, false, false, false, false] rfl rfl (one_of HT_.out (by kernel_rfl)) (by decide) (fun K hK => ?_)
    have hs0 : wD.cell? ⟨g, 1, none⟩ = some (.map (some r)) := (HO.out.cell 4 rfl 1).trans rfl
    have hf0 := HO.out.frozen 4 rfl 1
    refine skip_ (w1 := ?_) (by rfl) rfl ?_ ?_
    rotate_left
    · go_simp
      rfl
    refine hK.out _ _ ?_
    clear hK K
    have HO1 := Aside0.mk (HO.out.store 4 rfl 1 (.map (some r2)) (cs' := #[.int .i64 D.size, .map (some r2), .slice Aw D.wait.length cw, .bool D.off, .int .i64 D.fuse, .slice Ak D.keep.length ck, .int .i64 D.cmds]) rfl)
    clear hs0 hf0 HO
    generalize wD.setCell ⟨g, 1, none⟩ (.map (some r2)) = wE at HO1 ⊢
    have HO := HO1
    clear HO1
    refine pure_ (i := 17) (N := some 25) (v := ?_) (a' := ?_) #[true, true, true, true, true, true, true, true, true, true, true, true, true, true, true, true, true, true, false, false, false] rfl rfl (any_of HT_.out (by kernel_rfl)) (fun _ _ _ h => h) (Or.inl ⟨by rfl, ?_⟩) ?_ ?_
    rotate_left
    · intro w'
      go_simp
      with_reducible rfl
    rotate_left
    · simp only [Act.put, List.setIfInBounds_toArray, List.set_cons_zero, List.set_cons_succ, i64_w, i32_w]
      rfl
    refine last_ (i := 18) (N := none) #[true, true, true, true, true, true, true, true, true, true, true, true, true, true, true, true, true, true, true, false, false] rfl rfl (one_of HT_.out (by kernel_rfl)) (by decide) (fun K hK => ?_)
    have hs0 : wE.cell? ⟨g, 2, none⟩ = some (.slice Aw D.wait.length cw) := (HO.out.cell 4 rfl 2).trans rfl
    have hf0 := HO.out.frozen 4 rfl 2
    refine skip_ (w1 := ?_) (by rfl) rfl ?_ ?_
    rotate_left
    · go_simp
      rfl
    refine hK.out _ _ ?_
    clear hK K
    have HO1 := Aside0.mk (HO.out.store 4 rfl 2 (.slice A2 n2 c2) (cs' := #[.int .i64 D.size, .map (some r2), .slice A2 n2 c2, .bool D.off, .int .i64 D.fuse, .slice Ak D.keep.length ck, .int .i64 D.cmds]) rfl)
    clear hs0 hf0 HO
    generalize wE.setCell ⟨g, 2, none⟩ (.slice A2 n2 c2) = wF at HO1 ⊢
    have HO := HO1
    clear HO1
    refine pure_ (i := 19) (N := some 26) (v := ?_) (a' := ?_) #[true, true, true, true, true, true, true, true, true, true, true, true, true, true, true, true, true, true, true, true, false] rfl rfl (any_of HT_.out (by kernel_rfl)) (fun _ _ _ h => h) (Or.inl ⟨by rfl, ?_⟩) ?_ ?_
    rotate_left
    · intro w'
      go_simp
      with_reducible rfl
    rotate_left
    · simp only [Act.put, List.setIfInBounds_toArray, List.set_cons_zero, List.set_cons_succ, i64_w, i32_w]
      rfl
    refine last_ (i := 20) (N := none) #[true, true, true, true, true, true, true, true, true, true, true, true, true, true, true, true, true, true, true, true, true] rfl rfl (one_of HT_.out (by kernel_rfl)) (by decide) (fun K hK => ?_)
    have hs0 : wF.cell? ⟨g, 5, none⟩ = some (.slice Ak D.keep.length ck) := (HO.out.cell 4 rfl 5).trans rfl
    have hf0 := HO.out.frozen 4 rfl 5
    refine skip_ (w1 := ?_) (by rfl) rfl ?_ ?_
    rotate_left
    · go_simp
      rfl
    refine hK.out _ _ ?_
    clear hK K
    have HO1 := Aside0.mk (HO.out.store 4 rfl 5 (.slice A3 n3 c3) (cs' := #[.int .i64 D.size, .map (some r2), .slice A2 n2 c2, .bool D.off, .int .i64 D.fuse, .slice A3 n3 c3, .int .i64 D.cmds]) rfl)
    clear hs0 hf0 HO
    generalize wF.setCell ⟨g, 5, none⟩ (.slice A3 n3 c3) = wG at HO1 ⊢
    have HO := HO1
    clear HO1
    refine done_ (done_of HT_.out (by kernel_rfl)) ?_
    go_wp2_with fail
    go_meet
    case rel => exact ⟨⟨r, _, _, es, clk, r2, _, _, es, clk, HM.out, HM.out, HO.out⟩⟩
  case rest =>
    go_wp2
    go_ret
    exact ⟨g, rfl, hcut.out⟩
set_option maxHeartbeats 2000000 in
set_option maxRecDepth 100000 in
theorem copy_nil : Calls Try.prog 15 #[.pointer none] W fun ex W' => ex = .returned (.pointer none) ∧ W' = W := by
  go_enter Try.func15, Try.ntmps15
  go_wp2
  go_ret
  exact ⟨rfl, rfl⟩
end Go.Proofs.Ytjnbeijnlplclaa.Ownd
