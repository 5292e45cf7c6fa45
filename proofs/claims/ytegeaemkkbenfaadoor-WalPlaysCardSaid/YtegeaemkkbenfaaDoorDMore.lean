/- device.New, (*Device).Blow, (*Device).Fuse, slices.Clone of numbers and of writes. Conditions: at most 1000000 writes wait, at most 1000000 keeps. -/
import Derived.Test.YtegeaemkkbenfaaDoorDSync
import Derived.Lib.SliceRun
namespace Go.Proofs.YtegeaemkkbenfaaDoor.Ownd
open Go.RowKit Go.Proofs.YtegeaemkkbenfaaDoorW.PrintWords Go.Proofs.YtegeaemkkbenfaaDoorW.PrintLast Go.Proofs.YtegeaemkkbenfaaDoorW.PrintMore
set_option linter.unusedVariables false
set_option linter.unusedSimpArgs false
variable {w W : World} {post : List Thing} {d : Nat} {D : Dev}
theorem flatW (W W' : World) (x : PW) (c : List Value) (h : kW.K W x c) : kW.K W' x c := by rw [kW_is h]; exact kW_mk W' x
theorem flatI (W W' : World) (x : Int) (c : List Value) (h : (Kd.int .i64).K W x c) : (Kd.int .i64).K W' x c := h
theorem infoI : (Tryd.prog.info? 3).map (fun i => (i.zero, i.size, i.bytes)) = some (some (.int .i64 0), 1, 8) := by kernel_rfl
set_option maxHeartbeats 2000000 in
set_option maxRecDepth 100000 in
/-- A row of numbers is copied: what is read, into a new row. -/
theorem cloneI_N {A : Option Addr} {n c : Nat} {xs : List Int} (hC : Kd.C (Kd.int .i64) W A n xs) (hl : n * 8 ≤ 140737488355328) (hnil : A = none → n = 0) :
    Calls Tryd.prog 42 #[.slice A n c] W fun ex W' => ∃ v', ex = .returned v' ∧ Kd.N (Kd.int .i64) 3 W' W.heap.size (fun k => W.heap.size ≤ k) v' xs ∧ Below W.heap.size W W' := by
  have q22 : ∀ (w : World) (a : Option Addr) (n c n' c' : Nat), (binOp .eql 44 (.slice a n c) (.slice none n' c')).run Tryd.prog w = .ok (.bool a.isNone) w := fun w a n c n' c' => Lib.run_eql_slice_nil w _ _ a n c n' c' Tryd.underlying44
  have HC := Aside0.mk hC
  have HL := Aside0.mk hl
  clear hC hl
  rcases A with _ | A
  · have hn := hnil rfl
    subst hn
    have hxs : xs = [] := List.eq_nil_of_length_eq_zero HC.out.1
    subst hxs
    go_enter Tryd.func42, Tryd.ntmps42
    go_wp2
    go_ret
    exact ⟨_, rfl, Kd.N_nil _ _ _ _ _, Below.refl _ _⟩
  · clear hnil
    go_enter Tryd.func42, Tryd.ntmps42
    have HR := Aside0.mk (Kd.F_alloc (Kd.C_F (Kd.heap_int _) HC.out) (.cells #[] 3))
    go_wp2_with (at_builtin; refine Kd.N_append_rows (Kd.int .i64) (w0 := W) W.heap.size rfl (.tmp 5) (.tmp 6) 44 3 (.int .i64 0) 8 rfl Tryd.underlying44 infoI rfl (by decide) (by decide) (.slice (some ⟨W.heap.size, 0, none⟩) 0 0) [] xs (some A) n c (fun k => W.heap.size ≤ k ∨ k < W.heap.size) (fun k => k < W.heap.size) rfl rfl (N_empty (Kd.int .i64) 3 W (fun k => W.heap.size ≤ k ∨ k < W.heap.size) (Or.inl (Nat.le_refl _))) HR.out (fun k hk => ⟨Or.inr hk, fun he => by simp [Value.ownBlock] at he; omega⟩) (fun k hk => Or.inl (by simp at hk; omega)) (below_alloc (Below.refl _ _) _) (by simp) (by have := HL.out; simpa using this) ?_; intro v1 w1 hN1 hb1 hg1 hat1; have HN1 := Aside0.mk hN1; have HB1 := Aside0.mk hb1; clear hN1 hb1 hg1 hat1)
    go_ret
    exact ⟨v1, rfl, N_flat flatI HN1.out (fun k hk => Kd.N_base HN1.out k hk), HB1.out⟩
/-- What is read as a row of numbers lies beside every map. -/
theorem KA.reads {A : Option Addr} {n r : Nat} {xs : List Int} {es : Array MapEntry} {clk : Nat} (hb : W.heap[r]? = some (.map es clk)) (hC : Kd.C (Kd.int .i64) W A n xs) : KA W A xs r := by
  refine ⟨hC.1 ▸ hC.2.1, fun k hk => ?_⟩
  obtain ⟨ad, c, e, _, hK, hc0⟩ := Kd.C_get hC xs[k] (k : Int) (by omega) (by have := hC.1; omega)
  rw [Int.toNat_natCast] at hK hc0
  rw [List.getD_eq_getElem?_getD, List.getElem?_eq_getElem hk, Option.getD_some] at hK
  have hK' : c = [.int .i64 xs[k]] := hK
  have h2 := hc0 0 (.int .i64 xs[k]) (by rw [hK']; rfl)
  rw [show k * (Kd.int .i64).sz + 0 = k from Nat.mul_one k] at h2
  refine ⟨ad, e, h2, fun he => ?_, World.block_lt_of_cell? W _ h2⟩
  rw [World.cell?, he, hb] at h2
  cases h2
theorem C_lit (W : World) (t : TypeId) (xs : List Int) (hl : xs.length ≤ 9223372036854775807) : Kd.C (Kd.int .i64) (W.alloc (.cells (xs.map (fun x => Value.int .i64 x)).toArray t)) (some ⟨W.heap.size, 0, none⟩) xs.length xs := by
  refine ⟨rfl, hl, fun hp => ⟨⟨W.heap.size, 0, none⟩, rfl, fun j p hj => ⟨[.int .i64 p], rfl, rfl, fun i u hu => ?_⟩⟩⟩
  have hi : i = 0 := by
    have := (List.getElem?_eq_some_iff.1 hu).1
    simpa using this
  subst hi
  have hu' : .int .i64 p = u := by simpa using hu
  subst hu'
  rw [show j * (Kd.int .i64).sz + 0 = j from Nat.mul_one j, add_row, blk_cell (blk_new W _) j]
  simp [hj]
def Dev.blow (D : Dev) (keep : List Int) : Dev := if D.off = true then D else D.fail keep
set_option maxHeartbeats 2000000 in
set_option maxRecDepth 100000 in
theorem blow_D (h : HasD w W post d D) (hl : D.wait.length ≤ 1000000) (A : Option Addr) (c : Nat) (keep : List Int) (hK : Kd.C (Kd.int .i64) W A keep.length keep) :
    Calls Tryd.prog 17 #[.pointer (some ⟨d, 0, none⟩), .slice A keep.length c] W fun ex W' => ex = .returned (.tuple #[]) ∧ HasD w W' post d (D.blow keep) := by
  have HF := Aside0.mk (off_D h)
  have HD := Aside0.mk h
  obtain ⟨r, vw, vk, es, clk, hm, hO⟩ := h
  have HB := Aside0.mk (fail_O hO hm hl A c keep (KA.reads (hO.box 1 rfl) hK))
  clear hO hm hK
  unfold Dev.blow
  cases hoff : D.off with
  | true =>
    rw [hoff] at HF
    rw [if_pos rfl]
    go_enter Tryd.func17, Tryd.ntmps17
    go_wp2_with (go_at_call 24; refine HF.out.mono ?_; rintro e w1 ⟨rfl, hw⟩; rw [hw])
    go_end0
    exact ⟨rfl, HD.out⟩
  | false =>
    rw [hoff] at HF
    rw [if_neg (by simp)]
    go_enter Tryd.func17, Tryd.ntmps17
    go_wp2_with (first | (go_at_call 24; refine HF.out.mono ?_; rintro e w1 ⟨rfl, hw⟩; rw [hw]) | (go_at_call 41; refine HB.out.mono ?_; rintro e w1 ⟨rfl, h5⟩; have H5 := Aside0.mk h5; clear h5))
    go_end0
    exact ⟨rfl, H5.out⟩
set_option maxHeartbeats 2000000 in
set_option maxRecDepth 100000 in
theorem blow_nil (v : Value) : Calls Tryd.prog 17 #[.pointer none, v] W fun ex W' => ex = .returned (.tuple #[]) ∧ W' = W := by
  have HF := Aside0.mk (off_nil (W := W))
  go_enter Tryd.func17, Tryd.ntmps17
  go_wp2_with (go_at_call 24; refine HF.out.mono ?_; rintro e w1 ⟨rfl, hw⟩; rw [hw])
  go_end0
  exact ⟨rfl, rfl⟩
def Dev.setFuse (D : Dev) (n : Int) (keep : List Int) : Dev := if D.off = true then D else { D with fuse := if 1 < n then n else 1, keep := keep }
theorem max1 (n : Int) (ts : Array TypeId) (t : TypeId) (W : World) : (Builtin.max_ ts t #[.int .i64 n, .int .i64 1]).run Tryd.prog W = .ok (.int .i64 (if 1 < n then n else 1)) W := by
  have : (if n < 1 then (1 : Int) else n) = (if 1 < n then n else 1) := by split <;> split <;> omega
  simp [Builtin.max_, Builtin.max2, this]
set_option maxHeartbeats 4000000 in
set_option maxRecDepth 100000 in
theorem fuse_D (h : HasD w W post d D) (n : Int) (A : Option Addr) (c : Nat) (keep : List Int) (hK : Kd.C (Kd.int .i64) W A keep.length keep) (hk : keep.length ≤ 1000000) (hnil : A = none → keep.length = 0) :
    Calls Tryd.prog 21 #[.pointer (some ⟨d, 0, none⟩), .int .i64 n, .slice A keep.length c] W fun ex W' => ex = .returned (.tuple #[]) ∧ HasD w W' post d (D.setFuse n keep) := by
  have HD := Aside0.mk h
  obtain ⟨r, vw, vk, es, clk, hm, hO⟩ := h
  obtain ⟨Ak, ck, rfl, -, -⟩ := hO.reads 3 rfl
  have HC := Aside0.mk (cloneI_N (c := c) hK (by omega) hnil)
  have c3 : W.cell? ⟨d, 3, none⟩ = some (.bool D.off) := hO.cell 0 rfl 3
  have HO := Aside0.mk hO
  have HM := Aside0.mk hm
  clear hO hm hK
  unfold Dev.setFuse
  cases hoff : D.off with
  | true =>
    rw [hoff] at c3
    rw [if_pos rfl]
    go_enter Tryd.func21, Tryd.ntmps21
    go_wp2
    go_end0
    exact ⟨rfl, HD.out⟩
  | false =>
    rw [hoff] at c3
    rw [if_neg (by simp)]
    have hmx := max1 n
    generalize (if 1 < n then n else 1) = mx at hmx ⊢
    go_enter Tryd.func21, Tryd.ntmps21
    go_wp2_with (go_at_call 42; refine HC.out.mono ?_; rintro e w1 ⟨v1, rfl, hN, hb⟩; have HO1 := Aside0.mk ((HO.out.drop 3).row_new 3 rfl hb hN (fun k hk => hk)); clear hN hb; obtain ⟨A1, n1, c1, rfl⟩ := HO1.out.isSlice 3 rfl; have c4 : w1.cell? ⟨d, 4, none⟩ = some (.int .i64 D.fuse) := HO1.out.cell 0 rfl 4; have c5 : w1.cell? ⟨d, 5, none⟩ = some (.slice Ak D.keep.length ck) := HO1.out.cell 0 rfl 5; have f4 : w1.frozen? ⟨d, 4, none⟩ = false := HO1.out.frozen 0 rfl 4; have f5 : w1.frozen? ⟨d, 5, none⟩ = false := HO1.out.frozen 0 rfl 5)
    have h2 := HO1.out.store 0 rfl 4 (.int .i64 mx) (cs' := #[.int .i64 D.size, .map (some r), vw, .bool D.off, .int .i64 mx, .slice Ak D.keep.length ck, .int .i64 D.cmds]) rfl
    have h3 := h2.store 0 rfl 5 (.slice A1 n1 c1) (cs' := #[.int .i64 D.size, .map (some r), vw, .bool D.off, .int .i64 mx, .slice A1 n1 c1, .int .i64 D.cmds]) rfl
    rw [hoff] at h3
    go_end0
    exact ⟨rfl, r, vw, .slice A1 n1 c1, es, clk, HM.out, h3⟩
set_option maxHeartbeats 2000000 in
set_option maxRecDepth 100000 in
theorem fuse_nil (n : Int) (v : Value) : Calls Tryd.prog 21 #[.pointer none, .int .i64 n, v] W fun ex W' => ex = .returned (.tuple #[]) ∧ W' = W := by
  go_enter Tryd.func21, Tryd.ntmps21
  go_wp2
  go_end0
  exact ⟨rfl, rfl⟩
def Dev.new (n : Nat) : Dev := ⟨n, fun _ => none, [], false, 0, [], 0⟩
theorem mapNew (w : World) (o : Obj) : (w.alloc (.map #[] 0)).heap[w.heap.size]? = some (.map #[] 0) := blk_new w _
set_option maxHeartbeats 2000000 in
set_option maxRecDepth 100000 in
theorem new_O {l : List Thing} (h : Own w W l) (n : Nat) (h1 : 1 ≤ n) (h2 : n ≤ 4096) :
    Calls Tryd.prog 9 #[.int .i64 n] W fun ex W' => ∃ d, ex = .returned (.tuple #[.pointer (some ⟨d, 0, none⟩), .int .i64 0]) ∧ HasD w W' l d (Dev.new n) := by
  have hmm := @run_makeMap Tryd.prog
  have i1 : ¬ ((n : Int) < 1) := by omega
  have i2 : ¬ ((4096 : Int) < (n : Int)) := by omega
  have h0 : Own w W ([.gone, .gone, .gone, .gone] ++ l) := (Own.room (a := []) (Own.room (a := []) (Own.room (a := []) (Own.room (a := []) (c := l) h))))
  have HO := Aside0.mk ((((h0.alloc 1 rfl (.map #[] 0)).alloc 0 rfl (.cells #[.int .i64 n, .map (some W.heap.size), .slice none 0 0, .bool false, .int .i64 0, .slice none 0 0, .int .i64 0] 59)).nil 2 kW 94).nil 3 (Kd.int .i64) 3)
  rw [show (W.alloc (.map #[] 0)).heap.size = W.heap.size + 1 by simp] at HO
  replace HO := Aside0.mk (show Own w ((W.alloc (.map #[] 0)).alloc (.cells #[.int .i64 n, .map (some W.heap.size), .slice none 0 0, .bool false, .int .i64 0, .slice none 0 0, .int .i64 0] 59)) (DV (W.heap.size + 1) W.heap.size (.slice none 0 0) (.slice none 0 0) #[] 0 (Dev.new n) ++ l) from HO.out)
  clear h0 h
  go_enter Tryd.func9, Tryd.ntmps9
  go_wp2
  go_ret2
  exact ⟨_, rfl, _, _, _, _, _, MapIs.nil, HO.out⟩
set_option maxHeartbeats 2000000 in
set_option maxRecDepth 100000 in
theorem new_bad (n : Int) (h : n < 1 ∨ 4096 < n) :
    Calls Tryd.prog 9 #[.int .i64 n] W fun ex W' => ex = .returned (.tuple #[.pointer none, .int .i64 1]) ∧ W' = W := by
  by_cases i1 : n < 1
  · go_enter Tryd.func9, Tryd.ntmps9
    go_wp2
    go_ret2
    exact ⟨rfl, rfl⟩
  · have i2 : 4096 < n := h.resolve_left i1
    go_enter Tryd.func9, Tryd.ntmps9
    go_wp2
    go_ret2
    exact ⟨rfl, rfl⟩
end Go.Proofs.YtegeaemkkbenfaaDoor.Ownd
