/- slices.Insert of one pair into a row of the call's own (int keys): at the end, in place, into a new row. Conditions: at most 1000000 pairs; the pair to be put in lies in a block of its own. -/
import Derived.Test.YtchpagboglomoaaUMA
import Derived.Test.YtchpagboglomoaaOCells
import Derived.Lib.Overlaps
import Derived.Laws.Externs
import Derived.Lib.AppendZerosOnto
import Derived.Laws.NewBlocks
namespace Go.Proofs.Ytchpagboglomoaa.GP.MU
open Go.RowKit Go.Proofs.Ytchpagboglomoaa.Ownd Go.Proofs.YtchpagboglomoaaW.PrintWords Go.Proofs.YtchpagboglomoaaW.PrintLast Go.Proofs.YtchpagboglomoaaW.PrintMore
set_option linter.unusedVariables false
set_option linter.unusedSimpArgs false
def cellsP (p : P2) : List Value := [.int .i64 p.1, .slice p.2.1 p.2.2.1 p.2.2.2]
def zP : Value := .agg #[.int .i64 (0 : Int), .slice none 0 0]
theorem infoP : (Try.prog.info? 102).map (fun i => (i.zero, i.size, i.bytes)) = some (some zP, 2, 32) := by kernel_rfl
theorem sizeP : (Try.prog.info? 102).map (·.size) = some 2 := by kernel_rfl
theorem oneP (p : P2) : ∀ u ∈ cellsP p, u.oneCell' = true := by
  intro u hu
  simp only [cellsP, List.mem_cons, List.not_mem_nil, or_false] at hu
  rcases hu with rfl | rfl <;> rfl
theorem one_inner {w : World} {xs : List P2} {inner : List Value} (h : Reps (fun x c => kP.K w x c) kP.sz xs inner) : ∀ u ∈ inner, u.oneCell' = true := by
  intro u hu
  obtain ⟨k, hk, rfl⟩ := List.getElem_of_mem hu
  have hlen : inner.length = xs.length * 2 := h.1
  have hj : k / 2 < xs.length := by omega
  have h1 : kP.K w xs[k / 2] ((inner.drop (k / 2 * 2)).take 2) := h.2 (k / 2) _ (List.getElem?_eq_getElem hj)
  have h2 := kP.K_one h1 inner[k]
  refine h2 ?_
  have h3 : ((inner.drop (k / 2 * 2)).take 2)[k - k / 2 * 2]? = some inner[k] := by
    rw [List.getElem?_take, if_pos (by omega), List.getElem?_drop, show k / 2 * 2 + (k - k / 2 * 2) = k by omega]
    exact List.getElem?_eq_getElem hk
  exact List.mem_of_getElem? h3
/-- A pair put in at i: the cells. -/
theorem reps_insert {w : World} {xs : List P2} {inner : List Value} (h : Reps (fun x c => kP.K w x c) kP.sz xs inner) (i : Nat) (hi : i ≤ xs.length) (p : P2) (w' : World) : Reps (fun x c => kP.K w' x c) kP.sz (xs.take i ++ p :: xs.drop i) (inner.take (i * 2) ++ (cellsP p ++ inner.drop (i * 2))) := by
  have h1 : Reps (fun x c => kP.K w x c) kP.sz [p] (cellsP p) := by
    refine ⟨rfl, fun j x hj => ?_⟩
    cases j with
    | zero =>
      obtain rfl : p = x := by simpa using hj
      exact kP_mk w p
    | succ j => simp at hj
  have h2 := Kd.reps_append (Kd.reps_take h hi) (Kd.reps_append h1 (Kd.reps_drop (m := i) h))
  rw [List.singleton_append] at h2
  exact h2.imp_ (fun x c hk => flatP w w' x c hk)
set_option maxHeartbeats 4000000 in
set_option maxRecDepth 100000 in
/-- There is room, and something behind: in place. -/
theorem insert_shift {W : World} {base g n c i vb : Nat} {xs : List P2} {ok : Nat → Prop} (hN : Kd.N kP 102 W base ok (.slice (some ⟨g, 0, none⟩) n c) xs) (hi : i < n) (hroom : n + 1 ≤ c) (hc63 : c ≤ 9223372036854775807) (p : P2)
    (hvb : W.heap[vb]? = some (.cells #[.int .i64 p.1, .slice p.2.1 p.2.2.1 p.2.2.2] 102 (0, 0))) (hne : vb ≠ g) :
    Calls Try.prog 44 #[.slice (some ⟨g, 0, none⟩) n c, .int .i64 (i : Nat), .slice (some ⟨vb, 0, none⟩) 1 1] W fun ex W' => ex = .returned (.slice (some ⟨g, 0, none⟩) (n + 1) c) ∧ Kd.N kP 102 W' base ok (.slice (some ⟨g, 0, none⟩) (n + 1) c) (xs.take i ++ p :: xs.drop i) ∧ W.grownBy W' (some g) := by
  have hxn := (Kd.N_reads' hN).1
  obtain ⟨inner, hown, hreps⟩ := N_own hN
  rw [← hxn] at hown
  have hlen : inner.length = n * 2 := by rw [hxn]; exact hreps.1
  have hone := one_inner hreps
  have hinn : ∀ k, k < n * 2 → W.cell? ⟨g, k, none⟩ = inner[k]? := fun k hk => hown.cellAt k hk
  have hrm : ∀ k, k < (n + 1) * 2 → (W.cell? ⟨g, k, none⟩).isSome = true ∧ W.frozen? ⟨g, k, none⟩ = false := fun k hk => N_room hN k (by show k < c * 2; omega)
  have hpc : ∀ j u, (cellsP p)[j]? = some u → W.cell? ⟨vb, j, none⟩ = some u := fun j u hu => by
    rw [blk_cell hvb j]
    match j, hu with
    | 0, hu => exact hu
    | 1, hu => exact hu
  have hov : ∀ lb cb, (callFunc 56 #[.slice (some ⟨vb, 0, none⟩) 1 1, .slice (some ⟨g, (i + 1) * 2, none⟩) lb cb]).run Try.prog W = .ok (.value (.bool false)) W := fun lb cb => by
    rw [run_callFunc_extern Try.func56 (by kernel_rfl) (by kernel_rfl) (by kernel_rfl) (e := Extern.SlicesOverlaps.overlaps #[25, 25] #[4]) (by kernel_rfl)]
    obtain ⟨cur, hg2, hs2⟩ := own_block hown
    replace hs2 : cur.size = c * 2 := hs2
    rw [Lib.run_overlaps_apart W 25 4 102 Try.underlying25 2 Try.sizeOf102 ⟨vb, 0, none⟩ ⟨g, (i + 1) * 2, none⟩ 1 1 lb cb hne 102 102 2 (c * 2) (by simp [World.shape?, hvb]) (by simp [World.shape?, hg2, hs2]) (by omega) (blk_frozen hvb 0) (blk_frozen hvb 2)]
    rfl
  have hdl : (inner.drop (i * 2)).length = (n - i) * 2 := by rw [List.length_drop, hlen]; omega
  have hcp1 : ∀ ty dc sc, (Builtin.copy_ #[25, 25] ty #[.slice (some ⟨g, (i + 1) * 2, none⟩) (n - i) dc, .slice (some ⟨g, i * 2, none⟩) (n + 1 - i) sc]).run Try.prog W.drew = .ok (goInt (n - i : Nat)) (W.drew.setCells g ((i + 1) * 2) (inner.drop (i * 2))) := fun ty dc sc =>
    run_copy_sz W.drew 25 25 ty 102 2 g ((i + 1) * 2) (n - i) dc ⟨g, i * 2, none⟩ (n + 1 - i) sc (n - i) (inner.drop (i * 2)) Try.underlying25 sizeP (Nat.min_eq_right (by omega)) hdl
      (fun j u hj => by
        rw [Addr.add_lit]
        rw [List.getElem?_drop] at hj
        have hk : i * 2 + j < n * 2 := by rw [← hlen]; exact (List.getElem?_eq_some_iff.1 hj).1
        exact (hinn (i * 2 + j) hk).trans hj)
      (fun j hj => hrm ((i + 1) * 2 + j) (by rw [hdl] at hj; omega)) (fun u hu => hone u (List.mem_of_mem_drop hu))
  obtain ⟨W1, hW1⟩ : ∃ W1, W1 = W.drew.setCells g ((i + 1) * 2) (inner.drop (i * 2)) := ⟨_, rfl⟩
  have hg1 : W.drew.grownBy W1 (some g) := by rw [hW1]; exact setCells_grown g _ _ _
  have hsz1 : ∀ k, k < (n + 1) * 2 → (W1.cell? ⟨g, k, none⟩).isSome = true ∧ W1.frozen? ⟨g, k, none⟩ = false := fun k hk => by
    obtain ⟨cur, hg2, hs2⟩ := own_block hown
    obtain ⟨cur', h2, h3, _⟩ := setCells_block g 102 (inner.drop (i * 2)) ((i + 1) * 2) W.drew cur hg2
    replace hs2 : cur.size = c * 2 := hs2
    rw [← hW1] at h2
    refine ⟨?_, blk_frozen h2 k⟩
    rw [blk_cell h2 k, Array.getElem?_eq_getElem (by omega)]
    rfl
  have hcp2 : ∀ ty dc, (Builtin.copy_ #[25, 25] ty #[.slice (some ⟨g, i * 2, none⟩) (n + 1 - i) dc, .slice (some ⟨vb, 0, none⟩) 1 1]).run Try.prog W1 = .ok (goInt (1 : Nat)) (W1.setCells g (i * 2) (cellsP p)) := fun ty dc =>
    run_copy_sz W1 25 25 ty 102 2 g (i * 2) (n + 1 - i) dc ⟨vb, 0, none⟩ 1 1 1 (cellsP p) Try.underlying25 sizeP (Nat.min_eq_left (by omega)) rfl
      (fun j u hj => by
        rw [Addr.add_lit, Nat.zero_add]
        have hlt := (blk_lt hvb)
        exact (World.cell?_of_block (hg1.block vb hlt (fun h => hne (Option.some.inj h)))).trans (hpc j u hj))
      (fun j hj => hsz1 (i * 2 + j) (by have : j < 2 := hj; omega)) (oneP p)
  have X1 := Aside0.mk hW1
  have X2 := Aside0.mk hown
  have X3 := Aside0.mk hreps
  have X4 := Aside0.mk hinn
  have X5 := Aside0.mk hlen
  have X6 := Aside0.mk hxn
  have X7 := Aside0.mk hN
  have X8 := Aside0.mk hdl
  rw [← hW1] at hcp1
  clear hW1 hown hreps hinn hlen hxn hN hone hrm hpc hg1 hsz1 hdl
  have hz2 : ¬ ((i : Int) = (n : Int)) := by omega
  have hz3 : ¬ (i = n) := by omega
  have hin : i ≤ n := by omega
  have hic : i ≤ c := by omega
  have hnc : n ≤ c := by omega
  have hzc : ¬ ((c : Int) < (n : Int) + 1) := by omega
  have hb2 : ¬ (c = i + 1) := by omega
  have hb4 : ¬ (c = i) := by omega
  have hin1 : i ≤ n + 1 := by omega
  have hw1 : IntKind.i64.wrap ((i : Int) + 1) = (i : Int) + 1 := by rw [IntKind.wrap_i64]; omega
  have hb1 : (0 : Int) ≤ (i : Int) + 1 := by omega
  have htn : ((i : Int) + 1).toNat = i + 1 := by omega
  have hb3 : (i : Int) ≤ (n : Int) + 1 := by omega
  go_enter Try.func44, Try.ntmps44
  go_wp2_with (simp only [hov])
  go_region_law (refine step_copy_eq rfl (.tmp 73) (.tmp 76) 25 25 rfl _ _ (by simp [Act.eval, Act.put]) (by simp [Act.eval, Act.put]) (hcp1 _ _ _) ?_)
  go_wp2_with (at_builtin; refine wpList_copy_eq rfl (.tmp 80) (.tmp 81) 25 25 rfl _ _ rfl rfl (hcp2 _ _) ?_)
  go_ret
  refine ⟨rfl, ?_, ?_⟩
  · have h9 := own_insert (w := W.drew) (pc := cellsP p) X2.out (Nat.le_of_lt hi) hroom rfl
    rw [← X1.out] at h9
    refine own_N flatP h9 ?_ (reps_insert X3.out i (by have := X6.out; omega) p _) (fun k hk => X7.out.1 k (by simpa [Value.ownBlock] using hk))
    have := X6.out
    simp only [List.length_append, List.length_cons, List.length_take, List.length_drop]
    omega
  · have h1 : W.drew.grownBy W1 (some g) := by rw [X1.out]; exact setCells_grown g _ _ _
    have h2 := setCells_grown g (cellsP p) (i * 2) W1
    exact ⟨h2.os.trans h1.os, h2.tape.trans h1.tape, h2.output.trans h1.output, Nat.le_trans h1.size h2.size, fun k hk hn => (h2.block k (Nat.lt_of_lt_of_le hk h1.size) hn).trans (h1.block k hk hn)⟩
theorem C_lit {W : World} {vb : Nat} {p : P2} (hvb : W.heap[vb]? = some (.cells #[.int .i64 p.1, .slice p.2.1 p.2.2.1 p.2.2.2] 102 (0, 0))) : Kd.C kP W (some ⟨vb, 0, none⟩) 1 [p] := by
  refine ⟨rfl, by decide, fun _ => ⟨_, rfl, fun j x hj => ?_⟩⟩
  cases j with
  | zero =>
    obtain rfl : p = x := by simpa using hj
    refine ⟨cellsP p, rfl, kP_mk W p, fun t u hu => ?_⟩
    rw [Nat.zero_mul, Nat.zero_add, Addr.add_lit, Nat.zero_add, blk_cell hvb t]
    match t, hu with
    | 0, hu => exact hu
    | 1, hu => exact hu
  | succ j => simp at hj
theorem F_lit {W : World} {vb : Nat} {p : P2} (hvb : W.heap[vb]? = some (.cells #[.int .i64 p.1, .slice p.2.1 p.2.2.1 p.2.2.2] 102 (0, 0))) : Kd.F kP W (fun k => k = vb) (some ⟨vb, 0, none⟩) 1 [p] := fun W' hW => C_lit ((hW vb rfl (blk_lt hvb)).trans hvb)
set_option maxHeartbeats 4000000 in
set_option maxRecDepth 100000 in
/-- At the end. -/
theorem insert_end {W : World} {base vb : Nat} {v : Value} {xs : List P2} {ok : Nat → Prop} (hN : Kd.N kP 102 W base ok v xs) (p : P2) (hvb : W.heap[vb]? = some (.cells #[.int .i64 p.1, .slice p.2.1 p.2.2.1 p.2.2.2] 102 (0, 0))) (hne : some vb ≠ v.ownBlock) (hl : xs.length ≤ 1000000) (hbase : base ≤ W.heap.size) :
    Calls Try.prog 44 #[v, .int .i64 (xs.length : Nat), .slice (some ⟨vb, 0, none⟩) 1 1] W fun ex W' => ∃ v', ex = .returned v' ∧ Kd.N kP 102 W' base (fun _ => True) v' (xs ++ [p]) ∧ W.grownBy W' v.ownBlock ∧ (v'.ownBlock = v.ownBlock ∨ ∃ b, v'.ownBlock = some b ∧ W.heap.size ≤ b) := by
  have HN := Aside0.mk (Kd.N_mono hN (fun _ _ => trivial) (ok' := fun _ => True))
  have HF := Aside0.mk (F_lit hvb)
  have HNE := Aside0.mk hne
  have HL := Aside0.mk hl
  obtain ⟨A, c, rfl, hlc, hC⟩ := Kd.N_reads hN
  have HC := Aside0.mk hC.2.1
  clear hN hne hvb hC
  generalize hn : xs.length = n at hlc HC
  have HNn := Aside0.mk hn
  have hz1 : ¬ ((1 : Int) = 0) := by decide
  clear hn
  have HN2 : Aside0 (Kd.N kP 102 W base (fun _ => True) (.slice A n c) xs) := ⟨by have := HN.out; rwa [HNn.out] at this⟩
  have HNE2 : Aside0 (some vb ≠ (Value.slice A n c).ownBlock) := ⟨by have := HNE.out; rwa [HNn.out] at this⟩
  clear HN HNE
  rcases A with _ | ⟨ab, ao, asp⟩
  · go_enter Try.func44, Try.ntmps44
    go_wp2_with (at_builtin; refine Kd.N_append_rows kP (w0 := W) base rfl (.tmp 23) (.tmp 24) 25 102 zP 32 rfl Try.underlying25 infoP rfl (by decide) (by decide) (.slice none n c) xs [p] (some ⟨vb, 0, none⟩) 1 1 (fun _ => True) (fun k => k = vb) rfl rfl HN2.out HF.out (fun k hk => ⟨trivial, by rw [hk]; exact HNE2.out⟩) (fun _ _ => trivial) (Below.refl _ _) hbase (by have := HL.out; omega) ?_; intro v1 w1 h1 hb1 hg1 hat1; have H1 := Aside0.mk h1; have H2 := Aside0.mk hg1; have H3 := Aside0.mk hat1; clear h1 hb1 hg1 hat1)
    all_goals (go_ret; exact ⟨v1, rfl, H1.out, by have := H2.out; simpa [Value.ownBlock] using this, by have := H3.out; simpa [Value.ownBlock] using this⟩)
  · go_enter Try.func44, Try.ntmps44
    go_wp2_with (at_builtin; refine Kd.N_append_rows kP (w0 := W) base rfl (.tmp 23) (.tmp 24) 25 102 zP 32 rfl Try.underlying25 infoP rfl (by decide) (by decide) (.slice (some ⟨ab, ao, asp⟩) n c) xs [p] (some ⟨vb, 0, none⟩) 1 1 (fun _ => True) (fun k => k = vb) rfl rfl HN2.out HF.out (fun k hk => ⟨trivial, by rw [hk]; exact HNE2.out⟩) (fun _ _ => trivial) (Below.refl _ _) hbase (by have := HL.out; omega) ?_; intro v1 w1 h1 hb1 hg1 hat1; have H1 := Aside0.mk h1; have H2 := Aside0.mk hg1; have H3 := Aside0.mk hat1; clear h1 hb1 hg1 hat1)
    all_goals (go_ret; exact ⟨v1, rfl, H1.out, by have := H2.out; simpa [Value.ownBlock] using this, by have := H3.out; simpa [Value.ownBlock] using this⟩)
set_option maxHeartbeats 4000000 in
set_option maxRecDepth 100000 in
/-- No room, and something behind: a new row. -/
theorem insert_grow {W : World} {base g n c i vb : Nat} {xs : List P2} {ok : Nat → Prop} (hN : Kd.N kP 102 W base ok (.slice (some ⟨g, 0, none⟩) n c) xs) (hi : i < n) (hroom : c < n + 1) (hn : n ≤ 1000000) (hbase : base ≤ W.heap.size) (p : P2)
    (hvb : W.heap[vb]? = some (.cells #[.int .i64 p.1, .slice p.2.1 p.2.2.1 p.2.2.2] 102 (0, 0))) (hne : vb ≠ g) :
    Calls Try.prog 44 #[.slice (some ⟨g, 0, none⟩) n c, .int .i64 (i : Nat), .slice (some ⟨vb, 0, none⟩) 1 1] W fun ex W' => ∃ v', ex = .returned v' ∧ Kd.N kP 102 W' base (fun _ => True) v' (xs.take i ++ p :: xs.drop i) ∧ W.grownBy W' (some g) ∧ v'.ownBlock = some W.heap.size := by
  have hxn := (Kd.N_reads' hN).1
  have hnc := (Kd.N_reads' hN).2.1
  obtain ⟨inner, hown, hreps⟩ := N_own hN
  rw [← hxn] at hown
  have hlen : inner.length = n * 2 := by rw [hxn]; exact hreps.1
  have hone := one_inner hreps
  have hinn : ∀ k, k < n * 2 → W.cell? ⟨g, k, none⟩ = inner[k]? := fun k hk => hown.cellAt k hk
  have hpc : ∀ j u, (cellsP p)[j]? = some u → W.cell? ⟨vb, j, none⟩ = some u := fun j u hu => by
    rw [blk_cell hvb j]
    match j, hu with
    | 0, hu => exact hu
    | 1, hu => exact hu
  have hbw : g < W.heap.size := by obtain ⟨cur, hg2, _⟩ := own_block hown; exact blk_lt hg2
  have hvw : vb < W.heap.size := blk_lt hvb
  obtain ⟨i0, hi0, hz0, hzs, hzb⟩ := info_parts infoP
  have hold : (Builtin.firstCells i0.size i (.slice (some ⟨g, 0, none⟩) i c)).run Try.prog W.drew = .ok (inner.take (i * 2)).toArray W.drew := by
    rw [hzs]
    exact run_firstCells_some W.drew 2 i ⟨g, 0, none⟩ i c (inner.take (i * 2)) (by rw [List.length_take]; omega) (fun j u hj => by
      rw [Addr.add_lit, Nat.zero_add]
      rw [List.getElem?_take] at hj
      split at hj
      · exact (hinn j (by omega)).trans hj
      · cases hj)
  have hik : i + (n + 1 - i) = n + 1 := by omega
  have hkk : (n : Int) + 1 - (i : Int) = ((n + 1 - i : Nat) : Int) := by omega
  obtain ⟨G, hG⟩ : ∃ G, G = grownCap W (n + 1) c 102 := ⟨_, rfl⟩
  obtain ⟨ROW, hROW⟩ : ∃ ROW : Array Value, ROW = (inner.take (i * 2)).toArray ++ Builtin.zeroCells zP.cells (n + 1 - i) ++ Builtin.zeroCells zP.cells (G - (n + 1)) := ⟨_, rfl⟩
  have hGn : n + 1 ≤ G := by rw [hG]; exact grownCap_ge W _ _ _
  have hGm : G ≤ maxLen := by rw [hG]; exact grownCap_le_maxLen W (n + 1) c 102 (by unfold maxLen; omega)
  have hRs : ROW.size = G * 2 := by
    rw [hROW]
    have hz2 : zP.cells.size = 2 := rfl
    simp only [Array.size_append, List.size_toArray, List.length_take, size_zeroCells, hz2]
    omega
  have hRl : ∀ k, k < i * 2 → ROW[k]? = inner[k]? := fun k hk => by
    rw [hROW, Array.append_assoc, Array.getElem?_append_left (by simp only [List.size_toArray, List.length_take]; omega), List.getElem?_toArray, List.getElem?_take, if_pos hk]
  have hrz : ∀ ty, (Builtin.append_ #[25, 3] ty #[.slice (some ⟨g, 0, none⟩) i c, .int .i64 ((n : Int) + 1 - (i : Int))]).run Try.prog W = .ok (.slice (some ⟨W.heap.size, 0, none⟩) (n + 1) G) (W.drew.alloc (.cells ROW 102)) := fun ty => by
    have h := Lib.run_append_grow_zeros W 25 3 ty 102 i0 _ .i64 .i64 Try.underlying25 Try.underlying3 hi0 hz0 (some ⟨g, 0, none⟩) i c (inner.take (i * 2)) hold (n + 1 - i) (by omega) (by omega) (by omega) (by omega) (by rw [hzb]; omega) (by rw [hzb, hik]; exact growslice_fits hroom (by omega))
    rw [hik] at h
    rw [hkk, hROW, hG]
    exact h
  obtain ⟨W1, hW1⟩ : ∃ W1, W1 = W.drew.alloc (.cells ROW 102) := ⟨_, rfl⟩
  rw [← hW1] at hrz
  have hb1 : W1.heap[W.heap.size]? = some (.cells ROW 102 (0, 0)) := by rw [hW1]; exact blk_new W.drew _
  have hold1 : ∀ k, k < W.heap.size → W1.heap[k]? = W.heap[k]? := fun k hk => by rw [hW1]; exact Below.heap_alloc W.drew _ k hk
  obtain ⟨W2, hW2⟩ : ∃ W2, W2 = W1.setCells W.heap.size (i * 2) (cellsP p) := ⟨_, rfl⟩
  obtain ⟨r2, hb2, hs2, hc2⟩ := setCells_block W.heap.size 102 (cellsP p) (i * 2) W1 ROW hb1
  rw [← hW2] at hb2
  have hcpA : ∀ ty dc, (Builtin.copy_ #[25, 25] ty #[.slice (some ⟨W.heap.size, i * 2, none⟩) (n + 1 - i) dc, .slice (some ⟨vb, 0, none⟩) 1 1]).run Try.prog W1 = .ok (goInt (1 : Nat)) W2 := fun ty dc => by
    rw [hW2]
    exact run_copy_sz W1 25 25 ty 102 2 W.heap.size (i * 2) (n + 1 - i) dc ⟨vb, 0, none⟩ 1 1 1 (cellsP p) Try.underlying25 sizeP (Nat.min_eq_left (by omega)) rfl
      (fun j u hj => by
        rw [Addr.add_lit, Nat.zero_add]
        exact (World.cell?_of_block (hold1 vb hvw)).trans (hpc j u hj))
      (fun j hj => ⟨by
        have : j < 2 := hj
        rw [blk_cell hb1, Array.getElem?_eq_getElem (by omega)]; rfl, blk_frozen hb1 _⟩) (oneP p)
  have hold2 : ∀ k, k < W.heap.size → W2.heap[k]? = W.heap[k]? := fun k hk => by
    have h := setCells_grown W.heap.size (cellsP p) (i * 2) W1
    rw [← hW2] at h
    have hsz : W1.heap.size = W.heap.size + 1 := by rw [hW1]; simp
    exact (h.block k (by omega) (by simp; omega)).trans (hold1 k hk)
  have hdl : (inner.drop (i * 2)).length = (n - i) * 2 := by rw [List.length_drop, hlen]; omega
  have hcpB : ∀ ty dc sc, (Builtin.copy_ #[25, 25] ty #[.slice (some ⟨W.heap.size, (i + 1) * 2, none⟩) (n - i) dc, .slice (some ⟨g, i * 2, none⟩) (n - i) sc]).run Try.prog W2.drew = .ok (goInt (n - i : Nat)) (W2.drew.setCells W.heap.size ((i + 1) * 2) (inner.drop (i * 2))) := fun ty dc sc =>
    run_copy_sz W2.drew 25 25 ty 102 2 W.heap.size ((i + 1) * 2) (n - i) dc ⟨g, i * 2, none⟩ (n - i) sc (n - i) (inner.drop (i * 2)) Try.underlying25 sizeP (Nat.min_self _) hdl
      (fun j u hj => by
        rw [Addr.add_lit]
        rw [List.getElem?_drop] at hj
        have hk : i * 2 + j < n * 2 := by rw [← hlen]; exact (List.getElem?_eq_some_iff.1 hj).1
        exact ((World.cell?_of_block (w := W) (w' := W2.drew) (a := ⟨g, i * 2 + j, none⟩) (hold2 g hbw)).trans (hinn (i * 2 + j) hk)).trans hj)
      (fun j hj => ⟨by
        rw [hdl] at hj
        have hb2' : W2.drew.heap[W.heap.size]? = some (.cells r2 102 (0, 0)) := hb2
        rw [blk_cell hb2', Array.getElem?_eq_getElem (by omega)]; rfl, blk_frozen (w := W2.drew) hb2 _⟩) (fun u hu => hone u (List.mem_of_mem_drop hu))
  have hz2 : ¬ ((i : Int) = (n : Int)) := by omega
  have hz3 : ¬ (i = n) := by omega
  have hin : i ≤ n := by omega
  have hic : i ≤ c := by omega
  have hzc : ((c : Int) < (n : Int) + 1) := by omega
  have hGi : ¬ (G = i) := by omega
  have hGi1 : ¬ (G = i + 1) := by omega
  have hci : ¬ (c = i) := by omega
  have hin1 : i ≤ n + 1 := by omega
  have hw1 : IntKind.i64.wrap ((i : Int) + 1) = (i : Int) + 1 := by rw [IntKind.wrap_i64]; omega
  have hp1 : (0 : Int) ≤ (i : Int) + 1 := by omega
  have htn : ((i : Int) + 1).toNat = i + 1 := by omega
  have hb3 : (i : Int) ≤ (n : Int) := by omega
  have X := Aside0.mk hN
  have X1 := Aside0.mk hW1
  have X2 := Aside0.mk hown
  have X3 := Aside0.mk hreps
  have X4 := Aside0.mk hb2
  have X5 := Aside0.mk hlen
  have X6 := Aside0.mk hxn
  have X7 := Aside0.mk hs2
  have X8 := Aside0.mk hdl
  have X9 := Aside0.mk hc2
  have Y1 := Aside0.mk hGm
  have Y2 := Aside0.mk hRs
  have Y3 := Aside0.mk hRl
  have Y4 := Aside0.mk hold2
  have Y5 := Aside0.mk hW2
  have Y6 := Aside0.mk hbw
  have Y7 := Aside0.mk hGn
  clear hN hW1 hown hreps hb2 hlen hxn hs2 hdl hc2 hGm hRs hRl hold2 hW2 hbw hvb hone hinn hpc hvw hi0 hz0 hzs hzb hold hROW hG hb1 hold1 hkk hik
  go_enter Try.func44, Try.ntmps44
  go_wp2_with (first
    | (at_builtin; refine Lib.wpList_append_run _ rfl _ _ _ _ rfl _ _ rfl rfl _ _ (hrz _) ?_)
    | (at_builtin; refine wpList_copy_eq rfl (.tmp 43) (.tmp 44) 25 25 rfl _ _ rfl rfl (hcpA _ _) ?_))
  go_region_law (refine step_copy_eq rfl (.tmp 50) (.tmp 53) 25 25 rfl _ _ (by simp [Act.eval, Act.put]) (by simp [Act.eval, Act.put]) (hcpB _ _ _) ?_)
  go_wp2
  go_ret
  refine ⟨.slice (some ⟨W.heap.size, 0, none⟩) (n + 1) G, rfl, ?_, ?_, rfl⟩
  · obtain ⟨r3, hb3', hs3, hc3⟩ := setCells_block W.heap.size 102 (inner.drop (i * 2)) ((i + 1) * 2) W2.drew r2 X4.out
    have hxl := X6.out
    have e5 := X5.out; have e7 := X7.out; have e8 := X8.out; have y2 := Y2.out; have y7 := Y7.out
    refine own_N (inner := inner.take (i * 2) ++ (cellsP p ++ inner.drop (i * 2))) (n := n + 1) flatP ⟨?_, .inr ⟨W.heap.size, G, r3, rfl, hbase, hb3', Y7.out, Y1.out, ?_, ?_⟩⟩ ?_ (reps_insert X3.out i (by omega) p _) (fun _ _ => trivial)
    · show _ = (n + 1) * 2
      simp only [List.length_append, List.length_take, List.length_drop, cellsP, List.length_cons, List.length_nil]
      omega
    · show r3.size = G * 2
      omega
    · show r3.toList.take ((n + 1) * 2) = _
      apply List.ext_getElem?
      intro k
      rw [List.getElem?_take, insert_cell inner (cellsP p) i k rfl (by omega)]
      by_cases hk : k < (n + 1) * 2
      · rw [if_pos hk, Array.getElem?_toList, hc3 k, e8]
        have h2 : (cellsP p).length = 2 := rfl
        by_cases k1 : k < i * 2
        · rw [if_neg (by omega), X9.out k, if_neg (by omega), if_pos k1, Y3.out k k1]
        · rw [if_neg k1]
          by_cases k2 : k < (i + 1) * 2
          · rw [if_neg (by omega), X9.out k, h2, if_pos (by omega), if_pos k2]
          · rw [if_pos (by omega), if_neg k2, List.getElem?_drop, show i * 2 + (k - (i + 1) * 2) = k - 2 by omega]
      · rw [if_neg hk, if_neg (by omega), if_neg (by omega), List.getElem?_eq_none (by omega)]
    · simp only [List.length_append, List.length_cons, List.length_take, List.length_drop]
      omega
  · have h1 := setCells_grown W.heap.size (inner.drop (i * 2)) ((i + 1) * 2) W2.drew
    have h2 := setCells_grown W.heap.size (cellsP p) (i * 2) W1
    rw [← Y5.out] at h2
    have e1 := X1.out
    have hsz : W1.heap.size = W.heap.size + 1 := by rw [e1]; simp
    have hsz2 : W.heap.size ≤ W2.heap.size := by have := h2.size; omega
    exact ⟨h1.os.trans (h2.os.trans (by rw [e1]; rfl)), h1.tape.trans (h2.tape.trans (by rw [e1]; rfl)), h1.output.trans (h2.output.trans (by rw [e1]; rfl)), Nat.le_trans hsz2 h1.size, fun k hk hn => (h1.block k (Nat.lt_of_lt_of_le hk hsz2) (by simp; omega)).trans (Y4.out k hk)⟩
end Go.Proofs.Ytchpagboglomoaa.GP.MU
