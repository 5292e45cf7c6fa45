/- law22.UndoJoined: its walk. No condition. -/
import Derived.Test.YtchpagboglomoaaUPlays
import Derived.Test.YtchpagboglomoaaURefC
namespace Go.Proofs.Ytchpagboglomoaa.Ownd
open Go.RowKit Go.Proofs.Ytchpagboglomoaa.GP.MU Go.Proofs.Ytchpagboglomoaa.GP Go.Proofs.YtchpagboglomoaaW.PrintWords Go.Proofs.YtchpagboglomoaaW.PrintLast Go.Proofs.YtchpagboglomoaaW.PrintMore
set_option linter.unusedVariables false
set_option linter.unusedSimpArgs false
theorem repGo_cons (r : Rc) (t : List Rc) (M : Opn) : repGo (r :: t) M = if (repR M r).2 = 0 then repGo t (repR M r).1 else ([], (repR M r).2) := rfl
theorem repGo_cut : ∀ (a b : List Rc) (M0 M1 : Opn), repGo (a ++ b) M0 = (M1, 0) → ∃ Ma, repGo a M0 = (Ma, 0) ∧ repGo b Ma = (M1, 0)
  | [], b, M0, M1, h => ⟨M0, rfl, h⟩
  | r :: t, b, M0, M1, h => by
    rw [List.cons_append, repGo_cons] at h
    rw [repGo_cons]
    split at h
    · rename_i h0
      rw [if_pos h0]
      exact repGo_cut t b _ _ h
    · rename_i h0
      exact absurd (Prod.mk.inj h).2 h0
theorem repGo_join : ∀ (a b : List Rc) (M0 M1 : Opn), repGo a M0 = (M1, 0) → repGo (a ++ b) M0 = repGo b M1
  | [], b, M0, M1, h => by
    have h : (M0, (0 : Int)) = (M1, 0) := h
    rw [(Prod.mk.inj h).1]
    rfl
  | r :: t, b, M0, M1, h => by
    rw [List.cons_append, repGo_cons]
    rw [repGo_cons] at h
    split at h
    · rename_i h0
      rw [if_pos h0]
      exact repGo_join t b _ _ h
    · rename_i h0
      exact absurd (Prod.mk.inj h).2 h0
theorem repGo_one {M : Opn} {r : Rc} (h : (repR M r).2 = 0) : repGo [r] M = ((repR M r).1, 0) := by
  unfold repGo
  rw [if_pos h]
  rfl
theorem getE_ok {s : ByteArray} (h : (getE s).2 = 0) : okE (getE s).1 = true := by
  unfold getE at h ⊢
  split
  · rename_i h1
    rw [if_pos h1] at h
    cases h
  · rename_i h1
    rw [if_neg h1] at h
    split
    · rename_i h2
      exact h2
    · rename_i h2
      rw [if_neg h2] at h
      cases h
theorem good_pops {n : Nat} : ∀ (c : Nat) (M : Opn) (k : Int), GoodM n M → GoodM n (popsM c M k).1
  | 0, M, k, h => h
  | c + 1, M, k, h => by
    unfold popsM
    split
    · exact h
    · exact good_pops c _ k (good_pop h k)
theorem good_repAdd {n : Nat} {M : Opn} (h : GoodM n M) (r : Rc) (hr : 0 < r.1 ∧ r.1 < 281474976710656) : GoodM (n + 1) (repAdd M r).1 := by
  unfold repAdd
  split
  · exact h.mono (Nat.le_succ n)
  · split
    · exact h.mono (Nat.le_succ n)
    · rename_i h2
      have h3 : (getE r.2.2.1).2 = 0 := by simpa using h2
      exact good_add h hr (getE_ok h3)
theorem good_repR {n : Nat} {M : Opn} (h : GoodM n M) (r : Rc) (hr : 0 < r.1 ∧ r.1 < 281474976710656) : GoodM (n + 1) (repR M r).1 := by
  unfold repR
  split
  · exact (good_del h _).mono (Nat.le_succ n)
  · split
    · exact h.mono (Nat.le_succ n)
    · split
      · exact good_repAdd h r hr
      · exact good_pops _ _ _ (good_repAdd h r hr)
theorem good_repGo : ∀ (l : List Rc) (n : Nat) (M : Opn), GoodM n M → (∀ r ∈ l, 0 < r.1 ∧ r.1 < 281474976710656) → GoodM (n + l.length) (repGo l M).1
  | [], n, M, h, _ => h
  | r :: t, n, M, h, hr => by
    rw [repGo_cons]
    split
    · have h1 := good_repGo t (n + 1) _ (good_repR h r (hr r (List.mem_cons_self ..))) (fun q hq => hr q (List.mem_cons_of_mem _ hq))
      rw [List.length_cons, show n + (t.length + 1) = n + 1 + t.length by omega]
      exact h1
    · exact good_nil _
/-! The records that an act leaves. -/
theorem rep_end (M : Opn) (k : Int) : repR M (k, 2, ⟨#[]⟩, 0) = (delM M k, 0) := by unfold repR; rw [if_pos (.inl rfl)]
theorem rep_pop {M : Opn} {k : Int} (h : (ent M k).isEmpty = false) : repR M (k, 1, ⟨#[]⟩, 1) = (popM M k, 0) := by
  have hA : repAdd M (k, 1, ⟨#[]⟩, 1) = (M, 0) := if_pos rfl
  unfold repR
  rw [if_neg (by simp), if_neg (by simp), hA, if_neg (by simp)]
  show popsM 1 M k = _
  unfold popsM
  rw [if_neg (by rw [h]; decide)]
  rfl
theorem rep_add {M : Opn} {k : Int} {x : UE} (h : okE x = true) : repR M (k, 1, putE x, 0) = (addM M k x, 0) := by
  have hg := get_putE h
  have hs : ¬ (putE x).size = 0 := by
    intro h0
    unfold getE at hg
    rw [if_pos (by omega)] at hg
    cases hg
  have hA : repAdd M (k, 1, putE x, 0) = (addM M k x, 0) := by
    unfold repAdd
    rw [if_neg hs, hg, if_neg (by simp)]
  unfold repR
  rw [if_neg (by simp), if_neg (by simp), hA, if_neg (by simp)]
  rfl
/-! What holds all along, of the log and of all that is open. -/
def r0 : Rc := (0, 4, ⟨#[]⟩, 0)
def JF (k : Nat) (M : Opn) (rs : List Rc) : Prop := GoodM k M ∧ ∃ ts, rs = r0 :: ts ∧ repGo ts [] = (M, 0) ∧ ts.length ≤ k ∧ ∀ r ∈ ts, (0 < r.1 ∧ r.1 < 281474976710656) ∧ r.2.2.2 ≤ 1000
theorem JF.start : JF 0 [] [r0] := ⟨good_nil 0, [], rfl, rfl, Nat.le_refl _, fun r h => by cases h⟩
theorem JF.keep {k : Nat} {M : Opn} {rs : List Rc} (h : JF k M rs) : JF (k + 1) M rs := by
  obtain ⟨hG, ts, e, hg, hl, ha⟩ := h
  exact ⟨hG.mono (Nat.le_succ k), ts, e, hg, Nat.le_succ_of_le hl, ha⟩
theorem JF.step {k : Nat} {M M' : Opn} {rs : List Rc} (h : JF k M rs) (r : Rc) (hr : 0 < r.1 ∧ r.1 < 281474976710656) (hu : r.2.2.2 ≤ 1000) (he : repR M r = (M', 0)) : JF (k + 1) M' (rs ++ [r]) := by
  obtain ⟨hG, ts, rfl, hg, hl, ha⟩ := h
  refine ⟨by have := good_repR hG r hr; rw [he] at this; exact this, ts ++ [r], rfl, ?_, ?_, fun q hq => ?_⟩
  · rw [repGo_join ts [r] [] M hg, repGo_one (by rw [he]), he]
  · rw [List.length_append]; exact Nat.succ_le_succ hl
  · rcases List.mem_append.mp hq with hq | hq
    · exact ha q hq
    · rw [List.mem_singleton.mp hq]; exact ⟨hr, hu⟩
theorem JF.len {k : Nat} {M : Opn} {rs : List Rc} (h : JF k M rs) : 0 < rs.length ∧ rs.length ≤ k + 1 := by
  obtain ⟨hG, ts, rfl, hg, hl, ha⟩ := h
  exact ⟨Nat.succ_pos _, Nat.succ_le_succ hl⟩
theorem JF.undone {k : Nat} {M : Opn} {rs : List Rc} (h : JF k M rs) : ∀ r ∈ rs, r.2.2.2 ≤ 1000 := by
  obtain ⟨hG, ts, rfl, hg, hl, ha⟩ := h
  intro r hr
  rcases List.mem_cons.mp hr with rfl | hr
  · decide
  · exact (ha r hr).2
theorem rep_state {B : Opn} (hr : RiseM B) (hf : fitM B) (ts : List Rc) : replayS ((0, 4, stateM B, 0) :: ts) = repGo ts B := by
  show (if (4 : Int) ≠ 4 then (([], 1) : Opn × Int) else if (loadS (stateM B)).2 ≠ 0 then ([], (loadS (stateM B)).2) else repGo ts (loadS (stateM B)).1) = _
  rw [if_neg (by decide), load_state hr hf, if_neg (by simp)]
theorem rep_r0 (ts : List Rc) : replayS (r0 :: ts) = repGo ts [] := rep_state (B := []) List.Pairwise.nil ⟨Nat.zero_le _, fun m hm => by cases hm⟩ ts
/-- The log whole; its beginning; its end behind the state of the beginning. -/
theorem JF.all {k : Nat} {M : Opn} {rs : List Rc} (h : JF k M rs) : replayS rs = (M, 0) := by
  obtain ⟨hG, ts, rfl, hg, hl, ha⟩ := h
  rw [rep_r0, hg]
theorem JF.cut {k : Nat} {M : Opn} {rs : List Rc} (h : JF k M rs) (q : Nat) : ∃ Mb, replayS (rs.take (q + 1)) = (Mb, 0) ∧ GoodM k Mb ∧ repGo (rs.drop (q + 1)) Mb = (M, 0) := by
  obtain ⟨hG, ts, rfl, hg, hl, ha⟩ := h
  have h2 := hg
  rw [← List.take_append_drop q ts] at h2
  obtain ⟨Mb, h3, h4⟩ := repGo_cut _ _ _ _ h2
  refine ⟨Mb, ?_, ?_, h4⟩
  · rw [List.take_succ_cons, rep_r0, h3]
  · have h5 := good_repGo (ts.take q) 0 [] (good_nil 0) (fun r hr => (ha r (List.mem_of_mem_take hr)).1)
    rw [h3] at h5
    exact h5.mono (by rw [List.length_take]; omega)
theorem and3u (n : Int) : bits .and .i64 n 3 = n % 4 := and_pow n 2 (by decide) 3 (by decide)
def zR : Value := .agg #[.int .i64 0, .int .i64 0, .int .i64 0, .string ⟨#[]⟩, .int .i64 0, .slice none 0 0]
theorem infoR : (Try.prog.info? 66).map (fun i => (i.zero, i.size, i.bytes)) = some (some zR, 6, 72) := by kernel_rfl
/-- Where the log is cut. -/
theorem cut_at (a : Int) (N : Nat) (h : 0 < N) (hN : N ≤ 1000) : ∃ q : Nat, q < N ∧ Int.tmod (wrap64 (Int.tmod a N + N)) N = q := by
  have h0 : (0 : Int) < N := by omega
  have h1 : -(N : Int) < Int.tmod a N := by have := Int.tmod_lt_of_pos (-a) h0; rw [Int.neg_tmod] at this; omega
  have h2 : Int.tmod a N < N := Int.tmod_lt_of_pos a h0
  have h3 : wrap64 (Int.tmod a N + N) = Int.tmod a N + N := by unfold wrap64; omega
  rw [h3, Int.tmod_eq_emod_of_nonneg (by omega)]
  have h4 := Int.emod_nonneg (Int.tmod a N + N) (show (N : Int) ≠ 0 by omega)
  have h5 := Int.emod_lt_of_pos (Int.tmod a N + N) h0
  exact ⟨(((Int.tmod a N + N) % N)).toNat, by omega, by omega⟩
def jo_T : Bool × List (List Nat × List Nat) := (true, [([], []), ([0], [0]), ([1], [1]), ([2], [2]), ([], []), ([], []), ([5], [5]), ([4, 6], [4, 6]), ([3, 7, 1], [3, 7]), ([8, 8], [8]), ([9], [9]), ([10], [10]), ([10], [10]), ([11, 9, 0, 1, 2, 3, 4, 5, 6, 7, 8, 9, 10, 11], [11]), ([12, 13, 0, 1, 2, 3, 4, 5, 6, 7, 8, 9, 10, 11, 12, 13], [12])])
def jo_B : List Nat := [0, 1, 3, 7, 0, 0, 32, 112, 255, 511, 1023, 2047, 2047, 4095, 16383]
theorem jo_tab : rtab .any (opsOf Try.f6 26) = jo_T := by kernel_rfl
theorem jo_bits : waitsOk jo_T.2 jo_B = true := by kernel_rfl
theorem kcase2 (K : Int) : K = 4 ∨ K = 5 ∨ K = 6 ∨ ((K == 4) = false ∧ (K == 5) = false ∧ (K == 6) = false) := by
  by_cases h4 : K = 4
  · exact .inl h4
  · by_cases h5 : K = 5
    · exact .inr (.inl h5)
    · by_cases h6 : K = 6
      · exact .inr (.inr (.inl h6))
      · exact .inr (.inr (.inr ⟨by simp [h4], by simp [h5], by simp [h6]⟩))
theorem entries_P {w W : World} {rest : List Thing} {g : Nat} {M : Opn} (h : OpenOwn w W g M rest) (hl : M.length ≤ 100000) (k : Int) (he : (ent M k).length ≤ 1000000) (n : Nat) (hn : (ent M k).length = n) :
    Calls Try.prog 26 #[.pointer (some ⟨g, 0, none⟩), .int .i64 k] W fun ex W' => ∃ A c, ex = .returned (.slice A n c) ∧ OpenOwn w W' g M rest := by
  obtain ⟨v, xs, F, hO, hi⟩ := h
  subst hn
  refine (entries_I hO (i := 0) (j := 1) (f := 2) ⟨rfl, rfl, by decide⟩ rfl hi hl k he).mono ?_
  rintro e w1 ⟨A, c, rfl, hO1⟩
  exact ⟨A, c, rfl, v, xs, F, hO1.tail, hi⟩
theorem Replay_ok {w W : World} {l : List Thing} (h : Own w W l) {A : Option Addr} {c : Nat} {rs : List Rc} (hR : RecsIn w l A rs) (hne : 0 < rs.length) (hl : rs.length ≤ 10000) (hun : ∀ r ∈ rs, r.2.2.2 ≤ 1000) {R : Opn} (hr : replayS rs = (R, 0)) (N : Nat) (hN : rs.length = N) (hc : N ≤ c) :
    Calls Try.prog 25 #[.slice A N c] W fun ex W' => ∃ g, ex = .returned (.tuple #[.pointer (some ⟨g, 0, none⟩), .int .i64 0]) ∧ OpenOwn w W' g R l := by
  subst hN
  have hH := Replay_O h hR hc hne hl hun
  rw [hr] at hH
  refine hH.mono fun ex W' h => ?_
  rcases h with ⟨_, h⟩ | ⟨h, _⟩
  · exact h
  · exact absurd rfl h
theorem recs_fact {w : World} {l : List Thing} {j : Nat} {G : World → Prop} {A : Option Addr} {rs : List Rc} (hj : l[j]? = some (.fact G)) (hG : ∀ W', G W' → Kd.C kR W' A rs.length rs) : RecsIn w l A rs := fun W' t h =>
  hG W' (h.now (t.length + j) (by rw [List.getElem?_append_right (by omega), Nat.add_sub_cancel_left]; exact hj))
theorem recs_row2 {w : World} {l : List Thing} {j e c n : Nat} {A : Option Addr} {rs : List Rc} (hj : l[j]? = some (.row kR e (.slice A n c) rs)) : RecsIn w l A rs := fun W' t h => by
  obtain ⟨A', c', e', -, hC⟩ := h.reads (t.length + j) (by rw [List.getElem?_append_right (by omega), Nat.add_sub_cancel_left]; exact hj)
  obtain rfl := (Value.slice.inj e').1
  exact hC
theorem row_cap {w W : World} {rest : List Thing} {e c n : Nat} {A : Option Addr} {rs : List Rc} (h : Own w W (.row kR e (.slice A n c) rs :: rest)) (hn : rs.length = n) : n ≤ c := by
  obtain ⟨A', c', e', hle, -⟩ := h.reads 0 rfl
  obtain ⟨-, -, rfl⟩ := Value.slice.inj e'
  exact hn ▸ hle
theorem repsRF (w : World) (r : Rc) : Reps (kR.FK w (fun _ => False)) kR.sz [r] (rcCells r) := by
  refine ⟨rfl, fun j x hj => ?_⟩
  cases j with
  | zero =>
    obtain rfl : r = x := by simpa using hj
    exact fun W' _ => kR_mk W' r
  | succ j => simp at hj
theorem recs_len (n k : Nat) (h : n ≤ k + 1) (hk : k < 20) : (n + 1) * 72 ≤ 140737488355328 := by omega
set_option maxHeartbeats 8000000 in
set_option maxRecDepth 100000 in
theorem joined_calls (A : Option Addr) (c : Nat) (l : List UAct) (cutAt : Int) (W : World) (hC : Kd.C kUA W A l.length l) (hc : l.length ≤ c) : Calls Try.prog 6 #[.slice A l.length c, .int .i64 cutAt] W fun ex W' => ex = .returned (.bool true) ∧ Below W.heap.size W W' := by
  have HC := Aside0.mk hC
  have HO0 := Aside0.mk (Own.start W 0)
  clear hC
  go_enter Try.func6, Try.ntmps6
  go_upto_region 4 with (go_at_call 7; refine (speaks_calls _).mono ?_; rintro e w1 ⟨rfl, hb⟩; have HO1 := Aside0.mk (HO0.out.below hb); clear hb)
  have HO2 : Aside0 (Own W (w1.alloc (.cells #[.int .i64 0, .int .i64 0, .int .i64 4, .string ⟨#[]⟩, .int .i64 0, .slice none 0 0] 66)) [.row kR 66 (.slice (some ⟨w1.heap.size, 0, none⟩) 1 1) [r0]]) := ⟨HO1.out.lit_many kR flatR 66 [r0] _ (repsR w1 [r0]) (by decide)⟩
  clear HO1 HO0
  generalize w1.alloc (.cells #[.int .i64 0, .int .i64 0, .int .i64 4, .string ⟨#[]⟩, .int .i64 0, .slice none 0 0] 66) = w2 at HO2 ⊢
  generalize w1.heap.size = gr at HO2 ⊢
  go_upto_region 5 with fail
  have HOp := Aside0.mk (open_new HO2.out)
  clear HO2
  generalize w2.alloc (.cells #[.slice none 0 0] 29) = w3 at HOp ⊢
  generalize w2.heap.size = g at HOp ⊢
  have HJ0 := Aside0.mk JF.start
  go_upto_block 0 with fail
  go_cut [5] (fun s5 wx => ∃ (k : Nat) (M : Opn) (rs : List Rc), k ≤ 20 ∧ Aside0 (OpenOwn W wx g M [.row kR 66 s5 rs]) ∧ Aside0 (JF k M rs))
  case first =>
    go_wp2_with fail
    go_loopg [5, 7] (min 20 l.length) (fun gg s5 s7 wr => ∃ (k : Nat) (M : Opn) (rs : List Rc), k ≤ min 20 l.length ∧ min 20 l.length - k ≤ gg ∧ s7 = .int .i64 k ∧ Aside0 (OpenOwn W wr g M [.row kR 66 s5 rs]) ∧ Aside0 (JF k M rs))
    case atStart => exact ⟨0, [], [r0], Nat.zero_le _, by omega, rfl, HOp, HJ0⟩
    case round =>
      obtain ⟨k, M, rs, hk, hg, rfl, HO, HJ⟩ := hrel
      clear HOp HJ0
      by_cases hlt : k < min 20 l.length
      · have hkl : k < l.length := Nat.lt_of_lt_of_le hlt (Nat.min_le_right _ _)
        have hk40 : k < 20 := Nat.lt_of_lt_of_le hlt (Nat.min_le_left _ _)
        have d1 := decLt hkl
        have d2 : decide ((k : Int) < 20) = true := decide_eq_true (by omega)
        have z0 := geZ k
        have z1 := ltZ hkl
        have hw := wrS (n := 20) hk40 (by decide)
        obtain ⟨ad, rfl, a0, a1, a2, a3, a4⟩ := at_UA HC.out k hkl rfl
        have HLt := Aside0.mk hlt
        have HK40 := Aside0.mk hk40
        generalize l[k] = x at *
        obtain ⟨what, tn, xa, xb, xc⟩ := x
        simp only [] at a0 a1 a2 a3 a4
        have hB : Below W.heap.size W _ := HO.out.choose_spec.choose_spec.choose_spec.1.1
        replace a0 := (hB.cell (World.block_lt_of_cell? W _ a0)).trans a0
        replace a1 := (hB.cell (World.block_lt_of_cell? W _ a1)).trans a1
        replace a2 := (hB.cell (World.block_lt_of_cell? W _ a2)).trans a2
        replace a3 := (hB.cell (World.block_lt_of_cell? W _ a3)).trans a3
        replace a4 := (hB.cell (World.block_lt_of_cell? W _ a4)).trans a4
        have HW1 := Aside0.mk hw
        have HCap : Aside0 (capM 20 M) := ⟨HJ.out.1.1.mono (by have := HK40.out; omega)⟩
        have HLen : Aside0 ((rs.length + 1) * 72 ≤ 140737488355328) := ⟨recs_len _ _ HJ.out.len.2 HK40.out⟩
        clear hB hlt hk40 hw
        go_upto_block 1 with fail
        go_cut [5] (fun s5 wx => ∃ (M' : Opn) (rs' : List Rc), Aside0 (OpenOwn W wx g M' [.row kR 66 s5 rs']) ∧ Aside0 (JF (k + 1) M' rs'))
        case first =>
          have hand := and3u tn
          have hw8 : wrap64 (1 + tn % 4) = 1 + tn % 4 := by unfold wrap64; omega
          have htx : 0 < 1 + tn % 4 ∧ 1 + tn % 4 < 281474976710656 := by omega
          go_upto_region 9 with fail
          clear hand hw8 a1
          generalize 1 + tn % 4 = tx at *
          have HTx := Aside0.mk htx
          clear htx
          go_upto_block 2 with fail
          obtain ⟨K, hK⟩ : ∃ K, Int.tmod (wrap64 (Int.tmod what 7 + 7)) 7 = K := ⟨_, rfl⟩
          rw [hK]
          clear hK a0
          rcases kcase2 K with rfl | rfl | rfl | ⟨k4, k5, k6⟩
          · obtain ⟨n, hn⟩ : ∃ n, (ent M tx).length = n := ⟨_, rfl⟩
            have HE := Aside0.mk (entries_P HO.out (Nat.le_trans HCap.out.1 (by decide)) tx (Nat.le_trans (ent_cap HCap.out tx) (by decide)) n hn)
            by_cases hn0 : n = 0
            · subst hn0
              clear hn a2 a3 a4
              go_wp2_with (go_at_call 26; refine HE.out.mono ?_; rintro e w5 ⟨A5, c5, rfl, hO5⟩; have HO5 := Aside0.mk hO5; clear hO5)
              go_meet
              case rel => exact ⟨M, rs, HO5, ⟨HJ.out.keep⟩⟩
            · have b0 : ((n : Int) == 0) = false := by rw [beq_eq_false_iff_ne]; omega
              have hem : (ent M tx).isEmpty = false := by
                cases h : ent M tx with
                | nil => rw [h] at hn; exact absurd hn.symm hn0
                | cons a t => rfl
              have HSt := Aside0.mk (HJ.out.step (tx, 1, ⟨#[]⟩, 1) HTx.out (show (1 : Int) ≤ 1000 by decide) (rep_pop hem))
              have HPo := Aside0.mk (fun (W' : World) (rest : List Thing) (h : OpenOwn W W' g M rest) => pop_P h (Nat.le_trans HCap.out.1 (by decide)) tx (Nat.le_trans (ent_cap HCap.out tx) (by decide)))
              clear hn hem HO HJ hn0 a2 a3 a4
              generalize lastE (ent M tx) = le at HPo
              generalize (ent M tx).isEmpty = bm at HPo
              obtain ⟨la, lb, lc⟩ := le
              go_upto_region 17 with (first
                | (go_at_call 26; refine HE.out.mono ?_; rintro e w5 ⟨A5, c5, rfl, hO5⟩; have HO5 := Aside0.mk hO5; clear hO5)
                | (go_at_call 9; refine (HPo.out _ _ HO5.out).mono ?_; rintro e w6 ⟨rfl, hO6⟩; have HO6 := Aside0.mk hO6; clear hO6))
              obtain ⟨v6, xs6, F6, hO6, hi6⟩ := HO6.out
              have HI6 := Aside0.mk hi6
              have HO7 := Aside0.mk hO6
              clear HO6 hO6 hi6 HPo HO5 HE
              go_wp2_with (at_builtin; refine Own.append kR HO7.out 3 rfl rfl (.tmp 75) (.tmp 78) 67 zR 72 rfl Try.underlying67 infoR rfl (by decide) (by decide) (tx, 1, ⟨#[]⟩, 1) [.int .i64 0, .int .i64 tx, .int .i64 1, .string ⟨#[]⟩, .int .i64 1, .slice none 0 0] rfl rfl (fun W' _ => kR_mk W' _) HLen.out ?_; intro v9 w9 hO9; have HO9 := Aside0.mk hO9; clear hO9)
              go_meet
              case rel => exact ⟨popM M tx, rs ++ [((tx, 1, ⟨#[]⟩, 1) : Rc)], ⟨v6, xs6, F6, HO9.out, HI6.out⟩, HSt⟩
          · obtain ⟨n, hn⟩ : ∃ n, (ent M tx).length = n := ⟨_, rfl⟩
            have HE := Aside0.mk (entries_P HO.out (Nat.le_trans HCap.out.1 (by decide)) tx (Nat.le_trans (ent_cap HCap.out tx) (by decide)) n hn)
            by_cases hn0 : n = 0
            · subst hn0
              clear hn a2 a3 a4
              go_wp2_with (go_at_call 26; refine HE.out.mono ?_; rintro e w5 ⟨A5, c5, rfl, hO5⟩; have HO5 := Aside0.mk hO5; clear hO5)
              go_meet
              case rel => exact ⟨M, rs, HO5, ⟨HJ.out.keep⟩⟩
            · have b0 : ((n : Int) == 0) = false := by rw [beq_eq_false_iff_ne]; omega
              have hem : (ent M tx).isEmpty = false := by
                cases h : ent M tx with
                | nil => rw [h] at hn; exact absurd hn.symm hn0
                | cons a t => rfl
              have HSt := Aside0.mk (HJ.out.step (tx, 1, ⟨#[]⟩, 1) HTx.out (show (1 : Int) ≤ 1000 by decide) (rep_pop hem))
              have HPo := Aside0.mk (fun (W' : World) (rest : List Thing) (h : OpenOwn W W' g M rest) => pop_P h (Nat.le_trans HCap.out.1 (by decide)) tx (Nat.le_trans (ent_cap HCap.out tx) (by decide)))
              clear hn hem HO HJ hn0 a2 a3 a4
              generalize lastE (ent M tx) = le at HPo
              generalize (ent M tx).isEmpty = bm at HPo
              obtain ⟨la, lb, lc⟩ := le
              go_upto_region 17 with (first
                | (go_at_call 26; refine HE.out.mono ?_; rintro e w5 ⟨A5, c5, rfl, hO5⟩; have HO5 := Aside0.mk hO5; clear hO5)
                | (go_at_call 9; refine (HPo.out _ _ HO5.out).mono ?_; rintro e w6 ⟨rfl, hO6⟩; have HO6 := Aside0.mk hO6; clear hO6))
              obtain ⟨v6, xs6, F6, hO6, hi6⟩ := HO6.out
              have HI6 := Aside0.mk hi6
              have HO7 := Aside0.mk hO6
              clear HO6 hO6 hi6 HPo HO5 HE
              go_wp2_with (at_builtin; refine Own.append kR HO7.out 3 rfl rfl (.tmp 75) (.tmp 78) 67 zR 72 rfl Try.underlying67 infoR rfl (by decide) (by decide) (tx, 1, ⟨#[]⟩, 1) [.int .i64 0, .int .i64 tx, .int .i64 1, .string ⟨#[]⟩, .int .i64 1, .slice none 0 0] rfl rfl (fun W' _ => kR_mk W' _) HLen.out ?_; intro v9 w9 hO9; have HO9 := Aside0.mk hO9; clear hO9)
              go_meet
              case rel => exact ⟨popM M tx, rs ++ [((tx, 1, ⟨#[]⟩, 1) : Rc)], ⟨v6, xs6, F6, HO9.out, HI6.out⟩, HSt⟩
          · have HEd := Aside0.mk (end_P HO.out (Nat.le_trans HCap.out.1 (by decide)) tx)
            have HSt := Aside0.mk (HJ.out.step (tx, 2, ⟨#[]⟩, 0) HTx.out (show (0 : Int) ≤ 1000 by decide) (rep_end M tx))
            clear HO HJ a2 a3 a4
            generalize isM M tx = bm at HEd
            go_upto_region 20 with (go_at_call 11; refine HEd.out.mono ?_; rintro e w5 ⟨rfl, hO5⟩; have HO5 := Aside0.mk hO5; clear hO5)
            obtain ⟨v5, xs5, F5, hO5, hi5⟩ := HO5.out
            have HI5 := Aside0.mk hi5
            have HO6 := Aside0.mk hO5
            clear HO5 hO5 hi5 HEd
            go_wp2_with (at_builtin; refine Own.append kR HO6.out 3 rfl rfl (.tmp 85) (.tmp 88) 67 zR 72 rfl Try.underlying67 infoR rfl (by decide) (by decide) (tx, 2, ⟨#[]⟩, 0) [.int .i64 0, .int .i64 tx, .int .i64 2, .string ⟨#[]⟩, .int .i64 0, .slice none 0 0] rfl rfl (fun W' _ => kR_mk W' _) HLen.out ?_; intro v9 w9 hO9; have HO9 := Aside0.mk hO9; clear hO9)
            go_meet
            case rel => exact ⟨delM M tx, rs ++ [((tx, 2, ⟨#[]⟩, 0) : Rc)], ⟨v5, xs5, F5, HO9.out, HI5.out⟩, HSt⟩
          · have HEn := Aside0.mk (fun w => entry_calls (xa, xb, xc) w)
            have hok := entX_ok (xa, xb, xc)
            generalize entX (xa, xb, xc) = ex at *
            obtain ⟨ea, eb, ec⟩ := ex
            simp only [] at HEn
            have HSt := Aside0.mk (HJ.out.step (tx, 1, putE (ea, eb, ec), 0) HTx.out (show (0 : Int) ≤ 1000 by decide) (rep_add (M := M) (k := tx) hok))
            have HPu := Aside0.mk (fun w => putE_calls ea eb ec w)
            generalize putE (ea, eb, ec) = pt at *
            clear hok HJ
            obtain ⟨v, xs, F, hO, hi⟩ := HO.out
            have HI := Aside0.mk hi
            have HOa := Aside0.mk hO
            clear hO hi HO
            go_upto_region 11 with (go_at_call 8; refine (HEn.out _).mono ?_; rintro e w3 ⟨rfl, hb⟩; have HB3 := Aside0.mk hb; clear hb)
            have HO4 := Aside0.mk ((HOa.out.below HB3.out).room.alloc 0 rfl (.cells #[.int .i64 ea, .int .i64 eb, .string ec] 36))
            clear HOa HB3 HEn a2 a3 a4
            generalize w3.alloc (.cells #[.int .i64 ea, .int .i64 eb, .string ec] 36) = w4 at HO4 ⊢
            generalize w3.heap.size = gb at HO4 ⊢
            have HOp : Aside0 (OpenOwn W w4 g M [.box gb (.cells #[.int .i64 ea, .int .i64 eb, .string ec] 36 (0, 0)), _]) := ⟨v, xs, F, HO4.out.pick [1, 2, 3, 0, 4] (by decide), HI.out⟩
            have b0 : w4.cell? ⟨gb, 0, none⟩ = some (.int .i64 ea) := open_cell HOp.out 0
            have b1 : w4.cell? ⟨gb, 1, none⟩ = some (.int .i64 eb) := open_cell HOp.out 1
            have b2 : w4.cell? ⟨gb, 2, none⟩ = some (.string ec) := open_cell HOp.out 2
            have HAd := Aside0.mk (add_P HOp.out (Nat.le_trans HCap.out.1 (by decide)) tx ea eb ec (Nat.le_trans (ent_cap HCap.out tx) (by decide)))
            clear HO4 HOp HI
            go_upto_region 12 with (go_at_call 14; refine HAd.out.mono ?_; rintro e w5 ⟨rfl, hO5⟩; have HO5 := Aside0.mk hO5; clear hO5)
            clear b0 b1 b2 HAd
            have b0 : w5.cell? ⟨gb, 0, none⟩ = some (.int .i64 ea) := open_cell HO5.out 0
            have b1 : w5.cell? ⟨gb, 1, none⟩ = some (.int .i64 eb) := open_cell HO5.out 1
            have b2 : w5.cell? ⟨gb, 2, none⟩ = some (.string ec) := open_cell HO5.out 2
            obtain ⟨v5, xs5, F5, hO5, hi5⟩ := HO5.out
            have HI5 := Aside0.mk hi5
            have HO6 := Aside0.mk hO5
            clear HO5 hO5 hi5
            go_wp2_with (first
              | (go_at_call 19; refine (HPu.out _).mono ?_; rintro e w6 ⟨rfl, hb⟩; have HO7 := Aside0.mk (HO6.out.below hb); clear hb)
              | (at_builtin; refine Own.append kR HO7.out 4 rfl rfl (.tmp 57) (.tmp 62) 67 zR 72 rfl Try.underlying67 infoR rfl (by decide) (by decide) (tx, 1, pt, 0) [.int .i64 0, .int .i64 tx, .int .i64 1, .string pt, .int .i64 0, .slice none 0 0] rfl rfl (fun W' _ => kR_mk W' _) HLen.out ?_; intro v9 w9 hO9; have HO9 := Aside0.mk hO9; clear hO9))
            go_meet
            case rel => exact ⟨addM M tx (ea, eb, ec), rs ++ [(tx, 1, pt, 0)], ⟨v5, xs5, F5, HO9.out.pick [0, 1, 2, 4] (by decide), HI5.out⟩, HSt⟩
        case rest =>
          obtain ⟨M', rs', HO4, HJ4⟩ := hcut
          clear HO HJ
          have hw := HW1.out
          go_wp2_with fail
          try rw [hw]
          go_roundg (min 20 l.length - (k + 1))
          case measure => exact measS HLt.out hg
          case rel => exact ⟨k + 1, M', rs', HLt.out, Nat.le_refl _, rfl, HO4, HJ4⟩
      · obtain rfl : k = min 20 l.length := Nat.le_antisymm hk (Nat.not_lt.mp hlt)
        have HLe : Aside0 (min 20 l.length ≤ 20) := ⟨Nat.min_le_left _ _⟩
        by_cases h1 : min 20 l.length < l.length
        · have d1 := decLt h1
          have d2 : decide (((min 20 l.length : Nat) : Int) < 20) = false := decide_eq_false (by omega)
          generalize min 20 l.length = k at *
          go_wp2_with fail
          go_meet
          case rel => exact ⟨k, M, rs, HLe.out, HO, HJ⟩
        · have d1 : decide (((min 20 l.length : Nat) : Int) < (l.length : Int)) = false := decide_eq_false (by omega)
          generalize min 20 l.length = k at *
          go_wp2_with fail
          go_meet
          case rel => exact ⟨k, M, rs, HLe.out, HO, HJ⟩
  case rest =>
    obtain ⟨k, M, rs, hk, HO, HJ⟩ := hcut
    clear HOp HJ0
    obtain ⟨v, xs, F, hO, hi⟩ := HO.out
    have HI := Aside0.mk hi
    obtain ⟨A5, c5, e5⟩ := hO.row 3 rfl
    obtain ⟨N, hN⟩ : ∃ N, rs.length = N := ⟨_, rfl⟩
    rw [hN] at e5
    subst e5
    have hO1 : Own W _ [oB g v, oR v xs, .fact F, .fact fun W' => True ∧ N = rs.length ∧ N ≤ c5 ∧ Kd.C kR W' A5 rs.length rs] := ((hO.room.fact_new 0 rfl).merge 0 4 (by decide) rfl rfl).pick [1, 2, 3, 0] (by decide)
    have hcc : N ≤ c5 := (hO1.now 3 rfl).2.2.1
    have HCC := Aside0.mk hcc
    have hln := HJ.out.len
    rw [hN] at hln
    have HLn : Aside0 (0 < N ∧ N ≤ 21) := ⟨hln.1, by omega⟩
    have HN := Aside0.mk hN
    have hRise : RiseM M := OpenOwn.rise HO.out
    have hOkM : okM M := fit_ok (HJ.out.1.fit (by omega))
    have HOkM := Aside0.mk hOkM
    obtain ⟨q, hq, eq⟩ := cut_at cutAt N hln.1 (by omega)
    obtain ⟨Mb, hcb, hGb, hgb⟩ := JF.cut HJ.out q
    have hRiseB : True := trivial
    have HR1 := Aside0.mk (Replay_ok hO1 (recs_fact (j := 3) rfl (fun _ h => h.2.2.2)) (by omega) (by omega) HJ.out.undone HJ.out.all N hN hcc)
    have HUn := Aside0.mk HJ.out.undone
    have HCb := Aside0.mk hcb
    have HGb := Aside0.mk (hGb.fit (by omega))
    have Hgb := Aside0.mk hgb
    have HQ := Aside0.mk hq
    have HEq := Aside0.mk eq
    have hN0 : ¬ (N : Int) = 0 := by omega
    clear HO hO hi hO1 hcc hln hN hRise hOkM hcb hGb hgb hq eq HJ hk hRiseB
    go_upto_region 22 with fail
    rw [HEq.out]
    clear HEq hN0
    go_upto_region 23 with (go_at_call 25; refine HR1.out.mono ?_; rintro e w2 ⟨ga, rfl, hO2⟩; have HO2 := Aside0.mk hO2; clear hO2)
    clear HR1
    obtain ⟨va, xa, Fa, hO2, hia⟩ := HO2.out
    have HIa := Aside0.mk hia
    have HR2 := Aside0.mk (Replay_ok hO2 (A := A5) (c := c5) (rs := rs.take (q + 1)) (recs_fact (j := 6) rfl (fun _ h => by
      have hm : q + 1 ≤ rs.length := by rw [HN.out]; exact HQ.out
      have hl : (rs.take (q + 1)).length = q + 1 := by rw [List.length_take]; omega
      exact Kd.C_take h.2.2.2 hm)) (by rw [List.length_take, HN.out]; have := HLn.out; omega) (by rw [List.length_take]; have := HLn.out; have := HN.out; omega) (fun r hr => HUn.out r (List.mem_of_mem_take hr)) HCb.out (q + 1) (by rw [List.length_take, HN.out]; have := HQ.out; omega) (Nat.le_trans HQ.out HCC.out))
    clear HO2 hO2 hia
    have hw := wrS (n := 21) (Nat.lt_of_lt_of_le HQ.out HLn.out.2) (by decide)
    have hq1 : q + 1 ≤ c5 := Nat.le_trans HQ.out HCC.out
    go_upto_region 26 with (go_at_call 25; refine HR2.out.mono ?_; rintro e w3 ⟨gb, rfl, hO3⟩; have HO3 := Aside0.mk hO3; clear hO3)
    obtain ⟨vb, xb, Fb, hO3, hib⟩ := HO3.out
    have HIb := Aside0.mk hib
    have hRb : RiseM Mb := OpenOwn.rise HO3.out
    have HRc : Aside0 (replayS (((0, 4, stateM Mb, 0) : Rc) :: rs.drop (q + 1)) = (M, 0)) := ⟨by rw [rep_state hRb HGb.out]; exact Hgb.out⟩
    have HOkB := Aside0.mk (fit_ok HGb.out)
    have HO := Aside0.mk hO3
    have HUn6 : Aside0 (∀ r ∈ ((0, 4, stateM Mb, 0) : Rc) :: rs.drop (q + 1), r.2.2.2 ≤ 1000) := ⟨fun r hr => by
      rcases List.mem_cons.mp hr with rfl | hr
      · show (0 : Int) ≤ 1000; decide
      · exact HUn.out r (List.mem_of_mem_drop hr)⟩
    have HL6 : Aside0 (∀ n : Nat, (((0, 4, stateM Mb, 0) : Rc) :: rs.drop (q + 1)).length = n → n ≤ 10000) := ⟨fun n hn => by
      rw [List.length_cons, List.length_drop] at hn
      have := HLn.out; have := HN.out; omega⟩
    have HF : Aside0 (∀ W' : World, (True ∧ N = rs.length ∧ N ≤ c5 ∧ Kd.C kR W' A5 rs.length rs) → Kd.C kR W' (if c5 = q + 1 then A5 else A5.map (·.add ((q + 1) * 6))) (N - (q + 1)) (rs.drop (q + 1))) := ⟨fun W' h => by
      have h2 := Kd.C_drop h.2.2.2 (m := q + 1) (by have := HQ.out; have := HN.out; omega) (by rw [HN.out]; exact h.2.2.1)
      rw [List.length_drop, HN.out] at h2
      exact h2⟩
    have HLj : Aside0 (([((0, 4, stateM Mb, 0) : Rc)].length + (N - (q + 1))) * 72 ≤ 140737488355328) := ⟨by have := HLn.out; simp only [List.length_singleton]; omega⟩
    have hsl : 0 ≤ (q : Int) + 1 ∧ (q : Int) + 1 ≤ (N : Int) := by have := HQ.out; omega
    clear HO3 hO3 hib hRb HR2 HGb Hgb HCb
    have HOd := Aside0.mk (HO.out.below (below_drew (Below.refl _ _)))
    clear HO
    have HO := HOd
    clear HOd
    refine start_ (n := 15) (S := fun w' => True) (ds := []) #[false, false, false, false, false, false, false, false, false, false, false, false, false, false, false] (by kernel_rfl) rfl rfl trivial (fun hHeld => ?_)
    refine with_tabW jo_tab jo_bits (fun HT_ HW_ => ?_)
    generalize World.drew _ = W0 at HO hHeld ⊢
    refine pure_ (i := 0) (N := some 120) (v := ?_) (a' := ?_) #[true, false, false, false, false, false, false, false, false, false, false, false, false, false, false] rfl rfl (any_of HT_.out (by kernel_rfl)) (fun _ _ _ h => h) (Or.inl ⟨by rfl, ?_⟩) ?_ ?_
    rotate_left
    · intro w'
      go_simp
      with_reducible rfl
    rotate_left
    · simp only [Act.put, List.setIfInBounds_toArray, List.set_cons_zero, List.set_cons_succ, i64_w, i32_w]
      rfl
    refine pure_ (i := 4) (N := some 124) (v := ?_) (a' := ?_) #[true, false, false, false, true, false, false, false, false, false, false, false, false, false, false] rfl rfl (any_of HT_.out (by kernel_rfl)) (fun _ _ _ h => h) (Or.inl ⟨by rfl, ?_⟩) ?_ ?_
    rotate_left
    · intro w'
      go_simp
      with_reducible rfl
    rotate_left
    · simp only [Act.put, List.setIfInBounds_toArray, List.set_cons_zero, List.set_cons_succ, i64_w, i32_w]
      rfl
    refine pure_ (i := 5) (N := some 125) (v := ?_) (a' := ?_) #[true, false, false, false, true, true, false, false, false, false, false, false, false, false, false] rfl rfl (any_of HT_.out (by kernel_rfl)) (fun _ _ _ h => h) (Or.inl ⟨by rfl, ?_⟩) ?_ ?_
    rotate_left
    · intro w'
      go_simp
      with_reducible rfl
    rotate_left
    · simp only [Act.put, List.setIfInBounds_toArray, List.set_cons_zero, List.set_cons_succ, i64_w, i32_w]
      rfl
    refine pure_ (i := 6) (N := some 126) (v := ?_) (a' := ?_) #[true, false, false, false, true, true, true, false, false, false, false, false, false, false, false] rfl rfl (any_of HT_.out (by kernel_rfl)) (fun _ _ _ h => h) (Or.inl ⟨by rfl, ?_⟩) ?_ ?_
    rotate_left
    · intro w'
      go_simp
      with_reducible rfl
    rotate_left
    · simp only [Act.put, List.setIfInBounds_toArray, List.set_cons_zero, List.set_cons_succ, i64_w, i32_w]
      rfl
    refine pure_ (i := 7) (N := some 127) (v := ?_) (a' := ?_) #[true, false, false, false, true, true, true, true, false, false, false, false, false, false, false] rfl rfl (any_of HT_.out (by kernel_rfl)) (fun _ _ _ h => h) (Or.inl ⟨by rfl, ?_⟩) ?_ ?_
    rotate_left
    · intro w'
      go_simp
      with_reducible rfl
    rotate_left
    · simp only [Act.put, List.setIfInBounds_toArray, List.set_cons_zero, List.set_cons_succ, i64_w, i32_w]
      rfl
    generalize (if c5 = q + 1 then A5 else A5.map (·.add ((q + 1) * 6))) = Ax at HF ⊢
    refine one_ (i := 1) (N := some 121) #[true, true, false, false, true, true, true, true, false, false, false, false, false, false, false] rfl rfl (one_of HT_.out (by kernel_rfl)) (by decide) (fun K hK => ?_)
    refine goes_ Try.func17 (by kernel_rfl) rfl #[.pointer (some ⟨gb, 0, none⟩)] (by rfl) rfl rfl (by first | rfl | (simp [Act.eval]; done) | (go_simp; done) | decide) ?_
    refine (state_I HO.out (i := 0) (j := 1) (f := 2) ⟨rfl, rfl, by decide⟩ rfl HIb.out HOkB.out).mono ?_
    rintro e wA ⟨rfl, hO2⟩
    refine ⟨_, rfl, ?_⟩
    have HO2 := Aside0.mk hO2
    clear hO2
    clear HO
    have HO := HO2
    clear HO2
    refine hK.out _ _ trivial (fun hHeld => ?_)
    clear hK K
    refine norm_ (a' := ?_) ?_ ?_
    rotate_left
    · show Act.put _ (some 121) _ = _
      simp only [Act.put, List.setIfInBounds_toArray, List.set_cons_zero, List.set_cons_succ, i64_w, i32_w]
      rfl
    refine pure_ (i := 2) (N := some 122) (v := ?_) (a' := ?_) #[true, true, true, false, true, true, true, true, false, false, false, false, false, false, false] rfl rfl (any_of HT_.out (by kernel_rfl)) (fun _ _ _ h => h) (Or.inl ⟨by rfl, ?_⟩) ?_ ?_
    rotate_left
    · intro w'
      go_simp
      with_reducible rfl
    rotate_left
    · simp only [Act.put, List.setIfInBounds_toArray, List.set_cons_zero, List.set_cons_succ, i64_w, i32_w]
      rfl
    refine one_ (i := 3) (N := some 123) #[true, true, true, true, true, true, true, true, false, false, false, false, false, false, false] rfl rfl (one_of HT_.out (by kernel_rfl)) (by decide) (fun K hK => ?_)
    have HO2 := Aside0.mk HO.out.room
    clear HO
    have HO := HO2
    clear HO2
    refine Own.lit_step kR HO.out 0 rfl 66 ?hg (N := 123) ?hd (xs := [((0, 4, stateM Mb, 0) : Rc)]) (inner := [.int .i64 0, .int .i64 0, .int .i64 4, .string (stateM Mb), .int .i64 0, .slice none 0 0]) ?hr ?hp (by simp) ?_; (case hd => rfl); (case hg => rfl); (case hr => first | (go_simp; done) | (go_simp; rfl)); (case hp => exact repsRF wA ((0, 4, stateM Mb, 0) : Rc))
    intro vL wB HO'
    have HO2 := Aside0.mk HO'
    clear HO'
    clear HO
    have HO := HO2
    clear HO2
    obtain ⟨AL, cL, eL⟩ := HO.out.row 0 rfl
    subst eL
    refine hK.out _ _ trivial (fun hHeld => ?_)
    clear hK K
    refine norm_ (a' := ?_) ?_ ?_
    rotate_left
    · show Act.put _ (some 123) _ = _
      simp only [Act.put, List.setIfInBounds_toArray, List.set_cons_zero, List.set_cons_succ, i64_w, i32_w]
      rfl
    refine one_ (i := 8) (N := some 128) #[true, true, true, true, true, true, true, true, true, false, false, false, false, false, false] rfl rfl (one_of HT_.out (by kernel_rfl)) (by decide) (fun K hK => ?_)
    refine Own.append_fact_step kR flatR HO.out 0 10 (by decide) 66 rfl rfl HF.out (by rfl) (.tmp 123) (.tmp 127) 67 zR 72 rfl Try.underlying67 infoR rfl (by decide) (by decide) rfl rfl HLj.out ?_
    intro v3 wC HO'
    have HO2 := Aside0.mk HO'
    clear HO'
    clear HO
    have HO := HO2
    clear HO2
    obtain ⟨A6, c6, e6⟩ := HO.out.row 0 rfl
    replace e6 : v3 = .slice A6 (((0, 4, stateM Mb, 0) : Rc) :: rs.drop (q + 1)).length c6 := e6
    obtain ⟨n6, hn6⟩ : ∃ n, (((0, 4, stateM Mb, 0) : Rc) :: rs.drop (q + 1)).length = n := ⟨_, rfl⟩
    rw [hn6] at e6
    subst e6
    have HO2 : Aside0 (Own W wC (.row kR 66 (.slice A6 n6 c6) (((0, 4, stateM Mb, 0) : Rc) :: rs.drop (q + 1)) :: _)) := ⟨HO.out⟩
    clear HO
    have HO := HO2
    clear HO2
    have HN6 := Aside0.mk hn6
    clear hn6
    refine hK.out _ _ trivial (fun hHeld => ?_)
    clear hK K
    refine norm_ (a' := ?_) ?_ ?_
    rotate_left
    · show Act.put _ (some 128) _ = _
      simp only [Act.put, List.setIfInBounds_toArray, List.set_cons_zero, List.set_cons_succ, i64_w, i32_w]
      rfl
    refine one_ (i := 9) (N := some 129) #[true, true, true, true, true, true, true, true, true, true, false, false, false, false, false] rfl rfl (one_of HT_.out (by kernel_rfl)) (by decide) (fun K hK => ?_)
    refine goes_ Try.func25 (by kernel_rfl) rfl #[.slice A6 n6 c6] (by rfl) rfl rfl (by first | rfl | (simp [Act.eval]; done) | (go_simp; done) | decide) ?_
    refine (Replay_ok HO.out (recs_row2 (j := 0) rfl) (by simp) (by rw [HN6.out]; exact HL6.out _ HN6.out) HUn6.out HRc.out n6 HN6.out (row_cap HO.out HN6.out)).mono ?_
    rintro e wD ⟨gc, rfl, hO2⟩
    refine ⟨_, rfl, ?_⟩
    have HO2 := Aside0.mk hO2
    clear hO2
    clear HO
    have HO := HO2
    clear HO2
    refine hK.out _ _ trivial (fun hHeld => ?_)
    clear hK K
    refine norm_ (a' := ?_) ?_ ?_
    rotate_left
    · show Act.put _ (some 129) _ = _
      simp only [Act.put, List.setIfInBounds_toArray, List.set_cons_zero, List.set_cons_succ, i64_w, i32_w]
      rfl
    refine pure_ (i := 10) (N := some 119) (v := ?_) (a' := ?_) #[true, true, true, true, true, true, true, true, true, true, true, false, false, false, false] rfl rfl (any_of HT_.out (by kernel_rfl)) (fun _ _ _ h => h) (Or.inl ⟨by rfl, ?_⟩) ?_ ?_
    rotate_left
    · intro w'
      go_simp
      with_reducible rfl
    rotate_left
    · simp only [Act.put, List.setIfInBounds_toArray, List.set_cons_zero, List.set_cons_succ, i64_w, i32_w]
      rfl
    refine pure_ (i := 11) (N := some 130) (v := ?_) (a' := ?_) #[true, true, true, true, true, true, true, true, true, true, true, true, false, false, false] rfl rfl (any_of HT_.out (by kernel_rfl)) (fun _ _ _ h => h) (Or.inl ⟨by rfl, ?_⟩) ?_ ?_
    rotate_left
    · intro w'
      go_simp
      with_reducible rfl
    rotate_left
    · simp only [Act.put, List.setIfInBounds_toArray, List.set_cons_zero, List.set_cons_succ, i64_w, i32_w]
      rfl
    refine pure_ (i := 12) (N := some 131) (v := ?_) (a' := ?_) #[true, true, true, true, true, true, true, true, true, true, true, true, true, false, false] rfl rfl (any_of HT_.out (by kernel_rfl)) (fun _ _ _ h => h) (Or.inl ⟨by rfl, ?_⟩) ?_ ?_
    rotate_left
    · intro w'
      go_simp
      with_reducible rfl
    rotate_left
    · simp only [Act.put, List.setIfInBounds_toArray, List.set_cons_zero, List.set_cons_succ, i64_w, i32_w]
      rfl
    refine pure_ (i := 13) (N := some 14) (v := ?_) (a' := ?_) #[true, true, true, true, true, true, true, true, true, true, true, true, true, true, false] rfl rfl (any_of HT_.out (by kernel_rfl)) (fun _ _ _ h => h) (Or.inl ⟨by rfl, ?_⟩) ?_ ?_
    rotate_left
    · intro w'
      go_simp
      with_reducible rfl
    rotate_left
    · simp only [Act.put, List.setIfInBounds_toArray, List.set_cons_zero, List.set_cons_succ, i64_w, i32_w]
      rfl
    refine pure_ (i := 14) (N := some 15) (v := ?_) (a' := ?_) #[true, true, true, true, true, true, true, true, true, true, true, true, true, true, true] rfl rfl (any_of HT_.out (by kernel_rfl)) (fun _ _ _ h => h) (Or.inl ⟨by rfl, ?_⟩) ?_ ?_
    rotate_left
    · intro w'
      go_simp
      with_reducible rfl
    rotate_left
    · simp only [Act.put, List.setIfInBounds_toArray, List.set_cons_zero, List.set_cons_succ, i64_w, i32_w]
      rfl
    refine done_ (done_of HT_.out (by kernel_rfl)) ?_
    obtain ⟨vc, xc, Fc, hO4, hic⟩ := HO.out
    have HOx := Aside0.mk hO4
    have HIc := Aside0.mk hic
    clear HO hO4 hic
    have hbs : ((stateM M).toList == (stateM M).toList) = true := by simp
    go_wp2_with fail
    refine (state_I HOx.out (i := 7) (j := 8) (f := 9) ⟨rfl, rfl, by decide⟩ rfl HIa.out HOkM.out).mono ?_
    rintro e w5 ⟨rfl, hO5⟩
    have HO5 := Aside0.mk hO5
    clear hO5 HOx
    go_wp2_with fail
    refine (state_I HO5.out (i := 10) (j := 11) (f := 12) ⟨rfl, rfl, by decide⟩ rfl HI.out HOkM.out).mono ?_
    rintro e w6 ⟨rfl, hO6⟩
    have HO6 := Aside0.mk hO6
    clear hO6 HO5
    go_wp2_with fail
    refine (state_I HO6.out (i := 0) (j := 1) (f := 2) ⟨rfl, rfl, by decide⟩ rfl HIc.out HOkM.out).mono ?_
    rintro e w7 ⟨rfl, hO7⟩
    have HO7 := Aside0.mk hO7
    clear hO7 HO6
    go_wp2_with fail
    refine (state_I HO7.out (i := 7) (j := 8) (f := 9) ⟨rfl, rfl, by decide⟩ rfl HIa.out HOkM.out).mono ?_
    rintro e w8 ⟨rfl, hO8⟩
    have HO8 := Aside0.mk hO8
    clear hO8 HO7
    go_wp2_with fail
    go_ret
    exact ⟨rfl, HO8.out.1⟩
end Go.Proofs.Ytchpagboglomoaa.Ownd
