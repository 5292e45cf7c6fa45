/- law04.OrderRecents, walked: whatever the list of pairs, it says true. Condition: the pairs are read at the slice that is handed in. -/
import Derived.Test.YtfnfhiggmppecaaOSpeaks
import Derived.Test.YtfnfhiggmppecaaOMIA
import Derived.Deep.DeepCutAuto
import Derived.Deep.RegionWith
import Derived.Test.YtfnfhiggmppecaaGOx1
namespace Go.Proofs.Ytfnfhiggmppecaa.GO
open Go.RowKit Go.Proofs.Ytfnfhiggmppecaa.Ownd Go.Proofs.YtfnfhiggmppecaaW.PrintWords Go.Proofs.YtfnfhiggmppecaaW.PrintLast Go.Proofs.YtfnfhiggmppecaaW.PrintMore
set_option linter.unusedVariables false
set_option linter.unusedSimpArgs false
set_option maxHeartbeats 2000000 in
set_option maxRecDepth 100000 in
theorem clos12_O {w W : World} {l : List Thing} (h : Own w W l) (ri ai wi rw gr ga gw k : Nat) {vw : Value} {ws : List Int} (h1 : l[ri]? = some (.box gr (.cells #[.bool true] 4 (0, 0)))) (h2 : l[ai]? = some (.box ga (.cells #[.int .i64 (k : Nat)] 3 (0, 0))))
    (h3 : l[wi]? = some (.box gw (.cells #[vw] 24 (0, 0)))) (h4 : l[rw]? = some (.row (Kd.int .i64) 3 vw ws)) (hra : ri ≠ ai) (hk : k < ws.length) (hl : ws.length ≤ 1000) :
    Calls Try.prog 12 #[.int .i64 ws[k], .pointer (some ⟨gr, 0, none⟩), .pointer (some ⟨ga, 0, none⟩), .pointer (some ⟨gw, 0, none⟩)] W fun ex W' => ex = .returned (.bool true) ∧ Own w W' (l.set ai (.box ga (.cells #[.int .i64 ((k + 1 : Nat) : Int)] 3 (0, 0)))) := by
  obtain ⟨g, c, rfl, hlc, hx⟩ := h.int_at rw h4 k hk
  have c1 : W.cell? ⟨gr, 0, none⟩ = some (.bool true) := h.cell ri h1 0
  have f1 := h.frozen ri h1 0
  have c2 : W.cell? ⟨ga, 0, none⟩ = some (.int .i64 (k : Nat)) := h.cell ai h2 0
  have f2 := h.frozen ai h2 0
  have c3 : W.cell? ⟨gw, 0, none⟩ = some (.slice (some ⟨g, 0, none⟩) ws.length c) := h.cell wi h3 0
  have ne1 : gr ≠ ga := h.ne ri ai h1 h2 hra
  have ne2 : ga ≠ gr := ne1.symm
  have hw := wrI (k : Int) (by omega) (by omega)
  have d1 : decide ((k : Int) < (ws.length : Int)) = true := decide_eq_true (by omega)
  have HO := Aside0.mk h
  have H2 := Aside0.mk h2
  have H1 := Aside0.mk h1
  generalize hv : ws[k] = y at hx ⊢
  clear h h1 h2 h3 h4 hv
  go_enter Try.func12, Try.ntmps12
  go_wp2
  go_ret
  refine ⟨rfl, ?_⟩
  have h5 := HO.out.store ri H1.out 0 (.bool true) (cs' := #[.bool true]) rfl
  have h6 := h5.store ai (by rw [List.getElem?_set_ne hra]; exact H2.out) 0 (.int .i64 ((k : Int) + 1)) (cs' := #[.int .i64 ((k : Int) + 1)]) rfl
  rw [set_same H1.out] at h6
  exact h6
theorem without_loop (xs : List Int) (x : Int) (hl : xs.length ≤ 1000) : ∀ (d i k : Nat), i + d = xs.length → d < k →
    concordanceref04_Without.l0 k xs x ((xs.take i).filter (fun y => y != x)) (i : Int) = some (xs.filter (fun y => y != x)) := by
  intro d
  induction d with
  | zero =>
    intro i k hi hk
    obtain ⟨k, rfl⟩ : ∃ m, k = m + 1 := ⟨k - 1, by omega⟩
    rw [concordanceref04_Without.l0.eq_2, if_neg (by omega), List.take_of_length_le (by omega)]
  | succ d ih =>
    intro i k hi hk
    obtain ⟨k, rfl⟩ : ∃ m, k = m + 1 := ⟨k - 1, by omega⟩
    have hlt : i < xs.length := by omega
    have hw : wrap64 ((i : Int) + 1) = ((i + 1 : Nat) : Int) := by rw [wrI _ (by omega) (by omega)]; omega
    have hn := ih (i + 1) k (by omega) (by omega)
    rw [List.take_succ_eq_append_getElem hlt, List.filter_append] at hn
    rw [concordanceref04_Without.l0.eq_2, if_pos (by omega), if_pos (by omega), rd_I xs i hlt, hw]
    have hfl : ((xs.take i).filter (fun y => y != x)).length ≤ 1000 := Nat.le_trans (List.length_filter_le _ _) (by rw [List.length_take]; omega)
    by_cases he : xs[i] = x
    · rw [if_pos he]
      have : [xs[i]].filter (fun y => y != x) = [] := by simp [he]
      rw [this, List.append_nil] at hn
      exact hn
    · rw [if_neg he, if_pos (by omega)]
      have : [xs[i]].filter (fun y => y != x) = [xs[i]] := by simp [he]
      rw [this] at hn
      exact hn
theorem without_f (xs : List Int) (x : Int) (hl : xs.length ≤ 1000) : concordanceref04_Without.f 1002 xs x = some (xs.filter (fun y => y != x)) := without_loop xs x hl xs.length 0 1002 (by omega) (by omega)
theorem erase_filter {xs : List Int} (hn : xs.Nodup) (x : Int) : xs.erase x = xs.filter (fun y => y != x) := hn.erase_eq_filter x
theorem next_nodup {xs : List Int} (hn : xs.Nodup) (x : Int) : (xs.erase x ++ [x]).Nodup := by
  rw [List.nodup_append]
  refine ⟨hn.erase x, by simp, ?_⟩
  intro a ha b hb he
  rw [List.mem_singleton] at hb
  subst hb
  subst he
  exact hn.not_mem_erase ha
def RM (g gw : Nat) (v vw : Value) (xs ws : List Int) : List Thing := [.box g (.cells #[v] 26 (0, 0)), .row (Kd.int .i64) 3 v xs, .box gw (.cells #[vw] 24 (0, 0)), .row (Kd.int .i64) 3 vw ws, .gone, .gone, .gone, .gone]
theorem without_own {w wr w2 : World} {g gw : Nat} {v vw v0 : Value} {xs ws r : List Int} (h : Own w wr (RM g gw v vw xs ws)) (hR : Kd.R (Kd.int .i64) 3 w2 wr.heap.size (fun _ => True) v0 r) (hb : Below wr.heap.size wr w2) :
    Own w w2 [.box g (.cells #[v] 26 (0, 0)), .row (Kd.int .i64) 3 v xs, .box gw (.cells #[vw] 24 (0, 0)), .row (Kd.int .i64) 3 v0 r, .gone, .gone, .gone, .gone] :=
  (h.drop 3).row_new 3 rfl hb (ok := fun k => wr.heap.size ≤ k) (N_flat flat_int (Kd.R_N hR) (fun k hk => Kd.N_base (Kd.R_N hR) k hk)) (fun k hk => hk)
def RE (g gw ga gr b : Nat) (v vw v7 : Value) (xs : List Int) (k : Nat) : List Thing := [.box g (.cells #[v] 26 (0, 0)), .row (Kd.int .i64) 3 v xs, .box gw (.cells #[vw] 24 (0, 0)), .row (Kd.int .i64) 3 vw xs, .box ga (.cells #[.int .i64 (k : Nat)] 3 (0, 0)), .box gr (.cells #[.bool true] 4 (0, 0)), .row (Kd.int .i64) 3 v7 xs, .box b (.cells #[v7] 24 (0, 0))]
/-- All of a Recent, the oldest first, held against the list that the law keeps. -/
theorem oldest_same {w W : World} {g gw ga gr b : Nat} {v vw v7 : Value} {xs : List Int} (h : Own w W (RE g gw ga gr b v vw v7 xs 0)) (hl : xs.length ≤ 1000) :
    Calls Try.prog 34 #[.func (.func 12) #[] #[.pointer (some ⟨gr, 0, none⟩), .pointer (some ⟨ga, 0, none⟩), .pointer (some ⟨gw, 0, none⟩)], .pointer (some ⟨b, 0, none⟩)] W fun ex W' => ex = .returned (.tuple #[]) ∧ Own w W' (RE g gw ga gr b v vw v7 xs xs.length) := by
  obtain ⟨A, c, rfl, _, _⟩ := h.reads 6 rfl
  have hb : W.cell? ⟨b, 0, none⟩ = some (.slice A xs.length c) := h.cell 7 rfl 0
  refine (each_calls (xs := xs) 12 #[.pointer (some ⟨gr, 0, none⟩), .pointer (some ⟨ga, 0, none⟩), .pointer (some ⟨gw, 0, none⟩)] (Go.Proofs.enters_of Try.func12 (by kernel_rfl) rfl)
    (fun k w' => Own w w' (RE g gw ga gr b v vw (.slice A xs.length c) xs k)) (fun _ => False) hl A c hb ?_ ?_ h).mono ?_
  · intro k w' hk hO
    obtain ⟨g', c', e, _, hx⟩ := hO.int_at 6 rfl k hk
    simp only [Value.slice.injEq] at e
    obtain ⟨rfl, _, _⟩ := e
    exact ⟨g', rfl, hx⟩
  · intro k w' hk hO
    refine (clos12_O hO 5 4 2 3 gr ga gw k rfl rfl rfl rfl (by decide) hk hl).mono ?_
    rintro e w2 ⟨rfl, h2⟩
    exact Or.inl ⟨rfl, h2⟩
  · rintro e W' ⟨rfl, h2⟩
    exact ⟨rfl, h2.resolve_right id⟩
def RL (g gw : Nat) (v vw : Value) (xs : List Int) : List Thing := [.box g (.cells #[v] 26 (0, 0)), .row (Kd.int .i64) 3 v xs, .box gw (.cells #[vw] 24 (0, 0)), .row (Kd.int .i64) 3 vw xs, .gone, .gone, .gone, .gone]
set_option maxHeartbeats 8000000 in
set_option maxRecDepth 100000 in
theorem recents_calls (A : Option Addr) (c : Nat) (L : List MI.P2) (W : World) (hC : Kd.C MI.kP W A L.length L) (hc : L.length ≤ c) :
    Calls Try.prog 3 #[.slice A L.length c] W fun ex W' => ex = .returned (.bool true) ∧ Below W.heap.size W W' := by
  have HC := Aside0.mk hC
  have HCM := Aside0.mk hC.2.1
  clear hC
  go_enter Try.func3, Try.ntmps3
  go_wp2_with (go_at_call 7; refine (speaks_calls W).mono ?_; rintro e w1 ⟨rfl, hb1⟩; have H1 := Aside0.mk ((Own.start W 8).below hb1); clear hb1)
  have H2 := Aside0.mk (show Own W ((w1.alloc (.cells #[.slice none 0 0] 26)).alloc (.cells #[.slice none 0 0] 24)) (RL w1.heap.size (w1.alloc (.cells #[.slice none 0 0] 26)).heap.size (.slice none 0 0) (.slice none 0 0) []) from ((((H1.out.alloc 0 rfl (.cells #[.slice none 0 0] 26)).nil 1 (Kd.int .i64) 3).alloc 2 rfl (.cells #[.slice none 0 0] 24)).nil 3 (Kd.int .i64) 3))
  have hsz : (w1.alloc (.cells #[.slice none 0 0] 26)).heap.size = w1.heap.size + 1 := by simp
  rw [hsz] at H2
  generalize (w1.alloc (.cells #[.slice none 0 0] 26)).alloc (.cells #[.slice none 0 0] 24) = W0 at H2 ⊢
  generalize w1.heap.size + 1 = gw at H2 ⊢
  generalize w1.heap.size = g at H2 ⊢
  clear H1 hsz
  go_loopg [5] (min 40 L.length) (fun gg s5 wr => ∃ k : Nat, k ≤ min 40 L.length ∧ min 40 L.length - k ≤ gg ∧ s5 = .int .i64 k ∧ Aside0 (∃ v vw xs, Own W wr (RL g gw v vw xs) ∧ xs.Nodup ∧ xs.length ≤ k))
  case atStart => exact ⟨0, Nat.zero_le _, by omega, rfl, ⟨_, _, _, H2.out, List.nodup_nil, by simp⟩⟩
  case round =>
    clear H2
    obtain ⟨k, hk, hg, rfl, ⟨v, vw, xs, hO, hnd, hxl⟩⟩ := hrel
    have HO := Aside0.mk hO
    have HND := Aside0.mk hnd
    clear hO hnd
    by_cases hlt : k < min 40 L.length
    · have hk1 : k < L.length := by omega
      have hk2 : k < 40 := by omega
      have d1 : decide ((k : Int) < (L.length : Int)) = true := decide_eq_true (by omega)
      have d2 : decide ((k : Int) < 40) = true := decide_eq_true (by omega)
      obtain ⟨ad, rfl, hx0, hx1⟩ := MI.at_P HC.out k hk1 rfl
      generalize L[k].1 = a at hx0
      generalize L[k].2 = x at hx1
      have HX0 := Aside0.mk hx0
      have HX1 := Aside0.mk hx1
      have HB0 := Aside0.mk (World.block_lt_of_cell? W _ hx0)
      have HB1 := Aside0.mk (World.block_lt_of_cell? W _ hx1)
      replace hx0 := (HO.out.1.cell HB0.out).trans hx0
      replace hx1 := (HO.out.1.cell HB1.out).trans hx1
      obtain ⟨Aw, cw, rfl, hlc, hCw⟩ := HO.out.reads 3 rfl
      have c3 : wr.cell? ⟨gw, 0, none⟩ = some (.slice Aw xs.length cw) := HO.out.cell 2 rfl 0
      have HW := Aside0.mk (concordanceref04_Without.calls 1002 Aw cw xs x (xs.filter (fun y => y != x)) wr hCw hlc (without_f xs x (by omega)))
      have HLC := Aside0.mk hlc
      clear hCw hlc
      go_upto_if 38 with (go_at_call 8; refine HW.out.mono ?_; rintro e w2 ⟨v0, rfl, hR, hb2⟩; have HO2 := Aside0.mk (without_own (xs := xs) (ws := xs) HO.out hR hb2); clear hR; obtain ⟨A0, n0, c0, rfl⟩ := HO2.out.isSlice 3 rfl; have c4 : w2.cell? ⟨gw, 0, none⟩ = some (.slice Aw xs.length cw) := HO2.out.cell 2 rfl 0; have f4 : w2.frozen? ⟨gw, 0, none⟩ = false := HO2.out.frozen 2 rfl 0; have HO3 := Aside0.mk (HO2.out.store 2 rfl 0 (.slice A0 n0 c0) (cs' := #[.slice A0 n0 c0]) rfl); have y0 := (HO3.out.1.cell HB0.out).trans HX0.out; have y1 := (HO3.out.1.cell HB1.out).trans HX1.out; clear hb2)
      have H3 : Aside0 (Own W (w2.setCell ⟨gw, 0, none⟩ (.slice A0 n0 c0)) (RM g gw v (.slice A0 n0 c0) xs (xs.erase x))) := ⟨by rw [erase_filter HND.out]; exact HO3.out⟩
      generalize w2.setCell ⟨gw, 0, none⟩ (.slice A0 n0 c0) = w3 at H3 y0 y1 ⊢
      clear HO3 HO2 HO HW HLC c3 c4 f4 hx0 hx1 y0 y1 d1 d2
      have HEL := Aside0.mk (List.length_erase_le (a := x) (l := xs))
      go_cut [] (fun w' => Aside0 (∃ v' vw' ys, Own W w' (RL g gw v' vw' ys) ∧ ys.Nodup ∧ ys.length ≤ k + 1))
      case first =>
        generalize (Go.bits .and .i64 a 3 == 3) = b
        cases b with
        | true =>
          have HD := Aside0.mk (fun (w' : World) (hb : Below w3.heap.size w3 w') => drop_O (H3.out.below hb) (i := 0) (j := 1) (g := g) (v := v) (xs := xs) ⟨rfl, rfl, by decide⟩ (by omega) x)
          have hn0 : n0 = (xs.erase x).length := by
            obtain ⟨A', c', e', -⟩ := H3.out.reads 3 rfl
            simp only [Value.slice.injEq] at e'
            exact e'.2.1
          have hd : decide (n0 < xs.length) = decide (x ∈ xs) := by
            rw [decide_eq_decide, hn0]
            by_cases hx : x ∈ xs
            · have h1 := List.length_erase_of_mem hx
              have h2 := List.length_pos_of_mem hx
              exact ⟨fun _ => hx, fun _ => by omega⟩
            · rw [List.erase_of_not_mem hx]
              exact ⟨fun h => absurd h (by omega), fun h => absurd h hx⟩
          generalize decide (x ∈ xs) = bx at HD hd
          have HN0 := Aside0.mk hn0
          clear hn0
          have c5 : w3.drew.cell? ⟨gw, 0, none⟩ = some (.slice A0 n0 c0) := (H3.out.below (below_drew (Below.refl _ _))).cell 2 rfl 0
          go_upto_region 12 with fail
          go_region_with (go_at_call 9; refine (HD.out _ (below_drew (Below.refl _ _))).mono ?_; rintro e w4 ⟨v4, rfl, hO4⟩; have HO4 := Aside0.mk hO4; clear hO4; have c6 : w4.cell? ⟨gw, 0, none⟩ = some (.slice A0 n0 c0) := HO4.out.cell 2 rfl 0)
          all_goals (go_wp2; go_meet; case rel => exact ⟨⟨v4, .slice A0 n0 c0, xs.erase x, HO4.out, HND.out.erase x, by have := HEL.out; omega⟩⟩)
        | false =>
          have HD := Aside0.mk (fun (w' : World) (hb : Below w3.heap.size w3 w') => use_O (H3.out.below hb) (i := 0) (j := 1) (g := g) (v := v) (xs := xs) ⟨rfl, rfl, by decide⟩ (by omega) x)
          go_wp2_with (first
            | (go_at_call 10; refine (HD.out w3 (Below.refl _ _)).mono ?_; rintro e w4 ⟨v4, rfl, hO4⟩; have HO4 := Aside0.mk (show Own W w4 (RM g gw v4 (.slice A0 n0 c0) (xs.erase x ++ [x]) (xs.erase x)) from hO4); clear hO4; have c6 : w4.cell? ⟨gw, 0, none⟩ = some (.slice A0 n0 c0) := HO4.out.cell 2 rfl 0)
            | (at_builtin; refine HO4.out.append (Kd.int .i64) 3 rfl rfl (.tmp 48) (.tmp 50) 24 (.int .i64 0) 8 rfl Try.underlying24 infoI rfl (by decide) (by decide) x [.int .i64 x] rfl rfl (fun W' _ => rfl) (by have := HEL.out; omega) ?_; intro v5 w5 hO5; obtain ⟨A5, n5, c5, rfl⟩ := hO5.isSlice 3 rfl; have HO5 := Aside0.mk hO5; clear hO5 c6; have c7 : w5.cell? ⟨gw, 0, none⟩ = some (.slice A0 n0 c0) := HO5.out.cell 2 rfl 0; have f7 : w5.frozen? ⟨gw, 0, none⟩ = false := HO5.out.frozen 2 rfl 0))
          go_meet
          case rel =>
            refine ⟨⟨v4, .slice A5 n5 c5, xs.erase x ++ [x], ?_, next_nodup HND.out x, ?_⟩⟩
            · exact HO5.out.store 2 rfl 0 (.slice A5 n5 c5) (cs' := #[.slice A5 n5 c5]) rfl
            · have := HEL.out
              simp only [List.length_append, List.length_cons, List.length_nil]
              omega
      case rest =>
        obtain ⟨v', vw', ys, hO5, hnd5, hyl⟩ := hcut.out
        have HO5 := Aside0.mk hO5
        have HND5 := Aside0.mk hnd5
        clear hO5 hnd5 hcut H3 HEL HND
        have H6 : Aside0 (Own W ((wc.alloc (.cells #[.int .i64 0] 3)).alloc (.cells #[.bool true] 4)) [.box g (.cells #[v'] 26 (0, 0)), .row (Kd.int .i64) 3 v' ys, .box gw (.cells #[vw'] 24 (0, 0)), .row (Kd.int .i64) 3 vw' ys, .box wc.heap.size (.cells #[.int .i64 0] 3 (0, 0)), .box (wc.heap.size + 1) (.cells #[.bool true] 4 (0, 0)), .gone, .gone]) := ⟨by
          have h := (HO5.out.alloc 4 rfl (.cells #[.int .i64 0] 3)).alloc 5 rfl (.cells #[.bool true] 4)
          rw [show (wc.alloc (.cells #[.int .i64 0] 3)).heap.size = wc.heap.size + 1 by simp] at h
          exact h⟩
        clear HO5
        go_upto_region 18 with fail
        generalize (wc.alloc (.cells #[.int .i64 0] 3)).alloc (.cells #[.bool true] 4) = w6 at H6 ⊢
        generalize wc.heap.size + 1 = gr at H6 ⊢
        generalize wc.heap.size = ga at H6 ⊢
        go_upto_region 19 with (first
          | (go_at_call 11; refine (oldest_O H6.out (i := 0) (j := 1) (g := g) (v := v') (xs := ys) ⟨rfl, rfl, by decide⟩ (by omega) 6 7 rfl rfl (by decide)).mono ?_; rintro e w7 ⟨b, v7, rfl, hO7⟩; have H7 := Aside0.mk (show Own W w7 (RE g gw ga gr b v' vw' v7 ys 0) from hO7); clear hO7)
          | (go_at_call 34; refine (oldest_same H7.out (by omega)).mono ?_; rintro e w8 ⟨rfl, hO8⟩; have H8 := Aside0.mk hO8; clear hO8))
        obtain ⟨Az, cz, rfl, -, -⟩ := H8.out.reads 3 rfl
        clear H7 H6
        have H8d := Aside0.mk (H8.out.below (below_drew (Below.refl _ _)))
        have z1 : w8.drew.cell? ⟨gr, 0, none⟩ = some (.bool true) := H8d.out.cell 5 rfl 0
        have z2 : w8.drew.cell? ⟨ga, 0, none⟩ = some (.int .i64 (ys.length : Nat)) := H8d.out.cell 4 rfl 0
        have z3 : w8.drew.cell? ⟨gw, 0, none⟩ = some (.slice Az ys.length cz) := H8d.out.cell 2 rfl 0
        have HLN := Aside0.mk (len_O H8d.out (i := 0) (j := 1) (g := g) (v := v') (xs := ys) ⟨rfl, rfl, by decide⟩)
        have HYL := Aside0.mk hyl
        clear hyl hxl
        go_cut [68] (fun s68 w' => s68 = .bool false ∧ Aside0 (Own W w' (RE g gw ga gr b v' (.slice Az ys.length cz) v7 ys ys.length)))
        case first =>
          go_region_with (go_at_call 13; refine HLN.out.mono ?_; rintro e w' ⟨rfl, rfl⟩)
          all_goals (go_wp2_with fail; go_meet; case rel => exact ⟨by first | rfl | simp, H8d⟩)
        case rest =>
          obtain ⟨rfl, H9⟩ := hcut
          have hw := wrI (k : Int) (by omega) (by omega)
          clear H8 H8d z1 z2 z3 HLN
          go_wp2
          go_roundg (min 40 L.length - (k + 1))
          case measure => omega
          case rel => exact ⟨k + 1, by omega, Nat.le_refl _, rfl, ⟨v', _, ys, ((((H9.out.drop 4).drop 5).drop 6).drop 7), HND5.out, HYL.out⟩⟩
    · have HB := Aside0.mk HO.out.1
      clear HO
      by_cases h1 : k < L.length
      · have h2 : ¬ k < 40 := by omega
        clear hk hlt
        go_wp2
        go_ret
        exact ⟨rfl, HB.out⟩
      · clear hk hlt
        go_wp2
        go_ret
        exact ⟨rfl, HB.out⟩
end Go.Proofs.Ytfnfhiggmppecaa.GO
