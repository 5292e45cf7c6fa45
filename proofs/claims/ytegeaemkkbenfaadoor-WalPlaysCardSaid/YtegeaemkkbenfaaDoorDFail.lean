/- (*Device).fail: the power goes; of what waits, what is kept lasts. Conditions: at most 1000000 writes wait; the keeps are read at the slice that is handed in, beside the device's map. -/
import Derived.Test.YtegeaemkkbenfaaDoorDSmall
import Derived.StillTailTactics
import Derived.Deep.LoopGhost
namespace Go.Proofs.YtegeaemkkbenfaaDoor.Ownd
open Go.RowKit Go.Proofs.YtegeaemkkbenfaaDoorW.PrintWords Go.Proofs.YtegeaemkkbenfaaDoorW.PrintLast Go.Proofs.YtegeaemkkbenfaaDoorW.PrintMore
set_option linter.unusedVariables false
set_option linter.unusedSimpArgs false
variable {w W : World} {post : List Thing} {d : Nat} {D : Dev}
def keptAt (keep : List Int) (i : Nat) : Bool := decide (0 < keep.length) && decide (keep.getD (i % keep.length) 0 ≠ 0)
def failF (keep : List Int) : Nat → List PW → (Int → Option ByteArray) → (Int → Option ByteArray)
  | _, [], f => f
  | i, p :: r, f => failF keep (i + 1) r (if keptAt keep i then upd f p.1 p.2 else f)
theorem failF_snoc (keep : List Int) : ∀ (l : List PW) (i : Nat) (f : Int → Option ByteArray) (p : PW), failF keep i (l ++ [p]) f = (if keptAt keep (i + l.length) then upd (failF keep i l f) p.1 p.2 else failF keep i l f)
  | [], i, f, p => rfl
  | q :: r, i, f, p => by
    rw [List.cons_append]
    show failF keep (i + 1) (r ++ [p]) _ = _
    rw [failF_snoc keep r (i + 1), List.length_cons, show i + 1 + r.length = i + (r.length + 1) by omega]
    rfl
def Dev.fail (D : Dev) (keep : List Int) : Dev := { D with last := failF keep 0 D.wait D.last, wait := [], off := true, fuse := 0, keep := [] }
/-- The keeps are read at A, beside block r. -/
structure KA (W : World) (A : Option Addr) (keep : List Int) (r : Nat) : Prop where
  len : keep.length ≤ 9223372036854775807
  at_ : ∀ j (h : j < keep.length), ∃ ad : Addr, A = some ad ∧ W.cell? (ad.add j) = some (.int .i64 keep[j]) ∧ (ad.add j).block ≠ r ∧ (ad.add j).block < W.heap.size
theorem write_at {l : List Thing} (h : Own w W l) (j : Nat) {v : Value} {xs : List PW} (hj : l[j]? = some (.row kW 94 v xs)) (k : Nat) (hk : k < xs.length) :
    ∃ g c, v = .slice (some ⟨g, 0, none⟩) xs.length c ∧ W.cell? ⟨g, k * 2, none⟩ = some (.int .i64 xs[k].1) ∧ W.cell? ⟨g, k * 2 + 1, none⟩ = some (.string xs[k].2) := by
  obtain ⟨g, c, cs, e, _, _, hK, hcl, _⟩ := h.elem j hj k hk
  refine ⟨g, c, e, hcl 0 _ (by rw [kW_is hK]; rfl), hcl 1 _ (by rw [kW_is hK]; rfl)⟩
theorem cell_same {W W1 : World} {a : Addr} (h : W1.heap[a.block]? = W.heap[a.block]?) : W1.cell? a = W.cell? a := by
  simp [World.cell?, h]
theorem fdlt {k n : Nat} (h : k < n) : decide ((k : Int) < (n : Int)) = true := decide_eq_true (by omega)
theorem fdno {k n : Nat} (h : ¬ k < n) : decide ((k : Int) < (n : Int)) = false := decide_eq_false (by omega)
theorem fwr {k n : Nat} (h : k < n) (hn : n ≤ 1000000) : wrap64 ((k : Int) + 1) = ((k + 1 : Nat) : Int) := by unfold wrap64; omega
theorem fmeas {a k g : Nat} (h : k < a) (hg : a - k ≤ g) : a - (k + 1) < g := by omega
theorem fltI {k n : Nat} (h : k < n) : (k : Int) < (n : Int) := by omega
theorem fgeI (k : Nat) : (0 : Int) ≤ (k : Int) := by omega
/-- All that lay there but the block r lies there as it did. -/
structure Beside (W W1 : World) (r : Nat) : Prop where
  size : W.heap.size ≤ W1.heap.size
  same : ∀ k, k < W.heap.size → k ≠ r → W1.heap[k]? = W.heap[k]?
theorem Beside.refl (W : World) (r : Nat) : Beside W W r := ⟨Nat.le_refl _, fun _ _ _ => rfl⟩
theorem Beside.below {W W1 W2 : World} {r : Nat} (h : Beside W W1 r) (hb : Below W1.heap.size W1 W2) : Beside W W2 r := ⟨Nat.le_trans h.size hb.size, fun k hk hr => (hb.block k (Nat.lt_of_lt_of_le hk h.size)).trans (h.same k hk hr)⟩
theorem Beside.put {W W1 : World} {r : Nat} (h : Beside W W1 r) (o' : Obj) : Beside W { W1 with heap := W1.heap.setIfInBounds r o' } r := ⟨by simpa using h.size, fun k hk hr => by
  have : (W1.heap.setIfInBounds r o')[k]? = W1.heap[k]? := by simp [Ne.symm hr]
  exact this.trans (h.same k hk hr)⟩
theorem KA.beside {W W1 : World} {A : Option Addr} {keep : List Int} {r : Nat} (h : KA W A keep r) (hb : Beside W W1 r) : KA W1 A keep r := ⟨h.len, fun j hj => by
  obtain ⟨ad, e, h1, h2, h3⟩ := h.at_ j hj
  exact ⟨ad, e, (cell_same (hb.same _ h3 h2)).trans h1, h2, Nat.lt_of_lt_of_le h3 hb.size⟩⟩
theorem take_fail (keep : List Int) (f : Int → Option ByteArray) {l : List PW} {k : Nat} (h : k < l.length) : failF keep 0 (l.take (k + 1)) f = (if keptAt keep k then upd (failF keep 0 (l.take k) f) l[k].1 l[k].2 else failF keep 0 (l.take k) f) := by
  rw [List.take_succ_eq_append_getElem h, failF_snoc, List.length_take, Nat.min_eq_left (Nat.le_of_lt h), Nat.zero_add]
theorem kept_yes {keep : List Int} {k : Nat} (h : keptAt keep k = true) : ∃ h0 : 0 < keep.length, keep[k % keep.length]'(Nat.mod_lt k h0) ≠ 0 := by
  unfold keptAt at h
  simp only [Bool.and_eq_true, decide_eq_true_eq] at h
  obtain ⟨h0, h1⟩ := h
  refine ⟨h0, ?_⟩
  rw [List.getD_eq_getElem?_getD, List.getElem?_eq_getElem (Nat.mod_lt k h0)] at h1
  exact h1
theorem kept_no {keep : List Int} {k : Nat} (h : keptAt keep k = false) (h0 : 0 < keep.length) : keep[k % keep.length]'(Nat.mod_lt k h0) = 0 := by
  unfold keptAt at h
  simp only [Bool.and_eq_false_iff, decide_eq_false_iff_not] at h
  rcases h with h | h
  · exact absurd h0 h
  · rw [List.getD_eq_getElem?_getD, List.getElem?_eq_getElem (Nat.mod_lt k h0)] at h
    exact Decidable.not_not.mp h
theorem rem_nat (k n : Nat) : Int.tmod (k : Int) (n : Int) = ((k % n : Nat) : Int) := rfl
theorem pos_ne {n : Nat} (h : 0 < n) : ¬ ((n : Int) = 0) := by omega
set_option maxHeartbeats 8000000 in
set_option maxRecDepth 100000 in
theorem fail_O {r : Nat} {vw vk : Value} {es : Array MapEntry} {clk : Nat} (hO : Own w W (DV d r vw vk es clk D ++ post)) (hm : MapIs es D.last) (hl : D.wait.length ≤ 1000000) (A : Option Addr) (c : Nat) (keep : List Int) (hK : KA W A keep r) :
    Calls Tryd.prog 41 #[.pointer (some ⟨d, 0, none⟩), .slice A keep.length c] W fun ex W' => ex = .returned (.tuple #[]) ∧ HasD w W' post d (D.fail keep) := by
  obtain ⟨Aw, cw, rfl, -, -⟩ := hO.reads 2 rfl
  obtain ⟨Ak, ck, rfl, -, -⟩ := hO.reads 3 rfl
  have c2 : W.cell? ⟨d, 2, none⟩ = some (.slice Aw D.wait.length cw) := hO.cell 0 rfl 2
  have HO := Aside0.mk hO
  have HM := Aside0.mk hm
  have HK := Aside0.mk hK
  clear hO hm hK
  go_enter Tryd.func41, Tryd.ntmps41
  go_upto_block 0 with fail
  go_cut [] (fun wx => Aside0 (∃ es clk, MapIs es (failF keep 0 D.wait D.last) ∧ Own w wx (DV d r (.slice Aw D.wait.length cw) (.slice Ak D.keep.length ck) es clk { D with last := failF keep 0 D.wait D.last } ++ post)))
  case first =>
    clear c2
    go_wp2_with fail
    go_loopg [11] D.wait.length (fun gg s11 wr => ∃ k : Nat, k ≤ D.wait.length ∧ D.wait.length - k ≤ gg ∧ s11 = .int .i64 k ∧ Aside0 (∃ es clk, MapIs es (failF keep 0 (D.wait.take k) D.last) ∧ Own w wr (DV d r (.slice Aw D.wait.length cw) (.slice Ak D.keep.length ck) es clk { D with last := failF keep 0 (D.wait.take k) D.last } ++ post) ∧ Beside W wr r))
    case atStart => exact ⟨0, Nat.zero_le _, Nat.le_refl _, rfl, ⟨es, clk, by rw [List.take_zero]; exact HM.out, by rw [List.take_zero]; exact HO.out, Beside.refl _ _⟩⟩
    case round =>
      clear HO HM
      obtain ⟨k, hk, hg, rfl, ⟨es1, clk1, hm1, hO1, hB1⟩⟩ := hrel
      by_cases hlt : k < D.wait.length
      · have d1 := fdlt hlt
        have hw := fwr hlt hl
        have hi1 := fltI hlt
        have hi0 := fgeI k
        obtain ⟨gw, cw', e, x0, x1⟩ := write_at hO1 2 rfl k hlt
        simp only [Value.slice.injEq] at e
        obtain ⟨rfl, -, -⟩ := e
        have HT := Aside0.mk (take_fail keep D.last hlt)
        generalize (D.wait[k]).1 = sec at x0 HT
        generalize (D.wait[k]).2 = data at x1 HT
        have HO1 := Aside0.mk hO1
        have HM1 := Aside0.mk hm1
        have HB1 := Aside0.mk hB1
        clear hO1 hm1 hB1
        go_upto_region 3 with fail
        have HO2 := Aside0.mk (HO1.out.below (below_alloc (Below.refl _ _) (.cells #[.int .i64 sec, .string data] 94)))
        have HB2 := Aside0.mk (HB1.out.below (below_alloc (Below.refl _ _) (.cells #[.int .i64 sec, .string data] 94)))
        have y0 : (wr.alloc (.cells #[.int .i64 sec, .string data] 94)).cell? ⟨wr.heap.size, 0, none⟩ = some (.int .i64 sec) := (blk_cell (blk_new wr _) 0).trans rfl
        have y1 : (wr.alloc (.cells #[.int .i64 sec, .string data] 94)).cell? ⟨wr.heap.size, 1, none⟩ = some (.string data) := (blk_cell (blk_new wr _) 1).trans rfl
        clear HO1 HB1 x0 x1 hi1 hi0 d1
        generalize wr.alloc (.cells #[.int .i64 sec, .string data] 94) = wa at HO2 HB2 y0 y1 ⊢
        generalize wr.heap.size = bw at y0 y1 ⊢
        have HK2 := Aside0.mk (HK.out.beside HB2.out)
        cases hkp : keptAt keep k with
        | false =>
          rw [hkp] at HT
          by_cases hk0 : 0 < keep.length
          · have dk : decide ((0 : Int) < (keep.length : Int)) = true := fdlt hk0
            have hkn := kept_no hkp hk0
            have hrem := rem_nat k keep.length
            have hnz := pos_ne hk0
            have hjl := Nat.mod_lt k hk0
            obtain ⟨ad, rfl, hx, -, -⟩ := HK2.out.at_ _ hjl
            have hi1 := fltI hjl
            have hi0 := fgeI (k % keep.length)
            generalize keep[k % keep.length] = kv at hx hkn
            subst hkn
            generalize k % keep.length = kr at hrem hx hi1 hi0 hjl
            go_upto_region 5 with fail
            go_wp2_with fail
            go_roundg (D.wait.length - (k + 1))
            case measure => exact fmeas hlt hg
            case rel => exact ⟨k + 1, hlt, Nat.le_refl _, by first | rfl | rw [hw], ⟨es1, clk1, by rw [HT.out]; exact HM1.out, by rw [HT.out]; exact HO2.out, HB2.out⟩⟩
          · have dk : decide ((0 : Int) < (keep.length : Int)) = false := fdno hk0
            go_upto_region 5 with fail
            go_wp2_with fail
            go_roundg (D.wait.length - (k + 1))
            case measure => exact fmeas hlt hg
            case rel => exact ⟨k + 1, hlt, Nat.le_refl _, by first | rfl | rw [hw], ⟨es1, clk1, by rw [HT.out]; exact HM1.out, by rw [HT.out]; exact HO2.out, HB2.out⟩⟩
        | true =>
          rw [hkp] at HT
          obtain ⟨hk0, hkn⟩ := kept_yes hkp
          have dk : decide ((0 : Int) < (keep.length : Int)) = true := fdlt hk0
          have hrem := rem_nat k keep.length
          have hnz := pos_ne hk0
          have hjl := Nat.mod_lt k hk0
          obtain ⟨ad, rfl, hx, -, -⟩ := HK2.out.at_ _ hjl
          have hi1 := fltI hjl
          have hi0 := fgeI (k % keep.length)
          generalize keep[k % keep.length] = kv at hx hkn
          generalize k % keep.length = kr at hrem hx hi1 hi0 hjl
          go_upto_region 4 with fail
          clear hx hrem hi1 hi0 hnz dk
          have c1 : wa.cell? ⟨d, 1, none⟩ = some (.map (some r)) := HO2.out.cell 0 rfl 1
          go_still_tail 8, (by kernel_rfl)
          change wpList _ _ _ _ _ wa.drew
          have HO3 := Aside0.mk (HO2.out.below (below_drew (Below.refl _ _)))
          have HB3 := Aside0.mk (HB2.out.below (below_drew (Below.refl _ _)))
          clear HO2 HB2 c1 y0 y1 HK2
          generalize wa.drew = wd at HO3 HB3 ⊢
          obtain ⟨es2, clk2, hrun, hm2⟩ := HM1.out.put Tryd.underlying56 Tryd.underlying3 (HO3.out.box 1 rfl) sec data
          have HM2 := Aside0.mk hm2
          clear hm2
          go_wp2_with fail
          go_roundg (D.wait.length - (k + 1))
          case measure => exact fmeas hlt hg
          case rel => exact ⟨k + 1, hlt, Nat.le_refl _, by first | rfl | rw [hw], ⟨es2, clk2, by rw [HT.out]; exact HM2.out, by rw [HT.out]; exact HO3.out.put 1 rfl (.map es2 clk2), HB3.out.put _⟩⟩
      · obtain rfl : k = D.wait.length := Nat.le_antisymm hk (Nat.not_lt.mp hlt)
        have d1 := fdno hlt
        have HO1 := Aside0.mk hO1
        have HM1 := Aside0.mk hm1
        clear hO1 hm1 hB1
        rw [List.take_length] at HO1 HM1
        go_wp2
        go_meet
        case rel => exact ⟨⟨_, _, HM1.out, HO1.out⟩⟩
  case rest =>
    obtain ⟨es1, clk1, hm1, hO1⟩ := hcut.out
    have c2 : wc.cell? ⟨d, 2, none⟩ = some (.slice Aw D.wait.length cw) := hO1.cell 0 rfl 2
    have c3 : wc.cell? ⟨d, 3, none⟩ = some (.bool D.off) := hO1.cell 0 rfl 3
    have c4 : wc.cell? ⟨d, 4, none⟩ = some (.int .i64 D.fuse) := hO1.cell 0 rfl 4
    have c5 : wc.cell? ⟨d, 5, none⟩ = some (.slice Ak D.keep.length ck) := hO1.cell 0 rfl 5
    have f2 : wc.frozen? ⟨d, 2, none⟩ = false := hO1.frozen 0 rfl 2
    have f3 : wc.frozen? ⟨d, 3, none⟩ = false := hO1.frozen 0 rfl 3
    have f4 : wc.frozen? ⟨d, 4, none⟩ = false := hO1.frozen 0 rfl 4
    have f5 : wc.frozen? ⟨d, 5, none⟩ = false := hO1.frozen 0 rfl 5
    have h1 := hO1.store 0 rfl 2 (.slice none 0 0) (cs' := #[.int .i64 D.size, .map (some r), .slice none 0 0, .bool D.off, .int .i64 D.fuse, .slice Ak D.keep.length ck, .int .i64 D.cmds]) rfl
    have h2 := h1.store 0 rfl 3 (.bool true) (cs' := #[.int .i64 D.size, .map (some r), .slice none 0 0, .bool true, .int .i64 D.fuse, .slice Ak D.keep.length ck, .int .i64 D.cmds]) rfl
    have h3 := h2.store 0 rfl 4 (.int .i64 0) (cs' := #[.int .i64 D.size, .map (some r), .slice none 0 0, .bool true, .int .i64 0, .slice Ak D.keep.length ck, .int .i64 D.cmds]) rfl
    have h4 := h3.store 0 rfl 5 (.slice none 0 0) (cs' := #[.int .i64 D.size, .map (some r), .slice none 0 0, .bool true, .int .i64 0, .slice none 0 0, .int .i64 D.cmds]) rfl
    have H4 := Aside0.mk ((h4.nil 2 kW 94).nil 3 (Kd.int .i64) 3)
    have HM1 := Aside0.mk hm1
    clear h1 h2 h3 h4 hO1 hm1 hcut HO HM HK
    go_wp2
    go_end0
    exact ⟨rfl, r, .slice none 0 0, .slice none 0 0, es1, clk1, HM1.out, H4.out⟩
theorem add_row (g k : Nat) : (⟨g, 0, none⟩ : Addr).add k = ⟨g, k, none⟩ := by
  unfold Addr.add
  split
  · rename_i h; rw [h]
  · simp
/-- A row of the call's own, as the keeps. -/
theorem KA.row {l : List Thing} {j r : Nat} {o : Obj} {A' : Option Addr} {n' c' : Nat} {xs : List Int} (h : Own w W l) (i : Nat) (hi : l[i]? = some (.box r o)) (hj : l[j]? = some (.row (Kd.int .i64) 3 (.slice A' n' c') xs)) (hne : i ≠ j) : n' = xs.length ∧ KA W A' xs r := by
  have hlen := h.len j hj
  obtain ⟨A, c, e, -, -⟩ := h.reads j hj
  simp only [Value.slice.injEq] at e
  refine ⟨e.2.1, hlen, fun k hk => ?_⟩
  obtain ⟨g, c1, e1, -, h2⟩ := h.int_at j hj k hk
  simp only [Value.slice.injEq] at e1
  obtain ⟨rfl, -, -⟩ := e1
  refine ⟨⟨g, 0, none⟩, rfl, ?_, ?_, ?_⟩
  · rw [add_row]; exact h2
  · rw [add_row]; exact h.row_ne i j hi hj hne (by simp [Value.ownBlock])
  · rw [add_row]; exact World.block_lt_of_cell? W _ h2
/-- What lay there ahead of the call, as the keeps. -/
theorem KA.base {A : Option Addr} {n : Nat} {xs : List Int} {l : List Thing} {i r : Nat} {o : Obj} (h : Own w W l) (hi : l[i]? = some (.box r o)) (hC : Kd.C (Kd.int .i64) w A n xs) : n = xs.length ∧ KA W A xs r := by
  refine ⟨hC.1.symm, hC.1 ▸ hC.2.1, fun k hk => ?_⟩
  obtain ⟨ad, c, e, _, hK, hc0⟩ := Kd.C_get hC xs[k] (k : Int) (by omega) (by have := hC.1; omega)
  rw [Int.toNat_natCast] at hK hc0
  rw [List.getD_eq_getElem?_getD, List.getElem?_eq_getElem hk, Option.getD_some] at hK
  have hK' : c = [.int .i64 xs[k]] := hK
  have h2 := hc0 0 (.int .i64 xs[k]) (by rw [hK']; rfl)
  rw [show k * (Kd.int .i64).sz + 0 = k from Nat.mul_one k] at h2
  have hlt := World.block_lt_of_cell? w _ h2
  exact ⟨ad, e, (h.1.cell hlt).trans h2, Nat.ne_of_lt (Nat.lt_of_lt_of_le hlt (h.old i hi)), Nat.lt_of_lt_of_le hlt h.ge⟩
end Go.Proofs.YtegeaemkkbenfaaDoor.Ownd
