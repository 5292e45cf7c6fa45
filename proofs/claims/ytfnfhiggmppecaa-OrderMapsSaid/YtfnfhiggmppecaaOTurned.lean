/- law04.OrderTurned, walked: whatever the list of texts, it says true. Condition: the texts are read at the slice that is handed in. -/
import Derived.Test.YtfnfhiggmppecaaOTurnA
import Derived.Deep.QuietTactic
import Derived.BigQuiet
namespace Go.Proofs.Ytfnfhiggmppecaa.GO.MS
open Go.RowKit Go.Proofs.Ytfnfhiggmppecaa.Ownd Go.Proofs.YtfnfhiggmppecaaW.PrintWords Go.Proofs.YtfnfhiggmppecaaW.PrintLast Go.Proofs.YtfnfhiggmppecaaW.PrintMore
set_option linter.unusedVariables false
set_option linter.unusedSimpArgs false
theorem dlt {k n : Nat} (h : k < n) : decide ((k : Int) < (n : Int)) = true := decide_eq_true (by omega)
theorem dself (n : Nat) : decide ((n : Int) < (n : Int)) = false := decide_eq_false (by omega)
theorem ltI {k n : Nat} (h : k < n) : (k : Int) < (n : Int) := by omega
theorem geI (k : Nat) : (0 : Int) ≤ (k : Int) := by omega
theorem wrN {k n : Nat} (h : k < n) (hn : n ≤ 30) : wrap64 ((k : Int) + 1) = (k : Int) + 1 := wr1 _ (by omega) (by omega)
theorem subN {k n : Nat} (h0 : 0 < k) (h : k < n) (hn : n ≤ 30) : IntKind.i64.wrap ((k : Int) - 1) = ((k - 1 : Nat) : Int) := (IntWalk.i64_in ((k : Int) - 1) (by omega)).trans (by omega)
theorem predN {k n : Nat} (h0 : 0 < k) (h : k < n) : k - 1 < n := by omega
theorem d0 {k : Nat} (h : 0 < k) : decide ((0 : Int) < (k : Int)) = true := decide_eq_true (by omega)
theorem rising {ss : List ByteArray} (h : ss.Pairwise (fun a b => lt a b = true)) {k : Nat} (h0 : 0 < k) (hk : k < ss.length) : lt (ss[k - 1]'(predN h0 hk)) ss[k] = true := (List.pairwise_iff_getElem.mp h) (k - 1) k (predN h0 hk) hk (by omega)
theorem leqN {s s' : ByteArray} (h : lt s' s = true) : Op.bytesLess s.toList s'.toList = false ∧ ¬ s.toList = s'.toList := by
  constructor
  · cases h2 : lt s s' with
    | false => exact h2
    | true =>
      have h3 := lt_trans h h2
      rw [lt_irrefl] at h3; cases h3
  · intro e
    rw [ext e, lt_irrefl] at h; cases h
theorem str_at {w W : World} {l : List Thing} (h : Own w W l) (j : Nat) {v : Value} {xs : List ByteArray} (hj : l[j]? = some (.row Kd.string 9 v xs)) (k : Nat) (hk : k < xs.length) :
    ∃ g c, v = .slice (some ⟨g, 0, none⟩) xs.length c ∧ W.cell? ⟨g, k, none⟩ = some (.string xs[k]) := by
  obtain ⟨g, c, cs, e, _, _, hK, hcl, _⟩ := h.elem j hj k hk
  have hK' : cs = [.string xs[k]] := hK
  refine ⟨g, c, e, ?_⟩
  have h2 := hcl 0 (.string xs[k]) (by rw [hK']; rfl)
  rwa [show k * Kd.string.sz + 0 = k from Nat.mul_one k] at h2
def TD (ga gb : Nat) (va vb : Value) (xs ys : List P2) : List Thing := [.box ga (.cells #[va] 48 (0, 0)), .row kP 79 va xs, .box gb (.cells #[vb] 48 (0, 0)), .row kP 79 vb ys, .gone, .gone, .gone, .gone, .gone, .gone]
theorem takes {L : List ByteArray} {n k : Nat} (hn : n ≤ L.length) (hk : k < n) (t : ByteArray) : t ∈ L.take (k + 1) ↔ t = L[k]'(Nat.lt_of_lt_of_le hk hn) ∨ t ∈ L.take k := by
  rw [List.take_succ_eq_append_getElem (Nat.lt_of_lt_of_le hk hn), List.mem_append, List.mem_singleton]
  exact Or.comm
theorem drops {L : List ByteArray} {n k : Nat} (hn : n ≤ L.length) (hk : k < n) (t : ByteArray) : t ∈ (L.take n).drop (n - (k + 1)) ↔ t = L[n - 1 - k]'(by omega) ∨ t ∈ (L.take n).drop (n - k) := by
  have h1 : n - (k + 1) < (L.take n).length := by rw [List.length_take]; omega
  rw [List.drop_eq_getElem_cons h1, List.mem_cons, List.getElem_take, show n - (k + 1) + 1 = n - k by omega]
  have : n - (k + 1) = n - 1 - k := by omega
  simp only [this]
theorem minI {a b : Nat} : min (a : Int) (b : Int) = ((min a b : Nat) : Int) := by omega
set_option maxHeartbeats 8000000 in
set_option maxRecDepth 100000 in
theorem turned_calls (A : Option Addr) (c : Nat) (L : List ByteArray) (W : World) (hC : Kd.C Kd.string W A L.length L) (hc : L.length ≤ c) :
    Calls Try.prog 5 #[.slice A L.length c] W fun ex W' => ex = .returned (.bool true) ∧ Below W.heap.size W W' := by
  have HC := Aside0.mk hC
  have HCM := Aside0.mk hC.2.1
  clear hC
  have hmin : min (L.length : Int) 30 = ((min L.length 30 : Nat) : Int) := minI
  go_enter Try.func5, Try.ntmps5
  go_upto_block 0 with (go_at_call 7; refine (speaks_calls W).mono ?_; rintro e w1 ⟨rfl, hb1⟩; have H1 := Aside0.mk ((Own.start W 10).below hb1); clear hb1)
  try rw [hmin]
  have H2 := Aside0.mk (show Own W ((w1.alloc (.cells #[.slice none 0 0] 48)).alloc (.cells #[.slice none 0 0] 48)) (TD w1.heap.size (w1.alloc (.cells #[.slice none 0 0] 48)).heap.size (.slice none 0 0) (.slice none 0 0) [] []) from (((H1.out.alloc 0 rfl (.cells #[.slice none 0 0] 48)).nil 1 kP 79).alloc 2 rfl (.cells #[.slice none 0 0] 48)).nil 3 kP 79)
  have hsz : (w1.alloc (.cells #[.slice none 0 0] 48)).heap.size = w1.heap.size + 1 := by simp
  rw [hsz] at H2
  have hnL : min L.length 30 ≤ L.length := Nat.min_le_left _ _
  have hn30 : min L.length 30 ≤ 30 := Nat.min_le_right _ _
  generalize (w1.alloc (.cells #[.slice none 0 0] 48)).alloc (.cells #[.slice none 0 0] 48) = w2 at H2 ⊢
  generalize w1.heap.size + 1 = gb at H2 ⊢
  generalize w1.heap.size = ga at H2 ⊢
  generalize min L.length 30 = n at hnL hn30 ⊢
  clear H1 hsz hmin
  go_cut [] (fun w' => Aside0 (∃ va vb xs, Own W w' (TD ga gb va vb xs xs) ∧ Of (L.take n) xs))
  case first =>
    go_wp2_with fail
    go_loopg [6] n (fun gg s6 wr => ∃ k : Nat, k ≤ n ∧ n - k ≤ gg ∧ s6 = .int .i64 k ∧ Aside0 (∃ va vb xs ys, Own W wr (TD ga gb va vb xs ys) ∧ Of (L.take k) xs ∧ Of ((L.take n).drop (n - k)) ys))
    case atStart => exact ⟨0, Nat.zero_le _, by omega, rfl, ⟨_, _, _, _, H2.out, by rw [List.take_zero]; exact of_nil, by rw [Nat.sub_zero, List.drop_of_length_le (by rw [List.length_take]; omega)]; exact of_nil⟩⟩
    case round =>
      clear H2
      obtain ⟨k, hk, hg, rfl, ⟨va, vb, xs, ys, hO, hX, hY⟩⟩ := hrel
      have HO := Aside0.mk hO
      have HX := Aside0.mk hX
      have HY := Aside0.mk hY
      clear hO hX hY
      by_cases hlt : k < n
      · have hk1 : k < L.length := Nat.lt_of_lt_of_le hlt hnL
        have hk2 : n - 1 - k < L.length := by omega
        have d1 : decide ((k : Int) < (n : Int)) = true := decide_eq_true (by omega)
        have hw := wr1 (k : Int) (by omega) (by omega)
        have hs1 : wrap64 ((n : Int) - 1) = ((n - 1 : Nat) : Int) := by unfold wrap64; omega
        have hs2 : wrap64 (((n - 1 : Nat) : Int) - (k : Int)) = ((n - 1 - k : Nat) : Int) := by unfold wrap64; omega
        have I1 : Aside0 (IntKind.i64.wrap ((n : Int) - 1) = ((n - 1 : Nat) : Int)) := ⟨(IntWalk.i64_in ((n : Int) - 1) (by omega)).trans (by omega)⟩
        have I2 : Aside0 (IntKind.i64.wrap (((n - 1 : Nat) : Int) - (k : Int)) = ((n - 1 - k : Nat) : Int)) := ⟨(IntWalk.i64_in (((n - 1 : Nat) : Int) - (k : Int)) (by omega)).trans (by omega)⟩
        obtain ⟨ad, rfl, hx0⟩ := at_S HC.out k hk1 rfl
        obtain ⟨ad2, e2, hy0⟩ := at_S HC.out (n - 1 - k) hk2 rfl
        obtain rfl := Option.some.inj e2
        have HXN := Aside0.mk (of_next (T := L.take (k + 1)) HX.out L[k] (takes hnL hlt) (by simp only [List.length_take]; omega))
        have HYN := Aside0.mk (of_next (T := (L.take n).drop (n - (k + 1))) HY.out L[n - 1 - k] (drops hnL hlt) (by simp only [List.length_take, List.length_drop]; omega))
        have HBX := Aside0.mk (World.block_lt_of_cell? W _ hx0)
        have HBY := Aside0.mk (World.block_lt_of_cell? W _ hy0)
        generalize L[k] = s at hx0 HXN
        generalize L[n - 1 - k] = t at hy0 HYN
        generalize n - 1 - k = m at hs2 hy0 hk2 HBY I2
        have hx : wr.cell? (ad.add k) = some (.string s) := (HO.out.1.cell HBX.out).trans hx0
        have HY0 := Aside0.mk hy0
        have hms : min (s.size : Int) 20 = ((min s.size 20 : Nat) : Int) := minI
        have hle : min s.size 20 ≤ s.size := Nat.min_le_left _ _
        clear hx0 hy0
        have hi1 : (k : Int) < (L.length : Int) := by omega
        have hi0 : (0 : Int) ≤ (k : Int) := by omega
        have hm0 : (0 : Int) ≤ ((min s.size 20 : Nat) : Int) := by omega
        have hm1 : ((min s.size 20 : Nat) : Int) ≤ (s.size : Int) := by omega
        go_wp2_with fail
        go_quiet (fail)
        have HO1 := Aside0.mk (HO.out.below (pw_below_drewN (Below.refl _ _) nq))
        generalize wr.drewN nq = wq at HO1 ⊢
        have HXN2 : Aside0 (Of (L.take (k + 1)) (setL xs (s.extract 0 (min s.size 20)) (((s.extract 0 (min s.size 20)).size : Nat) : Int))) := HXN
        generalize s.extract 0 (min s.size 20) = ks at HXN2 ⊢
        have HS := Aside0.mk (set_O HO1.out (i := 0) (j := 1) (g := ga) (v := va) (xs := xs) ⟨rfl, rfl, by decide⟩ HX.out.rise (by have := HX.out.len; rw [List.length_take] at this; omega) ks ((ks.size : Nat) : Int))
        clear HO HXN hms hle hm0 hm1 hx hi1 hi0
        have i1 := I1.out
        have i2 := I2.out
        have hms : min (t.size : Int) 20 = ((min t.size 20 : Nat) : Int) := minI
        have hm0 : (0 : Int) ≤ ((min t.size 20 : Nat) : Int) := by omega
        have hm1 : ((min t.size 20 : Nat) : Int) ≤ (t.size : Int) := by omega
        have hi1 : (m : Int) < (L.length : Int) := by omega
        have hi0 : (0 : Int) ≤ (m : Int) := by omega
        go_upto_region 10 with (go_at_call 18; refine HS.out.mono ?_; rintro e w4 ⟨v4, rfl, hO4⟩; have HO4 := Aside0.mk (show Own W w4 (TD ga gb v4 vb (setL xs ks (ks.size : Nat)) ys) from hO4); clear hO4; have hy : w4.cell? (ad.add m) = some (.string t) := (HO4.out.1.cell HBY.out).trans HY0.out)
        go_quiet (fail)
        have HO5 := Aside0.mk (HO4.out.below (pw_below_drewN (Below.refl _ _) nq))
        generalize w4.drewN nq = wq2 at HO5 ⊢
        have HYN2 : Aside0 (Of ((L.take n).drop (n - (k + 1))) (setL ys (t.extract 0 (min t.size 20)) (((t.extract 0 (min t.size 20)).size : Nat) : Int))) := HYN
        generalize t.extract 0 (min t.size 20) = kt at HYN2 ⊢
        have HT := Aside0.mk (set_O HO5.out (i := 2) (j := 3) (g := gb) (v := vb) (xs := ys) ⟨rfl, rfl, by decide⟩ HY.out.rise (by have := HY.out.len; rw [List.length_drop, List.length_take] at this; omega) kt ((kt.size : Nat) : Int))
        clear HO4 HYN hms hm0 hm1 hy hi1 hi0 hs1 hs2 i1 i2 I1 I2
        go_wp2_with (go_at_call 18; refine HT.out.mono ?_; rintro e w6 ⟨v6, rfl, hO6⟩; have HO6 := Aside0.mk (show Own W w6 (TD ga gb v4 v6 (setL xs ks (ks.size : Nat)) (setL ys kt (kt.size : Nat))) from hO6); clear hO6)
        try rw [hw]
        go_roundg (n - (k + 1))
        case measure => exact meas hlt hg
        case rel => exact ⟨k + 1, hlt, Nat.le_refl _, rfl, ⟨v4, v6, _, _, HO6.out, HXN2.out, HYN2.out⟩⟩
      · obtain rfl : k = n := by omega
        have d1 : decide ((k : Int) < (k : Int)) = false := decide_eq_false (by omega)
        go_wp2
        go_meet
        case rel =>
          rw [Nat.sub_self, List.drop_zero] at HY
          exact ⟨⟨va, vb, xs, by
            have := of_same HX.out HY.out (fun _ => Iff.rfl)
            subst this
            exact HO.out, HX.out⟩⟩
  case rest =>
    obtain ⟨va, vb, xs, hO, hX⟩ := hcut.out
    have HX := Aside0.mk hX
    have HXL : Aside0 (xs.length ≤ 30) := ⟨by have := hX.len; rw [List.length_take] at this; omega⟩
    have H5 : Aside0 (Own W ((wc.alloc (.cells #[.slice none 0 0] 45)).alloc (.cells #[.slice none 0 0] 45)) [.box ga (.cells #[va] 48 (0, 0)), .row kP 79 va xs, .box gb (.cells #[vb] 48 (0, 0)), .row kP 79 vb xs, .box wc.heap.size (.cells #[.slice none 0 0] 45 (0, 0)), .row Kd.string 9 (.slice none 0 0) [], .box (wc.heap.size + 1) (.cells #[.slice none 0 0] 45 (0, 0)), .row Kd.string 9 (.slice none 0 0) [], .gone, .gone]) := ⟨by
      have h := (((hO.alloc 4 rfl (.cells #[.slice none 0 0] 45)).nil 5 Kd.string 9).alloc 6 rfl (.cells #[.slice none 0 0] 45)).nil 7 Kd.string 9
      rw [show (wc.alloc (.cells #[.slice none 0 0] 45)).heap.size = wc.heap.size + 1 by simp] at h
      exact h⟩
    clear hO hX hcut H2
    go_upto_region 13 with fail
    generalize (wc.alloc (.cells #[.slice none 0 0] 45)).alloc (.cells #[.slice none 0 0] 45) = w5 at H5 ⊢
    generalize wc.heap.size + 1 = gy at H5 ⊢
    generalize wc.heap.size = gx at H5 ⊢
    clear wc
    go_upto_region 14 with (first
      | (go_at_call 19; refine (all_O H5.out (i := 0) (j := 1) (g := ga) (v := va) (xs := xs) ⟨rfl, rfl, by decide⟩ (by have := HXL.out; omega) 8 9 rfl rfl (by decide)).mono ?_; rintro e w7 ⟨b, v7, rfl, hO7⟩; have H7 := Aside0.mk hO7; clear hO7)
      | (go_at_call 57; refine (rangeA_O H7.out (i := 4) (j := 5) (g := gx) (s1 := 8) (s2 := 9) (v7 := v7) (xs := xs) ⟨rfl, rfl, by decide⟩ rfl rfl (by decide) (by decide) (by have := HXL.out; omega) (of_size HX.out)).mono ?_; rintro e w8 ⟨rfl, vx, hO8⟩; have H8 := Aside0.mk ((hO8.drop 8).drop 9); clear hO8))
    clear H5 H7
    go_upto_region 15 with (first
      | (go_at_call 19; refine (all_O H8.out (i := 2) (j := 3) (g := gb) (v := vb) (xs := xs) ⟨rfl, rfl, by decide⟩ (by have := HXL.out; omega) 8 9 rfl rfl (by decide)).mono ?_; rintro e w9 ⟨b2, v9, rfl, hO9⟩; have H9 := Aside0.mk hO9; clear hO9)
      | (go_at_call 57; refine (rangeB_O H9.out (i := 6) (j := 7) (g := gy) (s1 := 8) (s2 := 9) (v7 := v9) (xs := xs) ⟨rfl, rfl, by decide⟩ rfl rfl (by decide) (by decide) (by have := HXL.out; omega) (of_size HX.out)).mono ?_; rintro e w10 ⟨rfl, vy, hO10⟩; have H10 := Aside0.mk (show Own W w10 [.box ga (.cells #[va] 48 (0, 0)), .row kP 79 va xs, .box gb (.cells #[vb] 48 (0, 0)), .row kP 79 vb xs, .box gx (.cells #[vx] 45 (0, 0)), .row Kd.string 9 vx (xs.map (·.1)), .box gy (.cells #[vy] 45 (0, 0)), .row Kd.string 9 vy (xs.map (·.1)), .row kP 79 v9 xs, .box b2 (.cells #[v9] 46 (0, 0))] from hO10); clear hO10))
    clear H8 H9
    have HXS : Aside0 ((xs.map (·.1)).Pairwise (fun a b => lt a b = true)) := ⟨by rw [List.pairwise_map]; exact HX.out.rise⟩
    have hsl : (xs.map (·.1)).length = xs.length := List.length_map ..
    have HNa := Aside0.mk (fun (w' : World) (h : Below w10.heap.size w10 w') => len_O (H10.out.below h) (i := 0) (j := 1) (g := ga) (v := va) (xs := xs) ⟨rfl, rfl, by decide⟩)
    have HNb := Aside0.mk (fun (w' : World) (h : Below w10.heap.size w10 w') => len_O (H10.out.below h) (i := 2) (j := 3) (g := gb) (v := vb) (xs := xs) ⟨rfl, rfl, by decide⟩)
    clear HX
    generalize xs.map (·.1) = ss at H10 HXS hsl
    obtain ⟨Ax, cx, rfl, _, _⟩ := H10.out.reads 5 rfl
    obtain ⟨Ay, cy, rfl, _, _⟩ := H10.out.reads 7 rfl
    have z1 : w10.cell? ⟨gx, 0, none⟩ = some (.slice Ax ss.length cx) := H10.out.cell 4 rfl 0
    have z2 : w10.cell? ⟨gy, 0, none⟩ = some (.slice Ay ss.length cy) := H10.out.cell 6 rfl 0
    rw [hsl] at z1 z2
    go_cut [79] (fun s79 w' => s79 = .bool false ∧ ∃ nq, w' = w10.drewN nq)
    case first =>
      go_quiet (first
        | ((go_at_call 22; exact Calls.quiet_of_same (HNa.out _ (pw_below_drewN (Below.refl _ _) _))))
        | ((go_at_call 22; exact Calls.quiet_of_same (HNb.out _ (pw_below_drewN (Below.refl _ _) _)))))
      go_wp2_with fail
      go_meet
      case rel => exact ⟨by first | rfl | simp, nq, rfl⟩
    case rest =>
      obtain ⟨rfl, nq, rfl⟩ := hcut
      have H11 := Aside0.mk (H10.out.below (pw_below_drewN (Below.refl _ _) nq))
      generalize w10.drewN nq = w11 at H11 ⊢
      clear H10 z1 z2 HNa HNb
      go_wp2_with fail
      go_loopg [10] ss.length (fun gg s10 wr => ∃ k : Nat, k ≤ ss.length ∧ ss.length - k ≤ gg ∧ s10 = .int .i64 k ∧ Aside0 (Own W wr [.box ga (.cells #[va] 48 (0, 0)), .row kP 79 va xs, .box gb (.cells #[vb] 48 (0, 0)), .row kP 79 vb xs, .box gx (.cells #[.slice Ax ss.length cx] 45 (0, 0)), .row Kd.string 9 (.slice Ax ss.length cx) ss, .box gy (.cells #[.slice Ay ss.length cy] 45 (0, 0)), .row Kd.string 9 (.slice Ay ss.length cy) ss, .row kP 79 v9 xs, .box b2 (.cells #[v9] 46 (0, 0))]))
      case atStart => exact ⟨0, Nat.zero_le _, Nat.le_refl _, rfl, H11⟩
      case round =>
        clear H11
        obtain ⟨k, hk, hg, rfl, HO⟩ := hrel
        have z1 : wr.cell? ⟨gx, 0, none⟩ = some (.slice Ax ss.length cx) := HO.out.cell 4 rfl 0
        have z2 : wr.cell? ⟨gy, 0, none⟩ = some (.slice Ay ss.length cy) := HO.out.cell 6 rfl 0
        have HXL2 : ss.length ≤ 30 := by rw [hsl]; exact HXL.out
        clear hsl
        by_cases hlt : k < ss.length
        · have d1 := dlt hlt
          have hw := wrN hlt HXL2
          obtain ⟨g1, c1, e1, x1⟩ := str_at HO.out 5 rfl k hlt
          obtain ⟨g2, c2, e2, x2⟩ := str_at HO.out 7 rfl k hlt
          simp only [Value.slice.injEq] at e1 e2
          obtain ⟨rfl, -, -⟩ := e1
          obtain ⟨rfl, -, -⟩ := e2
          have hi1 := ltI hlt
          have hi0 := geI k
          go_upto_region 20 with fail
          go_cut [110] (fun s110 w' => s110 = .bool false ∧ ∃ nq, w' = wr.drewN nq)
          case first =>
            by_cases hz : 0 < k
            · have dz := d0 hz
              have hlt1 := rising HXS.out hz hlt
              obtain ⟨g3, c3, e3, x3⟩ := str_at HO.out 5 rfl (k - 1) (predN hz hlt)
              simp only [Value.slice.injEq] at e3
              obtain ⟨e3, -, -⟩ := e3
              obtain ⟨rfl, -⟩ := Addr.mk.inj (Option.some.inj e3)
              have hj1 := ltI (predN hz hlt)
              have hj0 := geI (k - 1)
              have i1 := subN hz hlt HXL2
              generalize ss[k] = s at x1 x2 hlt1
              generalize ss[k - 1] = s' at x3 hlt1
              have hlt2 : Op.bytesLess s'.toList s.toList = true := hlt1
              go_quiet (fail)
              go_wp2_with fail
              go_meet
              case rel => exact ⟨by simp; exact leqN hlt1, nq, rfl⟩
            · obtain rfl : k = 0 := Nat.eq_zero_of_not_pos hz
              generalize ss[0] = s at x1 x2
              go_quiet (fail)
              go_wp2_with fail
              go_meet
              case rel => exact ⟨by first | rfl | simp, nq, rfl⟩
          case rest =>
            obtain ⟨rfl, nq, rfl⟩ := hcut
            have HO2 := Aside0.mk (HO.out.below (pw_below_drewN (Below.refl _ _) nq))
            generalize wr.drewN nq = w12 at HO2 ⊢
            clear HO z1 z2 x1 x2
            go_wp2_with fail
            try rw [hw]
            go_roundg (ss.length - (k + 1))
            case measure => exact meas hlt hg
            case rel => exact ⟨k + 1, hlt, Nat.le_refl _, rfl, HO2⟩
        · obtain rfl : k = ss.length := Nat.le_antisymm hk (Nat.not_lt.mp hlt)
          have d1 := dself ss.length
          go_wp2
          go_ret
          exact ⟨rfl, HO.out.1⟩
end Go.Proofs.Ytfnfhiggmppecaa.GO.MS
