/- law04.OrderNumbers, walked: whatever the list of numbers and the stop, it says true. Condition: the numbers are read at the slice that is handed in. -/
import Derived.Test.YtfnfhiggmppecaaOSpeaks
import Derived.Test.YtfnfhiggmppecaaOMID
import Derived.Deep.DeepCutAuto
import Derived.Deep.RegionWith
import Derived.Deep.CutBlock
namespace Go.Proofs.Ytfnfhiggmppecaa.GO.MI
open Go.RowKit Go.Proofs.Ytfnfhiggmppecaa.Ownd Go.Proofs.YtfnfhiggmppecaaW.PrintWords Go.Proofs.YtfnfhiggmppecaaW.PrintLast Go.Proofs.YtfnfhiggmppecaaW.PrintMore
set_option linter.unusedVariables false
set_option linter.unusedSimpArgs false
theorem at_I {w : World} {A : Option Addr} {n : Nat} {xs : List Int} (h : Kd.C (Kd.int .i64) w A n xs) (i : Nat) (h1 : i < xs.length) (hn : n = xs.length) : ∃ ad : Addr, A = some ad ∧ w.cell? (ad.add i) = some (.int .i64 xs[i]) := by
  obtain ⟨ad, c, e, _, hK, hc0⟩ := Kd.C_get h xs[i] (i : Int) (by omega) (by omega)
  rw [Int.toNat_natCast] at hK hc0
  rw [List.getD_eq_getElem?_getD, List.getElem?_eq_getElem h1, Option.getD_some] at hK
  have hK' : c = [.int .i64 xs[i]] := hK
  refine ⟨ad, e, ?_⟩
  have h2 := hc0 0 (.int .i64 xs[i]) (by rw [hK']; rfl)
  rwa [show i * (Kd.int .i64).sz + 0 = i from Nat.mul_one i] at h2
theorem pair_at {w W : World} {l : List Thing} (h : Own w W l) (j : Nat) {v : Value} {xs : List P2} (hj : l[j]? = some (.row kP 75 v xs)) (k : Nat) (hk : k < xs.length) :
    ∃ g c, v = .slice (some ⟨g, 0, none⟩) xs.length c ∧ W.cell? ⟨g, k * 2, none⟩ = some (.int .i64 xs[k].1) ∧ W.cell? ⟨g, k * 2 + 1, none⟩ = some (.int .i64 xs[k].2) := by
  obtain ⟨g, c, cs, e, _, _, hK, hcl, _⟩ := h.elem j hj k hk
  refine ⟨g, c, e, hcl 0 _ (by rw [kP_is hK]; rfl), hcl 1 _ (by rw [kP_is hK]; rfl)⟩
theorem meas {a k g : Nat} (h : k < a) (hg : a - k ≤ g) : a - (k + 1) < g := by omega
/-- The map behind k of the numbers. -/
structure Good (L : List Int) (k : Nat) (xs : List P2) : Prop where
  rise : Rise xs
  len : xs.length ≤ k
  own : ∀ p ∈ xs, ∃ i : Nat, p.2 = (i : Int) ∧ i < k ∧ L[i]? = some p.1
  has : ∀ i y, i < k → L[i]? = some y → has xs y = true
theorem good_nil (L : List Int) : Good L 0 [] := ⟨List.Pairwise.nil, Nat.le_refl 0, fun p h => absurd h List.not_mem_nil, fun i y h => absurd h (Nat.not_lt_zero _)⟩
theorem good_next {L : List Int} {k : Nat} {xs : List P2} (h : Good L k xs) (hk : k < L.length) : Good L (k + 1) (setL xs L[k] (k : Nat)) := by
  refine ⟨setL_rise h.rise _ _, Nat.le_trans (setL_len _ _ _) (by have := h.len; omega), fun p hp => ?_, fun i y hi hy => ?_⟩
  · rcases (mem_setL h.rise _ _ p).mp hp with rfl | ⟨_, hp⟩
    · exact ⟨k, rfl, by omega, List.getElem?_eq_getElem hk⟩
    · obtain ⟨i, h1, h2, h3⟩ := h.own p hp
      exact ⟨i, h1, by omega, h3⟩
  · rw [has_setL h.rise]
    by_cases he : i = k
    · subst he
      rw [List.getElem?_eq_getElem hk] at hy
      exact Or.inl (Option.some.inj hy).symm
    · exact Or.inr (h.has i y (by omega) hy)
def NL (g gl gs ga gn gr b : Nat) (v v7 lv : Value) (stop la : Int) (k : Nat) (xs ys : List P2) : List Thing := [.box g (.cells #[v] 37 (0, 0)), .row kP 75 v ys, .box gl (.cells #[lv] 24 (0, 0)), .box gs (.cells #[.int .i64 stop] 3 (0, 0)), .box ga (.cells #[.int .i64 la] 3 (0, 0)), .box gn (.cells #[.int .i64 (k : Nat)] 3 (0, 0)), .box gr (.cells #[.bool true] 4 (0, 0)), .row kP 75 v7 xs, .box b (.cells #[v7] 35 (0, 0))]
set_option maxHeartbeats 4000000 in
set_option maxRecDepth 100000 in
/-- One call of what the law ranges with. -/
theorem clos16_O {w W : World} {g gl gs ga gn gr b n c : Nat} {v v7 : Value} {A : Option Addr} {stop la key : Int} {k i : Nat} {xs ys : List P2} (h : Own w W (NL g gl gs ga gn gr b v v7 (.slice A n c) stop la k xs ys)) (hr : Rise ys) (hl : ys.length ≤ 1000) (hk : k ≤ 1000)
    (hla : 0 < k → la < key) (ad : Addr) (hA : A = some ad) (hi : i < n) (hn : n ≤ 9223372036854775807) (hx : w.cell? (ad.add i) = some (.int .i64 key)) :
    Calls Try.prog 16 #[.int .i64 key, .int .i64 (i : Nat), .pointer (some ⟨gn, 0, none⟩), .pointer (some ⟨ga, 0, none⟩), .pointer (some ⟨gl, 0, none⟩), .pointer (some ⟨gr, 0, none⟩), .pointer (some ⟨g, 0, none⟩), .pointer (some ⟨gs, 0, none⟩)] W fun ex W' =>
      ex = .returned (.bool ((k : Int) + 1 != stop)) ∧ ∃ v' q, Own w W' (NL g gl gs ga gn gr b v' v7 (.slice A n c) stop key (k + 1) xs (setL ys q (i : Nat))) := by
  subst hA
  have c0 : W.cell? ⟨gn, 0, none⟩ = some (.int .i64 (k : Nat)) := h.cell 5 rfl 0
  have f0 : W.frozen? ⟨gn, 0, none⟩ = false := h.frozen 5 rfl 0
  have c1 : W.cell? ⟨ga, 0, none⟩ = some (.int .i64 la) := h.cell 4 rfl 0
  have f1 : W.frozen? ⟨ga, 0, none⟩ = false := h.frozen 4 rfl 0
  have c2 : W.cell? ⟨gl, 0, none⟩ = some (.slice (some ad) n c) := h.cell 2 rfl 0
  have ne1 : ga ≠ gn := h.ne 4 5 rfl rfl (by decide)
  have ne2 : gn ≠ ga := ne1.symm
  have hx' : W.cell? (ad.add i) = some (.int .i64 key) := (h.1.cell (World.block_lt_of_cell? w _ hx)).trans hx
  have hw : wrap64 ((k : Int) + 1) = ((k + 1 : Nat) : Int) := by rw [wr1 (k : Int) (by omega) (by omega)]; rfl
  have H1 : Own w ((W.setCell ⟨ga, 0, none⟩ (.int .i64 key)).setCell ⟨gn, 0, none⟩ (.int .i64 ((k : Int) + 1))) (NL g gl gs ga gn gr b v v7 (.slice (some ad) n c) stop key (k + 1) xs ys) :=
    (h.store 4 rfl 0 (.int .i64 key) (cs' := #[.int .i64 key]) rfl).store 5 rfl 0 (.int .i64 ((k + 1 : Nat) : Int)) (cs' := #[.int .i64 ((k + 1 : Nat) : Int)]) rfl
  have HS := Aside0.mk (fun q => set_O H1 (i := 0) (j := 1) (g := g) (v := v) (xs := ys) ⟨rfl, rfl, by decide⟩ hr (by omega) q (i : Nat))
  clear h H1
  by_cases hz : 0 < k
  · have d1 : decide ((0 : Int) < (k : Int)) = true := decide_eq_true (by omega)
    have d2 : decide (key ≤ la) = false := decide_eq_false (by have := hla hz; omega)
    clear hla
    go_enter Try.func16, Try.ntmps16
    go_wp2_with (go_at_call 14; refine (HS.out (bits .xor .i64 key 1)).mono ?_; rintro e w' ⟨v1, rfl, hO2⟩; have HO2 := Aside0.mk (show Own w w' (NL g gl gs ga gn gr b v1 v7 (.slice (some ad) n c) stop key (k + 1) xs (setL ys (bits .xor .i64 key 1) (i : Nat))) from hO2); clear hO2; have c5 : w'.cell? ⟨gn, 0, none⟩ = some (.int .i64 ((k : Int) + 1)) := HO2.out.cell 5 rfl 0; have c6 : w'.cell? ⟨gs, 0, none⟩ = some (.int .i64 stop) := HO2.out.cell 3 rfl 0)
    go_ret
    exact ⟨rfl, _, _, HO2.out⟩
  · obtain rfl : k = 0 := by omega
    clear hla
    go_enter Try.func16, Try.ntmps16
    go_wp2_with (go_at_call 14; refine (HS.out (bits .xor .i64 key 1)).mono ?_; rintro e w' ⟨v1, rfl, hO2⟩; have HO2 := Aside0.mk (show Own w w' (NL g gl gs ga gn gr b v1 v7 (.slice (some ad) n c) stop key (0 + 1) xs (setL ys (bits .xor .i64 key 1) (i : Nat))) from hO2); clear hO2; have c5 : w'.cell? ⟨gn, 0, none⟩ = some (.int .i64 1) := HO2.out.cell 5 rfl 0; have c6 : w'.cell? ⟨gs, 0, none⟩ = some (.int .i64 stop) := HO2.out.cell 3 rfl 0)
    go_ret
    exact ⟨rfl, _, _, HO2.out⟩
/-- What holds while the range runs, ahead of call k. -/
def NI (w : World) (g gl gs ga gn gr b : Nat) (v7 lv : Value) (stop : Int) (xs : List P2) (k : Nat) (W : World) : Prop :=
  ∃ v la ys, Own w W (NL g gl gs ga gn gr b v v7 lv stop la k xs ys) ∧ Rise ys ∧ ys.length ≤ 60 + k ∧ (∀ q, has xs q = true → has ys q = true) ∧ (∀ h : k - 1 < xs.length, 0 < k → la = (xs[k - 1]'h).1) ∧ (0 < stop → (k : Int) < stop)
def NZ (w : World) (g gl gs ga gn gr b : Nat) (v7 lv : Value) (stop : Int) (xs : List P2) (W : World) : Prop :=
  ∃ v la ys k, Own w W (NL g gl gs ga gn gr b v v7 lv stop la k xs ys) ∧ Rise ys ∧ ys.length ≤ 1000 ∧ (∀ q, has xs q = true → has ys q = true) ∧ k ≤ xs.length ∧ (0 < stop → (k : Int) ≤ stop)
theorem range_O {w W : World} {L : List Int} {g gl gs ga gn gr b c : Nat} {v v7 : Value} {A : Option Addr} {stop : Int} {xs : List P2} (h : Own w W (NL g gl gs ga gn gr b v v7 (.slice A L.length c) stop 0 0 xs xs)) (hC : Kd.C (Kd.int .i64) w A L.length L) (hg : Good L (min 60 L.length) xs) :
    Calls Try.prog 50 #[.func (.func 16) #[] #[.pointer (some ⟨gn, 0, none⟩), .pointer (some ⟨ga, 0, none⟩), .pointer (some ⟨gl, 0, none⟩), .pointer (some ⟨gr, 0, none⟩), .pointer (some ⟨g, 0, none⟩), .pointer (some ⟨gs, 0, none⟩)], .pointer (some ⟨b, 0, none⟩)] W fun ex W' =>
      ex = .returned (.tuple #[]) ∧ NZ w g gl gs ga gn gr b v7 (.slice A L.length c) stop xs W' := by
  have hxl : xs.length ≤ 60 := by have := hg.len; omega
  obtain ⟨A7, c7, rfl, _, _⟩ := h.reads 7 rfl
  have hb : W.cell? ⟨b, 0, none⟩ = some (.slice A7 xs.length c7) := h.cell 8 rfl 0
  refine (each1_calls (xs := xs) 16 #[.pointer (some ⟨gn, 0, none⟩), .pointer (some ⟨ga, 0, none⟩), .pointer (some ⟨gl, 0, none⟩), .pointer (some ⟨gr, 0, none⟩), .pointer (some ⟨g, 0, none⟩), .pointer (some ⟨gs, 0, none⟩)] (Go.Proofs.enters_of Try.func16 (by kernel_rfl) rfl)
    (NI w g gl gs ga gn gr b (.slice A7 xs.length c7) (.slice A L.length c) stop xs) (NZ w g gl gs ga gn gr b (.slice A7 xs.length c7) (.slice A L.length c) stop xs) (by omega) A7 c7 hb ?_ ?_ ?_ ?_).mono ?_
  · rintro k w1 w2 hb2 ⟨v', la, ys, h1, h2⟩
    exact ⟨v', la, ys, h1.below hb2, h2⟩
  · rintro k w1 hk ⟨v', la, ys, h1, h2⟩
    obtain ⟨g7, c7', e, e1, e2⟩ := pair_at h1 7 rfl k hk
    simp only [Value.slice.injEq] at e
    obtain ⟨rfl, _, _⟩ := e
    exact ⟨g7, rfl, e1, e2⟩
  · rintro k w1 hk ⟨v', la, ys, h1, h2, h3, h4, h5, h6⟩
    obtain ⟨i, e1, e2, e3⟩ := hg.own xs[k] (List.getElem_mem hk)
    have hiL : i < L.length := (List.getElem?_eq_some_iff.1 e3).1
    obtain ⟨ad, eA, hx⟩ := at_I hC i hiL rfl
    rw [(List.getElem?_eq_some_iff.1 e3).2] at hx
    have hla : 0 < k → la < xs[k].1 := fun h0 => by
      rw [h5 (by omega) h0]
      have := (List.pairwise_iff_getElem.mp hg.rise) (k - 1) k (by omega) hk (by omega)
      exact (lt_is _ _).mp this
    rw [e1]
    refine (clos16_O h1 h2 (by omega) (by omega) hla ad eA hiL hC.2.1 hx).mono ?_
    rintro e w2 ⟨rfl, v2, q, hO⟩
    have hs : ∀ q', has xs q' = true → has (setL ys q (i : Int)) q' = true := fun q' hq => (has_setL h2 _ _ _).mpr (Or.inr (h4 q' hq))
    have hsl := setL_len ys q (i : Int)
    by_cases hst : (k : Int) + 1 = stop
    · right
      refine ⟨by rw [hst]; simp, v2, _, _, k + 1, hO, setL_rise h2 _ _, by omega, hs, hk, fun _ => by omega⟩
    · left
      refine ⟨by rw [show ((k : Int) + 1 != stop) = true by simpa using hst], v2, _, _, hO, setL_rise h2 _ _, by omega, hs, fun _ _ => rfl, fun h0 => ?_⟩
      have := h6 h0
      omega
  · exact ⟨v, 0, xs, h, hg.rise, by omega, fun _ h => h, fun _ h => absurd h (Nat.lt_irrefl 0), fun h => h⟩
  · rintro e w2 ⟨rfl, h1⟩
    refine ⟨rfl, ?_⟩
    rcases h1 with ⟨v', la, ys, h1, h2, h3, h4, h5, h6⟩ | h1
    · exact ⟨v', la, ys, xs.length, h1, h2, by omega, h4, Nat.le_refl _, fun h0 => by have := h6 h0; omega⟩
    · exact h1
def ND (g gl gs : Nat) (v lv : Value) (stop : Int) (ys : List P2) : List Thing := [.box g (.cells #[v] 37 (0, 0)), .row kP 75 v ys, .box gl (.cells #[lv] 24 (0, 0)), .box gs (.cells #[.int .i64 stop] 3 (0, 0)), .gone, .gone, .gone, .gone, .gone]
set_option maxHeartbeats 8000000 in
set_option maxRecDepth 100000 in
theorem numbers_calls (A : Option Addr) (c : Nat) (L : List Int) (stop : Int) (W : World) (hC : Kd.C (Kd.int .i64) W A L.length L) (hc : L.length ≤ c) :
    Calls Try.prog 4 #[.slice A L.length c, .int .i64 stop] W fun ex W' => ex = .returned (.bool true) ∧ Below W.heap.size W W' := by
  have HC := Aside0.mk hC
  have HCM := Aside0.mk hC.2.1
  clear hC
  have H0 : Aside0 (Own W ((W.alloc (.cells #[.slice A L.length c] 24)).alloc (.cells #[.int .i64 stop] 3)) [.gone, .gone, .box W.heap.size (.cells #[.slice A L.length c] 24 (0, 0)), .box (W.heap.size + 1) (.cells #[.int .i64 stop] 3 (0, 0)), .gone, .gone, .gone, .gone, .gone]) := ⟨by
    have h := ((Own.start W 9).alloc 2 rfl (.cells #[.slice A L.length c] 24)).alloc 3 rfl (.cells #[.int .i64 stop] 3)
    rw [show (W.alloc (.cells #[.slice A L.length c] 24)).heap.size = W.heap.size + 1 by simp] at h
    exact h⟩
  go_enter Try.func4, Try.ntmps4
  go_upto_block 0 with (go_at_call 7; refine (speaks_calls _).mono ?_; rintro e w1 ⟨rfl, hb1⟩; have H1 := Aside0.mk (H0.out.below hb1); clear hb1)
  have H2 := Aside0.mk (show Own W (w1.alloc (.cells #[.slice none 0 0] 37)) (ND w1.heap.size W.heap.size (W.heap.size + 1) (.slice none 0 0) (.slice A L.length c) stop []) from (H1.out.alloc 0 rfl (.cells #[.slice none 0 0] 37)).nil 1 kP 75)
  generalize w1.alloc (.cells #[.slice none 0 0] 37) = w2 at H2 ⊢
  generalize w1.heap.size = g at H2 ⊢
  generalize hgs : W.heap.size + 1 = gs at H2 ⊢
  generalize hgl : W.heap.size = gl at H2 ⊢
  clear H1 H0
  go_cut [] (fun w' => Aside0 (∃ v xs, Own W w' (ND g gl gs v (.slice A L.length c) stop xs) ∧ Good L (min 60 L.length) xs))
  case first =>
    go_wp2_with fail
    go_loopg [6] (min 60 L.length) (fun gg s6 wr => ∃ k : Nat, k ≤ min 60 L.length ∧ min 60 L.length - k ≤ gg ∧ s6 = .int .i64 k ∧ Aside0 (∃ v xs, Own W wr (ND g gl gs v (.slice A L.length c) stop xs) ∧ Good L k xs))
    case atStart => exact ⟨0, Nat.zero_le _, by omega, rfl, ⟨_, _, H2.out, good_nil L⟩⟩
    case round =>
      clear H2
      obtain ⟨k, hk, hg, rfl, ⟨v, xs, hO, hG⟩⟩ := hrel
      have HO := Aside0.mk hO
      have HG := Aside0.mk hG
      have cl : wr.cell? ⟨gl, 0, none⟩ = some (.slice A L.length c) := hO.cell 2 rfl 0
      clear hO hG
      by_cases hlt : k < min 60 L.length
      · have hk1 : k < L.length := by omega
        have hk2 : k < 60 := by omega
        have d1 : decide ((k : Int) < (L.length : Int)) = true := decide_eq_true (by omega)
        have d2 : decide ((k : Int) < 60) = true := decide_eq_true (by omega)
        have hw := wr1 (k : Int) (by omega) (by omega)
        obtain ⟨ad, rfl, hx0⟩ := at_I HC.out k hk1 rfl
        have hx : wr.cell? (ad.add k) = some (.int .i64 L[k]) := (HO.out.1.cell (World.block_lt_of_cell? W _ hx0)).trans hx0
        have HN := Aside0.mk (good_next HG.out hk1)
        have HS := Aside0.mk (set_O HO.out (i := 0) (j := 1) (g := g) (v := v) (xs := xs) ⟨rfl, rfl, by decide⟩ HG.out.rise (by have := HG.out.len; omega) L[k] (k : Nat))
        generalize L[k] = y at hx HN HS
        clear hx0
        go_wp2_with (go_at_call 14; refine HS.out.mono ?_; rintro e w' ⟨v1, rfl, hO2⟩; have HO2 := Aside0.mk (show Own W w' (ND g gl gs v1 (.slice (some ad) L.length c) stop (setL xs y (k : Nat))) from hO2); clear hO2)
        go_roundg (min 60 L.length - (k + 1))
        case measure => omega
        case rel => exact ⟨k + 1, by omega, Nat.le_refl _, rfl, ⟨v1, _, HO2.out, HN.out⟩⟩
      · obtain rfl : k = min 60 L.length := by omega
        have HK := Aside0.mk hk
        by_cases h1 : min 60 L.length < L.length
        · have h2 : ¬ min 60 L.length < 60 := by omega
          have d1 : decide (((min 60 L.length : Nat) : Int) < (L.length : Int)) = true := decide_eq_true (by omega)
          have d2 : decide (((min 60 L.length : Nat) : Int) < 60) = false := decide_eq_false (by omega)
          generalize min 60 L.length = k at *
          go_wp2
          go_meet
          case rel => exact ⟨⟨v, xs, HO.out, HG.out⟩⟩
        · have d1 : decide (((min 60 L.length : Nat) : Int) < (L.length : Int)) = false := decide_eq_false (by omega)
          generalize min 60 L.length = k at *
          go_wp2
          go_meet
          case rel => exact ⟨⟨v, xs, HO.out, HG.out⟩⟩
  case rest =>
    obtain ⟨v, xs, hO, hG⟩ := hcut.out
    have HO := Aside0.mk hO
    have HG := Aside0.mk hG
    clear hO hG hcut H2
    have H5 : Aside0 (Own W (((wc.alloc (.cells #[.int .i64 0] 3)).alloc (.cells #[.int .i64 0] 3)).alloc (.cells #[.bool true] 4)) [.box g (.cells #[v] 37 (0, 0)), .row kP 75 v xs, .box gl (.cells #[.slice A L.length c] 24 (0, 0)), .box gs (.cells #[.int .i64 stop] 3 (0, 0)), .box wc.heap.size (.cells #[.int .i64 0] 3 (0, 0)), .box (wc.heap.size + 1) (.cells #[.int .i64 0] 3 (0, 0)), .box (wc.heap.size + 1 + 1) (.cells #[.bool true] 4 (0, 0)), .gone, .gone]) := ⟨by
      have h := ((HO.out.alloc 4 rfl (.cells #[.int .i64 0] 3)).alloc 5 rfl (.cells #[.int .i64 0] 3)).alloc 6 rfl (.cells #[.bool true] 4)
      rw [show ((wc.alloc (.cells #[.int .i64 0] 3)).alloc (.cells #[.int .i64 0] 3)).heap.size = wc.heap.size + 1 + 1 by simp, show (wc.alloc (.cells #[.int .i64 0] 3)).heap.size = wc.heap.size + 1 by simp] at h
      exact h⟩
    clear HO
    go_upto_region 9 with fail
    generalize ((wc.alloc (.cells #[.int .i64 0] 3)).alloc (.cells #[.int .i64 0] 3)).alloc (.cells #[.bool true] 4) = w5 at H5 ⊢
    generalize wc.heap.size + 1 + 1 = gr at H5 ⊢
    generalize wc.heap.size + 1 = gn at H5 ⊢
    generalize wc.heap.size = ga at H5 ⊢
    clear wc
    go_upto_region 10 with (first
      | (go_at_call 15; refine (all_O H5.out (i := 0) (j := 1) (g := g) (v := v) (xs := xs) ⟨rfl, rfl, by decide⟩ (by have := HG.out.len; omega) 7 8 rfl rfl (by decide)).mono ?_; rintro e w7 ⟨b, v7, rfl, hO7⟩; have H7 := Aside0.mk (show Own W w7 (NL g gl gs ga gn gr b v v7 (.slice A L.length c) stop 0 0 xs xs) from hO7); clear hO7)
      | (go_at_call 50; refine (range_O H7.out HC.out HG.out).mono ?_; rintro e w8 ⟨rfl, hZ⟩; have HZ := Aside0.mk hZ; clear hZ))
    obtain ⟨v8, la, ys, n, hO8, hR8, hl8, hh8, hn8, hs8⟩ := HZ.out
    have H8 := Aside0.mk hO8
    have HH := Aside0.mk hh8
    have HR8 := Aside0.mk hR8
    have cs : w8.cell? ⟨gs, 0, none⟩ = some (.int .i64 stop) := hO8.cell 3 rfl 0
    have cn : w8.cell? ⟨gn, 0, none⟩ = some (.int .i64 (n : Nat)) := hO8.cell 5 rfl 0
    clear HZ H7 H5 hO8 hh8 hR8
    go_cut [40] (fun s40 w' => s40 = .bool false ∧ w' = w8)
    case first =>
      by_cases h0 : 0 < stop
      · have d1 : decide (0 < stop) = true := decide_eq_true h0
        have d2 : decide (stop < (n : Int)) = false := decide_eq_false (by have := hs8 h0; omega)
        clear hs8 h0
        go_wp2
        go_meet
        case rel => exact ⟨rfl, rfl⟩
      · have d1 : decide (0 < stop) = false := decide_eq_false h0
        clear hs8 h0
        go_wp2
        go_meet
        case rel => exact ⟨rfl, rfl⟩
    case rest =>
      obtain ⟨rfl, rfl⟩ := hcut
      clear hs8 cs cn
      have HGL := Aside0.mk HG.out.len
      go_wp2_with fail
      go_loopg [10] (min 60 L.length) (fun gg s10 wr => ∃ k : Nat, k ≤ min 60 L.length ∧ min 60 L.length - k ≤ gg ∧ s10 = .int .i64 k ∧ Aside0 (Own W wr (NL g gl gs ga gn gr b v8 v7 (.slice A L.length c) stop la n xs ys)))
      case atStart => exact ⟨0, Nat.zero_le _, by omega, rfl, H8⟩
      case round =>
        clear H8
        obtain ⟨k, hk, hg, rfl, HO⟩ := hrel
        have cl : wr.cell? ⟨gl, 0, none⟩ = some (.slice A L.length c) := HO.out.cell 2 rfl 0
        by_cases hlt : k < min 60 L.length
        · have hk1 : k < L.length := by omega
          have hk2 : k < 60 := by omega
          have d1 : decide ((k : Int) < (L.length : Int)) = true := decide_eq_true (by omega)
          have d2 : decide ((k : Int) < 60) = true := decide_eq_true (by omega)
          have hw := wr1 (k : Int) (by omega) (by omega)
          obtain ⟨ad, rfl, hx0⟩ := at_I HC.out k hk1 rfl
          have hx : wr.cell? (ad.add k) = some (.int .i64 L[k]) := (HO.out.1.cell (World.block_lt_of_cell? W _ hx0)).trans hx0
          have HS := Aside0.mk (get_O HO.out (i := 0) (j := 1) (g := g) (v := v8) (xs := ys) ⟨rfl, rfl, by decide⟩ HR8.out (by omega) L[k])
          rw [HH.out _ (HG.out.has k _ hlt (List.getElem?_eq_getElem hk1))] at HS
          generalize L[k] = y at hx HS
          generalize valL ys y = z at HS
          clear hx0
          go_wp2_with (go_at_call 17; refine HS.out.mono ?_; rintro e w' ⟨rfl, hb2⟩; have HO2 := Aside0.mk (HO.out.below hb2); clear hb2)
          rw [hw]
          go_roundg (min 60 L.length - (k + 1))
          case measure => exact meas hlt hg
          case rel => exact ⟨k + 1, hlt, Nat.le_refl _, rfl, HO2⟩
        · obtain rfl : k = min 60 L.length := by omega
          have c6 : wr.cell? ⟨gr, 0, none⟩ = some (.bool true) := HO.out.cell 6 rfl 0
          have c7 : wr.cell? ⟨gn, 0, none⟩ = some (.int .i64 (n : Nat)) := HO.out.cell 5 rfl 0
          have HN := Aside0.mk hn8
          by_cases h1 : min 60 L.length < L.length
          · have h2 : ¬ min 60 L.length < 60 := by omega
            have d1 : decide (((min 60 L.length : Nat) : Int) < (L.length : Int)) = true := decide_eq_true (by omega)
            have d2 : decide (((min 60 L.length : Nat) : Int) < 60) = false := decide_eq_false (by omega)
            have d3 : decide ((n : Int) ≤ min (L.length : Int) 60) = true := decide_eq_true (by have := HGL.out; omega)
            generalize min 60 L.length = k at *
            go_wp2
            go_ret
            exact ⟨rfl, HO.out.1⟩
          · have d1 : decide (((min 60 L.length : Nat) : Int) < (L.length : Int)) = false := decide_eq_false (by omega)
            have d3 : decide ((n : Int) ≤ min (L.length : Int) 60) = true := decide_eq_true (by have := HGL.out; omega)
            generalize min 60 L.length = k at *
            go_wp2
            go_ret
            exact ⟨rfl, HO.out.1⟩
end Go.Proofs.Ytfnfhiggmppecaa.GO.MI
