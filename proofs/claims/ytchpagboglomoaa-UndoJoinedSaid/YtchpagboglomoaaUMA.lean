/- order.Map: keys in order (int), the pairs' kind, slices.BinarySearchFunc with order's own closure, find. Conditions: the keys rise; at most 1000000 pairs. -/
import Derived.Test.YtchpagboglomoaaOMem
import Derived.Test.YtchpagboglomoaaProg
import Derived.WalkKit
import Derived.KernelRfl
import Derived.Laws.Cover1
import Derived.Shelf.Abstract
import Derived.Deep.LoopGhost
import Derived.Sort.Walk0
namespace Go.Proofs.Ytchpagboglomoaa.GP.MU
open Go.RowKit Go.Proofs.Ytchpagboglomoaa.Ownd Go.Proofs.YtchpagboglomoaaW.PrintWords Go.Proofs.YtchpagboglomoaaW.PrintLast Go.Proofs.YtchpagboglomoaaW.PrintMore
set_option linter.unusedVariables false
set_option linter.unusedSimpArgs false
/-- A slice as it lies in a pair: where, how long, how much room. What it leads to is told apart. -/
abbrev Hdr := Option Addr × (Nat × Nat)
abbrev hz : Hdr := (none, 0, 0)
abbrev kH : Kd Hdr := Kd.scalar (fun h => .slice h.1 h.2.1 h.2.2) (fun _ => rfl)
theorem heap_H : Kd.Heap kH := ⟨fun _ h => h⟩
def lt (a b : Int) : Bool := decide (a < b)
theorem lt_is (a b : Int) : lt a b = true ↔ a < b := by unfold lt; rw [decide_eq_true_iff]
theorem lt_irrefl (a : Int) : lt a a = false := by unfold lt; rw [decide_eq_false_iff_not]; omega
theorem lt_trans {a b c : Int} (h : lt a b = true) (h' : lt b c = true) : lt a c = true := by rw [lt_is] at *; omega
theorem lt_total {a b : Int} (h : lt a b = false) (h' : lt b a = false) : a = b := by
  unfold lt at h h'
  rw [decide_eq_false_iff_not] at h h'
  omega
def cmpv (a b : Int) : Int := if lt a b = true then -1 else if lt b a = true then 1 else 0
theorem nan_calls (a : Int) (W : World) : Calls Try.prog 62 #[.int .i64 a] W fun ex W' => ex = .returned (.bool false) ∧ W' = W := by
  go_enter Try.func62, Try.ntmps62
  go_wp2
  go_ret
  exact ⟨by simp, rfl⟩
set_option maxHeartbeats 1000000 in
theorem cmp_calls (a b : Int) (W : World) : Calls Try.prog 55 #[.int .i64 a, .int .i64 b] W fun ex W' => ex = .returned (.int .i64 (cmpv a b)) ∧ W' = W := by
  unfold cmpv
  cases h1 : lt a b with
  | true =>
    have h1' := h1
    unfold lt at h1'
    go_enter Try.func55, Try.ntmps55
    go_wp2_with (go_at_call 62; refine (nan_calls _ _).mono ?_; rintro e w' ⟨rfl, rfl⟩)
    go_ret
    exact ⟨rfl, rfl⟩
  | false =>
    have h1' := h1
    unfold lt at h1'
    cases h2 : lt b a with
    | true =>
      have h2' := h2
      unfold lt at h2'
      have h3 : decide (b < a) = true := h2'
      go_enter Try.func55, Try.ntmps55
      go_wp2_with (go_at_call 62; refine (nan_calls _ _).mono ?_; rintro e w' ⟨rfl, rfl⟩)
      go_ret
      exact ⟨rfl, rfl⟩
    | false =>
      have h2' := h2
      unfold lt at h2'
      go_enter Try.func55, Try.ntmps55
      go_wp2_with (go_at_call 62; refine (nan_calls _ _).mono ?_; rintro e w' ⟨rfl, rfl⟩)
      go_ret
      exact ⟨rfl, rfl⟩
set_option maxHeartbeats 1000000 in
theorem find1_calls (a : Int) (n : Hdr) (b : Int) (W : World) : Calls Try.prog 54 #[.agg #[.int .i64 a, .slice n.1 n.2.1 n.2.2], .int .i64 b] W fun ex W' => ex = .returned (.int .i64 (cmpv a b)) ∧ Below W.heap.size W W' := by
  have hup := Try.underlying102
  go_enter Try.func54, Try.ntmps54
  go_wp2_with (go_at_call 55; refine (cmp_calls a b _).mono ?_; rintro e w' ⟨rfl, rfl⟩)
  go_ret
  exact ⟨rfl, below_alloc (Below.refl _ _) _⟩
abbrev P2 := Int × Hdr
abbrev kP : Kd P2 := Kd.pair (Kd.int .i64) kH
theorem kP_is {W : World} {x : P2} {cs : List Value} (h : kP.K W x cs) : cs = [.int .i64 x.1, .slice x.2.1 x.2.2.1 x.2.2.2] := by
  obtain ⟨c0, c1, rfl, h0, h1⟩ := h
  have e0 : c0 = [.int .i64 x.1] := h0
  have e1 : c1 = [.slice x.2.1 x.2.2.1 x.2.2.2] := h1
  rw [e0, e1]; rfl
theorem kP_mk (W : World) (x : P2) : kP.K W x [.int .i64 x.1, .slice x.2.1 x.2.2.1 x.2.2.2] := ⟨[.int .i64 x.1], [.slice x.2.1 x.2.2.1 x.2.2.2], rfl, rfl, rfl⟩
theorem flatP (W W' : World) (x : P2) (c : List Value) (h : kP.K W x c) : kP.K W' x c := by rw [kP_is h]; exact kP_mk W' x
theorem at_P {w : World} {A : Option Addr} {n : Nat} {xs : List P2} (h : Kd.C kP w A n xs) (i : Nat) (h1 : i < xs.length) (hn : n = xs.length) : ∃ ad : Addr, A = some ad ∧ w.cell? (ad.add (i * 2)) = some (.int .i64 xs[i].1) ∧ w.cell? ⟨(ad.add (i * 2)).block, (ad.add (i * 2)).off + 1, none⟩ = some (.slice xs[i].2.1 xs[i].2.2.1 xs[i].2.2.2) := by
  obtain ⟨ad, c, e, _, hK, hc0⟩ := Kd.C_get h xs[i] (i : Int) (by omega) (by omega)
  rw [Int.toNat_natCast] at hK hc0
  rw [List.getD_eq_getElem?_getD, List.getElem?_eq_getElem h1, Option.getD_some] at hK
  obtain rfl := kP_is hK
  refine ⟨ad, e, ?_, ?_⟩
  · exact hc0 0 _ rfl
  · have h2 := hc0 1 _ rfl
    have h3 : ad.add (i * kP.sz + 1) = ⟨(ad.add (i * 2)).block, (ad.add (i * 2)).off + 1, none⟩ := by
      show ad.add (i * 2 + 1) = _
      unfold Addr.add
      rw [if_neg (by omega)]
      split
      · rename_i h0; simp only [h0, Nat.zero_add]
      · simp only [Nat.add_assoc]
    rwa [h3] at h2
/-- How many pairs' keys are less. -/
def pos : List P2 → Int → Nat
  | [], _ => 0
  | p :: r, k => if lt p.1 k = true then pos r k + 1 else 0
def Rise (l : List P2) : Prop := l.Pairwise fun a b => lt a.1 b.1 = true
theorem pos_le : ∀ (l : List P2) (k : Int), pos l k ≤ l.length
  | [], _ => Nat.le_refl 0
  | p :: r, k => by
    unfold pos
    split
    · have := pos_le r k; simp only [List.length_cons]; omega
    · exact Nat.zero_le _
theorem pos_lt : ∀ (l : List P2) (k : Int) (t : Nat) (h : t < pos l k), lt (l[t]'(Nat.lt_of_lt_of_le h (pos_le l k))).1 k = true
  | [], _, t, h => absurd h (Nat.not_lt_zero _)
  | p :: r, k, t, h => by
    unfold pos at h
    split at h
    · rename_i hp
      cases t with
      | zero => exact hp
      | succ t => exact pos_lt r k t (by omega)
    · exact absurd h (Nat.not_lt_zero _)
theorem pos_ge : ∀ (l : List P2) (k : Int) (hr : Rise l) (t : Nat) (h1 : pos l k ≤ t) (h2 : t < l.length), lt l[t].1 k = false
  | [], _, _, t, _, h2 => absurd h2 (Nat.not_lt_zero _)
  | p :: r, k, hr, t, h1, h2 => by
    have hr' := List.pairwise_cons.mp hr
    unfold pos at h1
    split at h1
    · cases t with
      | zero => omega
      | succ t => exact pos_ge r k hr'.2 t (by omega) (by simpa using h2)
    · rename_i hp
      cases t with
      | zero => simpa using hp
      | succ t =>
        rw [Bool.eq_false_iff]
        intro hlt
        exact hp (lt_trans (hr'.1 _ (List.getElem_mem (by simpa using h2))) hlt)
theorem pos_eq (l : List P2) (k : Int) (hr : Rise l) (q : Nat) (hq : q ≤ l.length) (h1 : ∀ t (h : t < q), lt (l[t]'(Nat.lt_of_lt_of_le h hq)).1 k = true) (h2 : ∀ t (h : t < l.length), q ≤ t → lt l[t].1 k = false) : q = pos l k := by
  rcases Nat.lt_trichotomy q (pos l k) with h | h | h
  · have := pos_lt l k q h
    rw [h2 q _ (Nat.le_refl _)] at this
    cases this
  · exact h
  · have := pos_ge l k hr (pos l k) (Nat.le_refl _) (by omega)
    rw [h1 _ h] at this
    cases this
/-- Is the key there? -/
def has (l : List P2) (k : Int) : Bool := match l[pos l k]? with
  | some p => decide (cmpv p.1 k = 0)
  | none => false
set_option maxHeartbeats 4000000 in
set_option maxRecDepth 1000000 in
theorem bs_calls {W : World} {A : Option Addr} {c : Nat} {l : List P2} (k : Int) (hC : Kd.C kP W A l.length l) (hr : Rise l) (hl : l.length ≤ 1000000) :
    Calls Try.prog 53 #[.slice A l.length c, .int .i64 k, .func (.func 54) #[] #[]] W fun ex W' => ex = .returned (.tuple #[.int .i64 (pos l k : Nat), .bool (has l k)]) ∧ Below W.heap.size W W' := by
  have HC := Aside0.mk hC
  have HR := Aside0.mk hr
  clear hC hr
  go_enter Try.func53, Try.ntmps53
  go_wp2
  go_loopg [9, 10] l.length (fun kx s9 s10 wr => ∃ lo hi : Nat, s9 = .int .i64 lo ∧ s10 = .int .i64 hi ∧ lo ≤ hi ∧ hi ≤ l.length ∧ hi - lo ≤ kx ∧ Aside0 (Below W.heap.size W wr) ∧
    Aside0 ((∀ t (h : t < l.length), t < lo → lt l[t].1 k = true) ∧ (∀ t (h : t < l.length), hi ≤ t → lt l[t].1 k = false)))
  case atStart => exact ⟨0, l.length, rfl, rfl, Nat.zero_le _, Nat.le_refl _, by omega, ⟨Below.refl _ _⟩, ⟨fun t _ ht => absurd ht (Nat.not_lt_zero _), fun t h1 h2 => by omega⟩⟩
  case round =>
    obtain ⟨lo, hi, rfl, rfl, hlh, hin, hg, HB, HI⟩ := hrel
    by_cases hlt : lo < hi
    · have hm : (lo + hi) / 2 < l.length := by omega
      obtain ⟨ad, rfl, hx0, hx1⟩ := at_P HC.out ((lo + hi) / 2) hm rfl
      replace hx0 := (HB.out.cell (World.block_lt_of_cell? W _ hx0)).trans hx0
      replace hx1 := (HB.out.cell (World.block_lt_of_cell? W _ hx1)).trans hx1
      have HM := Aside0.mk hm
      obtain ⟨mid, hmid⟩ : ∃ mid, (lo + hi) / 2 = mid := ⟨_, rfl⟩
      have hmi : ((lo : Int) + (hi : Int)) / 2 = (mid : Int) := by omega
      have hmd : mid < l.length := by omega
      generalize hv0 : l[(lo + hi) / 2].1 = v0 at hx0
      generalize hv1 : l[(lo + hi) / 2].2 = v1 at hx1
      rw [hmid] at hx0 hx1
      have hc := find1_calls v0 v1 k wr
      have hv : v0 = l[mid].1 := by rw [← hv0]; simp only [hmid]
      have HV := Aside0.mk hv
      clear hv hv0 hv1 HM hm
      by_cases hk : lt v0 k = true
      · have hcv : cmpv v0 k = -1 := by unfold cmpv; rw [if_pos hk]
        rw [hcv] at hc
        have HK := Aside0.mk hk
        clear hk hcv
        go_wp2_with (go_at_call 54; refine hc.mono ?_; rintro e w' ⟨rfl, hb'⟩)
        go_roundg (hi - (mid + 1))
        case measure => omega
        case rel =>
          refine ⟨mid + 1, hi, rfl, rfl, by omega, hin, Nat.le_refl _, ⟨below_step HB.out hb'⟩, ⟨fun t h1 h2 => ?_, HI.out.2⟩⟩
          by_cases he : t = mid
          · subst he
            rw [← HV.out]; exact HK.out
          · have hr' := List.pairwise_iff_getElem.mp HR.out t mid h1 hmd (by omega)
            exact lt_trans hr' (by rw [← HV.out]; exact HK.out)
      · have hk' : lt v0 k = false := by simpa using hk
        obtain ⟨cv, hcv, hcn⟩ : ∃ cv, cmpv v0 k = cv ∧ ¬ cv < 0 := ⟨_, rfl, by unfold cmpv; rw [if_neg hk]; split <;> omega⟩
        rw [hcv] at hc
        have hd : decide (cv < 0) = false := decide_eq_false hcn
        have HK := Aside0.mk hk'
        clear hk hk' hcv hcn
        go_wp2_with (go_at_call 54; refine hc.mono ?_; rintro e w' ⟨rfl, hb'⟩)
        go_roundg (mid - lo)
        case measure => omega
        case rel =>
          refine ⟨lo, mid, rfl, rfl, by omega, by omega, Nat.le_refl _, ⟨below_step HB.out hb'⟩, ⟨HI.out.1, fun t h1 h2 => ?_⟩⟩
          by_cases he : t = mid
          · subst he
            rw [← HV.out]; exact HK.out
          · rw [Bool.eq_false_iff]
            intro hlt2
            have hr' := List.pairwise_iff_getElem.mp HR.out mid t hmd h1 (by omega)
            have := lt_trans hr' hlt2
            rw [← HV.out, HK.out] at this
            cases this
    · obtain rfl : lo = hi := by omega
      have hp : lo = pos l k := pos_eq l k HR.out lo hin (fun t h => HI.out.1 t (by omega) h) (fun t h h2 => HI.out.2 t h h2)
      have HP := Aside0.mk hp
      have hh : has l k = (match l[lo]? with | some p => decide (cmpv p.1 k = 0) | none => false) := by unfold has; rw [← hp]
      have HH := Aside0.mk hh
      clear hp hh
      by_cases hn : lo < l.length
      · obtain ⟨ad, rfl, hx0, hx1⟩ := at_P HC.out lo hn rfl
        replace hx0 := (HB.out.cell (World.block_lt_of_cell? W _ hx0)).trans hx0
        replace hx1 := (HB.out.cell (World.block_lt_of_cell? W _ hx1)).trans hx1
        have hh := HH.out
        rw [List.getElem?_eq_getElem hn] at hh
        generalize hv : l[lo] = vv at hx0 hx1 hh
        obtain ⟨v0, v1⟩ := vv
        have hc := find1_calls v0 v1 k wr
        replace hh : has l k = decide (cmpv v0 k = 0) := hh
        generalize cmpv v0 k = cv at hc hh
        have HH2 := Aside0.mk hh
        clear hh hv HH
        go_wp2_with (go_at_call 54; refine hc.mono ?_; rintro e w' ⟨rfl, hb'⟩)
        go_ret2
        exact ⟨by rw [HH2.out, ← HP.out]; by_cases h0 : cv = 0 <;> simp [h0], below_step HB.out hb'⟩
      · have hh := HH.out
        rw [List.getElem?_eq_none (by omega)] at hh
        have HH2 := Aside0.mk hh
        clear hh HH
        go_wp2
        go_ret2
        exact ⟨by rw [HH2.out, ← HP.out]; rfl, HB.out⟩
set_option maxHeartbeats 1000000 in
/-- find. -/
theorem find_calls {W : World} {g : Nat} {A : Option Addr} {c : Nat} {l : List P2} (k : Int) (hg : W.heap[g]? = some (.cells #[.slice A l.length c] 29 (0, 0))) (hC : Kd.C kP W A l.length l) (hr : Rise l) (hl : l.length ≤ 1000000) :
    Calls Try.prog 43 #[.pointer (some ⟨g, 0, none⟩), .int .i64 k] W fun ex W' => ex = .returned (.tuple #[.int .i64 (pos l k : Nat), .bool (has l k)]) ∧ Below W.heap.size W W' := by
  have hcell : W.cell? ⟨g, 0, none⟩ = some (.slice A l.length c) := (blk_cell hg 0).trans rfl
  have HB := Aside0.mk (bs_calls (c := c) k hC hr hl)
  clear hg hC hr
  go_enter Try.func43, Try.ntmps43
  go_wp2_with (go_at_call 53; refine HB.out.mono ?_; rintro e w' ⟨rfl, hb'⟩)
  go_ret2
  exact ⟨rfl, hb'⟩
end Go.Proofs.Ytchpagboglomoaa.GP.MU
