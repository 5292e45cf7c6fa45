/- A log's place on a device: right, sector, find. Conditions: the table lies as the program lays it; what the device holds there is what a log writes there. -/
import Derived.Test.YtegeaemkkbenfaaDoorWDev
namespace Go.Proofs.YtegeaemkkbenfaaDoor.Ownd
open Go.RowKit Go.Proofs.YtegeaemkkbenfaaDoorW.PrintWords Go.Proofs.YtegeaemkkbenfaaDoorW.PrintLast Go.Proofs.YtegeaemkkbenfaaDoorW.PrintMore
set_option linter.unusedVariables false
set_option linter.unusedSimpArgs false
section
variable {P : Program} {ops : Array Oper} {rest : List Oper} {o : Oper} {a : Act} {Q : Exit → Act → World → Prop} {W : World}
/-- A whole variable is written. -/
theorem Own.store_all {w : World} {l : List Thing} (hO : Own w W l) (j : Nat) {g : Nat} {t : TypeId} {old : Array Value} (hj : l[j]? = some (.box g (.cells old t (0, 0)))) (hgd : o.guard = none) (hN : o.dst = none) (ty : TypeId) (x y : Operand) (ho : o.op = .store ty x y) (cells : Array Value)
    (hx : a.eval x = .pointer (some ⟨g, 0, none⟩)) (hy : a.eval y = .agg cells) (hi : (P.info? ty).map (·.size) = some cells.size) (hold : old.size = cells.size) (h1 : cells.all (·.oneCell') = true)
    (h : ∀ w1, Own w w1 (l.set j (.box g (.cells cells t (0, 0)))) → wpList P ops Q rest a w1) : wpList P ops Q (o :: rest) a W := by
  refine wpList_plain hgd fun K hK => ?_
  have hb := hO.box j hj
  refine wp_store_row ty x y ho g cells hx hy t old hb hi hold h1 ?_
  have e : W.setRow g cells = { W with heap := W.heap.setIfInBounds g (.cells cells t (0, 0)) } := by
    unfold World.setRow
    congr 1
    apply Array.ext_getElem?
    intro k
    rw [Array.getElem?_modify, Array.getElem?_setIfInBounds]
    by_cases hk : g = k
    · subst hk
      rw [if_pos rfl, if_pos rfl, hb]
      simp [blk_lt hb]
    · rw [if_neg hk, if_neg hk]
  rw [e]
  have hp := hO.put j hj (.cells cells t (0, 0))
  rw [hN]
  exact hK _ _ (h _ hp)
theorem HL.store_all {w : World} {ds : List (Nat × Dev)} {l : List Thing} (hO : HL w W ds l) (j : Nat) {g : Nat} {t : TypeId} {old : Array Value} (hj : l[j]? = some (.box g (.cells old t (0, 0)))) (hgd : o.guard = none) (hN : o.dst = none) (ty : TypeId) (x y : Operand) (ho : o.op = .store ty x y) (cells : Array Value)
    (hx : a.eval x = .pointer (some ⟨g, 0, none⟩)) (hy : a.eval y = .agg cells) (hi : (P.info? ty).map (·.size) = some cells.size) (hold : old.size = cells.size) (h1 : cells.all (·.oneCell') = true)
    (h : ∀ w1, HL w w1 ds (l.set j (.box g (.cells cells t (0, 0)))) → wpList P ops Q rest a w1) : wpList P ops Q (o :: rest) a W := by
  obtain ⟨rs, r1, r2, hO⟩ := hO
  refine Own.store_all hO _ ((HL.index rs j).trans hj) hgd hN ty x y ho cells hx hy hi hold h1 fun w1 hw => h w1 ⟨rs, r1, r2, ?_⟩
  rwa [HL.setIndex] at hw
end
theorem HL.box {w W : World} {ds : List (Nat × Dev)} {rest : List Thing} {g : Nat} {ob : Obj} (h : HL w W ds rest) (j : Nat) (hj : rest[j]? = some (.box g ob)) : W.heap[g]? = some ob := by
  obtain ⟨rs, _, _, hO⟩ := h
  exact hO.box _ ((HL.index rs j).trans hj)
/-- The first of the further things is forgotten. -/
theorem HL.drop1 {w W : World} {ds : List (Nat × Dev)} {x : Thing} {rest : List Thing} (h : HL w W ds (x :: rest)) : HL w W ds rest := by
  obtain ⟨rs, r1, r2, hO⟩ := h
  exact ⟨rs, r1, r2, hO.shut⟩
variable {w W : World} {l1 l2 : List (Nat × Dev)} {rest : List Thing} {d : Nat} {D : Dev} {T : TD}
/-- What stands where a log is. -/
structure Where (at_ half G : Int) (i : Int) (c : Ct) : Prop where
  ok : c.Ok
  isM : i = at_ ∨ i = at_ + 1 → c.isM
  isP : at_ + 2 ≤ i → c.isP
  m_le : ∀ e h, c = .m e h → e ≤ G
  p_le : ∀ e k s, c = .p e k s → e ≤ G
structure TD.All (T : TD) (Q : Int → Ct → Prop) : Prop where
  last : ∀ i c, T.last i = some c → Q i c
  wait : ∀ p ∈ T.wait, Q p.1 p.2
theorem Where.z {at_ half G i : Int} : Where at_ half G i .z := ⟨trivial, fun _ => trivial, fun _ => trivial, fun _ _ h => by (cases h), fun _ _ _ h => by (cases h)⟩
theorem lastT_mem {l : List PC} {i : Int} {c : Ct} (h : lastT l i = some c) : (i, c) ∈ l := by
  unfold lastT at h
  obtain ⟨p, h1, rfl⟩ := Option.map_eq_some_iff.mp h
  have h2 := List.find?_some h1
  have h3 := List.mem_of_find?_eq_some h1
  obtain rfl : p.1 = i := of_decide_eq_true h2
  exact List.mem_reverse.mp h3
theorem TD.All.get {Q : Int → Ct → Prop} (h : T.All Q) {i : Int} (hz : Q i .z) : Q i (T.get i) := by
  unfold TD.get
  cases hl : lastT T.wait i with
  | some c => exact h.wait _ (lastT_mem hl)
  | none =>
    show Q i ((T.last i).getD .z)
    cases hc : T.last i with
    | some c => exact h.last i c hc
    | none => exact hz
def rightB (size : Nat) (at_ half : Int) : Bool := decide (0 ≤ at_) && (decide (1 ≤ half) && (decide (half ≤ 512) && decide (at_ ≤ size - 2 - 2 * half)))
set_option maxHeartbeats 4000000 in
set_option maxRecDepth 100000 in
theorem right_calls (h : HL w W (l1 ++ (d, D) :: l2) rest) (at_ half : Int) (hz : D.size ≤ 5000) : Calls Tryd.prog 26 #[.agg #[.pointer (some ⟨d, 0, none⟩), .int .i64 at_, .int .i64 half]] W fun ex W' => ex = .returned (.bool (rightB D.size at_ half)) ∧ HL w W' (l1 ++ (d, D) :: l2) rest := by
  have h1 := h.alloc (.cells #[.pointer (some ⟨d, 0, none⟩), .int .i64 at_, .int .i64 half] 61)
  have c0 := h1.cell 0 rfl 0
  have c1 := h1.cell 0 rfl 1
  have c2 := h1.cell 0 rfl 2
  have H1 := Aside0.mk h1.drop1
  clear h1 h
  generalize hwb : W.alloc (.cells #[.pointer (some ⟨d, 0, none⟩), .int .i64 at_, .int .i64 half] 61) = wb at c0 c1 c2 H1
  replace c0 : wb.cell? ⟨W.heap.size, 0, none⟩ = some (.pointer (some ⟨d, 0, none⟩)) := c0
  replace c1 : wb.cell? ⟨W.heap.size, 1, none⟩ = some (.int .i64 at_) := c1
  replace c2 : wb.cell? ⟨W.heap.size, 2, none⟩ = some (.int .i64 half) := c2
  have HSZ := Aside0.mk (fun (n : Nat) => size_HL (H1.out.below (pw_below_drewN (Below.refl _ _) n)))
  go_enter Tryd.func26, Tryd.ntmps26
  go_upto_region 1 with fail
  try rw [hwb]
  clear hwb
  generalize W.heap.size = gb at c0 c1 c2 ⊢
  by_cases a0 : 0 ≤ at_
  · by_cases b0 : 1 ≤ half
    · by_cases b1 : half ≤ 512
      · have e0 : decide (0 ≤ at_) = true := decide_eq_true a0
        have e1 : decide (1 ≤ half) = true := decide_eq_true b0
        have e2 : decide (half ≤ 512) = true := decide_eq_true b1
        have w1 : IntKind.i64.wrap ((D.size : Int) - 2) = (D.size : Int) - 2 := by rw [IntKind.wrap_i64]; omega
        have w2 : IntKind.i64.wrap (2 * half) = 2 * half := by rw [IntKind.wrap_i64]; omega
        have w3 : IntKind.i64.wrap ((D.size : Int) - 2 - 2 * half) = (D.size : Int) - 2 - 2 * half := by rw [IntKind.wrap_i64]; omega
        have hr : rightB D.size at_ half = decide (at_ ≤ (D.size : Int) - 2 - 2 * half) := by unfold rightB; rw [e0, e1, e2]; simp
        have HR := Aside0.mk hr
        clear hr
        go_quiet ((go_at_call 43; exact Calls.quiet_of_same (HSZ.out _)))
        go_wp2_with fail
        go_ret
        exact ⟨by rw [HR.out]; rfl, H1.out.below (pw_below_drewN (Below.refl _ _) nq)⟩
      · have e0 : decide (0 ≤ at_) = true := decide_eq_true a0
        have e1 : decide (1 ≤ half) = true := decide_eq_true b0
        have e2 : decide (half ≤ 512) = false := decide_eq_false b1
        have HR : Aside0 (rightB D.size at_ half = false) := ⟨by unfold rightB; rw [e0, e1, e2]; rfl⟩
        go_quiet (fail)
        go_wp2_with fail
        go_ret
        exact ⟨by rw [HR.out]; rfl, H1.out.below (pw_below_drewN (Below.refl _ _) nq)⟩
    · have e0 : decide (0 ≤ at_) = true := decide_eq_true a0
      have e1 : decide (1 ≤ half) = false := decide_eq_false b0
      have HR : Aside0 (rightB D.size at_ half = false) := ⟨by unfold rightB; rw [e0, e1]; rfl⟩
      go_quiet (fail)
      go_wp2_with fail
      go_ret
      exact ⟨by rw [HR.out]; rfl, H1.out.below (pw_below_drewN (Below.refl _ _) nq)⟩
  · have e0 : decide (0 ≤ at_) = false := decide_eq_false a0
    have HR : Aside0 (rightB D.size at_ half = false) := ⟨by unfold rightB; rw [e0]; rfl⟩
    go_quiet (fail)
    go_wp2_with fail
    go_ret
    exact ⟨by rw [HR.out]; rfl, H1.out.below (pw_below_drewN (Below.refl _ _) nq)⟩
set_option maxHeartbeats 4000000 in
set_option maxRecDepth 100000 in
theorem sector_calls (vd : Value) (at_ half which i : Int) (h0 : 0 ≤ at_ ∧ at_ ≤ 5000) (h1 : 0 ≤ half ∧ half ≤ 512) (h2 : 0 ≤ which ∧ which ≤ 1) (h3 : 0 ≤ i ∧ i ≤ 5000) (m : Int) (hm : which * half = m) :
    Calls Tryd.prog 29 #[.agg #[vd, .int .i64 at_, .int .i64 half], .int .i64 which, .int .i64 i] W fun ex W' => ex = .returned (.int .i64 (at_ + 2 + m + i)) ∧ Below W.heap.size W W' := by
  have hm2 : 0 ≤ m ∧ m ≤ 512 := by
    rcases (show which = 0 ∨ which = 1 by omega) with rfl | rfl <;> omega
  have hb := blk_new W (.cells #[vd, .int .i64 at_, .int .i64 half] 61)
  have c1 : (W.alloc (.cells #[vd, .int .i64 at_, .int .i64 half] 61)).cell? ⟨W.heap.size, 1, none⟩ = some (.int .i64 at_) := (blk_cell hb 1).trans rfl
  have c2 : (W.alloc (.cells #[vd, .int .i64 at_, .int .i64 half] 61)).cell? ⟨W.heap.size, 2, none⟩ = some (.int .i64 half) := (blk_cell hb 2).trans rfl
  have w1 : wrap64 (at_ + 2) = at_ + 2 := by unfold wrap64; omega
  have w2 : wrap64 (which * half) = m := by rw [hm]; unfold wrap64; omega
  have w3 : wrap64 (at_ + 2 + m) = at_ + 2 + m := by unfold wrap64; omega
  have w4 : wrap64 (at_ + 2 + m + i) = at_ + 2 + m + i := by unfold wrap64; omega
  clear hb
  go_enter Tryd.func29, Tryd.ntmps29
  go_wp2
  go_ret
  exact ⟨by first | rfl | rw [hm], below_alloc (Below.refl _ _) _⟩
end Go.Proofs.YtegeaemkkbenfaaDoor.Ownd
