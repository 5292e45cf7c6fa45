/- Open transactions: the plain model (transactions rising, each with its entries), how it lies in memory, what order.Map's acts do to it. No program in sight. -/
import Derived.Test.YtchpagboglomoaaUEnt
namespace Go.Proofs.Ytchpagboglomoaa.Ownd
set_option linter.unusedVariables false
theorem Own.reorder {w W : World} {l l' : List Thing} (h : Own w W l) (σ τ : Nat → Nat) (hτ : ∀ k, τ (σ k) = k) (hl : ∀ k : Nat, l'[k]? = l[σ k]?) : Own w W l' := by
  obtain ⟨hB, col, hc⟩ := h
  refine ⟨hB, fun k => τ (col k), fun i it hi => ?_⟩
  rw [hl] at hi
  exact (hc _ it hi).keep (fun k _ hk he => ⟨rfl, by show τ (col k) = i; rw [he, hτ]⟩)
theorem Own.down3 {w W : World} {x a b c : Thing} {l : List Thing} (h : Own w W (x :: a :: b :: c :: l)) : Own w W (a :: b :: c :: x :: l) :=
  h.reorder (fun k => match k with | 0 => 1 | 1 => 2 | 2 => 3 | 3 => 0 | k + 4 => k + 4) (fun k => match k with | 0 => 3 | 1 => 0 | 2 => 1 | 3 => 2 | k + 4 => k + 4) (fun k => by rcases k with _ | _ | _ | _ | k <;> rfl) (fun k => by rcases k with _ | _ | _ | _ | k <;> rfl)
theorem Own.up3 {w W : World} {x a b c : Thing} {l : List Thing} (h : Own w W (a :: b :: c :: x :: l)) : Own w W (x :: a :: b :: c :: l) :=
  h.reorder (fun k => match k with | 0 => 3 | 1 => 0 | 2 => 1 | 3 => 2 | k + 4 => k + 4) (fun k => match k with | 0 => 1 | 1 => 2 | 2 => 3 | 3 => 0 | k + 4 => k + 4) (fun k => by rcases k with _ | _ | _ | _ | k <;> rfl) (fun k => by rcases k with _ | _ | _ | _ | k <;> rfl)
theorem Own.swap2 {w W : World} {x a : Thing} {l : List Thing} (h : Own w W (x :: a :: l)) : Own w W (a :: x :: l) :=
  h.reorder (fun k => match k with | 0 => 1 | 1 => 0 | k + 2 => k + 2) (fun k => match k with | 0 => 1 | 1 => 0 | k + 2 => k + 2) (fun k => by rcases k with _ | _ | k <;> rfl) (fun k => by rcases k with _ | _ | k <;> rfl)
end Go.Proofs.Ytchpagboglomoaa.Ownd
namespace Go.Proofs.Ytchpagboglomoaa.GP.MU
open Go.RowKit Go.Proofs.Ytchpagboglomoaa.Ownd Go.Proofs.YtchpagboglomoaaW.PrintWords Go.Proofs.YtchpagboglomoaaW.PrintLast Go.Proofs.YtchpagboglomoaaW.PrintMore
set_option linter.unusedVariables false
set_option linter.unusedSimpArgs false
abbrev kE : Kd UE := Kd.pair (Kd.int .i64) (Kd.pair (Kd.int .i64) Kd.string)
theorem kE_is {W : World} {x : UE} {cs : List Value} (h : kE.K W x cs) : cs = [.int .i64 x.1, .int .i64 x.2.1, .string x.2.2] := by
  obtain ⟨c0, c1, rfl, h0, c2, c3, rfl, h2, h3⟩ := h
  have e0 : c0 = [.int .i64 x.1] := h0
  have e2 : c2 = [.int .i64 x.2.1] := h2
  have e3 : c3 = [.string x.2.2] := h3
  rw [e0, e2, e3]; rfl
theorem kE_mk (W : World) (x : UE) : kE.K W x [.int .i64 x.1, .int .i64 x.2.1, .string x.2.2] := ⟨[.int .i64 x.1], [.int .i64 x.2.1, .string x.2.2], rfl, rfl, [.int .i64 x.2.1], [.string x.2.2], rfl, rfl, rfl⟩
theorem flatE (W W' : World) (x : UE) (c : List Value) (h : kE.K W x c) : kE.K W' x c := by rw [kE_is h]; exact kE_mk W' x
theorem heap_E : Kd.Heap kE := Kd.heap_pair (Kd.heap_int _) (Kd.heap_pair (Kd.heap_int _) Kd.heap_string)
def zE : Value := .agg #[.int .i64 (0 : Int), .int .i64 (0 : Int), .string ByteArray.empty]
/-- A header leads to entries. -/
def Hd (W : World) (h : Hdr) (es : List UE) : Prop := h.2.1 = es.length ∧ es.length ≤ h.2.2 ∧ kE.C W h.1 es.length es
theorem Hd.nil (W : World) : Hd W hz [] := ⟨rfl, Nat.le_refl _, Kd.C_nil _ _⟩
theorem Hd.cut {W : World} {A : Option Addr} {n c : Nat} {es : List UE} (h : Hd W (A, n, c) es) (m : Nat) (hm : m ≤ es.length) : Hd W (A, m, c) (es.take m) := by
  obtain ⟨h1, h2, h3⟩ := h
  have hl : (es.take m).length = m := by rw [List.length_take]; omega
  exact ⟨hl.symm, by rw [hl]; exact Nat.le_trans hm h2, Kd.C_take h3 hm⟩
/-- Transactions rising, each with its entries. -/
abbrev Opn := List (Int × List UE)
inductive Two {α β : Type} (R : α → β → Prop) : List α → List β → Prop
  | nil : Two R [] []
  | cons {a : α} {b : β} {l : List α} {r : List β} : R a b → Two R l r → Two R (a :: l) (b :: r)
theorem Two.length {α β : Type} {R : α → β → Prop} {l : List α} {r : List β} (h : Two R l r) : l.length = r.length := by
  induction h with
  | nil => rfl
  | cons _ _ ih => simp only [List.length_cons, ih]
theorem Two.imp {α β : Type} {R R' : α → β → Prop} (hR : ∀ a b, R a b → R' a b) {l : List α} {r : List β} (h : Two R l r) : Two R' l r := by
  induction h with
  | nil => exact .nil
  | cons h1 _ ih => exact .cons (hR _ _ h1) ih
theorem Two.get {α β : Type} {R : α → β → Prop} {l : List α} {r : List β} (h : Two R l r) : ∀ (i : Nat) (hi : i < l.length) (hj : i < r.length), R l[i] r[i] := by
  induction h with
  | nil => intro i hi; simp at hi
  | cons h1 _ ih =>
    intro i hi hj
    cases i with
    | zero => exact h1
    | succ i => exact ih i (by simpa using hi) (by simpa using hj)
theorem Two.mk {α β : Type} {R : α → β → Prop} : ∀ {l : List α} {r : List β}, l.length = r.length → (∀ (i : Nat) (hi : i < l.length) (hj : i < r.length), R l[i] r[i]) → Two R l r
  | [], [], _, _ => .nil
  | [], b :: r, h, _ => by simp at h
  | a :: l, [], h, _ => by simp at h
  | a :: l, b :: r, h, hR => .cons (hR 0 (by simp) (by simp)) (Two.mk (by simpa using h) (fun i hi hj => hR (i + 1) (by simpa using hi) (by simpa using hj)))
def HdK (W : World) (x : P2) (m : Int × List UE) : Prop := x.1 = m.1 ∧ Hd W x.2 m.2
def Heads (W : World) (xs : List P2) (M : Opn) : Prop := Two (HdK W) xs M
def getM : Opn → Int → Option (List UE)
  | [], _ => none
  | a :: r, k => if k < a.1 then none else if a.1 = k then some a.2 else getM r k
def setM : Opn → Int → List UE → Opn
  | [], k, e => [(k, e)]
  | a :: r, k, e => if k < a.1 then (k, e) :: a :: r else if a.1 = k then (k, e) :: r else a :: setM r k e
def delM : Opn → Int → Opn
  | [], _ => []
  | a :: r, k => if k < a.1 then a :: r else if a.1 = k then r else a :: delM r k
def ent (M : Opn) (k : Int) : List UE := (getM M k).getD []
def isM (M : Opn) (k : Int) : Bool := (getM M k).isSome
def addM (M : Opn) (k : Int) (x : UE) : Opn := setM M k (ent M k ++ [x])
theorem pos_cons (p : P2) (r : List P2) (k : Int) : pos (p :: r) k = if p.1 < k then pos r k + 1 else 0 := by
  show (if lt p.1 k = true then _ else _) = _
  by_cases h : p.1 < k
  · rw [if_pos ((lt_is _ _).mpr h), if_pos h]
  · rw [if_neg (fun h' => h ((lt_is _ _).mp h')), if_neg h]
theorem cmpv_zero (a b : Int) : cmpv a b = 0 ↔ a = b := by
  unfold cmpv
  by_cases h : a < b
  · rw [if_pos ((lt_is _ _).mpr h)]; constructor <;> intro h' <;> omega
  · rw [if_neg (fun h' => h ((lt_is _ _).mp h'))]
    by_cases h2 : b < a
    · rw [if_pos ((lt_is _ _).mpr h2)]; constructor <;> intro h' <;> omega
    · rw [if_neg (fun h' => h2 ((lt_is _ _).mp h'))]; constructor <;> intro h' <;> omega
theorem has_cons (p : P2) (r : List P2) (k : Int) : has (p :: r) k = if p.1 < k then has r k else decide (p.1 = k) := by
  unfold has
  rw [pos_cons]
  by_cases h : p.1 < k
  · rw [if_pos h, if_pos h, List.getElem?_cons_succ]
  · rw [if_neg h, if_neg h, List.getElem?_cons_zero]
    show decide (cmpv p.1 k = 0) = _
    rw [decide_eq_decide, cmpv_zero]
theorem setL_cons (p : P2) (r : List P2) (k : Int) (x : Hdr) : setL (p :: r) k x = if p.1 < k then p :: setL r k x else if p.1 = k then (k, x) :: r else (k, x) :: p :: r := by
  unfold setL
  rw [has_cons, pos_cons]
  by_cases h : p.1 < k
  · rw [if_pos h, if_pos h, if_pos h]
    split
    · rw [List.set_cons_succ]
    · rw [List.take_succ_cons, List.drop_succ_cons, List.cons_append]
  · rw [if_neg h, if_neg h, if_neg h]
    by_cases h2 : p.1 = k
    · rw [if_pos (decide_eq_true h2), if_pos h2, List.set_cons_zero]
    · rw [if_neg (by rw [decide_eq_false h2]; decide), if_neg h2]; rfl
theorem delL_cons (p : P2) (r : List P2) (k : Int) : delL (p :: r) k = if p.1 < k then p :: delL r k else if p.1 = k then r else p :: r := by
  unfold delL
  rw [has_cons, pos_cons]
  by_cases h : p.1 < k
  · rw [if_pos h, if_pos h, if_pos h]
    split
    · rw [List.eraseIdx_cons_succ]
    · rfl
  · rw [if_neg h, if_neg h, if_neg h]
    by_cases h2 : p.1 = k
    · rw [if_pos (decide_eq_true h2), if_pos h2, List.eraseIdx_cons_zero]
    · rw [if_neg (by rw [decide_eq_false h2]; decide), if_neg h2]
theorem valL_cons (p : P2) (r : List P2) (k : Int) : valL (p :: r) k = if p.1 < k then valL r k else if p.1 = k then p.2 else hz := by
  unfold valL
  rw [has_cons, pos_cons]
  by_cases h : p.1 < k
  · rw [if_pos h, if_pos h, if_pos h, List.getD_cons_succ]
  · rw [if_neg h, if_neg h, if_neg h]
    by_cases h2 : p.1 = k
    · rw [if_pos (decide_eq_true h2), if_pos h2, List.getD_cons_zero]
    · rw [if_neg (by rw [decide_eq_false h2]; decide), if_neg h2]
theorem getM_cons (m : Int × List UE) (r : Opn) (k : Int) : getM (m :: r) k = if k < m.1 then none else if m.1 = k then some m.2 else getM r k := rfl
theorem Heads.has {W : World} {xs : List P2} {M : Opn} (h : Heads W xs M) (k : Int) : MU.has xs k = isM M k := by
  induction h with
  | nil => rfl
  | @cons p m l r h1 _ ih =>
    rw [has_cons, ih, h1.1]
    unfold isM
    rw [getM_cons]
    by_cases h : m.1 < k
    · rw [if_pos h, if_neg (show ¬ k < m.1 by omega), if_neg (show ¬ m.1 = k by omega)]
    · rw [if_neg h]
      by_cases h2 : m.1 = k
      · rw [if_neg (show ¬ k < m.1 by omega), if_pos h2, decide_eq_true h2]; rfl
      · rw [if_pos (show k < m.1 by omega), decide_eq_false h2]; rfl
theorem Heads.val {W : World} {xs : List P2} {M : Opn} (h : Heads W xs M) (k : Int) : Hd W (valL xs k) (ent M k) := by
  induction h with
  | nil => exact Hd.nil W
  | @cons p m l r h1 _ ih =>
    rw [valL_cons, h1.1]
    unfold ent
    rw [getM_cons]
    by_cases h : m.1 < k
    · rw [if_pos h, if_neg (show ¬ k < m.1 by omega), if_neg (show ¬ m.1 = k by omega)]; exact ih
    · rw [if_neg h]
      by_cases h2 : m.1 = k
      · rw [if_neg (show ¬ k < m.1 by omega), if_pos h2, if_pos h2]; exact h1.2
      · rw [if_pos (show k < m.1 by omega), if_neg h2]; exact Hd.nil W
theorem Heads.set {W : World} {xs : List P2} {M : Opn} (h : Heads W xs M) (k : Int) {x : Hdr} {es : List UE} (hx : Hd W x es) : Heads W (setL xs k x) (setM M k es) := by
  induction h with
  | nil => exact .cons ⟨rfl, hx⟩ .nil
  | @cons p m l r h1 h2 ih =>
    rw [setL_cons, h1.1]
    show Two (HdK W) _ (if k < m.1 then _ else _)
    by_cases h : m.1 < k
    · rw [if_pos h, if_neg (show ¬ k < m.1 by omega), if_neg (show ¬ m.1 = k by omega)]; exact .cons h1 ih
    · rw [if_neg h]
      by_cases h3 : m.1 = k
      · rw [if_neg (show ¬ k < m.1 by omega), if_pos h3, if_pos h3]; exact .cons ⟨rfl, hx⟩ h2
      · rw [if_pos (show k < m.1 by omega), if_neg h3]; exact .cons ⟨rfl, hx⟩ (.cons h1 h2)
theorem Heads.del {W : World} {xs : List P2} {M : Opn} (h : Heads W xs M) (k : Int) : Heads W (delL xs k) (delM M k) := by
  induction h with
  | nil => exact .nil
  | @cons p m l r h1 h2 ih =>
    rw [delL_cons, h1.1]
    show Two (HdK W) _ (if k < m.1 then _ else _)
    by_cases h : m.1 < k
    · rw [if_pos h, if_neg (show ¬ k < m.1 by omega), if_neg (show ¬ m.1 = k by omega)]; exact .cons h1 ih
    · rw [if_neg h]
      by_cases h3 : m.1 = k
      · rw [if_neg (show ¬ k < m.1 by omega), if_pos h3, if_pos h3]; exact h2
      · rw [if_pos (show k < m.1 by omega), if_neg h3]; exact .cons h1 h2
theorem Heads.keys {W : World} {xs : List P2} {M : Opn} (h : Heads W xs M) : xs.map (·.1) = M.map (·.1) := by
  induction h with
  | nil => rfl
  | cons h1 _ ih => rw [List.map_cons, List.map_cons, h1.1, ih]
def RiseM (M : Opn) : Prop := M.Pairwise fun a b => a.1 < b.1
theorem Heads.rise {W : World} {xs : List P2} {M : Opn} (h : Heads W xs M) (hr : Rise xs) : RiseM M := by
  have h1 : (xs.map (·.1)).Pairwise fun a b => a < b := by
    rw [List.pairwise_map]
    exact hr.imp (fun {a b} h => (lt_is _ _).mp h)
  rw [h.keys, List.pairwise_map] at h1
  exact h1
theorem setM_len (M : Opn) (k : Int) (e : List UE) : (setM M k e).length ≤ M.length + 1 := by
  induction M with
  | nil => simp [setM]
  | cons a r ih =>
    unfold setM
    split
    · simp
    · split
      · simp
      · simp only [List.length_cons]; omega
theorem delM_len (M : Opn) (k : Int) : (delM M k).length ≤ M.length := by
  induction M with
  | nil => simp [delM]
  | cons a r ih =>
    unfold delM
    split
    · simp
    · split
      · simp
      · simp only [List.length_cons]; omega
/-- The things an Open is made of: its variable, its row of headers, what they lead to. -/
abbrev oB (g : Nat) (v : Value) : Thing := .box g (.cells #[v] 29 (0, 0))
abbrev oR (v : Value) (xs : List P2) : Thing := .row kP 102 v xs
structure IsOpen (xs : List P2) (F : World → Prop) (M : Opn) : Prop where
  rise : Rise xs
  heads : ∀ W : World, F W → Heads W xs M
abbrev OpenOwn (w W : World) (g : Nat) (M : Opn) (rest : List Thing) : Prop := ∃ v xs F, Own w W (oB g v :: oR v xs :: .fact F :: rest) ∧ IsOpen xs F M
theorem OpenOwn.len {w W : World} {v : Value} {xs : List P2} {F : World → Prop} {M : Opn} {g : Nat} {rest : List Thing} (h : Own w W (oB g v :: oR v xs :: .fact F :: rest)) (hi : IsOpen xs F M) : xs.length = M.length := (hi.heads W (h.now 2 rfl)).length
theorem OpenOwn.rise {w W : World} {g : Nat} {M : Opn} {rest : List Thing} (h : OpenOwn w W g M rest) : RiseM M := by
  obtain ⟨v, xs, F, hO, hi⟩ := h
  exact (hi.heads W (hO.now 2 rfl)).rise hi.rise
end Go.Proofs.Ytchpagboglomoaa.GP.MU
