/- A device whose power is to fail at a command, and one whose power fails just ahead of it: plainly. Conditions: none. -/
import Derived.Test.YtegeaemkkbenfaaDoorDActs
namespace Go.Proofs.YtegeaemkkbenfaaDoor.Ownd
open Go.RowKit Go.Proofs.YtegeaemkkbenfaaDoorW.PrintWords Go.Proofs.YtegeaemkkbenfaaDoorW.PrintLast Go.Proofs.YtegeaemkkbenfaaDoorW.PrintMore
set_option linter.unusedVariables false
set_option linter.unusedSimpArgs false
def fzA (f : Int → Option ByteArray) (l : List PW) (fu : Int) (kp : List Int) (c : Int) : Dev := { size := 4, last := f, wait := l, off := false, fuse := fu, keep := kp, cmds := c }
def fzB (f : Int → Option ByteArray) (c : Int) : Dev := { size := 4, last := f, wait := [], off := true, fuse := 0, keep := [], cmds := c }
inductive Rel (n k : Nat) (kp : List Int) : Dev → Dev → Prop
  | ahead (f : Int → Option ByteArray) (l : List PW) (cd cc : Int) : k < n → l.length ≤ k → Rel n k kp (fzA f l ((n - k : Nat) : Int) kp cd) (fzA f l 0 [] cc)
  | behind (f : Int → Option ByteArray) (cd cc : Int) : n ≤ k → Rel n k kp (fzB f cd) (fzB f cc)
theorem Rel.len {n k : Nat} {kp : List Int} {D C : Dev} (h : Rel n k kp D C) : D.wait.length ≤ k ∧ C.wait.length ≤ k := by
  cases h with
  | ahead f l cd cc h1 h2 => exact ⟨h2, h2⟩
  | behind f cd cc h1 => exact ⟨Nat.zero_le _, Nat.zero_le _⟩
/-- What an act does: a sync, or a write. -/
inductive Doing : (Dev → Int × Dev) → Prop
  | sync : Doing Dev.sync
  | write (i : Int) (s : ByteArray) : 0 ≤ i → i < 4 → s.size ≤ 256 → Doing (fun D => D.write i s)
theorem doing_off {F : Dev → Int × Dev} (h : Doing F) (f : Int → Option ByteArray) (c : Int) : F (fzB f c) = (7, fzB f c) := by
  cases h with
  | sync => rfl
  | write i s h0 h1 hs => rfl
theorem doing_one {F : Dev → Int × Dev} (h : Doing F) (f : Int → Option ByteArray) (l : List PW) (kp : List Int) (c : Int) : F (fzA f l 1 kp c) = (7, fzB (failF kp 0 l f) c) := by
  cases h with
  | sync => rfl
  | write i s h0 h1 hs =>
    have h2 : ¬ (i < 0 ∨ (((fzA f l 1 kp c).size : Nat) : Int) ≤ i) := by show ¬ (i < 0 ∨ (4 : Int) ≤ i); omega
    have h3 : ¬ (256 < s.size) := by omega
    show (fzA f l 1 kp c).write i s = _
    unfold Dev.write
    rw [if_neg (show ¬ (fzA f l 1 kp c).off = true by simp [fzA]), if_neg h2, if_neg h3]
    rfl
theorem doing_more {F : Dev → Int × Dev} (h : Doing F) : ∃ G : (Int → Option ByteArray) → List PW → (Int → Option ByteArray) × List PW, (∀ f l, (G f l).2.length ≤ l.length + 1) ∧ ∀ f l (fu : Int) kp c, fu ≠ 1 → F (fzA f l fu kp c) = (0, fzA (G f l).1 (G f l).2 (if 1 < fu then wrap64 (fu - 1) else fu) kp (wrap64 (c + 1))) := by
  cases h with
  | sync =>
    refine ⟨fun f l => (syncF l f, []), fun f l => Nat.zero_le _, fun f l fu kp c hf => ?_⟩
    have hc : (fzA f l fu kp c).command = (true, { fzA f l fu kp c with fuse := if 1 < fu then wrap64 (fu - 1) else fu, cmds := wrap64 (c + 1) }) := by
      unfold Dev.command
      rw [if_neg (show ¬ (fzA f l fu kp c).fuse = 1 from hf)]; rfl
    unfold Dev.sync
    rw [if_neg (show ¬ (fzA f l fu kp c).off = true by simp [fzA]), hc, if_pos rfl]
    rfl
  | write i s h0 h1 hs =>
    refine ⟨fun f l => (f, l ++ [(i, pad s)]), fun f l => by rw [List.length_append]; exact Nat.le_refl _, fun f l fu kp c hf => ?_⟩
    have h2 : ¬ (i < 0 ∨ (((fzA f l fu kp c).size : Nat) : Int) ≤ i) := by show ¬ (i < 0 ∨ (4 : Int) ≤ i); omega
    have h3 : ¬ (256 < s.size) := by omega
    have hc : (fzA f l fu kp c).command = (true, { fzA f l fu kp c with fuse := if 1 < fu then wrap64 (fu - 1) else fu, cmds := wrap64 (c + 1) }) := by
      unfold Dev.command
      rw [if_neg (show ¬ (fzA f l fu kp c).fuse = 1 from hf)]; rfl
    show (fzA f l fu kp c).write i s = _
    unfold Dev.write
    rw [if_neg (show ¬ (fzA f l fu kp c).off = true by simp [fzA]), if_neg h2, if_neg h3, hc, if_pos rfl]
    rfl
theorem rel_step {n k : Nat} {kp : List Int} {D C : Dev} (h : Rel n k kp D C) (hn : n ≤ 16) {F : Dev → Int × Dev} (hF : Doing F) :
    (F D).1 = (F (if k + 1 = n then C.blow kp else C)).1 ∧ (F D).2.off = (F (if k + 1 = n then C.blow kp else C)).2.off ∧ decide (n ≤ k + 1) = (F D).2.off ∧ Rel n (k + 1) kp (F D).2 (F (if k + 1 = n then C.blow kp else C)).2 := by
  cases h with
  | behind f cd cc h1 =>
    rw [if_neg (by omega), doing_off hF, doing_off hF]
    exact ⟨rfl, rfl, decide_eq_true (by omega), Rel.behind f cd cc (by omega)⟩
  | ahead f l cd cc h1 h2 =>
    by_cases he : k + 1 = n
    · rw [if_pos he, show ((n - k : Nat) : Int) = 1 by omega, doing_one hF]
      have hb : (fzA f l 0 [] cc).blow kp = fzB (failF kp 0 l f) cc := by rw [Dev.blow_ok rfl]; rfl
      rw [hb, doing_off hF]
      exact ⟨rfl, rfl, decide_eq_true (by omega), Rel.behind _ cd cc (by omega)⟩
    · rw [if_neg he]
      obtain ⟨G, hG, hG2⟩ := doing_more hF
      rw [hG2 f l _ kp cd (by omega), hG2 f l 0 [] cc (by omega), if_pos (by omega), if_neg (by omega)]
      refine ⟨rfl, rfl, decide_eq_false (by omega), ?_⟩
      have hw : wrap64 (((n - k : Nat) : Int) - 1) = ((n - (k + 1) : Nat) : Int) := by unfold wrap64; omega
      rw [hw]
      exact Rel.ahead _ _ _ _ (by omega) (Nat.le_trans (hG f l) (by omega))
/-- Behind it they read alike. -/
theorem rel_read {n k : Nat} {kp : List Int} {D C : Dev} (h : Rel n k kp D C) (i : Int) : (D.on.read i).1 = (C.on.read i).1 := by
  cases h with
  | ahead f l cd cc h1 h2 => rfl
  | behind f cd cc h1 => rfl
theorem and15 (n : Int) : bits .and .i64 n 15 = n % 16 := by
  have h3 : (BitVec.ofInt 64 15).toNat = 2 ^ 4 - 1 := by decide
  have key : (BitVec.ofInt 64 n &&& BitVec.ofInt 64 15).toNat = (n % ((2 ^ 64 : Nat) : Int)).toNat % 2 ^ 4 := by
    rw [BitVec.toNat_and, BitVec.toNat_ofInt, h3, Nat.and_two_pow_sub_one_eq_mod]
  show IntKind.i64.wrap ((BitVec.ofInt 64 n &&& BitVec.ofInt 64 15).toNat : Nat) = n % 16
  rw [key, IntKind.wrap_i64]
  omega
theorem mod16 (n : Int) : ∃ m : Nat, 1 ≤ m ∧ m ≤ 16 ∧ wrap64 (1 + n % 16) = (m : Int) := ⟨(1 + n % 16).toNat, by omega, by omega, by unfold wrap64; omega⟩
section
variable {w W w1 : World} {ds : List (Nat × Dev)} {rest : List Thing}
/-- A row of numbers that was made just now. -/
theorem HL.row_new (h : HL w W ds rest) (hb : Below W.heap.size W w1) {α : Type} {d : Kd α} {e : Nat} {v : Value} {xs : List α} (hN : Kd.N d e w1 W.heap.size (fun k => W.heap.size ≤ k) v xs) : HL w w1 ds (.row d e v xs :: rest) := by
  obtain ⟨rs, h1, h2, hO⟩ := h
  refine ⟨rs, h1, h2, ?_⟩
  have h1 : (rs.flatMap Raw.things ++ (.gone :: rest))[(rs.flatMap Raw.things).length]? = some .gone := by simp
  have h2 := hO.room.row_new (rs.flatMap Raw.things).length h1 hb hN (fun k hk => hk)
  rw [List.set_append_right _ _ (Nat.le_refl _), Nat.sub_self] at h2
  exact h2
theorem HL.reads (h : HL w W ds rest) (j : Nat) {α : Type} {k : Kd α} {e n c : Nat} {A : Option Addr} {xs : List α} (hj : rest[j]? = some (.row k e (.slice A n c) xs)) : k.C W A n xs ∧ (A = none → n = 0) := by
  obtain ⟨rs, _, _, hO⟩ := h
  exact row_reads hO _ ((HL.index rs j).trans hj)
end
end Go.Proofs.YtegeaemkkbenfaaDoor.Ownd
