/- The device and the document's device, plainly: when both are the same, they stay so. No program. -/
import Derived.Test.YtjnbeijnlplclaaDRefN
import Derived.Test.YtjnbeijnlplclaaDPure
namespace Go.Proofs.Ytjnbeijnlplclaa.Ownd
open Go.RowKit
set_option linter.unusedVariables false
set_option linter.unusedSimpArgs false
/-- Both devices are the same. -/
structure Sim (D : Dev) (R : RD) : Prop where
  off : R.off = D.off
  size : R.last.length = D.size
  last : ∀ i : Nat, i < D.size → (D.last (i : Int)).getD (Bld.zs 256) = R.last.getD i ⟨#[]⟩
  wait : R.wait = D.wait
  fuse : R.fuse = D.fuse
  keep : R.keep = D.keep
  cmds : R.cmds = D.cmds
  at_ : ∀ p ∈ D.wait, 0 ≤ p.1 ∧ p.1 < (D.size : Int)
variable {D : Dev} {R : RD}
theorem pad_nil : pad ⟨#[]⟩ = Bld.zs 256 := rfl
theorem sim_new (n : Nat) : Sim (Dev.new n) (RD.new n) where
  off := rfl
  size := List.length_replicate
  last i hi := by
    have hi' : i < n := hi
    show (none : Option ByteArray).getD _ = (List.replicate n _).getD i _
    rw [List.getD_eq_getElem?_getD, List.getElem?_replicate, if_pos hi', pad_nil]; rfl
  wait := rfl
  fuse := rfl
  keep := rfl
  cmds := rfl
  at_ p hp := by cases hp
theorem Sim.ok (h : Sim D R) (hw : D.wait.length ≤ 1000000) (hs : D.size ≤ 1000000) : R.Ok where
  wait := by rw [h.wait]; exact hw
  last := by rw [h.size]; exact hs
  at_ := by rw [h.wait, h.size]; exact h.at_
/-- One more text in one sector. -/
theorem last_set {n : Nat} {f : Int → Option ByteArray} {l : List ByteArray} (hl : l.length = n) (h : ∀ i : Nat, i < n → (f (i : Int)).getD (Bld.zs 256) = l.getD i ⟨#[]⟩) {j : Int} (h0 : 0 ≤ j) (h1 : j < (n : Int)) (s : ByteArray) :
    ∀ i : Nat, i < n → (upd f j s (i : Int)).getD (Bld.zs 256) = (l.set j.toNat s).getD i ⟨#[]⟩ := by
  intro i hi
  unfold upd
  rw [List.getD_eq_getElem?_getD, List.getElem?_set]
  by_cases hj : (i : Int) = j
  · rw [if_pos hj, if_pos (by omega), if_pos (by omega)]; rfl
  · rw [if_neg hj, if_neg (by omega), ← List.getD_eq_getElem?_getD]
    exact h i hi
theorem sync_last {n : Nat} : ∀ (w : List PW) (f : Int → Option ByteArray) (l : List ByteArray), l.length = n → (∀ i : Nat, i < n → (f (i : Int)).getD (Bld.zs 256) = l.getD i ⟨#[]⟩) → (∀ p ∈ w, 0 ≤ p.1 ∧ p.1 < (n : Int)) →
    ∀ i : Nat, i < n → (syncF w f (i : Int)).getD (Bld.zs 256) = (syncL w l).getD i ⟨#[]⟩
  | [], f, l, hl, h, _ => h
  | p :: r, f, l, hl, h, hp => by
    have h1 := hp p (List.mem_cons_self ..)
    exact sync_last r (upd f p.1 p.2) (l.set p.1.toNat p.2) (by rw [List.length_set]; exact hl) (last_set hl h h1.1 h1.2 p.2) (fun q hq => hp q (List.mem_cons_of_mem _ hq))
theorem fail_last {n : Nat} (kp : List Int) : ∀ (w : List PW) (k : Nat) (f : Int → Option ByteArray) (l : List ByteArray), l.length = n → (∀ i : Nat, i < n → (f (i : Int)).getD (Bld.zs 256) = l.getD i ⟨#[]⟩) → (∀ p ∈ w, 0 ≤ p.1 ∧ p.1 < (n : Int)) →
    ∀ i : Nat, i < n → (failF kp k w f (i : Int)).getD (Bld.zs 256) = (failL kp k w l).getD i ⟨#[]⟩
  | [], k, f, l, hl, h, _ => h
  | p :: r, k, f, l, hl, h, hp => by
    have h1 := hp p (List.mem_cons_self ..)
    have h2 : ∀ q ∈ r, 0 ≤ q.1 ∧ q.1 < (n : Int) := fun q hq => hp q (List.mem_cons_of_mem _ hq)
    unfold failF failL
    cases keptAt kp k with
    | true => exact fail_last kp r (k + 1) (upd f p.1 p.2) (l.set p.1.toNat p.2) (by rw [List.length_set]; exact hl) (last_set hl h h1.1 h1.2 p.2) h2
    | false => exact fail_last kp r (k + 1) f l hl h h2
theorem get_snoc (i : Int) (p : PW) (l : List PW) : lastW (l ++ [p]) i = if p.1 = i then some p.2 else lastW l i := by
  unfold lastW
  rw [List.reverse_append, List.reverse_singleton, List.singleton_append, List.find?_cons]
  by_cases h : p.1 = i
  · rw [decide_eq_true h, if_pos h]; rfl
  · rw [decide_eq_false h, if_neg h]
theorem getR_snoc (i : Int) (p : PW) (l : List PW) (s : ByteArray) : getR (l ++ [p]) i s = if p.1 = i then p.2 else getR l i s := by
  unfold getR
  rw [List.foldl_append]
  rfl
theorem get_is (i : Int) (s : ByteArray) (l : List PW) : getR l i s = (lastW l i).getD s := by
  rw [show l = l.reverse.reverse from (List.reverse_reverse l).symm]
  generalize l.reverse = r
  induction r with
  | nil => rfl
  | cons p r ih =>
    rw [List.reverse_cons, getR_snoc, get_snoc]
    split
    · rfl
    · exact ih
theorem sim_read (h : Sim D R) (i : Int) : R.read i = D.read i := by
  unfold RD.read Dev.read
  rw [h.off, h.size, h.wait]
  split
  · rfl
  · split
    · rfl
    · rename_i h1 h2
      have h3 := h.last i.toNat (by omega)
      rw [show ((i.toNat : Nat) : Int) = i by omega] at h3
      rw [get_is, ← h3]
      unfold Dev.get
      cases lastW D.wait i <;> rfl
theorem sim_on (h : Sim D R) : Sim D.on { R with off := false, fuse := 0, keep := [] } :=
  ⟨rfl, h.size, h.last, h.wait, rfl, rfl, h.cmds, h.at_⟩
theorem sim_fail (h : Sim D R) (kp : List Int) : Sim (D.fail kp) (R.fail kp) where
  off := rfl
  size := (failL_length _ _ _ _).trans h.size
  last := by
    show ∀ i : Nat, i < D.size → (failF kp 0 D.wait D.last (i : Int)).getD (Bld.zs 256) = (failL kp 0 R.wait R.last).getD i ⟨#[]⟩
    rw [h.wait]
    exact fail_last kp D.wait 0 D.last R.last h.size h.last h.at_
  wait := rfl
  fuse := rfl
  keep := rfl
  cmds := h.cmds
  at_ p hp := by cases hp
theorem sim_step (h : Sim D R) : R.step.1 = D.command.1 ∧ Sim D.command.2 R.step.2 := by
  unfold RD.step Dev.command
  rw [h.fuse]
  by_cases h1 : D.fuse = 1
  · rw [if_pos h1, if_pos h1, h.keep]
    exact ⟨rfl, sim_fail h _⟩
  · rw [if_neg h1, if_neg h1]
    refine ⟨rfl, h.off, h.size, h.last, h.wait, ?_, h.keep, ?_, h.at_⟩
    · show (if 0 < D.fuse then wrap64 (D.fuse - 1) else D.fuse) = (if 1 < D.fuse then wrap64 (D.fuse - 1) else D.fuse)
      by_cases h2 : 0 < D.fuse
      · rw [if_pos h2, if_pos (by omega)]
      · rw [if_neg h2, if_neg (by omega)]
    · show wrap64 (R.cmds + 1) = wrap64 (D.cmds + 1)
      rw [h.cmds]
theorem Dev.command_size (D : Dev) : D.command.2.size = D.size := by
  unfold Dev.command
  split <;> rfl
theorem sim_write (h : Sim D R) (i : Int) (s : ByteArray) : (R.write i s).1 = (D.write i s).1 ∧ Sim (D.write i s).2 (R.write i s).2 := by
  unfold RD.write Dev.write
  rw [h.off, h.size]
  split
  · exact ⟨rfl, h⟩
  · split
    · exact ⟨rfl, h⟩
    · split
      · exact ⟨rfl, h⟩
      · rename_i h0 h1 h2
        obtain ⟨e, hs⟩ := sim_step h
        have hz := D.command_size
        rw [e]
        split
        · refine ⟨rfl, hs.off, hs.size, hs.last, ?_, hs.fuse, hs.keep, hs.cmds, ?_⟩
          · show _ ++ _ = _ ++ _
            rw [hs.wait]
          · intro p hp
            rcases List.mem_append.mp hp with hp | hp
            · exact hs.at_ p hp
            · obtain rfl := List.mem_singleton.mp hp
              show 0 ≤ i ∧ i < (D.command.2.size : Int)
              rw [hz]; omega
        · exact ⟨rfl, hs⟩
theorem sim_sync (h : Sim D R) : R.sync.1 = D.sync.1 ∧ Sim D.sync.2 R.sync.2 := by
  unfold RD.sync Dev.sync
  rw [h.off]
  split
  · exact ⟨rfl, h⟩
  · obtain ⟨e, hs⟩ := sim_step h
    rw [e]
    split
    · refine ⟨rfl, hs.off, (syncL_length _ _).trans hs.size, ?_, rfl, hs.fuse, hs.keep, hs.cmds, fun p hp => by cases hp⟩
      show ∀ i : Nat, i < D.command.2.size → (syncF D.command.2.wait D.command.2.last (i : Int)).getD (Bld.zs 256) = (syncL R.step.2.wait R.step.2.last).getD i ⟨#[]⟩
      rw [hs.wait]
      exact sync_last _ _ _ hs.size hs.last hs.at_
    · exact ⟨rfl, hs⟩
/-- The document's Fuse and Blow, as the statement has them. -/
def RD.setFuse (R : RD) (n : Int) (kp : List Int) : RD := if R.off = true then R else { R with fuse := if 1 < n then n else 1, keep := kp }
def RD.blow (R : RD) (kp : List Int) : RD := if R.off = true then R else R.fail kp
def RD.on (R : RD) : RD := { R with off := false, fuse := 0, keep := [] }
theorem sim_fuse (h : Sim D R) (n : Int) (kp : List Int) : Sim (D.setFuse n kp) (R.setFuse n kp) := by
  unfold Dev.setFuse RD.setFuse
  rw [h.off]
  split
  · exact h
  · exact ⟨rfl, h.size, h.last, h.wait, rfl, rfl, h.cmds, h.at_⟩
theorem sim_blow (h : Sim D R) (kp : List Int) : Sim (D.blow kp) (R.blow kp) := by
  unfold Dev.blow RD.blow
  rw [h.off]
  split
  · exact h
  · exact sim_fail h kp
theorem Dev.write_size (D : Dev) (i : Int) (s : ByteArray) : (D.write i s).2.size = D.size := by
  unfold Dev.write
  have h := D.command_size
  split
  · rfl
  · split
    · rfl
    · split
      · rfl
      · split
        · exact h
        · exact h
theorem Dev.sync_size (D : Dev) : D.sync.2.size = D.size := by
  unfold Dev.sync
  have h := D.command_size
  split
  · rfl
  · split
    · exact h
    · exact h
/-- What an act does to the document's device. -/
def donK (R : RD) (K at_ : Int) (kp : List Int) (dd : ByteArray) : (ByteArray × Int) × RD :=
  if K = 3 then (R.read at_, R) else if K = 4 then ((⟨#[]⟩, R.sync.1), R.sync.2) else if K = 5 then ((⟨#[]⟩, 0), R.setFuse at_ kp) else
  if K = 6 then ((⟨#[]⟩, 0), R.blow kp) else if K = 7 then ((⟨#[]⟩, 0), R.on) else if K = 8 then ((⟨#[]⟩, 0), R) else ((⟨#[]⟩, (R.write at_ dd).1), (R.write at_ dd).2)
def doK (D : Dev) (K at_ : Int) (kp : List Int) (dd : ByteArray) : (ByteArray × Int) × Dev :=
  if K = 3 then (D.read at_, D) else if K = 4 then ((⟨#[]⟩, D.sync.1), D.sync.2) else if K = 5 then ((⟨#[]⟩, 0), D.setFuse at_ kp) else
  if K = 6 then ((⟨#[]⟩, 0), D.blow kp) else if K = 7 then ((⟨#[]⟩, 0), D.on) else if K = 8 then ((⟨#[]⟩, 0), D) else ((⟨#[]⟩, (D.write at_ dd).1), (D.write at_ dd).2)
theorem sim_act (h : Sim D R) (K at_ : Int) (kp : List Int) (dd : ByteArray) : (donK R K at_ kp dd).1 = (doK D K at_ kp dd).1 ∧ Sim (doK D K at_ kp dd).2 (donK R K at_ kp dd).2 := by
  unfold donK doK
  split
  · exact ⟨sim_read h _, h⟩
  split
  · exact ⟨by rw [(sim_sync h).1], (sim_sync h).2⟩
  split
  · exact ⟨rfl, sim_fuse h _ _⟩
  split
  · exact ⟨rfl, sim_blow h _⟩
  split
  · exact ⟨rfl, sim_on h⟩
  split
  · exact ⟨rfl, h⟩
  · exact ⟨by rw [(sim_write h _ _).1], (sim_write h _ _).2⟩
theorem doK_size (D : Dev) (K at_ : Int) (kp : List Int) (dd : ByteArray) : (doK D K at_ kp dd).2.size = D.size := by
  unfold doK
  split
  · rfl
  split
  · exact D.sync_size
  split
  · show (D.setFuse at_ kp).size = _
    unfold Dev.setFuse; split <;> rfl
  split
  · show (D.blow kp).size = _
    unfold Dev.blow; split <;> rfl
  split
  · rfl
  split
  · rfl
  · exact D.write_size _ _
theorem doK_len (D : Dev) (K at_ : Int) (kp : List Int) (dd : ByteArray) : (doK D K at_ kp dd).2.wait.length ≤ D.wait.length + 1 := by
  unfold doK
  split
  · exact Nat.le_succ _
  split
  · exact Nat.le_succ_of_le D.sync_len
  split
  · show (D.setFuse at_ kp).wait.length ≤ _
    unfold Dev.setFuse; split <;> exact Nat.le_succ _
  split
  · exact Nat.le_succ_of_le (D.blow_len kp)
  split
  · exact Nat.le_succ _
  split
  · exact Nat.le_succ _
  · exact D.write_len _ _
theorem doK_keep (D : Dev) (K at_ : Int) (kp : List Int) (dd : ByteArray) {n : Nat} (h : D.keep.length ≤ n) (hk : kp.length ≤ n) : (doK D K at_ kp dd).2.keep.length ≤ n := by
  have hc : D.command.2.keep.length ≤ n := by
    unfold Dev.command
    split
    · exact Nat.zero_le _
    · exact h
  unfold doK
  split
  · exact h
  split
  · show (D.sync.2).keep.length ≤ n
    unfold Dev.sync
    split
    · exact h
    · split
      · exact hc
      · exact hc
  split
  · show (D.setFuse at_ kp).keep.length ≤ n
    unfold Dev.setFuse; split
    · exact h
    · exact hk
  split
  · show (D.blow kp).keep.length ≤ n
    unfold Dev.blow; split
    · exact h
    · exact Nat.zero_le _
  split
  · exact Nat.zero_le _
  split
  · exact h
  · show ((D.write at_ dd).2).keep.length ≤ n
    unfold Dev.write
    split
    · exact h
    · split
      · exact h
      · split
        · exact h
        · split
          · exact hc
          · exact hc
end Go.Proofs.Ytjnbeijnlplclaa.Ownd
