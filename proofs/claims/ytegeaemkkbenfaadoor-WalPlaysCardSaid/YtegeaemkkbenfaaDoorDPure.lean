/- Devices, plainly: what writes, syncs and failures of power leave. No program. -/
import Derived.Test.YtegeaemkkbenfaaDoorDHL
namespace Go.Proofs.YtegeaemkkbenfaaDoor.Ownd
open Go.RowKit
set_option linter.unusedVariables false
set_option linter.unusedSimpArgs false
theorem Dev.write_ok {D : Dev} (h : D.off = false) (hf : D.fuse = 0) {i : Int} (h0 : 0 ≤ i) (h1 : i < (D.size : Int)) {s : ByteArray} (hs : s.size ≤ 256) :
    D.write i s = (0, { D with wait := D.wait ++ [(i, pad s)], cmds := wrap64 (D.cmds + 1) }) := by
  have h2 : ¬ (i < 0 ∨ (D.size : Int) ≤ i) := by omega
  have h3 : ¬ (256 < s.size) := by omega
  simp [Dev.write, Dev.command, h, hf, h2, h3]
theorem Dev.sync_ok {D : Dev} (h : D.off = false) (hf : D.fuse = 0) :
    D.sync = (0, { D with last := syncF D.wait D.last, wait := [], cmds := wrap64 (D.cmds + 1) }) := by
  simp [Dev.sync, Dev.command, h, hf]
theorem Dev.blow_ok {D : Dev} (h : D.off = false) (keep : List Int) :
    D.blow keep = { D with last := failF keep 0 D.wait D.last, wait := [], off := true, fuse := 0, keep := [] } := by
  simp [Dev.blow, Dev.fail, h]
theorem upd_swap (f : Int → Option ByteArray) {i j : Int} (h : i ≠ j) (s t : ByteArray) : upd (upd f i s) j t = upd (upd f j t) i s := by
  funext k
  show (if k = j then some t else if k = i then some s else f k) = (if k = i then some s else if k = j then some t else f k)
  by_cases h1 : k = i
  · rw [if_neg (by rw [h1]; exact h), if_pos h1, if_pos h1]
  · rw [if_neg h1, if_neg h1]
theorem ext_size (s : ByteArray) : (s.extract 0 (min s.size 256)).size ≤ 256 := by
  rw [ByteArray.size_extract]; omega
theorem Dev.command_len (D : Dev) : D.command.2.wait.length ≤ D.wait.length := by
  unfold Dev.command
  split
  · exact Nat.zero_le _
  · exact Nat.le_refl _
theorem Dev.write_len (D : Dev) (i : Int) (s : ByteArray) : (D.write i s).2.wait.length ≤ D.wait.length + 1 := by
  unfold Dev.write
  have h := D.command_len
  split
  · exact Nat.le_succ _
  · split
    · exact Nat.le_succ _
    · split
      · exact Nat.le_succ _
      · split
        · show (_ ++ [_]).length ≤ _
          rw [List.length_append]
          exact Nat.succ_le_succ h
        · exact Nat.le_succ_of_le h
theorem Dev.sync_len (D : Dev) : D.sync.2.wait.length ≤ D.wait.length := by
  unfold Dev.sync
  have h := D.command_len
  split
  · exact Nat.le_refl _
  · split
    · exact Nat.zero_le _
    · exact h
theorem Dev.blow_len (D : Dev) (keep : List Int) : (D.blow keep).wait.length ≤ D.wait.length := by
  unfold Dev.blow
  split
  · exact Nat.le_refl _
  · exact Nat.zero_le _
/-- Two writes, synced, the power failing and coming again. -/
def chain (i : Int) (A : ByteArray) (j : Int) (B : ByteArray) : Dev := (((((Dev.new 5).write i A).2.write j B).2.sync.2).blow []).on
theorem chain_is {i j : Int} (hi : 0 ≤ i ∧ i < 5) (hj : 0 ≤ j ∧ j < 5) {A B : ByteArray} (hA : A.size ≤ 256) (hB : B.size ≤ 256) :
    chain i A j B = { size := 5, last := upd (upd (fun _ => none) i (pad A)) j (pad B), wait := [], off := false, fuse := 0, keep := [], cmds := wrap64 (wrap64 (wrap64 (0 + 1) + 1) + 1) } := by
  unfold chain
  rw [Dev.write_ok (D := Dev.new 5) rfl rfl hi.1 hi.2 hA]
  rw [Dev.write_ok rfl rfl hj.1 hj.2 hB]
  rw [Dev.sync_ok rfl rfl]
  rw [Dev.blow_ok rfl]
  rfl
theorem chain_swap {i j : Int} (hi : 0 ≤ i ∧ i < 5) (hj : 0 ≤ j ∧ j < 5) (h : i ≠ j) {A B : ByteArray} (hA : A.size ≤ 256) (hB : B.size ≤ 256) : chain j B i A = chain i A j B := by
  rw [chain_is hi hj hA hB, chain_is hj hi hB hA, upd_swap _ h]
theorem chain_read {i j : Int} (hi : 0 ≤ i ∧ i < 5) (hj : 0 ≤ j ∧ j < 5) {A B : ByteArray} (hA : A.size ≤ 256) (hB : B.size ≤ 256) (k : Nat) (hk : k < 5) : ((chain i A j B).read k).2 = 0 := by
  rw [chain_is hi hj hA hB]
  unfold Dev.read
  rw [if_neg (by simp), if_neg (by show ¬ ((k : Int) < 0 ∨ (5 : Int) ≤ (k : Int)); omega)]
theorem chain_len (i : Int) (A : ByteArray) (j : Int) (B : ByteArray) : (((Dev.new 5).write i A).2.write j B).2.wait.length ≤ 2 := Nat.le_trans (Dev.write_len _ _ _) (Nat.succ_le_succ (Dev.write_len _ _ _))
theorem chain_wait {i j : Int} (hi : 0 ≤ i ∧ i < 5) (hj : 0 ≤ j ∧ j < 5) {A B : ByteArray} (hA : A.size ≤ 256) (hB : B.size ≤ 256) : (chain i A j B).wait.length ≤ 1000000 := by
  rw [chain_is hi hj hA hB]; exact Nat.zero_le _
theorem and3 (n : Int) : bits .and .i64 n 3 = n % 4 := by
  have h3 : (BitVec.ofInt 64 3).toNat = 2 ^ 2 - 1 := by decide
  have key : (BitVec.ofInt 64 n &&& BitVec.ofInt 64 3).toNat = (n % ((2 ^ 64 : Nat) : Int)).toNat % 2 ^ 2 := by
    rw [BitVec.toNat_and, BitVec.toNat_ofInt, h3, Nat.and_two_pow_sub_one_eq_mod]
  show IntKind.i64.wrap ((BitVec.ofInt 64 n &&& BitVec.ofInt 64 3).toNat : Nat) = n % 4
  rw [key, IntKind.wrap_i64]
  omega
theorem mod4 (n : Int) : 0 ≤ n % 4 ∧ n % 4 < 4 := by omega
end Go.Proofs.YtegeaemkkbenfaaDoor.Ownd
