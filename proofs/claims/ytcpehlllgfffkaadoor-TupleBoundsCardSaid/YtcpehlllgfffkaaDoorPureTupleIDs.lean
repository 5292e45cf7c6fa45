/- TupleIDs' pure statement: rows' numbers are ordered as their keys are. Conditions: none but the sizes that any number has. -/
import Derived.Test.YtcpehlllgfffkaaDoorGTx13
import Derived.Lib.QuoteBits
import Derived.Laws.Strings
namespace Go.Proofs.YtcpehlllgfffkaaDoor.Pure
open Go.RowKit Go.Proofs.YtcpehlllgfffkaaDoor.GT Go.Proofs.YtcpehlllgfffkaaDoorW.PrintWords Go.Proofs.YtcpehlllgfffkaaDoorW.PrintLast
set_option linter.unusedVariables false
set_option linter.unusedSimpArgs false

theorem toList_data (s : ByteArray) : s.toList = s.data.toList := by first | rfl | exact ByteArray.toList_eq s
theorem wid (n : Int) (h0 : 0 ≤ n) (h1 : n < 9223372036854775808) : wrap64 n = n := by unfold wrap64; omega
theorem and_range (a : Int) : 0 ≤ Go.bits .and .i64 a 16777215 ∧ Go.bits .and .i64 a 16777215 ≤ 16777215 := by
  have h1 : (BitVec.ofInt 64 a &&& BitVec.ofInt 64 16777215).toNat ≤ 16777215 := by
    rw [BitVec.toNat_and]
    exact Nat.and_le_right
  have h : Go.bits .and .i64 a 16777215 = ((BitVec.ofInt 64 a &&& BitVec.ofInt 64 16777215).toNat : Int) := by
    show IntKind.i64.wrap ((BitVec.ofInt 64 a &&& BitVec.ofInt 64 16777215).toNat : Int) = _
    exact Lib.wrap_i64_small _ (by omega)
  rw [h]
  omega

/-- The number that bytes are, the highest first. -/
def valL : List UInt8 → Nat
  | [] => 0
  | a :: l => a.toNat * 256 ^ l.length + valL l
theorem valL_lt : ∀ l : List UInt8, valL l < 256 ^ l.length
  | [] => by simp [valL]
  | a :: l => by
    have ha := a.toNat_lt
    have ih := valL_lt l
    rw [valL, List.length_cons, Nat.pow_succ, Nat.mul_comm (256 ^ l.length) 256]
    have : a.toNat * 256 ^ l.length ≤ 255 * 256 ^ l.length := Nat.mul_le_mul_right _ (by omega)
    omega
theorem less_val : ∀ l m : List UInt8, l.length = m.length → Op.bytesLess l m = decide (valL l < valL m)
  | [], [], _ => by simp [Op.bytesLess, valL]
  | [], b :: m, h => by simp at h
  | a :: l, [], h => by simp at h
  | a :: l, b :: m, h => by
    have hl : l.length = m.length := by simpa using h
    have ih := less_val l m hl
    have v1 := valL_lt l
    have v2 := valL_lt m
    rw [Op.bytesLess, ih, valL, valL, ← hl]
    rw [← hl] at v2
    rcases Nat.lt_trichotomy a.toNat b.toNat with hab | hab | hab
    · have h1 : (decide (a < b)) = true := decide_eq_true (UInt8.lt_iff_toNat_lt.mpr hab)
      have h2 : (a.toNat + 1) * 256 ^ l.length ≤ b.toNat * 256 ^ l.length := Nat.mul_le_mul_right _ hab
      rw [Nat.succ_mul] at h2
      rw [h1, Bool.true_or, decide_eq_true (by omega)]
    · have hab' : a = b := UInt8.toNat_inj.mp hab
      subst hab'
      have h1 : (decide (a < a)) = false := decide_eq_false (by rw [UInt8.lt_iff_toNat_lt]; omega)
      rw [h1, Bool.false_or, beq_self_eq_true, Bool.true_and, decide_eq_decide]
      omega
    · have h1 : (decide (a < b)) = false := decide_eq_false (by rw [UInt8.lt_iff_toNat_lt]; omega)
      have h3 : (a == b) = false := by
        rw [beq_eq_false_iff_ne]
        intro e
        rw [e] at hab
        omega
      have h2 : (b.toNat + 1) * 256 ^ l.length ≤ a.toNat * 256 ^ l.length := Nat.mul_le_mul_right _ hab
      rw [Nat.succ_mul] at h2
      rw [h1, h3, Bool.false_and, Bool.or_false, decide_eq_false (by omega)]
def be6 (n : Int) : List UInt8 := [UInt8.ofNat (n / 1099511627776).toNat, UInt8.ofNat (n / 4294967296 % 256).toNat, UInt8.ofNat (n / 16777216 % 256).toNat, UInt8.ofNat (n / 65536 % 256).toNat, UInt8.ofNat (n / 256 % 256).toNat, UInt8.ofNat (n % 256).toNat]
theorem val6 (a b c d e f : UInt8) : valL [a, b, c, d, e, f] = ((((a.toNat * 256 + b.toNat) * 256 + c.toNat) * 256 + d.toNat) * 256 + e.toNat) * 256 + f.toNat := by
  simp only [valL, List.length_cons, List.length_nil, Nat.reduceAdd, Nat.reducePow, Nat.zero_add, Nat.add_zero, Nat.mul_one, Nat.pow_zero]
  omega
set_option maxHeartbeats 1000000 in
theorem val_be6 (n : Int) (h0 : 0 ≤ n) (h1 : n < 281474976710656) : (valL (be6 n) : Int) = n := by
  unfold be6
  rw [val6]
  simp only [UInt8.toNat_ofNat']
  omega
theorem sput_six (n : Int) (h0 : 0 ≤ n) (h1 : n < 281474976710656) : ∃ s : ByteArray, sum_Put.f n 6 = some s ∧ s.toList = be6 n ∧ s.size = 6 := by
  refine ⟨strOfNums [n / 1099511627776, n / 4294967296 % 256, n / 16777216 % 256, n / 65536 % 256, n / 256 % 256, n % 256], ?_, by rw [toList_data]; rfl, strOfNums_size _⟩
  unfold sum_Put.f
  rw [if_pos h0, if_neg (by omega), if_neg (by omega), if_pos ⟨rfl, h1⟩]
theorem id_tells (n : Int) (h0 : 1 ≤ n) (h1 : n ≤ 1099511627776) : ∃ s : ByteArray, tuple_ID.f n = some s ∧ s.toList = be6 n ∧ s.size = 6 := by
  obtain ⟨s, h2, h3, h4⟩ := sput_six n (by omega) (by omega)
  refine ⟨s, ?_, h3, h4⟩
  unfold tuple_ID.f
  rw [if_neg (by omega), if_neg (by omega), h2, Option.bind_some]
set_option maxRecDepth 100000 in
theorem entry_once : tuple_Entry.f 14 (⟨#[]⟩ : ByteArray) 1 false 2 = some ((⟨#[16, 1, 0, 0, 0, 0, 1, 0, 0, 0, 0, 0, 2]⟩ : ByteArray), 0) := by decide +kernel
set_option maxRecDepth 100000 in
theorem split_once : tuple_Split.f 14 (⟨#[16, 1, 0, 0, 0, 0, 1, 0, 0, 0, 0, 0, 2]⟩ : ByteArray) = some ((⟨#[]⟩ : ByteArray), 1, false, 2, 0) := by decide +kernel
set_option maxRecDepth 100000 in
theorem show_once : tuple_Show.f (⟨#[97, 39]⟩ : ByteArray) 0 true = some (⟨#[39, 97, 92, 50, 55, 39]⟩ : ByteArray) := by decide +kernel
set_option maxRecDepth 100000 in
theorem speaks_once : concordancelaw19_speaks.f 14 = some true := by
  unfold concordancelaw19_speaks.f
  rw [show keys_Number.f 1 = some ((⟨#[]⟩ : ByteArray), 1, false) from rfl, Option.bind_some]
  show (Option.bind (tuple_Entry.f 14 (⟨#[]⟩ : ByteArray) 1 false 2) _) = _
  rw [entry_once, Option.bind_some]
  refine Eq.trans (congrArg (fun x => Option.bind x _) split_once) ?_
  rw [Option.bind_some]
  simp only [toList_data]
  rw [if_pos (by decide), if_pos (by decide), if_pos (by decide), Option.bind_some, if_pos (by decide), if_pos (by decide), show keys_Text.f (⟨#[97, 39]⟩ : ByteArray) = some ((⟨#[97, 39]⟩ : ByteArray), 0, true) from rfl, Option.bind_some]
  refine Eq.trans (congrArg (fun x => Option.bind x _) show_once) ?_
  rw [Option.bind_some]
  decide
theorem speaks_tells : ∀ k, 14 ≤ k → concordancelaw19_speaks.f k = some true := by
  intro k hk
  induction k with
  | zero => omega
  | succ k ih =>
    by_cases h : 14 ≤ k
    · exact concordancelaw19_speaks.mono k _ (ih h)
    · have : k = 13 := by omega
      subst this
      exact speaks_once

theorem less_ids (x y : Int) (hx0 : 0 ≤ x) (hx1 : x < 281474976710656) (hy0 : 0 ≤ y) (hy1 : y < 281474976710656) : Op.bytesLess (be6 x) (be6 y) = decide (x < y) := by
  have v1 := val_be6 x hx0 hx1
  have v2 := val_be6 y hy0 hy1
  have hl : (be6 x).length = (be6 y).length := by unfold be6; simp only [List.length_cons]
  rw [less_val (be6 x) (be6 y) hl]
  generalize valL (be6 x) = a at *
  generalize valL (be6 y) = b at *
  rw [decide_eq_decide]
  omega
theorem same_ids (x y : Int) (hx0 : 0 ≤ x) (hx1 : x < 281474976710656) (hy0 : 0 ≤ y) (hy1 : y < 281474976710656) : (be6 x == be6 y) = (x == y) := by
  have v1 := val_be6 x hx0 hx1
  have v2 := val_be6 y hy0 hy1
  rw [Bool.eq_iff_iff, beq_iff_eq, beq_iff_eq]
  constructor
  · intro h
    rw [h] at v1
    exact v1.symm.trans v2
  · intro h
    rw [h]
theorem ids_core (x y : Int) (hx0 : 1 ≤ x) (hx1 : x ≤ 1099511627776) (hy0 : 1 ≤ y) (hy1 : y ≤ 1099511627776) : ((tuple_ID.f x).bind fun t => (tuple_ID.f y).bind fun u => (if (t.size : Int) = 6 then (if (u.size : Int) = 6 then (if ((Op.bytesLess t.toList u.toList) == (decide (x < y))) = true then (some ((t.toList == u.toList) == (x == y))) else (none)) else (none)) else (none))) = some true := by
  obtain ⟨s, h1, h2, h3⟩ := id_tells x hx0 hx1
  obtain ⟨t, h4, h5, h6⟩ := id_tells y hy0 hy1
  have e1 := less_ids x y (by omega) (by omega) (by omega) (by omega)
  have e2 := same_ids x y (by omega) (by omega) (by omega) (by omega)
  have c1 : (s.size : Int) = 6 := by rw [h3]; rfl
  have c2 : (t.size : Int) = 6 := by rw [h6]; rfl
  have c3 : ((Op.bytesLess s.toList t.toList) == (decide (x < y))) = true := by rw [h2, h5, e1, beq_self_eq_true]
  have c4 : ((s.toList == t.toList) == (x == y)) = true := by rw [h2, h5, e2, beq_self_eq_true]
  rw [h1, h4, Option.bind_some, Option.bind_some, if_pos c1, if_pos c2, if_pos c3, c4]

theorem TupleIDs : concordancelaw19_TupleIDs.Pure := by
  intro a b ha hb
  refine ⟨14, ?_⟩
  obtain ⟨r1, r2⟩ := and_range a
  obtain ⟨r3, r4⟩ := and_range b
  unfold concordancelaw19_TupleIDs.f
  rw [speaks_once, Option.bind_some, if_pos (show true = true from rfl)]
  generalize Go.bits .and .i64 a 16777215 = x at *
  generalize Go.bits .and .i64 b 16777215 = y at *
  rw [wid (1 + x) (by omega) (by omega), wid (1 + y) (by omega) (by omega)]
  exact ids_core (1 + x) (1 + y) (by omega) (by omega) (by omega) (by omega)
end Go.Proofs.YtcpehlllgfffkaaDoor.Pure
