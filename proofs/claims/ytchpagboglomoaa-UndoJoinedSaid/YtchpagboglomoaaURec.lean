/- Bytes of records: record.Join, Split, sum.Get and the document's, told plainly. Conditions: as each says. -/
import Derived.Test.YtchpagboglomoaaHBytes
import Derived.Test.YtchpagboglomoaaHCopy
import Derived.Lib.QuoteBits
import Derived.Test.YtchpagboglomoaaGPx1
namespace Go.Proofs.Ytchpagboglomoaa.GP
theorem bytes_nil (s : ByteArray) : s.toList = ([] : List UInt8) ↔ s.size = 0 := by
  have h : s.toList = s.data.toList := by first | rfl | exact ByteArray.toList_eq s
  rw [h]
  constructor
  · intro h0
    have := congrArg List.length h0
    simpa using this
  · intro h0
    apply List.eq_nil_of_length_eq_zero
    simpa using h0
open Go.RowKit Go.Sort Go.Proofs.Ytchpagboglomoaa.Tail Go.Proofs.YtchpagboglomoaaW.PrintWords Go.Proofs.YtchpagboglomoaaW.PrintLast Go.Proofs.YtchpagboglomoaaW.PrintMore Go.Proofs.Ytchpagboglomoaa.Copy Go.Proofs.Ytchpagboglomoaa.Bld
attribute [local go_sem] max2_int min2_int max_two min_two max_three min_three max_four min_four
set_option linter.unusedVariables false
set_option linter.unusedSimpArgs false

/-- A number's two bytes. -/
def be2 (n : Int) : List UInt8 := [UInt8.ofNat (n / 256).toNat, UInt8.ofNat (n % 256).toNat]
theorem be2_str (n : Int) : (strOfNums [n / 256, n % 256]).data.toList = be2 n := rfl
theorem sput_two (n : Int) (h0 : 0 ≤ n) (h1 : n < 65536) : sum_Put.f n 2 = some (strOfNums [n / 256, n % 256]) := by
  unfold sum_Put.f
  rw [if_pos h0, if_neg (by omega), if_pos ⟨rfl, h1⟩]
theorem isBuilder_below {T e : TypeId} {B b : Nat} {bs : List Value} {w w1 : World} (h : Lib.IsBuilder T e B b bs w) (hb : Below w.heap.size w w1) : Lib.IsBuilder T e B b bs w1 := by
  have key : ∀ p, Lib.BuilderAt T e B b p bs w → Lib.BuilderAt T e B b p bs w1 := by
    rintro p ⟨h1, v, h2, h3, h4⟩
    exact ⟨h1, v, (hb.block b (blk_lt h2)).trans h2, pw_own_below h3 hb, h4⟩
  exact h.imp (key _) (key _)
theorem isBuilder_alloc {T e : TypeId} {B b : Nat} {bs : List Value} {w : World} (h : Lib.IsBuilder T e B b bs w) (o : Obj) : Lib.IsBuilder T e B b bs (w.alloc o) := isBuilder_below h (below_alloc (Below.refl _ _) o)
theorem isBuilder_drew {T e : TypeId} {B b : Nat} {bs : List Value} {w : World} (h : Lib.IsBuilder T e B b bs w) : Lib.IsBuilder T e B b bs w.drew := isBuilder_below h (below_drew (Below.refl _ _))

open Go.RowKit Go.Sort Go.Proofs.Ytchpagboglomoaa.Tail Go.Proofs.YtchpagboglomoaaW.PrintWords Go.Proofs.YtchpagboglomoaaW.PrintLast Go.Proofs.YtchpagboglomoaaW.PrintMore Go.Proofs.Ytchpagboglomoaa.Copy Go.Proofs.Ytchpagboglomoaa.Bld
attribute [local go_sem] max2_int min2_int max_two min_two max_three min_three max_four min_four
set_option linter.unusedVariables false
set_option linter.unusedSimpArgs false

/-- The document's Put of a number in two bytes. -/
theorem ref02_two (n : Int) (h0 : 0 ≤ n) (h1 : n < 65536) (k : Nat) (hk : 8 ≤ k) : concordanceref02_Put.f k n 2 = some (strOfNums [n / 256, n % 256]) := by
  obtain ⟨k, rfl⟩ : ∃ m, k = m + 1 + 1 + 1 + 1 := ⟨k - 4, by omega⟩
  unfold concordanceref02_Put.f
  rw [if_neg (by omega), if_neg (by omega), decide_eq_false (by omega), concordanceref02_Put.j0.eq_2, if_neg (by simp)]
  have t1 : Int.tmod n 256 = n % 256 := Int.tmod_eq_emod_of_nonneg h0
  have d1 : Int.tdiv n 256 = n / 256 := Int.tdiv_eq_ediv_of_nonneg h0
  have w1 : wrap64 (n / 256) = n / 256 := by unfold wrap64; omega
  have t2 : Int.tmod (n / 256) 256 = n / 256 % 256 := Int.tmod_eq_emod_of_nonneg (by omega)
  have d2 : Int.tdiv (n / 256) 256 = n / 256 / 256 := Int.tdiv_eq_ediv_of_nonneg (by omega)
  have w2 : wrap64 (n / 256 / 256) = 0 := by unfold wrap64; omega
  rw [concordanceref02_Put.l0.eq_2, if_pos (by omega), Option.bind_some, if_pos (by rw [strOfNums_size]; simp; decide), t1, d1, w1, show wrap64 (0 + 1) = 1 by unfold wrap64; omega,
    concordanceref02_Put.l0.eq_2, if_pos (by omega), Option.bind_some, if_pos (by rw [strOfNums_size, ByteArray.size_append, strOfNums_size]; simp; decide), t2, d2, w2, show wrap64 (1 + 1) = 2 by unfold wrap64; omega,
    concordanceref02_Put.l0.eq_2, if_neg (by omega), if_neg (by omega)]
  have e1 : n / 256 % 256 % 256 = n / 256 := by omega
  have e2 : n % 256 % 256 = n % 256 := by omega
  rw [e1, e2]
  rfl

open Go.RowKit Go.Sort Go.Proofs.Ytchpagboglomoaa.Tail Go.Proofs.YtchpagboglomoaaW.PrintWords Go.Proofs.YtchpagboglomoaaW.PrintLast Go.Proofs.YtchpagboglomoaaW.PrintMore Go.Proofs.Ytchpagboglomoaa.Copy Go.Proofs.Ytchpagboglomoaa.Bld
attribute [local go_sem] max2_int min2_int max_two min_two max_three min_three max_four min_four
set_option linter.unusedVariables false
set_option linter.unusedSimpArgs false

def be1 (n : Int) : List UInt8 := [UInt8.ofNat n.toNat]
def be6 (n : Int) : List UInt8 := [UInt8.ofNat (n / 1099511627776).toNat, UInt8.ofNat (n / 4294967296 % 256).toNat, UInt8.ofNat (n / 16777216 % 256).toNat, UInt8.ofNat (n / 65536 % 256).toNat, UInt8.ofNat (n / 256 % 256).toNat, UInt8.ofNat (n % 256).toNat]
theorem be1_str (n : Int) : (strOfNums [n]).data.toList = be1 n := rfl
theorem be6_str (n : Int) : (strOfNums [n / 1099511627776, n / 4294967296 % 256, n / 16777216 % 256, n / 65536 % 256, n / 256 % 256, n % 256]).data.toList = be6 n := rfl
theorem sput_one (n : Int) (h0 : 0 ≤ n) (h1 : n < 256) : sum_Put.f n 1 = some (strOfNums [n]) := by
  unfold sum_Put.f
  rw [if_pos h0, if_pos ⟨rfl, h1⟩]
theorem sput_six (n : Int) (h0 : 0 ≤ n) (h1 : n < 281474976710656) : sum_Put.f n 6 = some (strOfNums [n / 1099511627776, n / 4294967296 % 256, n / 16777216 % 256, n / 65536 % 256, n / 256 % 256, n % 256]) := by
  unfold sum_Put.f
  rw [if_pos h0, if_neg (by omega), if_neg (by omega), if_pos ⟨rfl, h1⟩]
def headB (lsn txn kind : Int) (undo : ByteArray) (undone : Int) (n : Nat) : List UInt8 :=
  be6 lsn ++ be6 txn ++ be1 kind ++ be2 (undo.size : Int) ++ undo.data.toList ++ be2 undone ++ be1 (n : Int)
open Go.RowKit Go.Sort Go.Proofs.Ytchpagboglomoaa.Tail Go.Proofs.YtchpagboglomoaaW.PrintWords Go.Proofs.YtchpagboglomoaaW.PrintLast Go.Proofs.YtchpagboglomoaaW.PrintMore Go.Proofs.Ytchpagboglomoaa.Copy Go.Proofs.Ytchpagboglomoaa.Bld
attribute [local go_sem] max2_int min2_int max_two min_two max_three min_three max_four min_four
set_option linter.unusedVariables false
set_option linter.unusedSimpArgs false

def joinB (s : ByteArray) : List UInt8 := be2 (s.size : Int) ++ s.data.toList
def joinL (l : List ByteArray) : List UInt8 := be2 (l.length : Int) ++ l.flatMap joinB
def shortAll (l : List ByteArray) : Bool := l.all fun s => decide (s.size ≤ 65535)
def record_Join.f (l : List ByteArray) : Option ByteArray :=
  if l.length ≤ 65535 then some (if shortAll l = true then ⟨(joinL l).toArray⟩ else ⟨#[]⟩) else some ⟨#[]⟩
theorem rdOf_at (l : List ByteArray) (i : Nat) (h : i < l.length) : rdOf ByteArray.empty l (i : Int) = l[i] := by simp [rdOf, List.getD_eq_getElem?_getD, List.getElem?_eq_getElem h]
theorem joinB_length (s : ByteArray) : (joinB s).length = 2 + s.size := by simp [joinB, be2]; omega
theorem join_take_length (l : List ByteArray) : ∀ k, k ≤ l.length → (∀ i (h : i < l.length), i < k → l[i].size ≤ 65535) → ((l.take k).flatMap joinB).length ≤ k * 65537
  | 0, _, _ => by simp
  | k + 1, hk, h => by
    have ih := join_take_length l k (by omega) (fun i hi hik => h i hi (by omega))
    have hs := h k (by omega) (by omega)
    rw [List.take_succ_eq_append_getElem (by omega), List.flatMap_append, List.length_append, List.flatMap_cons, List.flatMap_nil, List.append_nil, joinB_length]
    omega
theorem shortAll_no (l : List ByteArray) (k : Nat) (hk : k < l.length) (h : ¬ l[k].size ≤ 65535) : shortAll l = false := by
  unfold shortAll
  rw [List.all_eq_false]
  exact ⟨l[k], List.getElem_mem hk, by simpa using h⟩
theorem shortAll_yes (l : List ByteArray) (h : ∀ i (h : i < l.length), l[i].size ≤ 65535) : shortAll l = true := by
  unfold shortAll
  rw [List.all_eq_true]
  intro s hs
  obtain ⟨i, hi, rfl⟩ := List.getElem_of_mem hs
  exact decide_eq_true (h i hi)

def JoinInv (w1 : World) (l1 : List ByteArray) (k : Nat) (wr : World) : Prop :=
  Lib.IsBuilder 111 5 w1.heap.size w1.heap.size (Lib.byteCells (be2 (l1.length : Int) ++ (l1.take k).flatMap joinB)) wr ∧ Below w1.heap.size w1 wr ∧ w1.heap.size ≤ wr.heap.size ∧ (∀ i (h : i < l1.length), i < k → l1[i].size ≤ 65535)

set_option maxHeartbeats 400000 in
set_option maxRecDepth 100000 in
theorem join_many (A1 : Option Addr) (c1 : Nat) (l1 : List ByteArray) (w : World) (hl : ¬ l1.length ≤ 65535) :
    Calls Try.prog 35 #[.slice A1 l1.length c1] w fun e w' => e = .returned (.string ⟨#[]⟩) ∧ Below w.heap.size w w' := by
  have h1 : decide (65535 < (l1.length : Int)) = true := decide_eq_true (by omega)
  have h2 : decide (65535 < l1.length) = true := decide_eq_true (by omega)
  clear hl
  go_enter Try.func35, Try.ntmps35
  go_wp2
  go_ret
  exact ⟨rfl, by repeat (first | exact Below.refl _ _ | apply below_drew | apply below_alloc)⟩

set_option maxHeartbeats 800000 in
set_option maxRecDepth 100000 in
theorem join_does (A1 : Option Addr) (c1 : Nat) (l1 : List ByteArray) (w : World) (hr1 : Kd.C Kd.string w A1 l1.length l1) (hl : l1.length ≤ 65535) (r : ByteArray) (hres : (if shortAll l1 = true then (⟨(joinL l1).toArray⟩ : ByteArray) else ⟨#[]⟩) = r) :
    Calls Try.prog 35 #[.slice A1 l1.length c1] w fun e w' => e = .returned (.string r) ∧ Below w.heap.size w w' := by
  have HR := Aside0.mk hr1
  have HRES := Aside0.mk hres
  clear hres
  have HN := Aside0.mk (sput_two (l1.length : Int) (by omega) (by omega))
  clear hr1
  go_enter Try.func35, Try.ntmps35
  go_wp2_with (first | (go_at_call 34; refine (sum_Put.calls (l1.length : Int) 2 _ _ HN.out).mono ?_; rintro e w2 ⟨rfl, hb2⟩) | fail)
  have hs2 : w.heap.size + 1 ≤ w2.heap.size := by have := hb2.size; simpa using this
  refine (wstr_calls w.heap.size w.heap.size [] (strOfNums [(l1.length : Int) / 256, (l1.length : Int) % 256]) w2 (isBuilder_below (Lib.fresh_isBuilder 111 5 w) hb2) (by rw [strOfNums_size]; simp) (by omega)).mono ?_
  rintro e w3 ⟨rfl, hB3, hb3⟩
  have HD : Hid (JoinInv w l1 0 w3) := ⟨by simpa [str_bytes, be2_str] using hB3, (((Below.refl w.heap.size w).alloc (Nat.le_refl _) _).trans (hb2.mono (by simp))).trans hb3, by have := hb3.size; omega, fun i _ h => absurd h (by omega)⟩
  clear hB3 hb3 hb2 hs2
  go_wp2_with fail
  go_loopw [15] (fun i wr => ∃ k : Nat, k ≤ l1.length ∧ i = .int .i64 k ∧ Hid (JoinInv w l1 k wr)) (fun i _ => l1.length - (intOf i).toNat)
  case atStart => exact ⟨0, Nat.zero_le _, rfl, HD⟩
  case round =>
    obtain ⟨k, hk, rfl, HD⟩ := hrel
    by_cases hlt : k < l1.length
    · obtain ⟨ad', e, hy0⟩ := Kd.at_string HR.out (k : Int) (by omega) (by omega)
      cases e
      obtain ⟨p, hp⟩ : ∃ p, rdOf ByteArray.empty l1 (k : Int) = p := ⟨_, rfl⟩
      rw [hp] at hy0
      have hz0 := (HD.out.2.1.cell (World.block_lt_of_cell? w _ hy0)).trans hy0
      simp only [Int.toNat_natCast] at hz0
      have hpk : l1[k] = p := by rw [← rdOf_at l1 k hlt, hp]
      clear hy0 hp
      by_cases hsz : p.size ≤ 65535
      · have d1 : decide (65535 < (p.size : Int)) = false := decide_eq_false (by omega)
        have d2 : decide (65535 < p.size) = false := decide_eq_false (by omega)
        have HN2 := Aside0.mk (sput_two (p.size : Int) (by omega) (by omega))
        have hA1 : (strOfNums [(p.size : Int) / 256, (p.size : Int) % 256]).size + p.size ≤ 9223372036854775807 := by rw [strOfNums_size]; simp; omega
        have hA2 : ¬ 9223372036854775807 < (strOfNums [(p.size : Int) / 256, (p.size : Int) % 256]).size + p.size := by omega
        have hfl := join_take_length l1 k hk HD.out.2.2.2
        have hL : (Lib.byteCells (be2 (l1.length : Int) ++ (l1.take k).flatMap joinB)).length + (strOfNums [(p.size : Int) / 256, (p.size : Int) % 256] ++ p).size ≤ 140737488355328 := by
          rw [Lib.byteCells_length, ByteArray.size_append, strOfNums_size, List.length_append]
          simp only [List.length_cons, List.length_nil, be2]
          have : k * 65537 ≤ 65535 * 65537 := Nat.mul_le_mul_right _ (by omega)
          omega
        clear hfl
        go_wp2_with (first | (go_at_call 34; refine (sum_Put.calls (p.size : Int) 2 _ _ HN2.out).mono ?_; rintro e w4 ⟨rfl, hb4⟩) | fail)
        have hgs : w.heap.size ≤ wr.heap.size := HD.out.2.2.1
        refine (wstr_calls w.heap.size w.heap.size (Lib.byteCells (be2 (l1.length : Int) ++ (l1.take k).flatMap joinB)) _ w4 (isBuilder_below HD.out.1 hb4) hL (Nat.le_trans hgs hb4.size)).mono ?_
        rintro e w6 ⟨rfl, h6, hb6⟩
        have HI : Hid (JoinInv w l1 (k + 1) w6) := by
          refine ⟨?_, ((below_step HD.out.2.1 hb4).trans hb6), by have := hb4.size; have := hb6.size; omega, ?_⟩
          · have h5 := h6
            rw [str_bytes, bytes_app, ByteArray.data_append, Array.toList_append, be2_str] at h5
            rw [List.take_succ_eq_append_getElem hlt, List.flatMap_append, hpk, List.flatMap_cons, List.flatMap_nil, List.append_nil, ← List.append_assoc]
            exact h5
          · intro i hi hik
            by_cases he : i = k
            · subst he; rw [hpk]; exact hsz
            · exact HD.out.2.2.2 i hi (by omega)
        clear h6 hb6 hb4
        go_wp2_with fail
        go_roundw
        case rel => exact ⟨k + 1, by omega, by go_num, HI⟩
        case measure => simp [intOf]; omega
      · have d1 : decide (65535 < (p.size : Int)) = true := decide_eq_true (by omega)
        have d2 : decide (65535 < p.size) = true := decide_eq_true (by omega)
        go_wp2_with fail
        go_ret
        exact ⟨by rw [← HRES.out, shortAll_no l1 k hlt (by rw [hpk]; exact hsz)]; rfl, HD.out.2.1⟩
    · have hke : k = l1.length := by omega
      subst hke
      have hin := HD.out.1
      rw [List.take_length] at hin
      have HIN : Aside0 (Lib.IsBuilder 111 5 w.heap.size w.heap.size (Lib.byteCells (joinL l1)) wr) := ⟨hin⟩
      have hall := shortAll_yes l1 (fun i h => HD.out.2.2.2 i h h)
      clear hin
      go_wp2_with (first | (go_at_call 49; refine (string_calls w.heap.size w.heap.size (joinL l1) _ HIN.out HD.out.2.2.1).mono ?_; rintro e w7 ⟨rfl, hb7⟩))
      go_ret
      exact ⟨by rw [← HRES.out, hall]; rfl, HD.out.2.1.trans hb7⟩

/-- THE CONTRACT. -/
theorem record_Join.calls (A0 : Option Addr) (c0 : Nat) (l0 : List ByteArray) (r : ByteArray) (w : World) (hr0 : Kd.C Kd.string w A0 l0.length l0) (hc0 : l0.length ≤ c0) (h : record_Join.f l0 = some r) :
    Calls Try.prog 35 #[.slice A0 l0.length c0] w fun e w' => e = .returned (.string r) ∧ Below w.heap.size w w' := by
  unfold record_Join.f at h
  by_cases hs : l0.length ≤ 65535
  · rw [if_pos hs] at h
    obtain rfl := Option.some.inj h
    exact join_does A0 c0 l0 w hr0 hs _ rfl
  · rw [if_neg hs] at h
    obtain rfl := Option.some.inj h
    exact join_many A0 c0 l0 w hs
open Go.RowKit Go.Sort Go.Proofs.Ytchpagboglomoaa.Tail Go.Proofs.YtchpagboglomoaaW.PrintWords Go.Proofs.YtchpagboglomoaaW.PrintLast Go.Proofs.YtchpagboglomoaaW.PrintMore Go.Proofs.Ytchpagboglomoaa.Copy Go.Proofs.Ytchpagboglomoaa.Bld
attribute [local go_sem] max2_int min2_int max_two min_two max_three min_three max_four min_four
set_option linter.unusedVariables false
set_option linter.unusedSimpArgs false

def concordanceref07_Join.f (l : List ByteArray) : Option ByteArray := record_Join.f l

set_option maxHeartbeats 400000 in
set_option maxRecDepth 100000 in
theorem rjoin_many (A1 : Option Addr) (c1 : Nat) (l1 : List ByteArray) (w : World) (hl : ¬ l1.length ≤ 65535) :
    Calls Try.prog 40 #[.slice A1 l1.length c1] w fun e w' => e = .returned (.string ⟨#[]⟩) ∧ Below w.heap.size w w' := by
  have h1 : decide (65535 < (l1.length : Int)) = true := decide_eq_true (by omega)
  have h2 : decide (65535 < l1.length) = true := decide_eq_true (by omega)
  clear hl
  go_enter Try.func40, Try.ntmps40
  go_wp2
  go_ret
  exact ⟨rfl, Below.refl _ _⟩

def RJoinInv (w : World) (l1 : List ByteArray) (k : Nat) (s : ByteArray) (wr : World) : Prop :=
  s.data.toList = be2 (l1.length : Int) ++ (l1.take k).flatMap joinB ∧ Below w.heap.size w wr ∧ (∀ i (h : i < l1.length), i < k → l1[i].size ≤ 65535)

set_option maxHeartbeats 800000 in
set_option maxRecDepth 100000 in
theorem rjoin_does (A1 : Option Addr) (c1 : Nat) (l1 : List ByteArray) (w : World) (hr1 : Kd.C Kd.string w A1 l1.length l1) (hl : l1.length ≤ 65535) (r : ByteArray) (hres : (if shortAll l1 = true then (⟨(joinL l1).toArray⟩ : ByteArray) else ⟨#[]⟩) = r) :
    Calls Try.prog 40 #[.slice A1 l1.length c1] w fun e w' => e = .returned (.string r) ∧ Below w.heap.size w w' := by
  have HR := Aside0.mk hr1
  have HRES := Aside0.mk hres
  have HN := Aside0.mk (ref02_two (l1.length : Int) (by omega) (by omega) 8 (by omega))
  clear hr1 hres
  have d0 : decide (65535 < (l1.length : Int)) = false := decide_eq_false (by omega)
  go_enter Try.func40, Try.ntmps40
  go_wp2_with (first | (go_at_call 36; refine (concordanceref02_Put.calls 8 (l1.length : Int) 2 _ _ HN.out).mono ?_; rintro e w2 ⟨rfl, hb2⟩))
  obtain ⟨s0, hs0⟩ : ∃ s0, strOfNums [(l1.length : Int) / 256, (l1.length : Int) % 256] = s0 := ⟨_, rfl⟩
  rw [hs0]
  have HD : Hid (RJoinInv w l1 0 s0 w2) := ⟨by rw [← hs0, be2_str]; simp, hb2, fun i _ h => absurd h (by omega)⟩
  clear hs0 hb2 d0
  go_loopw [3, 4] (fun x i wr => ∃ (k : Nat) (s : ByteArray), k ≤ l1.length ∧ x = .string s ∧ i = .int .i64 k ∧ Hid (RJoinInv w l1 k s wr)) (fun _ i _ => l1.length - (intOf i).toNat)
  case atStart => exact ⟨0, s0, Nat.zero_le _, rfl, rfl, HD⟩
  case round =>
    obtain ⟨k, s, hk, rfl, rfl, HD⟩ := hrel
    have hfl := join_take_length l1 k hk HD.out.2.2
    have hss : s.size ≤ 5000000000 := by
      have h := congrArg List.length HD.out.1
      rw [List.length_append] at h
      simp only [be2, List.length_cons, List.length_nil, Array.length_toList] at h
      have h2 : s.data.size = s.size := rfl
      have : k * 65537 ≤ 65535 * 65537 := Nat.mul_le_mul_right _ (by omega)
      omega
    clear hfl
    by_cases hlt : k < l1.length
    · obtain ⟨ad', e, hy0⟩ := Kd.at_string HR.out (k : Int) (by omega) (by omega)
      cases e
      obtain ⟨p, hp⟩ : ∃ p, rdOf ByteArray.empty l1 (k : Int) = p := ⟨_, rfl⟩
      rw [hp] at hy0
      have hz0 := (HD.out.2.1.cell (World.block_lt_of_cell? w _ hy0)).trans hy0
      simp only [Int.toNat_natCast] at hz0
      have hpk : l1[k] = p := by rw [← rdOf_at l1 k hlt, hp]
      clear hy0 hp
      have hi0 : (k : Int) < (l1.length : Int) := by omega
      by_cases hsz : p.size ≤ 65535
      · have d1 : decide (65535 < (p.size : Int)) = false := decide_eq_false (by omega)
        have d2 : decide (65535 < p.size) = false := decide_eq_false (by omega)
        have hn2 := ref02_two (p.size : Int) (by omega) (by omega) 8 (by omega)
        obtain ⟨t0, ht0⟩ : ∃ t0, strOfNums [(p.size : Int) / 256, (p.size : Int) % 256] = t0 := ⟨_, rfl⟩
        have hts : t0.size = 2 := by rw [← ht0]; exact strOfNums_size _
        rw [ht0] at hn2
        have HN2 := Aside0.mk hn2
        have HT0 := Aside0.mk ht0
        clear hn2 ht0
        have hA4 : ¬ 9223372036854775807 < t0.size + p.size := by omega
        have hA5 : ¬ 9223372036854775807 < s.size + (t0.size + p.size) := by omega
        have HTS := Aside0.mk hts
        clear hts
        have k0 := cell_regrown hz0
        have C1 := fun d os => Calls.regrown_of (w := wr) (d := d) (os := os) (concordanceref02_Put.calls 8 (p.size : Int) 2 _ _ HN2.out)
        go_wp2_with fail
        refine wp_region_quiet_below (by kernel_rfl) (by kernel_rfl) ?_
        repeat (quiet_step (first | with_reducible exact C1 _ _))
        refine wpQuiet_nil ?_
        intro w4 hw4
        have hb4 : Hid (Below w.heap.size w w4) := by
          obtain ⟨p4, rfl⟩ := hw4
          exact below_step HD.out.2.1 (below_regrown wr p4.d p4.os)
        clear hw4 k0 C1
        go_wp2_with fail
        go_roundw
        case rel =>
          refine ⟨k + 1, _, by omega, rfl, by go_num, ⟨?_, hb4.out, ?_⟩⟩
          · have h5 := HD.out.1
            rw [ByteArray.data_append, ByteArray.data_append, Array.toList_append, Array.toList_append, ← HT0.out, be2_str, h5,
              List.take_succ_eq_append_getElem hlt, List.flatMap_append, hpk, List.flatMap_cons, List.flatMap_nil, List.append_nil]
            simp only [joinB, List.append_assoc]
          · intro i hi hik
            by_cases he : i = k
            · subst he; rw [hpk]; exact hsz
            · exact HD.out.2.2 i hi (by omega)
        case measure => simp [intOf]; omega
      · have d1 : decide (65535 < (p.size : Int)) = true := decide_eq_true (by omega)
        have d2 : decide (65535 < p.size) = true := decide_eq_true (by omega)
        go_wp2_with fail
        go_ret
        exact ⟨by rw [← HRES.out, shortAll_no l1 k hlt (by rw [hpk]; exact hsz)]; rfl, HD.out.2.1⟩
    · have hke : k = l1.length := by omega
      subst hke
      have hall := shortAll_yes l1 (fun i h => HD.out.2.2 i h h)
      have HIN : Hid (s = r ∧ Below w.heap.size w wr) := by
        refine ⟨?_, HD.out.2.1⟩
        have h := HD.out.1
        rw [List.take_length] at h
        have : s = ⟨s.data.toList.toArray⟩ := by cases s; simp
        rw [this, h, ← HRES.out, if_pos hall]
        rfl
      go_wp2_with fail
      go_ret
      exact ⟨congrArg (fun x => Ending.returned (Value.string x)) HIN.out.1, HIN.out.2⟩

/-- THE CONTRACT. -/
theorem concordanceref07_Join.calls (A0 : Option Addr) (c0 : Nat) (l0 : List ByteArray) (r : ByteArray) (w : World) (hr0 : Kd.C Kd.string w A0 l0.length l0) (hc0 : l0.length ≤ c0) (h : concordanceref07_Join.f l0 = some r) :
    Calls Try.prog 40 #[.slice A0 l0.length c0] w fun e w' => e = .returned (.string r) ∧ Below w.heap.size w w' := by
  unfold concordanceref07_Join.f record_Join.f at h
  by_cases hs : l0.length ≤ 65535
  · rw [if_pos hs] at h
    obtain rfl := Option.some.inj h
    exact rjoin_does A0 c0 l0 w hr0 hs _ rfl
  · rw [if_neg hs] at h
    obtain rfl := Option.some.inj h
    exact rjoin_many A0 c0 l0 w hs
open Go.RowKit Go.Proofs.YtchpagboglomoaaW.PrintWords Go.Proofs.YtchpagboglomoaaW.PrintLast Go.Proofs.YtchpagboglomoaaW.PrintMore Go.Proofs.Ytchpagboglomoaa.Copy
set_option linter.unusedVariables false
set_option linter.unusedSimpArgs false

theorem toList_data (s : ByteArray) : s.toList = s.data.toList := by first | rfl | exact ByteArray.toList_eq s
theorem extract_size (b : ByteArray) (f l : Nat) (h : l ≤ b.size) : (b.extract f l).size = l - f := by
  rw [ByteArray.size_extract]; omega
theorem getD_bt (s : ByteArray) (i : Nat) : ((s.data.toList.getD i 0).toNat : Int) = bt s i := by
  unfold bt
  split
  · rename_i h
    have h' : i < s.data.toList.length := by simpa using h
    rw [List.getD_eq_getElem?_getD, List.getElem?_eq_getElem h']
    rfl
  · rename_i h
    have h' : s.data.toList.length ≤ i := by simpa using h
    rw [List.getD_eq_getElem?_getD, List.getElem?_eq_none h']
    rfl
theorem extract_getD (b : ByteArray) (f l k : Nat) (hk : k < l - f) : (b.extract f l).data.toList.getD k 0 = b.data.toList.getD (f + k) 0 := by
  have h0 : b.data.toList.length = b.size := by simp
  rw [ByteArray.data_extract]
  simp only [Array.toList_extract, List.getD_eq_getElem?_getD]
  simp only [List.extract_eq_take_drop]
  rw [List.getElem?_take_of_lt hk, List.getElem?_drop]
end Go.Proofs.Ytchpagboglomoaa.GP

/- What Get tells, in plain Lean: patch.Get and the document's Get read the same pieces; Put and Get go back and forth. -/
namespace Go.Proofs.Ytchpagboglomoaa.GP
open Go.RowKit Go.Proofs.YtchpagboglomoaaW.PrintWords Go.Proofs.YtchpagboglomoaaW.PrintLast Go.Proofs.YtchpagboglomoaaW.PrintMore Go.Proofs.Ytchpagboglomoaa.Copy
set_option linter.unusedVariables false
set_option linter.unusedSimpArgs false
set_option maxHeartbeats 400000

theorem wid (n : Int) (h0 : 0 ≤ n) (h1 : n < 9223372036854775808) : wrap64 n = n := by unfold wrap64; omega
theorem or_join (x b : Nat) (hx : x < 256) (hb : b < 256) : Go.bits .or .i64 ((x * 256 : Nat) : Int) (b : Int) = ((x * 256 + b : Nat) : Int) := by
  show IntKind.i64.wrap ((BitVec.ofInt 64 ((x * 256 : Nat) : Int) ||| BitVec.ofInt 64 (b : Int)).toNat : Int) = _
  rw [BitVec.toNat_or, ofInt_u64 _ (by omega), ofInt_u64 b (by omega), nat_join8 _ b (by omega) (by omega)]
  exact Lib.wrap_i64_small _ (by omega)
/-- A number read at a place. -/
def num2 (s : ByteArray) (p : Nat) : Nat := (s.data.toList.getD p 0).toNat * 256 + (s.data.toList.getD (p + 1) 0).toNat
theorem num2_lt (s : ByteArray) (p : Nat) : num2 s p < 65536 := by
  have h1 := (s.data.toList.getD p 0).toNat_lt
  have h2 := (s.data.toList.getD (p + 1) 0).toNat_lt
  unfold num2; omega
theorem bt_nat (s : ByteArray) (i : Nat) : bt s i = ((s.data.toList.getD i 0).toNat : Int) := (getD_bt s i).symm
theorem bt_extract (s : ByteArray) (p i : Nat) (hi : i < 2) : bt (s.extract p (p + 2)) i = ((s.data.toList.getD (p + i) 0).toNat : Int) := by
  rw [bt_nat, extract_getD s p (p + 2) i (by omega)]
theorem sumGet_two (s : ByteArray) (p : Nat) (hp : p + 2 ≤ s.size) (k : Nat) (hk : 4 ≤ k) : sum_Get.f k (s.extract p (p + 2)) = some (num2 s p : Int) := by
  obtain ⟨k, rfl⟩ : ∃ m, k = m + 1 + 1 + 1 := ⟨k - 3, by omega⟩
  have hsz : (s.extract p (p + 2)).size = 2 := by rw [extract_size _ _ _ hp]; omega
  have h1 := (s.data.toList.getD p 0).toNat_lt
  have h2 := (s.data.toList.getD (p + 1) 0).toNat_lt
  have b0 : bt (s.extract p (p + 2)) 0 = ((s.data.toList.getD p 0).toNat : Int) := bt_extract s p 0 (by omega)
  have b1 : bt (s.extract p (p + 2)) 1 = ((s.data.toList.getD (p + 1) 0).toNat : Int) := bt_extract s p 1 (by omega)
  have z0 : Go.bits .or .i64 0 ((s.data.toList.getD p 0).toNat : Int) = ((s.data.toList.getD p 0).toNat : Int) := by simpa using or_join 0 (s.data.toList.getD p 0).toNat (by omega) h1
  unfold sum_Get.f
  rw [hsz, if_neg (by omega), sum_Get.l0.eq_2, if_pos (by omega), if_pos (by omega), hsz, if_pos (by omega), b0, show wrap64 (0 * 256) = 0 from wid 0 (by omega) (by omega), wid _ (by omega) (by omega), z0, show wrap64 (0 + 1) = 1 from wid 1 (by omega) (by omega),
    sum_Get.l0.eq_2, if_pos (by omega), if_pos (by omega), hsz, if_pos (by omega), b1, wid _ (by omega) (by omega), wid _ (by omega) (by omega), show wrap64 (1 + 1) = 2 from wid 2 (by omega) (by omega),
    show ((s.data.toList.getD p 0).toNat : Int) * 256 = (((s.data.toList.getD p 0).toNat * 256 : Nat) : Int) by omega, or_join _ _ h1 h2, sum_Get.l0.eq_2, if_neg (by omega)]
  rfl
theorem refGet_two (s : ByteArray) (p : Nat) (hp : p + 2 ≤ s.size) (k : Nat) (hk : 4 ≤ k) : concordanceref02_Get.f k (s.extract p (p + 2)) = some (num2 s p : Int) := by
  obtain ⟨k, rfl⟩ : ∃ m, k = m + 1 + 1 + 1 := ⟨k - 3, by omega⟩
  have hsz : (s.extract p (p + 2)).size = 2 := by rw [extract_size _ _ _ hp]; omega
  have h1 := (s.data.toList.getD p 0).toNat_lt
  have h2 := (s.data.toList.getD (p + 1) 0).toNat_lt
  have b0 : bt (s.extract p (p + 2)) 0 = ((s.data.toList.getD p 0).toNat : Int) := bt_extract s p 0 (by omega)
  have b1 : bt (s.extract p (p + 2)) 1 = ((s.data.toList.getD (p + 1) 0).toNat : Int) := bt_extract s p 1 (by omega)
  unfold concordanceref02_Get.f
  rw [concordanceref02_Get.l0.eq_2, hsz, if_pos (by omega), if_pos (by omega), if_pos (by omega), b0, show wrap64 (256 * 0) = 0 from wid 0 (by omega) (by omega), wid ((s.data.toList.getD p 0).toNat : Int) (by omega) (by omega), wid _ (by omega) (by omega), show wrap64 (0 + 1) = 1 from wid 1 (by omega) (by omega),
    concordanceref02_Get.l0.eq_2, hsz, if_pos (by omega), if_pos (by omega), if_pos (by omega), b1, wid (256 * _) (by omega) (by omega), wid ((s.data.toList.getD (p + 1) 0).toNat : Int) (by omega) (by omega), wid _ (by omega) (by omega), show wrap64 (1 + 1) = 2 from wid 2 (by omega) (by omega),
    concordanceref02_Get.l0.eq_2, hsz, if_neg (by omega)]
  unfold num2
  congr 1
  omega

/-- The pieces that are read: so many, from a place on. -/
def getGo {α : Type} (mk : Int → ByteArray → α) (s : ByteArray) : Nat → Nat → List α → Option (List α × Nat)
  | 0, pos, acc => some (acc, pos)
  | c + 1, pos, acc => if s.size < pos + 4 then none else if s.size < pos + 4 + num2 s (pos + 2) then none else
      getGo mk s c (pos + 4 + num2 s (pos + 2)) (acc ++ [mk (num2 s pos) (s.extract (pos + 4) (pos + 4 + num2 s (pos + 2)))])
def getOut {α : Type} (fin : List α → Bool) : Option (List α × Nat) → List α × Int × Int
  | none => ([], 0, 3)
  | some (l, p) => if fin l = true then (l, (p : Int), 0) else ([], 0, 2)
theorem getOut_some {α : Type} (fin : List α → Bool) (l : List α) (p : Nat) : getOut fin (some (l, p)) = if fin l = true then (l, (p : Int), 0) else ([], 0, 2) := rfl
theorem getGo_zero {α : Type} (mk : Int → ByteArray → α) (s : ByteArray) (pos : Nat) (acc : List α) : getGo mk s 0 pos acc = some (acc, pos) := rfl
theorem getGo_length {α : Type} (mk : Int → ByteArray → α) (s : ByteArray) : ∀ (d pos : Nat) (acc l : List α) (p : Nat), getGo mk s d pos acc = some (l, p) → l.length = acc.length + d := by
  intro d
  induction d with
  | zero => intro pos acc l p h; obtain ⟨rfl, rfl⟩ := Prod.mk.inj (Option.some.inj h); rfl
  | succ d ih =>
    intro pos acc l p h
    unfold getGo at h
    split at h
    · cases h
    split at h
    · cases h
    have := ih _ _ _ _ h
    rw [List.length_append] at this
    simp only [List.length_cons, List.length_nil] at this
    omega
end Go.Proofs.Ytchpagboglomoaa.GP

/- Put and Get go back and forth: the bytes of what Get read are those it read; what Put wrote is read again. -/
namespace Go.Proofs.Ytchpagboglomoaa.GP
open Go.RowKit Go.Proofs.YtchpagboglomoaaW.PrintWords Go.Proofs.YtchpagboglomoaaW.PrintLast Go.Proofs.YtchpagboglomoaaW.PrintMore Go.Proofs.Ytchpagboglomoaa.Copy
set_option linter.unusedVariables false
set_option linter.unusedSimpArgs false
set_option maxHeartbeats 400000

theorem data_ext {a b : ByteArray} (h : a.data.toList = b.data.toList) : a = b := by
  have h1 : a.data = b.data := Array.ext' h
  cases a; cases b; simp at h1; rw [h1]
theorem size_len (s : ByteArray) : s.data.toList.length = s.size := by simp
theorem extract_list (s : ByteArray) (a b : Nat) : (s.extract a b).data.toList = (s.data.toList.drop a).take (b - a) := by
  simp [ByteArray.data_extract, List.extract_eq_take_drop]
theorem getD_drop (L : List UInt8) (p i : Nat) : (L.drop p).getD i 0 = L.getD (p + i) 0 := by
  simp [List.getD_eq_getElem?_getD, List.getElem?_drop]
theorem be2_num2 (s : ByteArray) (p : Nat) (hp : p + 2 ≤ s.size) : be2 (num2 s p : Int) = (s.data.toList.drop p).take 2 := by
  have h1 := (s.data.toList.getD p 0).toNat_lt
  have h2 := (s.data.toList.getD (p + 1) 0).toNat_lt
  have e1 : ((num2 s p : Int) / 256).toNat = (s.data.toList.getD p 0).toNat := by unfold num2; omega
  have e2 : ((num2 s p : Int) % 256).toNat = (s.data.toList.getD (p + 1) 0).toNat := by unfold num2; omega
  have hl := size_len s
  unfold be2
  rw [e1, e2, UInt8.ofNat_toNat, UInt8.ofNat_toNat]
  have g : ∀ i, p + i < s.size → s.data.toList[p + i]? = some (s.data.toList.getD (p + i) 0) := by
    intro i hi
    rw [List.getD_eq_getElem?_getD, List.getElem?_eq_getElem (by omega), Option.getD_some]
  have g0 := g 0 (by omega)
  have g1 := g 1 (by omega)
  rw [Nat.add_zero] at g0
  rw [List.drop_eq_getElem_cons (by omega), List.drop_eq_getElem_cons (by omega)]
  rw [List.getElem?_eq_getElem (by omega)] at g0 g1
  rw [← Option.some.inj g0, ← Option.some.inj g1]
  rfl
theorem be2_get (n : Int) (h0 : 0 ≤ n) (h1 : n < 65536) (s : ByteArray) (p : Nat) (r : List UInt8) (h : s.data.toList.drop p = be2 n ++ r) : (num2 s p : Int) = n := by
  have e0 : s.data.toList.getD p 0 = UInt8.ofNat (n / 256).toNat := by
    have := getD_drop s.data.toList p 0
    rw [h] at this
    simpa [be2] using this.symm
  have e1 : s.data.toList.getD (p + 1) 0 = UInt8.ofNat (n % 256).toNat := by
    have := getD_drop s.data.toList p 1
    rw [h] at this
    simpa [be2] using this.symm
  unfold num2
  rw [e0, e1, UInt8.toNat_ofNat', UInt8.toNat_ofNat']
  omega
theorem be2_length (n : Int) : (be2 n).length = 2 := rfl
end Go.Proofs.Ytchpagboglomoaa.GP

/- What the two readers of bytes take and tell, in plain Lean. No program in sight but the printed functions. -/
namespace Go.Proofs.Ytchpagboglomoaa.GP
open Go.RowKit Go.Proofs.YtchpagboglomoaaW.PrintWords Go.Proofs.YtchpagboglomoaaW.PrintLast Go.Proofs.YtchpagboglomoaaW.PrintMore Go.Proofs.Ytchpagboglomoaa.Copy
set_option linter.unusedVariables false
set_option linter.unusedSimpArgs false
set_option maxHeartbeats 400000

/-- A number's value, the highest byte first. -/
def numF (x : Nat) (L : List UInt8) : Nat := L.foldl (fun x b => x * 256 + b.toNat) x
def numL (L : List UInt8) : Nat := numF 0 L
theorem numF_lt : ∀ (L : List UInt8) (x n : Nat), x < 256 ^ n → numF x L < 256 ^ (n + L.length)
  | [], x, n, h => by simpa [numF] using h
  | b :: L, x, n, h => by
    have hb := b.toNat_lt
    have h1 : x * 256 + b.toNat < 256 ^ (n + 1) := by rw [Nat.pow_succ]; omega
    have := numF_lt L (x * 256 + b.toNat) (n + 1) h1
    rw [List.length_cons, show n + (L.length + 1) = n + 1 + L.length by omega]
    exact this
theorem numL_lt (L : List UInt8) : numL L < 256 ^ L.length := by
  have h := numF_lt L 0 0 (by simp)
  rw [Nat.zero_add] at h
  exact h

theorem or_join2 (x b : Nat) (hx : x < 281474976710656) (hb : b < 256) : Go.bits .or .i64 ((x * 256 : Nat) : Int) (b : Int) = ((x * 256 + b : Nat) : Int) := by
  show IntKind.i64.wrap ((BitVec.ofInt 64 ((x * 256 : Nat) : Int) ||| BitVec.ofInt 64 (b : Int)).toNat : Int) = _
  rw [BitVec.toNat_or, ofInt_u64 _ (by omega), ofInt_u64 b (by omega), nat_join8 _ b (by omega) (by omega)]
  exact Lib.wrap_i64_small _ (by omega)
theorem bt_at (s : ByteArray) (i : Nat) (h : i < s.data.toList.length) : bt s (i : Int) = ((s.data.toList[i]).toNat : Int) := by
  rw [bt_nat, List.getD_eq_getElem?_getD, List.getElem?_eq_getElem h]; rfl

theorem sumGet_loop (b : ByteArray) (hb : b.size ≤ 6) : ∀ (d k i x : Nat), i + d = b.size → d < k → x < 256 ^ i →
    sum_Get.l0 k b (x : Int) (b.size : Int) (i : Int) = some (numF x (b.data.toList.drop i) : Int) := by
  intro d
  induction d with
  | zero =>
    intro k i x h1 h2 h3
    obtain ⟨k, rfl⟩ : ∃ m, k = m + 1 := ⟨k - 1, by omega⟩
    rw [sum_Get.l0.eq_2, if_neg (by omega), List.drop_of_length_le (by rw [size_len]; omega)]
    rfl
  | succ d ih =>
    intro k i x h1 h2 h3
    obtain ⟨k, rfl⟩ : ∃ m, k = m + 1 := ⟨k - 1, by omega⟩
    have hl : i < b.data.toList.length := by rw [size_len]; omega
    have hc := (b.data.toList[i]).toNat_lt
    have hp : (256 : Nat) ^ i ≤ 256 ^ 5 := Nat.pow_le_pow_right (by omega) (by omega)
    have hx : x < 1099511627776 := Nat.lt_of_lt_of_le h3 (Nat.le_trans hp (by decide))
    have h4 : x * 256 + (b.data.toList[i]).toNat < 256 ^ (i + 1) := by rw [Nat.pow_succ]; omega
    rw [sum_Get.l0.eq_2, if_pos (by omega), if_pos (by omega), if_pos (by omega), bt_at b i hl, wid ((x : Int) * 256) (by omega) (by omega), wid (((b.data.toList[i]).toNat : Nat) : Int) (by omega) (by omega), wid ((i : Int) + 1) (by omega) (by omega),
      show (x : Int) * 256 = ((x * 256 : Nat) : Int) by omega, or_join2 x _ (by omega) hc, show (i : Int) + 1 = ((i + 1 : Nat) : Int) by omega, ih k (i + 1) _ (by omega) (by omega) h4, List.drop_eq_getElem_cons hl]
    rfl
theorem sumGet_tells (b : ByteArray) (hb : b.size ≤ 6) (k : Nat) (hk : 7 ≤ k) : sum_Get.f k b = some (numL b.data.toList : Int) := by
  unfold sum_Get.f
  rw [if_neg (by omega)]
  exact sumGet_loop b hb b.size k 0 0 (by omega) (by omega) (by simp)
theorem ref02Get_loop (b : ByteArray) (hb : b.size ≤ 6) : ∀ (d k i x : Nat), i + d = b.size → d < k → x < 256 ^ i →
    concordanceref02_Get.l0 k b (x : Int) (i : Int) = some (numF x (b.data.toList.drop i) : Int) := by
  intro d
  induction d with
  | zero =>
    intro k i x h1 h2 h3
    obtain ⟨k, rfl⟩ : ∃ m, k = m + 1 := ⟨k - 1, by omega⟩
    rw [concordanceref02_Get.l0.eq_2, if_neg (by omega), List.drop_of_length_le (by rw [size_len]; omega)]
    rfl
  | succ d ih =>
    intro k i x h1 h2 h3
    obtain ⟨k, rfl⟩ : ∃ m, k = m + 1 := ⟨k - 1, by omega⟩
    have hl : i < b.data.toList.length := by rw [size_len]; omega
    have hc := (b.data.toList[i]).toNat_lt
    have hp : (256 : Nat) ^ i ≤ 256 ^ 5 := Nat.pow_le_pow_right (by omega) (by omega)
    have hx : x < 1099511627776 := Nat.lt_of_lt_of_le h3 (Nat.le_trans hp (by decide))
    have h4 : x * 256 + (b.data.toList[i]).toNat < 256 ^ (i + 1) := by rw [Nat.pow_succ]; omega
    rw [concordanceref02_Get.l0.eq_2, if_pos (by omega), if_pos (by omega), if_pos (by omega), bt_at b i hl, wid (256 * (x : Int)) (by omega) (by omega), wid (((b.data.toList[i]).toNat : Nat) : Int) (by omega) (by omega), wid ((i : Int) + 1) (by omega) (by omega), wid (256 * (x : Int) + _) (by omega) (by omega),
      show 256 * (x : Int) + ((b.data.toList[i]).toNat : Int) = ((x * 256 + (b.data.toList[i]).toNat : Nat) : Int) by omega, show (i : Int) + 1 = ((i + 1 : Nat) : Int) by omega, ih k (i + 1) _ (by omega) (by omega) h4, List.drop_eq_getElem_cons hl]
    rfl
theorem ref02Get_tells (b : ByteArray) (hb : b.size ≤ 6) (k : Nat) (hk : 7 ≤ k) : concordanceref02_Get.f k b = some (numL b.data.toList : Int) := by
  unfold concordanceref02_Get.f
  exact ref02Get_loop b hb b.size k 0 0 (by omega) (by omega) (by simp)

/-- So many bytes, and what is left. -/
def takeP (s : ByteArray) (e : Int) (n : Nat) : ByteArray × ByteArray × Int :=
  if e = 0 then (if n ≤ s.size then (s.extract 0 n, s.extract n s.size, 0) else (⟨#[]⟩, s, 3)) else (⟨#[]⟩, s, e)
def numP (s : ByteArray) (e : Int) (n : Nat) : Nat × ByteArray × Int := (numL (takeP s e n).1.data.toList, (takeP s e n).2.1, (takeP s e n).2.2)
def textP (s : ByteArray) (e : Int) : ByteArray × ByteArray × Int := takeP (numP s e 2).2.1 (numP s e 2).2.2 (numP s e 2).1
theorem takeP_ok (s : ByteArray) (n : Nat) (h : n ≤ s.size) : takeP s 0 n = (s.extract 0 n, s.extract n s.size, 0) := by unfold takeP; rw [if_pos rfl, if_pos h]
theorem takeP_short (s : ByteArray) (n : Nat) (h : ¬ n ≤ s.size) : takeP s 0 n = (⟨#[]⟩, s, 3) := by unfold takeP; rw [if_pos rfl, if_neg h]
theorem takeP_err (s : ByteArray) (e : Int) (n : Nat) (h : e ≠ 0) : takeP s e n = (⟨#[]⟩, s, e) := by unfold takeP; rw [if_neg h]
theorem takeP_size (s : ByteArray) (e : Int) (n : Nat) : (takeP s e n).1.size ≤ n := by
  unfold takeP
  split
  · split
    · rw [extract_size _ _ _ (by omega)]; omega
    · exact Nat.zero_le _
  · exact Nat.zero_le _
theorem take_tells (s : ByteArray) (e : Int) (n : Nat) (k : Nat) (hk : 1 ≤ k) : record_reader_take.f k s e (n : Int) = some (takeP s e n) := by
  obtain ⟨k, rfl⟩ : ∃ m, k = m + 1 := ⟨k - 1, by omega⟩
  unfold record_reader_take.f takeP
  by_cases he : e = 0
  · subst he
    rw [if_pos rfl, if_pos rfl, record_reader_take.j0.eq_2]
    by_cases h : n ≤ s.size
    · rw [if_neg (by rw [decide_eq_false (by omega)]; decide), if_pos rfl, if_pos (by omega), if_pos (by omega), if_pos h, Int.toNat_natCast]
    · rw [if_pos (decide_eq_true (by omega)), if_neg h]
  · rw [if_neg he, if_neg he, record_reader_take.j0.eq_2, if_neg (by decide), if_neg he]
theorem refTake_tells (s : ByteArray) (e : Int) (n : Nat) (k : Nat) (hk : 1 ≤ k) : concordanceref07_Take.f k s e (n : Int) = some (takeP s e n) := by
  obtain ⟨k, rfl⟩ : ∃ m, k = m + 1 := ⟨k - 1, by omega⟩
  unfold concordanceref07_Take.f takeP
  by_cases he : e = 0
  · subst he
    rw [if_pos rfl, if_pos rfl, concordanceref07_Take.j0.eq_2]
    by_cases h : n ≤ s.size
    · rw [if_neg (by rw [decide_eq_false (by omega)]; decide), if_pos rfl, if_pos (by omega), if_pos (by omega), if_pos h, Int.toNat_natCast]
    · rw [if_pos (decide_eq_true (by omega)), if_neg h]
  · rw [if_neg he, if_neg he, concordanceref07_Take.j0.eq_2, if_neg (by decide), if_neg he]
def inI (x : Nat × ByteArray × Int) : Int × ByteArray × Int := ((x.1 : Int), x.2.1, x.2.2)
theorem number_tells (s : ByteArray) (e : Int) (n : Nat) (hn : n ≤ 6) (k : Nat) (hk : 7 ≤ k) : record_reader_number.f k s e (n : Int) = some (inI (numP s e n)) := by
  have h := takeP_size s e n
  unfold record_reader_number.f
  rw [take_tells s e n k (by omega), Option.bind_some, sumGet_tells _ (by omega) k hk, Option.bind_some]
  rfl
theorem refNumber_tells (s : ByteArray) (e : Int) (n : Nat) (hn : n ≤ 6) (k : Nat) (hk : 7 ≤ k) : concordanceref07_Number.f k s e (n : Int) = some (inI (numP s e n)) := by
  have h := takeP_size s e n
  unfold concordanceref07_Number.f
  rw [refTake_tells s e n k (by omega), Option.bind_some, ref02Get_tells _ (by omega) k hk, Option.bind_some]
  rfl
theorem text_tells (s : ByteArray) (e : Int) (k : Nat) (hk : 7 ≤ k) : record_reader_text.f k s e = some (textP s e) := by
  unfold record_reader_text.f
  rw [show (2 : Int) = ((2 : Nat) : Int) from rfl, number_tells s e 2 (by omega) k hk, Option.bind_some]
  show (Option.bind (record_reader_take.f k (numP s e 2).2.1 (numP s e 2).2.2 ((numP s e 2).1 : Int)) _) = _
  rw [take_tells _ _ _ k (by omega), Option.bind_some]
  rfl
theorem numP_err (s : ByteArray) (e : Int) (n : Nat) (h : e ≠ 0) : numP s e n = (0, s, e) := by unfold numP; rw [takeP_err s e n h]; rfl
theorem numP_short (s : ByteArray) (n : Nat) (h : ¬ n ≤ s.size) : numP s 0 n = (0, s, 3) := by unfold numP; rw [takeP_short s n h]; rfl
theorem numP_ok (s : ByteArray) (n : Nat) (h : n ≤ s.size) : numP s 0 n = (numL (s.data.toList.take n), s.extract n s.size, 0) := by
  unfold numP; rw [takeP_ok s n h]
  show (numL (s.extract 0 n).data.toList, _, _) = _
  rw [extract_list]; rfl
theorem numP_lt (s : ByteArray) (e : Int) (n : Nat) : (numP s e n).1 < 256 ^ n := by
  have h1 := numL_lt (takeP s e n).1.data.toList
  rw [size_len] at h1
  exact Nat.lt_of_lt_of_le h1 (Nat.pow_le_pow_right (by omega) (takeP_size s e n))
theorem rest_list (s : ByteArray) (n : Nat) : (s.extract n s.size).data.toList = s.data.toList.drop n := by
  rw [extract_list, List.take_of_length_le (by rw [List.length_drop, size_len]; omega)]
theorem take_list (s : ByteArray) (n : Nat) : (s.extract 0 n).data.toList = s.data.toList.take n := by
  rw [extract_list]; rfl
theorem rest_size (s : ByteArray) (n : Nat) (h : n ≤ s.size) : (s.extract n s.size).size = s.size - n := by rw [extract_size _ _ _ (Nat.le_refl _)]

/-- The bytes of a number, and the number of its bytes. -/
theorem numL_be1 (n : Int) (h0 : 0 ≤ n) (h1 : n < 256) : (numL (be1 n) : Int) = n := by
  simp only [numL, numF, be1, List.foldl_cons, List.foldl_nil, UInt8.toNat_ofNat']; omega
theorem numL_be2 (n : Int) (h0 : 0 ≤ n) (h1 : n < 65536) : (numL (be2 n) : Int) = n := by
  simp only [numL, numF, be2, List.foldl_cons, List.foldl_nil, UInt8.toNat_ofNat']; omega
theorem numL_be6 (n : Int) (h0 : 0 ≤ n) (h1 : n < 281474976710656) : (numL (be6 n) : Int) = n := by
  simp only [numL, numF, be6, List.foldl_cons, List.foldl_nil, UInt8.toNat_ofNat']; omega
theorem byte_of (n : Int) (b : UInt8) (h : n = (b.toNat : Int)) : UInt8.ofNat n.toNat = b := by
  rw [h, Int.toNat_natCast, UInt8.ofNat_toNat]
theorem be1_numL (L : List UInt8) (h : L.length = 1) : be1 (numL L : Int) = L := by
  match L, h with
  | [a], _ =>
    have ha := a.toNat_lt
    simp only [numL, numF, be1, List.foldl_cons, List.foldl_nil]
    rw [byte_of _ a (by omega)]
theorem be2_numL (L : List UInt8) (h : L.length = 2) : be2 (numL L : Int) = L := by
  match L, h with
  | [a, b], _ =>
    have ha := a.toNat_lt; have hb := b.toNat_lt
    simp only [numL, numF, be2, List.foldl_cons, List.foldl_nil]
    rw [byte_of _ a (by omega), byte_of _ b (by omega)]
theorem be6_numL (L : List UInt8) (h : L.length = 6) : be6 (numL L : Int) = L := by
  match L, h with
  | [a, b, c, d, e, f], _ =>
    have ha := a.toNat_lt; have hb := b.toNat_lt; have hc := c.toNat_lt; have hd := d.toNat_lt; have he := e.toNat_lt; have hf := f.toNat_lt
    simp only [numL, numF, be6, List.foldl_cons, List.foldl_nil]
    rw [byte_of _ a (by omega), byte_of _ b (by omega), byte_of _ c (by omega), byte_of _ d (by omega), byte_of _ e (by omega), byte_of _ f (by omega)]
open Go.RowKit Go.Proofs.YtchpagboglomoaaW.PrintWords Go.Proofs.YtchpagboglomoaaW.PrintLast Go.Proofs.YtchpagboglomoaaW.PrintMore Go.Proofs.Ytchpagboglomoaa.Copy
set_option linter.unusedVariables false
set_option linter.unusedSimpArgs false
set_option maxHeartbeats 400000

/-- So many texts, one behind the other; at an error those so far. -/
def splitGo : Nat → ByteArray → List ByteArray → List ByteArray × ByteArray × Int
  | 0, s, acc => (acc, s, 0)
  | c + 1, s, acc => if (textP s 0).2.2 = 0 then splitGo c (textP s 0).2.1 (acc ++ [(textP s 0).1]) else (acc ++ [(textP s 0).1], (textP s 0).2.1, (textP s 0).2.2)
def splitOut (x : List ByteArray × ByteArray × Int) : List ByteArray × Int :=
  if x.2.2 = 0 then (if x.2.1.size = 0 then (x.1, 0) else ([], 4)) else ([], x.2.2)
def splitP (s : ByteArray) : List ByteArray × Int :=
  if (numP s 0 2).2.2 = 0 then splitOut (splitGo (numP s 0 2).1 (numP s 0 2).2.1 []) else ([], (numP s 0 2).2.2)

theorem split_end (k : Nat) (hk : 1 ≤ k) (x5 : List ByteArray) (s : ByteArray) (e : Int) : record_Split.j1 k x5 s e = some (splitOut (x5, s, e)) := by
  obtain ⟨k, rfl⟩ : ∃ m, k = m + 1 := ⟨k - 1, by omega⟩
  rw [record_Split.j1.eq_2]
  unfold splitOut
  by_cases he : e = 0
  · subst he
    rw [if_pos rfl, if_pos (show ((x5, s, (0 : Int)) : List ByteArray × ByteArray × Int).2.2 = 0 from rfl)]
    by_cases hs : s.size = 0
    · rw [if_pos ((bytes_nil s).mpr hs), if_pos (show ((x5, s, (0 : Int)) : List ByteArray × ByteArray × Int).2.1.size = 0 from hs)]
    · rw [if_neg (fun h => hs ((bytes_nil s).mp h)), if_neg (show ¬ ((x5, s, (0 : Int)) : List ByteArray × ByteArray × Int).2.1.size = 0 from hs)]
  · rw [if_neg he, if_neg (show ¬ ((x5, s, e) : List ByteArray × ByteArray × Int).2.2 = 0 from he)]
theorem split_loop (n : Nat) (hn : n ≤ 65535) : ∀ (d k i : Nat) (s : ByteArray) (acc : List ByteArray), i + d = n → acc.length = i → d + 10 ≤ k →
    record_Split.l0 k acc (n : Int) (i : Int) s 0 = some (splitOut (splitGo d s acc)) := by
  intro d
  induction d with
  | zero =>
    intro k i s acc h1 h2 h3
    obtain ⟨k, rfl⟩ : ∃ m, k = m + 1 := ⟨k - 1, by omega⟩
    rw [record_Split.l0.eq_2, if_neg (by omega), split_end k (by omega)]
    rfl
  | succ d ih =>
    intro k i s acc h1 h2 h3
    obtain ⟨k, rfl⟩ : ∃ m, k = m + 1 := ⟨k - 1, by omega⟩
    rw [record_Split.l0.eq_2, if_pos (by omega), text_tells s 0 k (by omega), Option.bind_some, if_pos (by omega), Option.bind_some, wid ((i : Int) + 1) (by omega) (by omega), show (i : Int) + 1 = ((i + 1 : Nat) : Int) by omega]
    unfold splitGo
    by_cases he : (textP s 0).2.2 = 0
    · rw [if_pos he, if_pos he, he]
      exact ih k (i + 1) _ _ (by omega) (by rw [List.length_append, h2]; rfl) (by omega)
    · rw [if_neg he, if_neg he]
      exact split_end k (by omega) _ _ _
theorem split_tells (s : ByteArray) (k : Nat) (hk : 70000 ≤ k) : record_Split.f k s = some (splitP s) := by
  have hlt := numP_lt s 0 2
  unfold record_Split.f
  rw [show (2 : Int) = ((2 : Nat) : Int) from rfl, number_tells s 0 2 (by omega) k (by omega), Option.bind_some]
  show record_Split.l0 k ([] : List ByteArray) ((numP s 0 2).1 : Int) 0 (numP s 0 2).2.1 (numP s 0 2).2.2 = _
  unfold splitP
  by_cases he : (numP s 0 2).2.2 = 0
  · rw [if_pos he, he]
    exact split_loop _ (by omega) _ k 0 _ [] (by omega) rfl (by omega)
  · have h2 : ¬ 2 ≤ s.size := fun h => he (by rw [numP_ok s 2 h])
    rw [if_neg he]
    obtain ⟨k, rfl⟩ : ∃ m, k = m + 1 := ⟨k - 1, by omega⟩
    rw [numP_short s 2 h2, record_Split.l0.eq_2, if_neg (by omega), split_end k (by omega)]
    rfl

/-- A text behind its length is read. -/
theorem textP_at (s : ByteArray) (t : ByteArray) (r : List UInt8) (ht : t.size ≤ 65535) (h : s.data.toList = joinB t ++ r) : ∃ q : ByteArray, textP s 0 = (t, q, 0) ∧ q.data.toList = r := by
  have hl := size_len s
  rw [h, List.length_append, joinB_length] at hl
  have h' : s.data.toList = be2 (t.size : Int) ++ (t.data.toList ++ r) := by rw [h]; unfold joinB; rw [List.append_assoc]
  have hn : numP s 0 2 = (t.size, s.extract 2 s.size, 0) := by
    rw [numP_ok s 2 (by omega), h', List.take_left' (be2_length _)]
    have := numL_be2 (t.size : Int) (by omega) (by omega)
    rw [show numL (be2 (t.size : Int)) = t.size by omega]
  have hq : (s.extract 2 s.size).data.toList = t.data.toList ++ r := by rw [rest_list, h', List.drop_left' (be2_length _)]
  have hqs : t.size ≤ (s.extract 2 s.size).size := by rw [rest_size s 2 (by omega)]; omega
  refine ⟨(s.extract 2 s.size).extract t.size (s.extract 2 s.size).size, ?_, ?_⟩
  · unfold textP
    rw [hn]
    show takeP (s.extract 2 s.size) 0 t.size = _
    rw [takeP_ok _ _ hqs]
    congr 1
    apply data_ext
    rw [take_list, hq, List.take_left' (size_len t)]
  · rw [rest_list, hq, List.drop_left' (size_len t)]
theorem splitGo_join : ∀ (l acc : List ByteArray) (s : ByteArray) (r : List UInt8), (∀ t ∈ l, t.size ≤ 65535) → s.data.toList = l.flatMap joinB ++ r → ∃ q : ByteArray, splitGo l.length s acc = (acc ++ l, q, 0) ∧ q.data.toList = r
  | [], acc, s, r, _, h => ⟨s, by rw [List.append_nil]; rfl, by simpa using h⟩
  | t :: l, acc, s, r, ha, h => by
    rw [List.flatMap_cons, List.append_assoc] at h
    obtain ⟨q, h1, h2⟩ := textP_at s t _ (ha t (List.mem_cons_self ..)) h
    obtain ⟨q2, h3, h4⟩ := splitGo_join l (acc ++ [t]) q r (fun x hx => ha x (List.mem_cons_of_mem _ hx)) h2
    refine ⟨q2, ?_, h4⟩
    rw [List.length_cons]
    unfold splitGo
    rw [h1, if_pos rfl]
    show splitGo l.length q (acc ++ [t]) = _
    rw [h3, List.append_assoc]
    rfl
/-- What Join wrote is split again. -/
theorem split_join (l : List ByteArray) (hl : l.length ≤ 65535) (ha : ∀ t ∈ l, t.size ≤ 65535) (s : ByteArray) (h : s.data.toList = joinL l) : splitP s = (l, 0) := by
  have hlen := size_len s
  rw [h] at hlen
  unfold joinL at h hlen
  rw [List.length_append, be2_length] at hlen
  have hn : numP s 0 2 = (l.length, s.extract 2 s.size, 0) := by
    rw [numP_ok s 2 (by omega), h, List.take_left' (be2_length _)]
    have := numL_be2 (l.length : Int) (by omega) (by omega)
    rw [show numL (be2 (l.length : Int)) = l.length by omega]
  obtain ⟨q, h1, h2⟩ := splitGo_join l [] (s.extract 2 s.size) [] ha (by rw [rest_list, h, List.drop_left' (be2_length _), List.append_nil])
  unfold splitP
  rw [hn, if_pos rfl]
  show splitOut (splitGo l.length (s.extract 2 s.size) []) = _
  rw [h1, List.nil_append]
  unfold splitOut
  rw [if_pos rfl, if_pos (by show q.size = 0; rw [← size_len, h2]; rfl)]
/-- What a text that was read says of the bytes. -/
theorem textP_bytes (s : ByteArray) (h : (textP s 0).2.2 = 0) : (textP s 0).1.size ≤ 65535 ∧ s.data.toList = joinB (textP s 0).1 ++ (textP s 0).2.1.data.toList := by
  have hlt := numP_lt s 0 2
  by_cases h2 : 2 ≤ s.size
  · have hn := numP_ok s 2 h2
    by_cases hm : (numP s 0 2).1 ≤ (s.extract 2 s.size).size
    · have ht : textP s 0 = ((s.extract 2 s.size).extract 0 (numP s 0 2).1, (s.extract 2 s.size).extract (numP s 0 2).1 (s.extract 2 s.size).size, 0) := by
        unfold textP
        rw [hn] at hm ⊢
        exact takeP_ok _ _ hm
      have hsz : ((s.extract 2 s.size).extract 0 (numP s 0 2).1).size = (numP s 0 2).1 := by rw [extract_size _ _ _ hm]; omega
      rw [ht]
      refine ⟨by rw [hsz]; omega, ?_⟩
      show s.data.toList = joinB ((s.extract 2 s.size).extract 0 (numP s 0 2).1) ++ ((s.extract 2 s.size).extract (numP s 0 2).1 (s.extract 2 s.size).size).data.toList
      unfold joinB
      rw [hsz, rest_list, take_list, rest_list, List.append_assoc, List.take_append_drop, hn]
      show _ = be2 ((numL (s.data.toList.take 2) : Nat) : Int) ++ _
      rw [be2_numL _ (by rw [List.length_take, size_len]; omega), List.take_append_drop]
    · exfalso
      unfold textP at h
      rw [hn] at h hm
      rw [takeP_short _ _ hm] at h
      exact absurd h (show ¬ (3 : Int) = 0 by decide)
  · exfalso
    unfold textP at h
    rw [numP_short s 2 h2, takeP_err _ _ _ (show (3 : Int) ≠ 0 by decide)] at h
    exact absurd h (show ¬ (3 : Int) = 0 by decide)
theorem splitGo_bytes : ∀ (c : Nat) (s : ByteArray) (acc l : List ByteArray) (q : ByteArray), splitGo c s acc = (l, q, 0) → (∀ t ∈ acc, t.size ≤ 65535) →
    (∀ t ∈ l, t.size ≤ 65535) ∧ l.length = acc.length + c ∧ acc.flatMap joinB ++ s.data.toList = l.flatMap joinB ++ q.data.toList
  | 0, s, acc, l, q, h, ha => by
    have h1 := congrArg Prod.fst h
    have h2 := congrArg (fun x => x.2.1) h
    simp only [splitGo] at h1 h2
    subst h1; subst h2
    exact ⟨ha, rfl, rfl⟩
  | c + 1, s, acc, l, q, h, ha => by
    unfold splitGo at h
    by_cases he : (textP s 0).2.2 = 0
    · rw [if_pos he] at h
      obtain ⟨hb1, hb2⟩ := textP_bytes s he
      obtain ⟨h1, h2, h3⟩ := splitGo_bytes c _ _ l q h (fun t ht => by
        rcases List.mem_append.mp ht with ht | ht
        · exact ha t ht
        · rw [List.mem_singleton.mp ht]; exact hb1)
      refine ⟨h1, by rw [h2, List.length_append]; simp only [List.length_cons, List.length_nil]; omega, ?_⟩
      rw [← h3, List.flatMap_append, List.flatMap_cons, List.flatMap_nil, List.append_nil, List.append_assoc, ← hb2]
    · rw [if_neg he] at h
      exact absurd (congrArg (fun x => x.2.2) h) he
/-- What was split is joined again. -/
theorem join_split (s : ByteArray) (l : List ByteArray) (h : splitP s = (l, 0)) : l.length ≤ 65535 ∧ (∀ t ∈ l, t.size ≤ 65535) ∧ joinL l = s.data.toList := by
  have hlt := numP_lt s 0 2
  unfold splitP at h
  by_cases he : (numP s 0 2).2.2 = 0
  · rw [if_pos he] at h
    have h2 : 2 ≤ s.size := by
      rcases Nat.lt_or_ge s.size 2 with h2 | h2
      · rw [numP_short s 2 (by omega)] at he; exact absurd he (show ¬ (3 : Int) = 0 by decide)
      · exact h2
    have hn := numP_ok s 2 h2
    rcases hx : splitGo (numP s 0 2).1 (numP s 0 2).2.1 [] with ⟨m, q, e⟩
    rw [hx] at h
    unfold splitOut at h
    by_cases h0 : e = 0
    · rw [if_pos (show (m, q, e).2.2 = 0 from h0)] at h
      by_cases hq : q.size = 0
      · rw [if_pos (show (m, q, e).2.1.size = 0 from hq)] at h
        have hm : m = l := congrArg Prod.fst h
        subst hm; subst h0
        obtain ⟨h3, h4, h5⟩ := splitGo_bytes _ _ _ _ _ hx (fun t ht => absurd ht (List.not_mem_nil))
        have hq0 : q.data.toList = [] := List.eq_nil_of_length_eq_zero (by rw [size_len]; exact hq)
        rw [List.flatMap_nil, List.nil_append, hq0, List.append_nil] at h5
        rw [List.length_nil, Nat.zero_add] at h4
        refine ⟨by omega, h3, ?_⟩
        unfold joinL
        rw [h4, ← h5, hn]
        show be2 ((numL (s.data.toList.take 2) : Nat) : Int) ++ (s.extract 2 s.size).data.toList = _
        rw [be2_numL _ (by rw [List.length_take, size_len]; omega), rest_list, List.take_append_drop]
      · rw [if_neg (show ¬ (m, q, e).2.1.size = 0 from hq)] at h
        exact absurd (congrArg Prod.snd h) (show ¬ (4 : Int) = 0 by decide)
    · rw [if_neg (show ¬ (m, q, e).2.2 = 0 from h0)] at h
      exact absurd (congrArg Prod.snd h) h0
  · rw [if_neg he] at h
    exact absurd (congrArg Prod.snd h) he
open Go.RowKit Go.Proofs.YtchpagboglomoaaW.PrintWords Go.Proofs.YtchpagboglomoaaW.PrintLast Go.Proofs.YtchpagboglomoaaW.PrintMore Go.Proofs.Ytchpagboglomoaa.Copy
set_option linter.unusedVariables false
set_option linter.unusedSimpArgs false
set_option maxHeartbeats 400000

theorem refSplit_end (k : Nat) (x6 : List ByteArray) (x5 x7 : Int) (s : ByteArray) (e : Int) : concordanceref07_Split.j1 (k + 1) x5 x6 x7 false s e = some (splitOut (x6, s, e)) := by
  rw [concordanceref07_Split.j1.eq_2, if_neg (by decide)]
  unfold splitOut
  by_cases he : e = 0
  · subst he
    rw [if_pos rfl, if_pos (show ((x6, s, (0 : Int)) : List ByteArray × ByteArray × Int).2.2 = 0 from rfl)]
    by_cases hs : s.size = 0
    · rw [if_pos ((bytes_nil s).mpr hs), if_pos (show ((x6, s, (0 : Int)) : List ByteArray × ByteArray × Int).2.1.size = 0 from hs)]
    · rw [if_neg (fun h => hs ((bytes_nil s).mp h)), if_neg (show ¬ ((x6, s, (0 : Int)) : List ByteArray × ByteArray × Int).2.1.size = 0 from hs)]
  · rw [if_neg he, if_neg (show ¬ ((x6, s, e) : List ByteArray × ByteArray × Int).2.2 = 0 from he)]
theorem refSplit_out (k : Nat) (hk : 2 ≤ k) (x6 : List ByteArray) (x5 x7 : Int) (s : ByteArray) (e : Int) (h : ¬ x7 < x5 ∨ e ≠ 0) : concordanceref07_Split.l0 k x5 x6 x7 s e = some (splitOut (x6, s, e)) := by
  obtain ⟨k, rfl⟩ : ∃ m, k = m + 1 + 1 := ⟨k - 2, by omega⟩
  rw [concordanceref07_Split.l0.eq_2]
  by_cases hx : x7 < x5
  · have he : e ≠ 0 := h.resolve_left (fun h => h hx)
    rw [if_pos hx, show (e == 0) = false from beq_eq_false_iff_ne.mpr he]
    exact refSplit_end k _ _ _ _ _
  · rw [if_neg hx]
    exact refSplit_end k _ _ _ _ _
theorem refSplit_loop (n : Nat) (hn : n ≤ 65535) : ∀ (d k i : Nat) (s : ByteArray) (acc : List ByteArray), i + d = n → acc.length = i → 2 * d + 20 ≤ k →
    concordanceref07_Split.l0 k (n : Int) acc (i : Int) s 0 = some (splitOut (splitGo d s acc)) := by
  intro d
  induction d with
  | zero =>
    intro k i s acc h1 h2 h3
    exact refSplit_out k (by omega) _ _ _ _ _ (Or.inl (by omega))
  | succ d ih =>
    intro k i s acc h1 h2 h3
    obtain ⟨k, rfl⟩ : ∃ m, k = m + 1 + 1 := ⟨k - 2, by omega⟩
    rw [concordanceref07_Split.l0.eq_2, if_pos (by omega), show ((0 : Int) == 0) = true from rfl, concordanceref07_Split.j1.eq_2, if_pos (show true = true from rfl), show (2 : Int) = ((2 : Nat) : Int) from rfl, refNumber_tells s 0 2 (by omega) k (by omega), Option.bind_some]
    show (Option.bind (concordanceref07_Take.f k (numP s 0 2).2.1 (numP s 0 2).2.2 ((numP s 0 2).1 : Int)) _) = _
    rw [refTake_tells _ _ _ k (by omega), Option.bind_some, if_pos (by omega), wid ((i : Int) + 1) (by omega) (by omega), show (i : Int) + 1 = ((i + 1 : Nat) : Int) by omega]
    show concordanceref07_Split.l0 k (n : Int) (acc ++ [(textP s 0).1]) ((i + 1 : Nat) : Int) (textP s 0).2.1 (textP s 0).2.2 = _
    unfold splitGo
    by_cases he : (textP s 0).2.2 = 0
    · rw [if_pos he, he]
      exact ih k (i + 1) _ _ (by omega) (by rw [List.length_append, h2]; rfl) (by omega)
    · rw [if_neg he]
      exact refSplit_out k (by omega) _ _ _ _ _ (Or.inr he)
theorem refSplit_tells (s : ByteArray) (k : Nat) (hk : 140000 ≤ k) : concordanceref07_Split.f k s = some (splitP s) := by
  have hlt := numP_lt s 0 2
  unfold concordanceref07_Split.f
  rw [show (2 : Int) = ((2 : Nat) : Int) from rfl, refNumber_tells s 0 2 (by omega) k (by omega), Option.bind_some]
  show concordanceref07_Split.l0 k ((numP s 0 2).1 : Int) ([] : List ByteArray) 0 (numP s 0 2).2.1 (numP s 0 2).2.2 = _
  unfold splitP
  by_cases he : (numP s 0 2).2.2 = 0
  · rw [if_pos he, he]
    exact refSplit_loop _ (by omega) _ k 0 _ [] (by omega) rfl (by omega)
  · rw [if_neg he, refSplit_out k (by omega) _ _ _ _ _ (Or.inr he)]
    unfold splitOut
    rw [if_neg (show ¬ (([] : List ByteArray), (numP s 0 2).2.1, (numP s 0 2).2.2).2.2 = 0 from he)]
end Go.Proofs.Ytchpagboglomoaa.GP
