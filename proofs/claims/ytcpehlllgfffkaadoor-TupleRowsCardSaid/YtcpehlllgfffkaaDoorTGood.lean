/- tuple.Good's contract: names that are right and all different, one to four of them. Conditions: none but that the row reads. -/
import Derived.Carry
import Derived.Test.YtcpehlllgfffkaaDoorTSeen
import Derived.Test.YtcpehlllgfffkaaDoorWMore
import Derived.Test.YtcpehlllgfffkaaDoorWLast
import Derived.Test.YtcpehlllgfffkaaDoorGTx7
namespace Go.Proofs.YtcpehlllgfffkaaDoor.GT
open Go.RowKit Go.Proofs.YtcpehlllgfffkaaDoorW.PrintWords Go.Proofs.YtcpehlllgfffkaaDoorW.PrintLast Go.Proofs.YtcpehlllgfffkaaDoorW.PrintMore Go.Proofs.YtcpehlllgfffkaaDoor.Seen
attribute [local go_sem] max2_int min2_int max_two min_two max_three min_three max_four min_four
set_option linter.unusedVariables false
set_option linter.unusedSimpArgs false

def nameC (b : UInt8) : Bool := (decide (97 ≤ b.toNat) && decide (b.toNat ≤ 122)) || (decide (48 ≤ b.toNat) && decide (b.toNat ≤ 57))
def nameB (s : ByteArray) : Bool := match s.data.toList with
  | [] => false
  | c :: r => decide (s.size ≤ 8) && (decide (97 ≤ c.toNat) && (c :: r).all nameC)
/-- The names so far, and those that come. -/
def goodL : List ByteArray → List S65 → Prop
  | _, [] => True
  | seen, c :: l => nameB c.f0 = true ∧ c.f0 ∉ seen ∧ goodL (seen ++ [c.f0]) l
theorem goodL_snoc : ∀ (l : List S65) (seen : List ByteArray) (c : S65), goodL seen (l ++ [c]) ↔ goodL seen l ∧ nameB c.f0 = true ∧ c.f0 ∉ seen ++ l.map (·.f0)
  | [], seen, c => by simp [goodL]
  | d :: l, seen, c => by
    rw [List.cons_append, goodL, goodL, goodL_snoc l (seen ++ [d.f0]) c, List.map_cons, List.append_assoc, List.cons_append, List.nil_append]
    constructor
    · rintro ⟨h1, h2, h3, h4, h5⟩; exact ⟨⟨h1, h2, h3⟩, h4, h5⟩
    · rintro ⟨⟨h1, h2, h3⟩, h4, h5⟩; exact ⟨h1, h2, h3, h4, h5⟩
theorem goodL_head : ∀ (l m : List S65) (seen : List ByteArray), goodL seen (l ++ m) → goodL seen l
  | [], _, _, _ => trivial
  | d :: l, m, seen, h => ⟨h.1, h.2.1, goodL_head l m _ h.2.2⟩
def decName : (a b : ByteArray) → Decidable (a = b) := fun a b => if h : a.data.toList = b.data.toList then isTrue (by cases a; cases b; simp only at h; rw [Array.ext' h]) else isFalse (fun e => h (by rw [e]))
def decMem (s : ByteArray) : (l : List ByteArray) → Decidable (s ∈ l)
  | [] => isFalse (by simp)
  | x :: l => match decName s x, decMem s l with
    | isTrue h, _ => isTrue (by rw [h]; exact List.mem_cons_self)
    | isFalse _, isTrue h => isTrue (List.mem_cons_of_mem _ h)
    | isFalse h1, isFalse h2 => isFalse (fun h => (List.mem_cons.mp h).elim h1 h2)
instance decGood : ∀ (seen : List ByteArray) (l : List S65), Decidable (goodL seen l)
  | _, [] => isTrue trivial
  | seen, c :: l => @instDecidableAnd _ _ (inferInstanceAs (Decidable (nameB c.f0 = true))) (@instDecidableAnd _ _ (@instDecidableNot _ (decMem c.f0 seen)) (decGood (seen ++ [c.f0]) l))
def goodB (l : List S65) : Bool := decide (goodL [] l ∧ 1 ≤ l.length ∧ l.length ≤ 4)
theorem goodB_yes {l : List S65} (h : goodL [] l ∧ 1 ≤ l.length ∧ l.length ≤ 4) : goodB l = true := by
  unfold goodB
  exact decide_eq_true h
theorem goodB_no {l : List S65} (h : ¬ (goodL [] l ∧ 1 ≤ l.length ∧ l.length ≤ 4)) : goodB l = false := by
  unfold goodB
  exact decide_eq_false h
theorem bt_name (s : ByteArray) (i : Nat) (h : i < s.data.toList.length) : bt s (i : Int) = ((s.data.toList[i]).toNat : Int) := by
  have key : ((s.data.toList.getD i 0).toNat : Int) = bt s i := by
    unfold bt
    split
    · rename_i h
      have h' : i < s.data.toList.length := by simpa using h
      rw [List.getD_eq_getElem?_getD, List.getElem?_eq_getElem h']
      rfl
    · rename_i h
      have h' : s.data.toList.length ≤ i := by simpa using h
      rw [List.getD_eq_getElem?_getD, List.getElem?_eq_none h']
      rfl
  rw [← key, List.getD_eq_getElem?_getD, List.getElem?_eq_getElem h]; rfl
theorem widN (n : Int) (h0 : 0 ≤ n) (h1 : n < 9223372036854775808) : wrap64 n = n := by unfold wrap64; omega
theorem name_loop (s : ByteArray) (hs : s.size ≤ 8) : ∀ (d i k : Nat), i + d = s.size → d + 1 ≤ k → tuple_Name.l0 k s (s.size : Int) (i : Int) = some ((s.data.toList.drop i).all nameC) := by
  have hz : s.data.toList.length = s.size := by simp
  intro d
  induction d with
  | zero =>
    intro i k hi hk
    obtain ⟨k, rfl⟩ : ∃ m, k = m + 1 := ⟨k - 1, by omega⟩
    rw [tuple_Name.l0.eq_2, if_neg (by omega), List.drop_of_length_le (by omega)]
    rfl
  | succ d ih =>
    intro i k hi hk
    obtain ⟨k, rfl⟩ : ∃ m, k = m + 1 := ⟨k - 1, by omega⟩
    have hw : wrap64 ((i : Int) + 1) = ((i + 1 : Nat) : Int) := by rw [widN _ (by omega) (by omega)]; omega
    rw [tuple_Name.l0.eq_2, if_pos (by omega), if_pos (by omega), if_pos (by omega), bt_name s i (by omega), hw, ih (i + 1) k (by omega) (by omega), List.drop_eq_getElem_cons (show i < s.data.toList.length by omega), List.all_cons]
    generalize s.data.toList[i]'(by omega) = c
    clear hw
    have yes : nameC c = true → some ((s.data.toList.drop (i + 1)).all nameC) = some (nameC c && (s.data.toList.drop (i + 1)).all nameC) := fun h => by rw [h, Bool.true_and]
    have no : nameC c = false → some false = some (nameC c && (s.data.toList.drop (i + 1)).all nameC) := fun h => by rw [h, Bool.false_and]
    by_cases a1 : 97 ≤ c.toNat
    · rw [if_pos (by omega)]
      by_cases a2 : c.toNat ≤ 122
      · rw [if_pos (by omega)]
        exact yes (by unfold nameC; rw [decide_eq_true a1, decide_eq_true a2]; rfl)
      · rw [if_neg (by omega), if_pos (by omega), if_neg (by omega)]
        exact no (by unfold nameC; rw [decide_eq_false a2, decide_eq_false (show ¬ c.toNat ≤ 57 by omega), Bool.and_false, Bool.and_false]; rfl)
    · rw [if_neg (by omega)]
      by_cases a3 : 48 ≤ c.toNat
      · rw [if_pos (by omega)]
        by_cases a4 : c.toNat ≤ 57
        · rw [if_pos (by omega)]
          exact yes (by unfold nameC; rw [decide_eq_true a3, decide_eq_true a4]; simp)
        · rw [if_neg (by omega)]
          exact no (by unfold nameC; rw [decide_eq_false a1, decide_eq_false a4]; simp)
      · rw [if_neg (by omega)]
        exact no (by unfold nameC; rw [decide_eq_false a1, decide_eq_false a3]; simp)
theorem name_tells (s : ByteArray) (k : Nat) (hk : 20 ≤ k) : tuple_Name.f k s = some (nameB s) := by
  have hz : s.data.toList.length = s.size := by simp
  have hT : s.toList = s.data.toList := by first | rfl | exact ByteArray.toList_eq s
  obtain ⟨k, rfl⟩ : ∃ m, k = m + 1 := ⟨k - 1, by omega⟩
  unfold tuple_Name.f
  cases hl : s.data.toList with
  | nil =>
    rw [if_pos (by rw [hT, hl]), tuple_Name.j0.eq_2, if_pos rfl]
    unfold nameB
    rw [hl]
  | cons c r =>
    rw [if_neg (by rw [hT, hl]; simp)]
    have hb : nameB s = (decide (s.size ≤ 8) && (decide (97 ≤ c.toNat) && (c :: r).all nameC)) := by unfold nameB; rw [hl]
    rw [hb]
    by_cases h8 : (s.size : Int) > 8
    · rw [if_pos h8, tuple_Name.j0.eq_2, if_pos rfl, decide_eq_false (by omega)]
      rfl
    · have hpos : 0 < s.size := by rw [← hz, hl, List.length_cons]; omega
      have h0 : bt s 0 = (c.toNat : Int) := by
        have := bt_name s 0 (by omega)
        rw [show ((0 : Nat) : Int) = 0 from rfl] at this
        rw [this]
        simp only [hl, List.getElem_cons_zero]
      rw [if_neg h8, if_pos (by omega), h0, tuple_Name.j0.eq_2, decide_eq_true (show s.size ≤ 8 by omega), Bool.true_and]
      by_cases h97 : c.toNat < 97
      · rw [decide_eq_true (show (c.toNat : Int) < 97 by omega), if_pos rfl, decide_eq_false (by omega)]
        rfl
      · rw [decide_eq_false (show ¬ (c.toNat : Int) < 97 by omega), if_neg (by decide), decide_eq_true (show 97 ≤ c.toNat by omega), Bool.true_and]
        have := name_loop s (by omega) s.size 0 k (by omega) (by omega)
        rw [List.drop_zero, hl] at this
        exact this
theorem rd_T (l : List S65) (i : Nat) (h : i < l.length) : rd_T65 l (i : Int) = l[i] := by simp [rd_T65, List.getD_eq_getElem?_getD, List.getElem?_eq_getElem h]
theorem take_one (l : List S65) (k : Nat) (h : k < l.length) : l.take (k + 1) = l.take k ++ [l[k]] := List.take_succ_eq_append_getElem h
theorem good_step (l : List S65) (k : Nat) (h : k < l.length) (h0 : goodL [] (l.take k)) (h1 : nameB l[k].f0 = true) (h2 : l[k].f0 ∉ (l.take k).map (·.f0)) : goodL [] (l.take (k + 1)) := by
  rw [take_one l k h, goodL_snoc, List.nil_append]
  exact ⟨h0, h1, h2⟩
theorem good_no (l : List S65) (k : Nat) (h : k < l.length) (hn : ¬ (nameB l[k].f0 = true ∧ l[k].f0 ∉ (l.take k).map (·.f0))) : goodB l = false := by
  refine goodB_no (fun hg => hn ?_)
  have := goodL_head (l.take (k + 1)) (l.drop (k + 1)) [] (by rw [List.take_append_drop]; exact hg.1)
  rw [take_one l k h, goodL_snoc, List.nil_append] at this
  exact this.2
def GoodInv (l : List S65) (k : Nat) (w wr : World) : Prop := Seen w.heap.size ((l.take k).map (·.f0)) wr ∧ Below w.heap.size w wr ∧ goodL [] (l.take k)
set_option maxHeartbeats 800000 in
theorem good_walk (l : List S65) (A : Option Addr) (c : Nat) (w : World) (hr : Kd.C k65 w A l.length l) (hc : l.length ≤ c) :
    Calls Tryd.prog 25 #[.slice A l.length c] w fun e w' => e = .returned (.bool (goodB l)) ∧ Below w.heap.size w w' := by
  have hu65 := Tryd.underlying65
  have hmm := @run_makeMap Tryd.prog
  have HR := Aside0.mk hr
  have HC := Aside0.mk hc
  clear hr hc
  go_enter Tryd.func25, Tryd.ntmps25
  go_wp2_with fail
  clear hmm
  have HD : Hid (GoodInv l 0 w (w.alloc (.map #[] 0))) := ⟨Seen.new w, below_alloc (Below.refl _ _) _, trivial⟩
  go_loopw [9] (fun i wr => ∃ k, k ≤ l.length ∧ i = .int .i64 (k : Nat) ∧ Hid (GoodInv l k w wr)) (fun i _ => l.length - (intOf i).toNat)
  case atStart => exact ⟨0, Nat.zero_le _, rfl, HD⟩
  case round =>
    clear HD
    obtain ⟨k, hk, rfl, HD⟩ := hrel
    have HI := Aside0.mk HD.out
    clear HD
    have HG := Aside0.mk (show w.heap.size < wr.heap.size by obtain ⟨es, clock, hb, _⟩ := HI.out.1; exact blk_lt hb)
    by_cases h1 : k < l.length
    · have d1 : decide ((k : Int) < (l.length : Int)) = true := decide_eq_true (by omega)
      obtain ⟨ad, e, hx0, hx1⟩ := at_T65 HR.out (k : Int) (by omega) (by omega)
      cases e
      rw [rd_T l k h1] at hx0 hx1
      simp only [Int.toNat_natCast] at hx0 hx1
      have hz0 := (HI.out.2.1.cell (World.block_lt_of_cell? w _ hx0)).trans hx0
      have hz1 := (HI.out.2.1.cell (World.block_lt_of_cell? w _ hx1)).trans hx1
      clear hx0 hx1
      have HNM := Aside0.mk (rfl : l[k].f0 = l[k].f0)
      generalize hnm : l[k].f0 = nm at hz0
      generalize l[k].f1 = bb at hz1
      clear HNM
      have HNM := Aside0.mk hnm
      clear hnm
      go_upto_region 5 with fail
      have HSq := Aside0.mk (HI.out.1.below (below_alloc (Below.refl _ _) (.cells #[.string nm, .bool bb] 65)))
      have HBq := Aside0.mk (below_alloc HI.out.2.1 (.cells #[.string nm, .bool bb] 65))
      have HGL := Aside0.mk HI.out.2.2
      have hcell : (wr.alloc (.cells #[.string nm, .bool bb] 65)).cell? ⟨wr.heap.size, 0, none⟩ = some (.string nm) := (blk_cell (blk_new wr _) 0).trans rfl
      clear HI HG hz0 hz1 d1
      generalize wr.alloc (.cells #[.string nm, .bool bb] 65) = wq at HSq HBq hcell ⊢
      generalize wr.heap.size = g8 at hcell ⊢
      have hn := name_tells nm 20 (by omega)
      cases hb : nameB nm with
      | false =>
        rw [hb] at hn
        go_wp2_with (first | (go_at_call 23; refine (tuple_Name.calls 20 nm false _ hn).mono ?_; rintro e w' ⟨rfl, ⟨⟨n, rfl⟩⟩⟩))
        go_ret
        exact ⟨by rw [good_no l k h1 (by rw [HNM.out, hb]; simp)]; rfl, pw_below_drewN HBq.out _⟩
      | true =>
        rw [hb] at hn
        by_cases hs : nm ∈ (l.take k).map (·.f0)
        · have hlk : ∀ n, (Instr.lookup 89 (.map (some w.heap.size)) (.string nm) false).run Tryd.prog (wq.drewN n) = .ok (.bool true) (wq.drewN n) := fun n => Seen.yes Tryd.underlying89 Tryd.underlying9 (HSq.out.below (pw_below_drewN (Below.refl _ _) n)) nm hs
          go_wp2_with (first | (go_at_call 23; refine (tuple_Name.calls 20 nm true _ hn).mono ?_; rintro e w' ⟨rfl, ⟨⟨n, rfl⟩⟩⟩))
          go_ret
          exact ⟨by rw [good_no l k h1 (by rw [HNM.out]; exact fun h => h.2 hs)]; rfl, pw_below_drewN HBq.out _⟩
        · have hlk : ∀ n, (Instr.lookup 89 (.map (some w.heap.size)) (.string nm) false).run Tryd.prog (wq.drewN n) = .ok (.bool false) (wq.drewN n) := fun n => Seen.no Tryd.underlying89 Tryd.underlying9 (by first | exact Tryd.zeroValue4 _ | rfl | simp) (HSq.out.below (pw_below_drewN (Below.refl _ _) n)) nm hs
          go_upto_region 7 with (first | (go_at_call 23; refine (tuple_Name.calls 20 nm true _ hn).mono ?_; rintro e w' ⟨rfl, ⟨⟨n, rfl⟩⟩⟩))
          clear hlk hn
          have HS1 := HSq.out.below (pw_below_drewN (Below.refl _ _) n)
          obtain ⟨w1, hrun, hS1, hB1⟩ := Seen.put Tryd.underlying89 Tryd.underlying9 HS1 nm hs
          have HS := Aside0.mk hS1
          have HB := Aside0.mk ((pw_below_drewN HBq.out n).trans (hB1 _ (Nat.le_refl _)))
          clear HS1 hS1 hB1
          go_wp2_with fail
          have hlen : l.length ≤ 9223372036854775807 := HR.out.2.1
          have hw : wrap64 ((k : Int) + 1) = ((k + 1 : Nat) : Int) := by rw [widN _ (by omega) (by omega)]; omega
          go_roundw
          case rel =>
            refine ⟨k + 1, h1, by rw [hw], ?_, HB.out, good_step l k h1 HGL.out (by rw [HNM.out]; exact hb) (by rw [HNM.out]; exact hs)⟩
            have h9 := HS.out
            rw [take_one l k h1, List.map_append, List.map_cons, List.map_nil, HNM.out]
            exact h9
          case measure =>
            rw [hw]
            show l.length - (((k + 1 : Nat) : Int)).toNat < l.length - ((k : Int)).toNat
            rw [Int.toNat_natCast, Int.toNat_natCast]
            clear hw
            omega
    · have d1 : decide ((k : Int) < (l.length : Int)) = false := decide_eq_false (by omega)
      have hkl : l.take k = l := List.take_of_length_le (by omega)
      by_cases g1 : 1 ≤ l.length
      · have e1 : decide ((1 : Int) ≤ (l.length : Int)) = true := decide_eq_true (by omega)
        by_cases g4 : l.length ≤ 4
        · have e4 : decide ((l.length : Int) ≤ 4) = true := decide_eq_true (by omega)
          go_wp2_with fail
          go_ret
          refine ⟨?_, HI.out.2.1⟩
          have hgl := HI.out.2.2
          rw [hkl] at hgl
          have hgb : goodB l = true := goodB_yes ⟨hgl, g1, g4⟩
          rw [hgb]
          rfl
        · have e4 : decide ((l.length : Int) ≤ 4) = false := decide_eq_false (by omega)
          go_wp2_with fail
          go_ret
          refine ⟨?_, HI.out.2.1⟩
          have hgb : goodB l = false := goodB_no (fun h => g4 h.2.2)
          rw [hgb]
          rfl
      · have e1 : decide ((1 : Int) ≤ (l.length : Int)) = false := decide_eq_false (by omega)
        go_wp2_with fail
        go_ret
        refine ⟨?_, HI.out.2.1⟩
        have hgb : goodB l = false := goodB_no (fun h => g1 h.2.1)
        rw [hgb]
        rfl
/-- tuple.Good, told plainly. -/
def tuple_Good.f (l : List S65) : Option Bool := some (goodB l)
/-- THE CONTRACT. -/
theorem tuple_Good.calls (A0 : Option Addr) (c0 : Nat) (l0 : List S65) (r : Bool) (w : World) (hr0 : Kd.C k65 w A0 l0.length l0) (hc0 : l0.length ≤ c0) (h : tuple_Good.f l0 = some r) :
    Calls Tryd.prog 25 #[.slice A0 l0.length c0] w fun e w' => e = .returned (.bool r) ∧ Below w.heap.size w w' := by
  obtain rfl := Option.some.inj h
  exact good_walk l0 A0 c0 w hr0 hc0
end Go.Proofs.YtcpehlllgfffkaaDoor.GT
