/- tuple.Show's contract at a text: it in quotes, what is no plain byte in hex. Conditions: the text takes at most 2^40 bytes. -/
import Derived.Test.YtcpehlllgfffkaaDoorTBuilder
import Derived.Test.YtcpehlllgfffkaaDoorWMore
import Derived.Test.YtcpehlllgfffkaaDoorWLast
import Derived.Test.YtcpehlllgfffkaaDoorGTx0
namespace Go.Proofs.YtcpehlllgfffkaaDoor.GT
open Go.RowKit Go.Proofs.YtcpehlllgfffkaaDoorW.PrintWords Go.Proofs.YtcpehlllgfffkaaDoorW.PrintLast Go.Proofs.YtcpehlllgfffkaaDoorW.PrintMore Go.Proofs.YtcpehlllgfffkaaDoor.Bld
attribute [local go_sem] max2_int min2_int max_two min_two max_three min_three max_four min_four
set_option linter.unusedVariables false
set_option linter.unusedSimpArgs false

def digitsS : ByteArray := ⟨#[48, 49, 50, 51, 52, 53, 54, 55, 56, 57, 97, 98, 99, 100, 101, 102]⟩
def hexd (n : Nat) : UInt8 := digitsS.data.toList.getD n 0
def plainB (c : UInt8) : Bool := !(c == 39 || c == 92 || decide (c < 32) || decide (c > 126))
def showB (c : UInt8) : List UInt8 := if plainB c then [c] else [92, hexd (c.toNat / 16), hexd (c.toNat % 16)]
def showL (s : ByteArray) : List UInt8 := 39 :: (s.data.toList.flatMap showB ++ [39])
theorem hexd_at (i : Nat) (h : i < 16) : ((⟨#[48, 49, 50, 51, 52, 53, 54, 55, 56, 57, 97, 98, 99, 100, 101, 102]⟩ : ByteArray)[i]'(by show i < 16; exact h)) = hexd i := by
  unfold hexd digitsS
  rw [List.getD_eq_getElem?_getD, List.getElem?_eq_getElem (by show i < 16; exact h)]
  rfl
theorem show_len (l : List UInt8) : (l.flatMap showB).length ≤ 3 * l.length := by
  induction l with
  | nil => simp
  | cons c l ih =>
    rw [List.flatMap_cons, List.length_append, List.length_cons]
    have : (showB c).length ≤ 3 := by unfold showB; split <;> simp
    omega
theorem plain_not (c : UInt8) (h : ¬ plainB c = true) : (((c.toNat : Int) == 39) = true) ∨ (((c.toNat : Int) == 39) = false ∧ ((c.toNat : Int) == 92) = true) ∨ (((c.toNat : Int) == 39) = false ∧ ((c.toNat : Int) == 92) = false ∧ decide ((c.toNat : Int) < 32) = true) ∨ (((c.toNat : Int) == 39) = false ∧ ((c.toNat : Int) == 92) = false ∧ decide ((c.toNat : Int) < 32) = false ∧ decide (126 < (c.toNat : Int)) = true) := by
  have hn : c.toNat = 39 ∨ c.toNat = 92 ∨ c.toNat < 32 ∨ 126 < c.toNat := by
    unfold plainB at h
    simp only [Bool.not_eq_true', Bool.or_eq_false_iff, not_and, beq_eq_false_iff_ne, decide_eq_false_iff_not, ne_eq] at h
    apply Classical.byContradiction
    intro h2
    have g1 : ¬ c = 39 := fun e => h2 (Or.inl (by rw [e]; rfl))
    have g2 : ¬ c = 92 := fun e => h2 (Or.inr (Or.inl (by rw [e]; rfl)))
    have g3 : ¬ c < 32 := fun e => h2 (Or.inr (Or.inr (Or.inl (by simpa [UInt8.lt_iff_toNat_lt] using e))))
    have g4 : ¬ c > 126 := fun e => h2 (Or.inr (Or.inr (Or.inr (by simpa [UInt8.lt_iff_toNat_lt] using e))))
    exact h ⟨⟨g1, g2⟩, g3⟩ g4
  by_cases h1 : c.toNat = 39
  · left; rw [beq_iff_eq]; omega
  right
  have e1 : ((c.toNat : Int) == 39) = false := by rw [beq_eq_false_iff_ne]; omega
  by_cases h2 : c.toNat = 92
  · left; exact ⟨e1, by rw [beq_iff_eq]; omega⟩
  right
  have e2 : ((c.toNat : Int) == 92) = false := by rw [beq_eq_false_iff_ne]; omega
  by_cases h3 : c.toNat < 32
  · left; exact ⟨e1, e2, decide_eq_true (by omega)⟩
  right
  exact ⟨e1, e2, decide_eq_false (by omega), decide_eq_true (by omega)⟩
theorem plain_yes (c : UInt8) (h : plainB c = true) : ((c.toNat : Int) == 39) = false ∧ ((c.toNat : Int) == 92) = false ∧ decide ((c.toNat : Int) < 32) = false ∧ decide (126 < (c.toNat : Int)) = false := by
  unfold plainB at h
  simp only [Bool.not_eq_true', Bool.or_eq_false_iff, beq_eq_false_iff_ne, decide_eq_false_iff_not, ne_eq] at h
  obtain ⟨⟨⟨g1, g2⟩, g3⟩, g4⟩ := h
  have k1 : c.toNat ≠ 39 := fun e => g1 (UInt8.toNat_inj.mp (by rw [e]; rfl))
  have k2 : c.toNat ≠ 92 := fun e => g2 (UInt8.toNat_inj.mp (by rw [e]; rfl))
  have k3 : ¬ c.toNat < 32 := fun e => g3 (by simpa [UInt8.lt_iff_toNat_lt] using e)
  have k4 : ¬ 126 < c.toNat := fun e => g4 (by simpa [UInt8.lt_iff_toNat_lt] using e)
  refine ⟨by rw [beq_eq_false_iff_ne]; omega, by rw [beq_eq_false_iff_ne]; omega, decide_eq_false (by omega), decide_eq_false (by omega)⟩
theorem bc_snoc (l : List UInt8) (c : UInt8) (x : Int) (hx : x = (c.toNat : Int)) : Lib.byteCells l ++ [.int .u8 x] = Lib.byteCells (l ++ [c]) := by simp [Lib.byteCells, hx]
theorem wbyteU (b : Nat) (l : List UInt8) (c : UInt8) (x : Int) (hx : x = (c.toNat : Int)) (w : World) (h : Lib.IsBuilder 79 5 b b (Lib.byteCells l) w) (hl : l.length + 1 ≤ 140737488355328) (hB : b ≤ w.heap.size) :
    Calls Tryd.prog 34 #[.pointer (some ⟨b, 0, none⟩), .int .u8 x] w fun e w' => e = .returned .nilIface ∧ (Lib.IsBuilder 79 5 b b (Lib.byteCells (l ++ [c])) w' ∧ Below b w w') := by
  have h1 := wbyte_calls b b (Lib.byteCells l) x w h (by rw [Lib.byteCells_length]; exact hl) hB
  rw [bc_snoc l c x hx] at h1
  exact h1

def ShowInv (b gb : Nat) (n : Int) (w : World) (s : ByteArray) (k : Nat) (wr : World) : Prop :=
  wr.heap[gb]? = some (.cells #[.string s, .int .i64 n, .bool true] 25 (0, 0)) ∧   Lib.IsBuilder 79 5 b b (Lib.byteCells (39 :: (s.data.toList.take k).flatMap showB)) wr ∧ Below w.heap.size w wr ∧ b ≤ wr.heap.size

set_option maxHeartbeats 1600000 in
set_option maxRecDepth 100000 in
theorem show_text (s : ByteArray) (n : Int) (w : World) (hs : s.size ≤ 1099511627776) :
    Calls Tryd.prog 10 #[.agg #[.string s, .int .i64 n, .bool true]] w fun e w' => e = .returned (.string ⟨(showL s).toArray⟩) ∧ Below w.heap.size w w' := by
  have hu25 := Tryd.underlying25
  go_enter Tryd.func10, Tryd.ntmps10
  go_wp2_with (first | ((with_reducible refine gate_dst (N := 1) rfl ?_); (try (refine gate_guard (by rfl) ?_; dsimp only)); refine box_event ?hg (N := 1) ?hd (cs := #[.string s, .int .i64 n, .bool true]) (t := 25) ?hr ?_; (case hd => rfl); (case hg => rfl); (case hr => first | (go_simp; done) | (go_simp; rfl)); intro gb hg wb hbox hb; have HB := Aside0.mk hb; have BK := Aside0.mk hbox; have GE := Aside0.mk (show w.heap.size ≤ gb by rw [hg]; exact Nat.le_refl _); clear hg hbox hb; have hcz0 : wb.cell? ⟨gb, 0, none⟩ = some (.string s) := (blk_cell BK.out 0).trans rfl; have hcz1 : wb.cell? ⟨gb, 1, none⟩ = some (.int .i64 n) := (blk_cell BK.out 1).trans rfl; have hcz2 : wb.cell? ⟨gb, 2, none⟩ = some (.bool true) := (blk_cell BK.out 2).trans rfl) | fail)
  have hgb : gb < wb.heap.size := blk_lt BK.out
  have HIB := Aside0.mk (Lib.fresh_isBuilder 79 5 wb)
  have HWB : w.heap.size ≤ wb.heap.size := HB.out.size
  refine (wbyte_calls wb.heap.size wb.heap.size [] 39 _ HIB.out (by simp) (by simp)).mono ?_
  rintro e w3 ⟨rfl, hB3, hb3⟩
  have HD : Hid (ShowInv wb.heap.size gb n w s 0 w3) := ⟨(hb3.block gb hgb).trans (blk_alloc BK.out _), by simpa [Lib.byteCells] using hB3, (below_alloc HB.out _).trans (hb3.mono HWB), by have := hb3.size; simp at this; omega⟩
  have BK3 := Aside0.mk (show w3.heap[gb]? = some (.cells #[.string s, .int .i64 n, .bool true] 25 (0, 0)) from (hb3.block gb hgb).trans (blk_alloc BK.out _))
  clear hB3 hb3 HIB BK hcz0 hcz1 hcz2
  have HBB := HB
  clear HB
  generalize wb.heap.size = b at *
  have hcz0 : w3.cell? ⟨gb, 0, none⟩ = some (.string s) := (blk_cell BK3.out 0).trans rfl
  go_wp2_with fail
  clear hcz0 BK3
  go_loopw [16] (fun i wr => ∃ k : Nat, k ≤ s.size ∧ i = .int .i64 k ∧ Hid (ShowInv b gb n w s k wr)) (fun i _ => s.size - (intOf i).toNat)
  case atStart => exact ⟨0, Nat.zero_le _, rfl, HD⟩
  case round =>
    obtain ⟨k, hk, rfl, HD⟩ := hrel
    by_cases hlt : k < s.size
    · have hcz0 : wr.cell? ⟨gb, 0, none⟩ = some (.string s) := (blk_cell HD.out.1 0).trans rfl
      have hlti : (k : Int) < (s.size : Int) := by omega
      obtain ⟨c, hsk⟩ : ∃ c, s[k] = c := ⟨_, rfl⟩
      have HSB := Aside0.mk (show Lib.IsBuilder 79 5 b b (Lib.byteCells (39 :: (s.data.toList.take k).flatMap showB)) wr from HD.out.2.1)
      have HSZ : b ≤ wr.heap.size := HD.out.2.2.2
      have HGB := Aside0.mk HD.out.1
      have HWR := Aside0.mk (show Below w.heap.size w wr from HD.out.2.2.1)
      have HL : Aside0 (∀ bs : List UInt8, bs.length ≤ 4 → (39 :: (s.data.toList.take k).flatMap showB ++ bs).length + 1 ≤ 140737488355328) := ⟨fun bs hbs => by
        have h1 := show_len (s.data.toList.take k)
        have h2 : (s.data.toList.take k).length ≤ s.size := by rw [List.length_take]; show min k s.size ≤ _; omega
        rw [List.length_append, List.length_cons]
        omega⟩
      have HST : Aside0 ((s.data.toList.take (k + 1)).flatMap showB = (s.data.toList.take k).flatMap showB ++ showB c) := ⟨by
        rw [List.take_succ_eq_append_getElem (by show k < s.size; exact hlt), List.flatMap_append, List.flatMap_cons, List.flatMap_nil, List.append_nil, ← hsk]
        rfl⟩
      by_cases hpl : plainB c = true
      · obtain ⟨d1, d2, d3, d4⟩ := plain_yes c hpl
        have HSH : Aside0 (showB c = [c]) := ⟨by unfold showB; rw [if_pos hpl]⟩
        go_wp2_with fail
        refine (wbyteU b (39 :: (s.data.toList.take k).flatMap showB) c _ rfl wr HSB.out (by simpa using HL.out [] (by simp)) HSZ).mono ?_
        rintro e w4 ⟨rfl, q4, p4⟩
        have HI : Hid (ShowInv b gb n w s (k + 1) w4) := ⟨(p4.block gb hgb).trans HGB.out, by rw [HST.out, HSH.out, ← List.cons_append]; exact q4, HWR.out.trans (p4.mono HWB), Nat.le_trans HSZ p4.size⟩
        clear q4 p4
        go_wp2_with fail
        go_roundw
        case rel => exact ⟨k + 1, by omega, by go_num, HI⟩
        case measure => simp [intOf]; omega
      · have hc := c.toNat_lt
        have b1 : c.toNat / 16 < 16 := by omega
        have b2 : (c.toNat : Int) / 16 < 16 := by omega
        have b3 : c.toNat % 16 < 16 := by omega
        have b4 : (c.toNat : Int) % 16 < 16 := by omega
        have HSH : Aside0 (showB c = [92, hexd (c.toNat / 16), hexd (c.toNat % 16)]) := ⟨by unfold showB; rw [if_neg hpl]⟩
        rcases plain_not c hpl with d1 | ⟨d1, d2⟩ | ⟨d1, d2, d3⟩ | ⟨d1, d2, d3, d4⟩
        all_goals
          go_wp2_with fail
          refine (wbyteU b (39 :: (s.data.toList.take k).flatMap showB) 92 92 rfl wr HSB.out (by simpa using HL.out [] (by simp)) HSZ).mono ?_
          rintro e w4 ⟨rfl, q4, p4⟩
          have HS4 := Aside0.mk q4
          have HZ4 := Nat.le_trans HSZ p4.size
          have HW4 := Aside0.mk p4
          clear q4 p4
          go_wp2_with fail
          refine (wbyteU b (39 :: (s.data.toList.take k).flatMap showB ++ [92]) (hexd (c.toNat / 16)) _ (by rw [hexd_at _ b1]) w4 HS4.out (by simpa using HL.out [92] (by simp)) HZ4).mono ?_
          rintro e w5 ⟨rfl, q5, p5⟩
          have HS5 := Aside0.mk q5
          have HZ5 := Nat.le_trans HZ4 p5.size
          have HW5 := Aside0.mk (HW4.out.trans p5)
          clear q5 p5 HS4 HZ4 HW4
          go_wp2_with fail
          refine (wbyteU b (39 :: (s.data.toList.take k).flatMap showB ++ [92] ++ [hexd (c.toNat / 16)]) (hexd (c.toNat % 16)) _ (by rw [hexd_at _ b3]) w5 HS5.out (by simpa using HL.out [92, hexd (c.toNat / 16)] (by simp)) HZ5).mono ?_
          rintro e w6 ⟨rfl, q6, p6⟩
          have p7 := HW5.out.trans p6
          have HI : Hid (ShowInv b gb n w s (k + 1) w6) := ⟨(p7.block gb hgb).trans HGB.out, by rw [HST.out, HSH.out, ← List.cons_append]; simpa using q6, HWR.out.trans (p7.mono HWB), Nat.le_trans HSZ p7.size⟩
          clear q6 p6 p7 HS5 HZ5 HW5
          go_wp2_with fail
          go_roundw
          case rel => exact ⟨k + 1, by omega, by go_num, HI⟩
          case measure => simp [intOf]; omega
    · have hke : k = s.size := by omega
      subst hke
      have HSB := Aside0.mk (show Lib.IsBuilder 79 5 b b (Lib.byteCells (39 :: s.data.toList.flatMap showB)) wr by
        have h := HD.out.2.1
        rw [List.take_of_length_le (by show s.size ≤ s.size; exact Nat.le_refl _)] at h
        exact h)
      have HSZ : b ≤ wr.heap.size := HD.out.2.2.2
      have HWR := Aside0.mk (show Below w.heap.size w wr from HD.out.2.2.1)
      have HL := Aside0.mk (show (39 :: s.data.toList.flatMap showB).length + 1 ≤ 140737488355328 by
        have h1 := show_len s.data.toList
        have h2 : s.data.toList.length = s.size := by simp
        rw [List.length_cons]
        omega)
      go_wp2_with fail
      refine (wbyteU b (39 :: s.data.toList.flatMap showB) 39 39 rfl wr HSB.out HL.out HSZ).mono ?_
      rintro e w4 ⟨rfl, q4, p4⟩
      have HS4 := Aside0.mk (show Lib.IsBuilder 79 5 b b (Lib.byteCells (showL s)) w4 from q4)
      have HZ4 := Nat.le_trans HSZ p4.size
      have HW4 := Aside0.mk (HWR.out.trans (p4.mono HWB))
      clear q4 p4
      go_wp2_with (first | (go_at_call 35; refine (string_calls b b (showL s) _ HS4.out HZ4).mono ?_; rintro e w7 ⟨rfl, hb7⟩))
      go_ret
      exact ⟨rfl, HW4.out.trans (hb7.mono HWB)⟩

/-- tuple.Show of a text. (Of a number nothing is told here.) -/
def tuple_Show.f (s : ByteArray) (n : Int) (isText : Bool) : Option ByteArray := if isText = true ∧ s.size ≤ 1099511627776 then some ⟨(showL s).toArray⟩ else none
/-- THE CONTRACT. -/
theorem tuple_Show.calls (a0_0 : ByteArray) (a0_1 : Int) (a0_2 : Bool) (r : ByteArray) (w : World) (h : tuple_Show.f a0_0 a0_1 a0_2 = some r) :
    Calls Tryd.prog 10 #[.agg #[.string a0_0, .int .i64 a0_1, .bool a0_2]] w fun e w' => e = .returned (.string r) ∧ Below w.heap.size w w' := by
  unfold tuple_Show.f at h
  by_cases hs : a0_2 = true ∧ a0_0.size ≤ 1099511627776
  · rw [if_pos hs] at h
    obtain rfl := Option.some.inj h
    rw [hs.1]
    exact show_text a0_0 a0_1 w hs.2
  · rw [if_neg hs] at h; cases h
end Go.Proofs.YtcpehlllgfffkaaDoor.GT
