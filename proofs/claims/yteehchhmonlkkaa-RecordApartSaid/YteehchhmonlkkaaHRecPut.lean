/- record.Put's contract: a record's bytes, or why it has none. Conditions: the pages are read at the slice that is handed in. -/
import Derived.Test.YteehchhmonlkkaaHPut
import Derived.Test.YteehchhmonlkkaaGPx9
namespace Go.Proofs.Yteehchhmonlkkaa.GP
open Go.RowKit Go.Sort Go.Proofs.Yteehchhmonlkkaa.Tail Go.Proofs.YteehchhmonlkkaaW.PrintWords Go.Proofs.YteehchhmonlkkaaW.PrintLast Go.Proofs.YteehchhmonlkkaaW.PrintMore Go.Proofs.Yteehchhmonlkkaa.Copy Go.Proofs.Yteehchhmonlkkaa.Bld
attribute [local go_sem] max2_int min2_int max_two min_two max_three min_three max_four min_four
set_option linter.unusedVariables false
set_option linter.unusedSimpArgs false

set_option maxHeartbeats 1000000 in
set_option maxRecDepth 100000 in
theorem len_calls (B b : Nat) (bs : List Value) (w : World) (h : Lib.IsBuilder 71 5 B b bs w) :
    Calls Try.prog 22 #[.pointer (some ⟨b, 0, none⟩)] w fun e w' => e = .returned (.int .i64 bs.length) ∧ w' = w := by
  obtain ⟨p, hB, v, hbk, hown, hne⟩ : ∃ p, Lib.BuilderAt 71 5 B b p bs w := by
    rcases h with h | h
    · exact ⟨_, h⟩
    · exact ⟨_, h⟩
  obtain ⟨ao, cap, rfl⟩ : ∃ ao cap, v = .slice ao bs.length cap := by
    rcases hown.2 with ⟨hv, h0⟩ | ⟨g, cap, cur, hv, _⟩
    · exact ⟨none, 0, by rw [hv, h0]⟩
    · exact ⟨_, _, hv⟩
  have c1 : w.cell? ⟨b, 1, none⟩ = some (.slice ao bs.length cap) := by rw [Lib.cell_of_heap hbk]; rfl
  go_enter Try.func22, Try.ntmps22
  go_wp2
  go_ret
  exact ⟨rfl, rfl⟩

def be1 (n : Int) : List UInt8 := [UInt8.ofNat n.toNat]
def be6 (n : Int) : List UInt8 := [UInt8.ofNat (n / 1099511627776).toNat, UInt8.ofNat (n / 4294967296 % 256).toNat, UInt8.ofNat (n / 16777216 % 256).toNat, UInt8.ofNat (n / 65536 % 256).toNat, UInt8.ofNat (n / 256 % 256).toNat, UInt8.ofNat (n % 256).toNat]
theorem be1_str (n : Int) : (strOfNums [n]).data.toList = be1 n := rfl
theorem be6_str (n : Int) : (strOfNums [n / 1099511627776, n / 4294967296 % 256, n / 16777216 % 256, n / 65536 % 256, n / 256 % 256, n % 256]).data.toList = be6 n := rfl
theorem sput_one (n : Int) (h0 : 0 ≤ n) (h1 : n < 256) : sum_Put.f n 1 = some (strOfNums [n]) := by
  unfold sum_Put.f
  rw [if_pos h0, if_pos ⟨rfl, h1⟩]
theorem sput_six (n : Int) (h0 : 0 ≤ n) (h1 : n < 281474976710656) : sum_Put.f n 6 = some (strOfNums [n / 1099511627776, n / 4294967296 % 256, n / 16777216 % 256, n / 65536 % 256, n / 256 % 256, n % 256]) := by
  unfold sum_Put.f
  rw [if_pos h0, if_neg (by omega), if_neg (by omega), if_pos ⟨rfl, h1⟩]
/-- A changed page's bytes. -/
def pageB (c : S60) : List UInt8 := be2 c.f0 ++ putL c.f1
def headB (lsn txn kind : Int) (undo : ByteArray) (undone : Int) (n : Nat) : List UInt8 :=
  be6 lsn ++ be6 txn ++ be1 kind ++ be2 (undo.size : Int) ++ undo.data.toList ++ be2 undone ++ be1 (n : Int)
def recL (lsn txn kind : Int) (undo : ByteArray) (undone : Int) (l : List S60) : List UInt8 := headB lsn txn kind undo undone l.length ++ l.flatMap pageB
def pageOK (c : S60) : Bool := decide (0 ≤ c.f0) && decide (c.f0 ≤ 65535) && rightB 0 c.f1 && decide (c.f1.length ≤ 65535)
def recOK (lsn txn kind : Int) (undo : ByteArray) (undone : Int) (l : List S60) : Prop :=
  (0 ≤ lsn ∧ lsn ≤ 281474976710655) ∧ (0 ≤ txn ∧ txn ≤ 281474976710655) ∧ (1 ≤ kind ∧ kind ≤ 4) ∧ undo.size ≤ 65535 ∧ (0 ≤ undone ∧ undone ≤ 65535) ∧ l.length ≤ 255 ∧ l.all pageOK = true
instance (lsn txn kind : Int) (undo : ByteArray) (undone : Int) (l : List S60) : Decidable (recOK lsn txn kind undo undone l) := by unfold recOK; infer_instance
/-- What Go reads of the pages, so that nothing in them is more than a machine holds. -/
def recSmall (l : List S60) : Prop := l.length ≤ 9223372036854775807 ∧ ∀ c ∈ l, c.f1.length ≤ 140737488351232
/-- A page's own test tells whether it is not right. -/
theorem page_tells (c : S60) (h : c.f1.length ≤ 140737488351232) : record_Record_right_1.f c.f0 c.f1 = some (!pageOK c) := by
  unfold record_Record_right_1.f record_within.f pageOK
  by_cases h0 : c.f0 ≥ 0
  · rw [if_pos h0, Option.bind_some]
    by_cases h1 : c.f0 ≤ 65535
    · rw [if_pos (decide_eq_true h1)]
      unfold patch_Put.f
      rw [if_pos h]
      by_cases hr : rightB 0 c.f1 = true ∧ c.f1.length ≤ 65535
      · rw [if_pos hr, Option.bind_some, decide_eq_true h1, decide_eq_true (show 0 ≤ c.f0 from h0), hr.1, decide_eq_true hr.2]
        have hne : (⟨(putL c.f1).toArray⟩ : ByteArray).toList ≠ [] := fun he => by
          have : (⟨(putL c.f1).toArray⟩ : ByteArray).size = 0 := (data_nil _).mp he
          have h2 : (putL c.f1).length = 0 := by rw [← this]; rfl
          simp [putL, be2] at h2
        have hn2 : ((⟨(putL c.f1).toArray⟩ : ByteArray).toList == ([] : List UInt8)) = false := by rw [beq_eq_false_iff_ne]; exact hne
        simp only [hn2]; rfl
      · rw [if_neg hr, Option.bind_some, decide_eq_true h1, decide_eq_true (show 0 ≤ c.f0 from h0)]
        have he : (⟨#[]⟩ : ByteArray).toList = ([] : List UInt8) := (data_nil _).mpr rfl
        have : (rightB 0 c.f1 && decide (c.f1.length ≤ 65535)) = false := by
          cases h1 : rightB 0 c.f1 with
          | false => rfl
          | true => simp only [Bool.true_and, decide_eq_false_iff_not]; exact fun h2 => hr ⟨h1, h2⟩
        simp only [he, Bool.true_and, Bool.and_self, this]
        rfl
    · rw [if_neg (by rw [decide_eq_false h1]; decide), decide_eq_false h1]
      simp
  · rw [if_neg h0, Option.bind_some, if_neg (by decide), decide_eq_false (show ¬ 0 ≤ c.f0 from h0)]
    rfl

theorem pages_tell (l : List S60) (h : recSmall l) : record_Changed_34.f l = some (!l.all pageOK) := by
  have hw : ∀ c ∈ l, wrong c = !pageOK c := fun c hc => by unfold wrong; rw [page_tells c (h.2 c hc)]; rfl
  have ha : wrongAll l = true := by
    unfold wrongAll
    rw [List.all_eq_true]
    intro c hc
    rw [page_tells c (h.2 c hc)]; rfl
  unfold record_Changed_34.f
  rw [if_pos ⟨ha, h.1⟩]
  congr 1
  cases g : l.all pageOK with
  | true =>
    show l.any wrong = false
    rw [List.any_eq_false]
    intro c hc
    rw [hw c hc, List.all_eq_true.mp g c hc]; decide
  | false =>
    show l.any wrong = true
    obtain ⟨c, hc, h1⟩ := List.all_eq_false.mp g
    rw [List.any_eq_true]
    exact ⟨c, hc, by rw [hw c hc]; simpa using h1⟩

theorem right_said (lsn txn kind : Int) (undo : ByteArray) (undone : Int) (l : List S60) (h : recSmall l) :
    record_Record_right.f lsn txn kind undo undone l = some (decide (recOK lsn txn kind undo undone l)) := by
  unfold record_Record_right.f record_within.f
  rw [pages_tell l h]
  have no : ¬ recOK lsn txn kind undo undone l → decide (recOK lsn txn kind undo undone l) = false := fun h => decide_eq_false h
  by_cases a0 : lsn ≥ 0
  · rw [if_pos a0, Option.bind_some]
    by_cases a1 : lsn ≤ 281474976710655
    · rw [if_pos (decide_eq_true a1)]
      by_cases b0 : txn ≥ 0
      · rw [if_pos b0, Option.bind_some]
        by_cases b1 : txn ≤ 281474976710655
        · rw [if_pos (decide_eq_true b1)]
          by_cases c0 : kind < 1
          · rw [if_pos c0, no (fun h => by have := h.2.2.1.1; omega)]
          · rw [if_neg c0]
            by_cases c1 : kind > 4
            · rw [if_pos c1, no (fun h => by have := h.2.2.1.2; omega)]
            · rw [if_neg c1]
              by_cases d : (undo.size : Int) > 65535
              · rw [if_pos d, no (fun h => by have := h.2.2.2.1; omega)]
              · rw [if_neg d]
                by_cases e0 : undone ≥ 0
                · rw [if_pos e0, Option.bind_some]
                  by_cases e1 : undone ≤ 65535
                  · rw [if_pos (decide_eq_true e1)]
                    by_cases f : (l.length : Int) > 255
                    · rw [if_pos f, no (fun h => by have := h.2.2.2.2.2.1; omega)]
                    · rw [if_neg f, Option.bind_some]
                      cases g : l.all pageOK with
                      | true => rw [decide_eq_true (show recOK lsn txn kind undo undone l from ⟨⟨a0, a1⟩, ⟨b0, b1⟩, ⟨by omega, by omega⟩, by omega, ⟨e0, e1⟩, by omega, g⟩)]; rfl
                      | false => rw [no (fun h => by rw [h.2.2.2.2.2.2] at g; cases g)]; rfl
                  · rw [if_neg (by rw [decide_eq_false e1]; decide), no (fun h => e1 h.2.2.2.2.1.2)]
                · rw [if_neg e0, Option.bind_some, if_neg (by decide), no (fun h => e0 h.2.2.2.2.1.1)]
        · rw [if_neg (by rw [decide_eq_false b1]; decide), no (fun h => b1 h.2.1.2)]
      · rw [if_neg b0, Option.bind_some, if_neg (by decide), no (fun h => b0 h.2.1.1)]
    · rw [if_neg (by rw [decide_eq_false a1]; decide), no (fun h => a1 h.1.2)]
  · rw [if_neg a0, Option.bind_some, if_neg (by decide), no (fun h => a0 h.1.1)]

set_option maxHeartbeats 800000 in
set_option maxRecDepth 100000 in
theorem recput_wrong (lsn txn kind : Int) (undo : ByteArray) (undone : Int) (A1 : Option Addr) (c1 : Nat) (l1 : List S60) (w : World) (hr1 : Kd.C k60 w A1 l1.length l1) (hc1 : l1.length ≤ c1) (hk : record_Record_right.f lsn txn kind undo undone l1 = some false) :
    Calls Try.prog 9 #[.agg #[.int .i64 lsn, .int .i64 txn, .int .i64 kind, .string undo, .int .i64 undone, .slice A1 l1.length c1]] w fun e w' => e = .returned (.tuple #[.string ⟨#[]⟩, .int .i64 1]) ∧ Below w.heap.size w w' := by
  have hu29 := Try.underlying29
  have HK := Aside0.mk hk
  have HR := Aside0.mk hr1
  have HC := Aside0.mk hc1
  clear hk hr1 hc1
  go_enter Try.func9, Try.ntmps9
  go_wp2_with (first | ((with_reducible refine gate_dst (N := 1) rfl ?_); (try (refine gate_guard (by rfl) ?_; dsimp only)); refine box_event ?hg (N := 1) ?hd (cs := #[.int .i64 lsn, .int .i64 txn, .int .i64 kind, .string undo, .int .i64 undone, .slice A1 l1.length c1]) (t := 29) ?hr ?_; (case hd => rfl); (case hg => rfl); (case hr => first | (go_simp; done) | (go_simp; rfl)); intro gb hg wb hbox hb; have HB := Aside0.mk hb; have BK := Aside0.mk hbox; have GE := Aside0.mk (show w.heap.size ≤ gb by rw [hg]; exact Nat.le_refl _); clear hg hbox hb; have hcz0 : wb.cell? ⟨gb, 0, none⟩ = some (.int .i64 lsn) := (blk_cell BK.out 0).trans rfl; have hcz1 : wb.cell? ⟨gb, 1, none⟩ = some (.int .i64 txn) := (blk_cell BK.out 1).trans rfl; have hcz2 : wb.cell? ⟨gb, 2, none⟩ = some (.int .i64 kind) := (blk_cell BK.out 2).trans rfl; have hcz3 : wb.cell? ⟨gb, 3, none⟩ = some (.string undo) := (blk_cell BK.out 3).trans rfl; have hcz4 : wb.cell? ⟨gb, 4, none⟩ = some (.int .i64 undone) := (blk_cell BK.out 4).trans rfl; have hcz5 : wb.cell? ⟨gb, 5, none⟩ = some (.slice A1 l1.length c1) := (blk_cell BK.out 5).trans rfl) | (go_at_call 18; refine (record_Record_right.calls lsn txn kind undo undone A1 c1 l1 false _ (Kd.C_below HR.out HB.out) HC.out HK.out).mono ?_; rintro e w1 ⟨rfl, hb1⟩))
  go_ret2
  exact ⟨rfl, below_step HB.out hb1⟩

theorem putL_length (c : S60) (h : pageOK c = true) : (pageB c).length ≤ 4 + 65535 * 65539 := by
  unfold pageOK at h
  simp only [Bool.and_eq_true, decide_eq_true_eq] at h
  obtain ⟨⟨_, hr⟩, hl⟩ := h
  have h1 := flat_length c.f1 0 (by omega) hr
  have h2 : c.f1.length * 65539 ≤ 65535 * 65539 := Nat.mul_le_mul_right _ hl
  have h3 : (pageB c).length = 4 + (c.f1.flatMap pieceB).length := by simp [pageB, putL, be2]; omega
  omega
theorem pages_length : ∀ (l : List S60), l.all pageOK = true → (l.flatMap pageB).length ≤ l.length * (4 + 65535 * 65539)
  | [], _ => by simp
  | c :: l, h => by
    simp only [List.all_cons, Bool.and_eq_true] at h
    have h1 := putL_length c h.1
    have h2 := pages_length l h.2
    rw [List.flatMap_cons, List.length_append, List.length_cons, Nat.succ_mul]
    omega
theorem all_take (l : List S60) (k : Nat) (h : l.all pageOK = true) : (l.take k).all pageOK = true := by
  rw [List.all_eq_true] at h ⊢
  exact fun c hc => h c (List.mem_of_mem_take hc)
theorem pages_take_length (l : List S60) (k : Nat) (hl : l.length ≤ 255) (h : l.all pageOK = true) : ((l.take k).flatMap pageB).length ≤ 255 * (4 + 65535 * 65539) := by
  have h1 := pages_length (l.take k) (all_take l k h)
  have h2 : (l.take k).length ≤ 255 := by rw [List.length_take]; omega
  exact Nat.le_trans h1 (Nat.mul_le_mul_right _ h2)

def RecInv (b : Nat) (w : World) (H : List UInt8) (l1 : List S60) (k : Nat) (wr : World) : Prop :=
  Lib.IsBuilder 71 5 b b (Lib.byteCells (H ++ (l1.take k).flatMap pageB)) wr ∧ Below w.heap.size w wr ∧ b ≤ wr.heap.size

set_option maxHeartbeats 1600000 in
set_option maxRecDepth 100000 in
theorem recput_does (lsn txn kind : Int) (undo : ByteArray) (undone : Int) (A1 : Option Addr) (c1 : Nat) (l1 : List S60) (w : World) (hr1 : Kd.C k60 w A1 l1.length l1) (hc1 : l1.length ≤ c1) (hk : record_Record_right.f lsn txn kind undo undone l1 = some true)
    (s1 s2 s3 s4 s5 s6 : ByteArray) (h1 : sum_Put.f lsn 6 = some s1) (h2 : sum_Put.f txn 6 = some s2) (h3 : sum_Put.f kind 1 = some s3) (h4 : sum_Put.f (undo.size : Int) 2 = some s4) (h5 : sum_Put.f undone 2 = some s5) (h6 : sum_Put.f (l1.length : Int) 1 = some s6)
    (z1 : s1.size = 6) (z2 : s2.size = 6) (z3 : s3.size = 1) (z4 : s4.size = 2) (z5 : s5.size = 2) (z6 : s6.size = 1) (hu : undo.size ≤ 65535) (hl : l1.length ≤ 255) (hall : l1.all pageOK = true)
    (H : List UInt8) (hH : (s1 ++ s2 ++ s3 ++ s4 ++ undo ++ s5 ++ s6).data.toList = H) (r1 : ByteArray) (r2 : Int)
    (hres : (if (H ++ l1.flatMap pageB).length ≤ 16384 then ((⟨(H ++ l1.flatMap pageB).toArray⟩ : ByteArray), (0 : Int)) else (⟨#[]⟩, 6)) = (r1, r2)) :
    Calls Try.prog 9 #[.agg #[.int .i64 lsn, .int .i64 txn, .int .i64 kind, .string undo, .int .i64 undone, .slice A1 l1.length c1]] w fun e w' => e = .returned (.tuple #[.string r1, .int .i64 r2]) ∧ Below w.heap.size w w' := by
  have hu29 := Try.underlying29
  have HK := Aside0.mk hk
  have HR := Aside0.mk hr1
  have HC := Aside0.mk hc1
  have H1 := Aside0.mk h1
  have H2 := Aside0.mk h2
  have H3 := Aside0.mk h3
  have H4 := Aside0.mk h4
  have H5 := Aside0.mk h5
  have H6 := Aside0.mk h6
  have HALL := Aside0.mk hall
  have HHH := Aside0.mk hH
  have HRES := Aside0.mk hres
  clear hk hr1 hc1 h1 h2 h3 h4 h5 h6 hH hres hall
  go_enter Try.func9, Try.ntmps9
  go_wp2_with (first | ((with_reducible refine gate_dst (N := 1) rfl ?_); (try (refine gate_guard (by rfl) ?_; dsimp only)); refine box_event ?hg (N := 1) ?hd (cs := #[.int .i64 lsn, .int .i64 txn, .int .i64 kind, .string undo, .int .i64 undone, .slice A1 l1.length c1]) (t := 29) ?hr ?_; (case hd => rfl); (case hg => rfl); (case hr => first | (go_simp; done) | (go_simp; rfl)); intro gb hg wb hbox hb; have HB := Aside0.mk hb; have BK := Aside0.mk hbox; have GE := Aside0.mk (show w.heap.size ≤ gb by rw [hg]; exact Nat.le_refl _); clear hg hbox hb; have hcz0 : wb.cell? ⟨gb, 0, none⟩ = some (.int .i64 lsn) := (blk_cell BK.out 0).trans rfl; have hcz1 : wb.cell? ⟨gb, 1, none⟩ = some (.int .i64 txn) := (blk_cell BK.out 1).trans rfl; have hcz2 : wb.cell? ⟨gb, 2, none⟩ = some (.int .i64 kind) := (blk_cell BK.out 2).trans rfl; have hcz3 : wb.cell? ⟨gb, 3, none⟩ = some (.string undo) := (blk_cell BK.out 3).trans rfl; have hcz4 : wb.cell? ⟨gb, 4, none⟩ = some (.int .i64 undone) := (blk_cell BK.out 4).trans rfl; have hcz5 : wb.cell? ⟨gb, 5, none⟩ = some (.slice A1 l1.length c1) := (blk_cell BK.out 5).trans rfl) | (go_at_call 18; refine (record_Record_right.calls lsn txn kind undo undone A1 c1 l1 true _ (Kd.C_below HR.out HB.out) HC.out HK.out).mono ?_; rintro e w1 ⟨rfl, hb1⟩; have BK1 := Aside0.mk (blk_below BK.out hb1); have HB1 := Aside0.mk (below_step HB.out hb1); clear HB BK hb1 hcz0 hcz1 hcz2 hcz3 hcz4 hcz5) | fail)
  have hgb : gb < w1.heap.size := blk_lt BK1.out
  obtain ⟨W, hW⟩ : ∃ W, w1.alloc (.cells #[.pointer none, .slice none 0 0] 71) = W := ⟨_, rfl⟩
  rw [hW]
  have HIB := Aside0.mk (show Lib.IsBuilder 71 5 w1.heap.size w1.heap.size [] W by rw [← hW]; exact Lib.fresh_isBuilder 71 5 w1)
  have BKW := Aside0.mk (show W.heap[gb]? = some (.cells #[.int .i64 lsn, .int .i64 txn, .int .i64 kind, .string undo, .int .i64 undone, .slice A1 l1.length c1] 29 (0, 0)) by rw [← hW]; exact blk_alloc BK1.out _)
  have HBW := Aside0.mk (show Below w.heap.size w W by rw [← hW]; exact below_alloc HB1.out _)
  have HSZ : w1.heap.size ≤ W.heap.size := by rw [← hW]; simp
  have HWB : w.heap.size ≤ w1.heap.size := HB1.out.size
  clear hW HB1 BK1
  generalize w1.heap.size = b at hgb HIB HSZ HWB ⊢
  clear w1
  have a1 : ¬ 9223372036854775807 < s1.size + s2.size := by omega
  have a2 : ¬ 9223372036854775807 < s1.size + s2.size + s3.size := by omega
  have a3 : ¬ 9223372036854775807 < s1.size + s2.size + s3.size + s4.size := by omega
  have a4 : ¬ 9223372036854775807 < s1.size + s2.size + s3.size + s4.size + undo.size := by omega
  have a5 : ¬ 9223372036854775807 < s1.size + s2.size + s3.size + s4.size + undo.size + s5.size := by omega
  have a6 : ¬ 9223372036854775807 < s1.size + s2.size + s3.size + s4.size + undo.size + s5.size + s6.size := by omega
  have HL0 := Aside0.mk (show ([] : List Value).length + (s1 ++ s2 ++ s3 ++ s4 ++ undo ++ s5 ++ s6).size ≤ 140737488355328 by simp only [ByteArray.size_append, List.length_nil]; omega)
  have HHL := Aside0.mk (show H.length ≤ 65553 by rw [← HHH.out]; show (s1 ++ s2 ++ s3 ++ s4 ++ undo ++ s5 ++ s6).size ≤ 65553; simp only [ByteArray.size_append]; omega)
  clear z1 z2 z3 z4 z5 z6
  have k0 := cell_regrown (w := W) (a := ⟨gb, 0, none⟩) (v := .int .i64 lsn) ((blk_cell BKW.out 0).trans rfl)
  have k1 := cell_regrown (w := W) (a := ⟨gb, 1, none⟩) (v := .int .i64 txn) ((blk_cell BKW.out 1).trans rfl)
  have k2 := cell_regrown (w := W) (a := ⟨gb, 2, none⟩) (v := .int .i64 kind) ((blk_cell BKW.out 2).trans rfl)
  have k3 := cell_regrown (w := W) (a := ⟨gb, 3, none⟩) (v := .string undo) ((blk_cell BKW.out 3).trans rfl)
  have k4 := cell_regrown (w := W) (a := ⟨gb, 4, none⟩) (v := .int .i64 undone) ((blk_cell BKW.out 4).trans rfl)
  have k5 := cell_regrown (w := W) (a := ⟨gb, 5, none⟩) (v := .slice A1 l1.length c1) ((blk_cell BKW.out 5).trans rfl)
  have C1 := fun d os => Calls.regrown_of (w := W) (d := d) (os := os) (sum_Put.calls lsn 6 s1 _ H1.out)
  have C2 := fun d os => Calls.regrown_of (w := W) (d := d) (os := os) (sum_Put.calls txn 6 s2 _ H2.out)
  have C3 := fun d os => Calls.regrown_of (w := W) (d := d) (os := os) (sum_Put.calls kind 1 s3 _ H3.out)
  have C4 := fun d os => Calls.regrown_of (w := W) (d := d) (os := os) (sum_Put.calls (undo.size : Int) 2 s4 _ H4.out)
  have C5 := fun d os => Calls.regrown_of (w := W) (d := d) (os := os) (sum_Put.calls undone 2 s5 _ H5.out)
  have C6 := fun d os => Calls.regrown_of (w := W) (d := d) (os := os) (sum_Put.calls (l1.length : Int) 1 s6 _ H6.out)
  refine wp_region_below_tail 28 (by kernel_rfl) (by kernel_rfl) ?_
  simp only [List.take_succ_cons, List.take_zero, List.drop_succ_cons, List.drop_zero]
  quiet_step (fail)
  quiet_step (fail)
  quiet_step (with_reducible exact C1 _ _)
  quiet_step (fail)
  quiet_step (fail)
  quiet_step (with_reducible exact C2 _ _)
  quiet_step (fail)
  quiet_step (fail)
  quiet_step (fail)
  quiet_step (with_reducible exact C3 _ _)
  quiet_step (fail)
  quiet_step (fail)
  quiet_step (fail)
  quiet_step (fail)
  quiet_step (with_reducible exact C4 _ _)
  quiet_step (fail)
  quiet_step (fail)
  quiet_step (fail)
  quiet_step (fail)
  quiet_step (fail)
  quiet_step (fail)
  quiet_step (with_reducible exact C5 _ _)
  quiet_step (fail)
  quiet_step (fail)
  quiet_step (fail)
  quiet_step (fail)
  quiet_step (with_reducible exact C6 _ _)
  quiet_step (fail)
  refine wpQuiet_nil ?_
  intro w4 hb4
  have n1 := isBuilder_below HIB.out hb4.out
  have n2 := below_step HBW.out hb4.out
  have n3 := blk_below BKW.out hb4.out
  have n4 : b ≤ w4.heap.size := Nat.le_trans HSZ hb4.out.size
  clear HIB HBW BKW HSZ k0 k1 k2 k3 k4 k5 C1 C2 C3 C4 C5 C6 hb4 a1 a2 a3 a4 a5 a6
  have HIB := Aside0.mk n1
  have HBW := Aside0.mk n2
  have BKW := Aside0.mk n3
  have HSZ := n4
  clear n1 n2 n3 n4
  go_wp2_with (first | (go_at_call 19; refine (wstr_calls b b [] _ _ HIB.out HL0.out HSZ).mono ?_; rintro e w6 ⟨rfl, h6, hb6⟩; have n3 := Aside0.mk h6; have n4 := Aside0.mk (HBW.out.trans (hb6.mono HWB)); have n5 := Aside0.mk ((hb6.block gb hgb).trans BKW.out); have n6 := Nat.le_trans HSZ hb6.size; clear HIB HBW BKW HSZ h6 hb6; have HIB := n3; have HBW := n4; have BKW := n5; have HSZ := n6; clear n3 n4 n5 n6; have hcz5 := (blk_cell BKW.out 5)))
  have HD : Hid (RecInv b w H l1 0 w6) := ⟨by have h5 := HIB.out; rw [List.nil_append, str_bytes, HHH.out] at h5; simpa using h5, HBW.out, HSZ⟩
  clear HIB HBW BKW HSZ hcz5
  go_loopw [42] (fun i wr => ∃ k : Nat, k ≤ l1.length ∧ i = .int .i64 k ∧ Hid (RecInv b w H l1 k wr)) (fun i _ => l1.length - (intOf i).toNat)
  case atStart => exact ⟨0, Nat.zero_le _, rfl, HD⟩
  case round =>
    obtain ⟨k, hk, rfl, HD⟩ := hrel
    by_cases hlt : k < l1.length
    · obtain ⟨ad, A2, c2, e, hx0, hx1, hle, hC⟩ := at_T60 HR.out (k : Int) (by omega) (by omega)
      cases e
      rw [rd_at l1 k hlt] at hx0 hx1 hle hC
      simp only [Int.toNat_natCast] at hx0 hx1
      replace hx0 := (HD.out.2.1.cell (World.block_lt_of_cell? w _ hx0)).trans hx0
      replace hx1 := (HD.out.2.1.cell (World.block_lt_of_cell? w _ hx1)).trans hx1
      replace hC := Kd.C_below hC HD.out.2.1
      have hpg := List.all_eq_true.mp HALL.out l1[k] (List.getElem_mem hlt)
      have hpl := putL_length l1[k] hpg
      have hpt := pages_take_length l1 k hl HALL.out
      have hst : (l1.take (k + 1)).flatMap pageB = (l1.take k).flatMap pageB ++ pageB l1[k] := by
        rw [List.take_succ_eq_append_getElem hlt, List.flatMap_append, List.flatMap_cons, List.flatMap_nil, List.append_nil]
      unfold pageOK at hpg
      simp only [Bool.and_eq_true, decide_eq_true_eq] at hpg
      obtain ⟨⟨⟨hp0, hp1⟩, hrb⟩, hpl1⟩ := hpg
      have hput : patch_Put.f l1[k].f1 = some ⟨(putL l1[k].f1).toArray⟩ := by
        unfold patch_Put.f
        rw [if_pos (by omega), if_pos ⟨hrb, hpl1⟩]
      have hs0 := sput_two l1[k].f0 hp0 (by omega)
      have hpb : pageB l1[k] = (strOfNums [l1[k].f0 / 256, l1[k].f0 % 256] ++ (⟨(putL l1[k].f1).toArray⟩ : ByteArray)).data.toList := by
        rw [ByteArray.data_append, Array.toList_append, be2_str]; rfl
      obtain ⟨t0, ht0⟩ : ∃ t0, strOfNums [l1[k].f0 / 256, l1[k].f0 % 256] = t0 := ⟨_, rfl⟩
      obtain ⟨t1, ht1⟩ : ∃ t1, (⟨(putL l1[k].f1).toArray⟩ : ByteArray) = t1 := ⟨_, rfl⟩
      rw [ht0, ht1] at hpb
      rw [ht0] at hs0
      rw [ht1] at hput
      have hts : (t0 ++ t1).size ≤ 4 + 65535 * 65539 := by
        have : (pageB l1[k]).length = (t0 ++ t1).size := by rw [hpb]; rfl
        omega
      obtain ⟨p0, hq0⟩ : ∃ p, l1[k].f0 = p := ⟨_, rfl⟩
      obtain ⟨p1, hq1⟩ : ∃ p, l1[k].f1 = p := ⟨_, rfl⟩
      rw [hq0] at hx0 hs0
      rw [hq1] at hx1 hle hC hput
      have HS0 := Aside0.mk hs0
      have HPUT := Aside0.mk hput
      have HPB := Aside0.mk hpb
      have HST := Aside0.mk hst
      have HLE := Aside0.mk hle
      have HCW := Aside0.mk hC
      have HTS := Aside0.mk hts
      have HPT := Aside0.mk hpt
      have d1 : ¬ 9223372036854775807 < t0.size + t1.size := by rw [← ByteArray.size_append]; omega
      clear hs0 hput hpb hst hle hC hts hpt hpl ht0 ht1 hq0 hq1 hp0 hp1 hrb hpl1
      have HGS : b ≤ wr.heap.size := HD.out.2.2
      go_wp2_with fail
      obtain ⟨W, hW⟩ : ∃ W, wr.alloc (.cells #[.int .i64 p0, .slice A2 p1.length c2] 60) = W := ⟨_, rfl⟩
      rw [hW]
      have HIB := Aside0.mk (show Lib.IsBuilder 71 5 b b (Lib.byteCells (H ++ (l1.take k).flatMap pageB)) W by rw [← hW]; exact isBuilder_alloc HD.out.1 _)
      have HBW := Aside0.mk (show Below w.heap.size w W by rw [← hW]; exact below_alloc HD.out.2.1 _)
      have HSZ : b ≤ W.heap.size := by rw [← hW]; simp; omega
      have HCW2 := Aside0.mk (show Kd.C k66 W A2 p1.length p1 by rw [← hW]; exact Kd.C_alloc HCW.out _)
      have hnw : W.heap[wr.heap.size]? = some (.cells #[.int .i64 p0, .slice A2 p1.length c2] 60 (0, 0)) := by rw [← hW]; exact blk_new wr _
      have k0 := cell_regrown (w := W) (a := ⟨wr.heap.size, 0, none⟩) (v := .int .i64 p0) ((blk_cell hnw 0).trans rfl)
      have k1 := cell_regrown (w := W) (a := ⟨wr.heap.size, 1, none⟩) (v := .slice A2 p1.length c2) ((blk_cell hnw 1).trans rfl)
      have C1 := fun d os => Calls.regrown_of (w := W) (d := d) (os := os) (sum_Put.calls p0 2 t0 _ HS0.out)
      have C2 := fun d os => Calls.regrown_of (w := W) (d := d) (os := os) (patch_Put.calls A2 c2 p1 t1 _ (Kd.C_below HCW2.out (below_regrown W d os)) HLE.out HPUT.out)
      clear hW hnw HGS
      refine wp_region_below_tail 7 (by kernel_rfl) (by kernel_rfl) ?_
      simp only [List.take_succ_cons, List.take_zero, List.drop_succ_cons, List.drop_zero]
      quiet_step (fail)
      quiet_step (fail)
      quiet_step (with_reducible exact C1 _ _)
      quiet_step (fail)
      quiet_step (fail)
      quiet_step (with_reducible exact C2 _ _)
      quiet_step (fail)
      refine wpQuiet_nil ?_
      intro w4 hb4
      have n1 := isBuilder_below HIB.out hb4.out
      have n2 := below_step HBW.out hb4.out
      have n4 : b ≤ w4.heap.size := Nat.le_trans HSZ hb4.out.size
      clear HIB HBW HSZ k0 k1 C1 C2 hb4 d1
      have HIB := Aside0.mk n1
      have HBW := Aside0.mk n2
      have HSZ := n4
      clear n1 n2 n4
      have HL1 := Aside0.mk (show (Lib.byteCells (H ++ (l1.take k).flatMap pageB)).length + (t0 ++ t1).size ≤ 140737488355328 by
        rw [Lib.byteCells_length, List.length_append]
        have := HHL.out; have := HPT.out; have := HTS.out
        omega)
      go_wp2_with (first | (go_at_call 19; refine (wstr_calls b b (Lib.byteCells (H ++ (l1.take k).flatMap pageB)) _ _ HIB.out HL1.out HSZ).mono ?_; rintro e w6 ⟨rfl, h6, hb6⟩; have n3 := Aside0.mk h6; have n4 := Aside0.mk (HBW.out.trans (hb6.mono HWB)); have n6 := Nat.le_trans HSZ hb6.size; clear HIB HBW HSZ h6 hb6; have HIB := n3; have HBW := n4; have HSZ := n6; clear n3 n4 n6))
      all_goals
        go_roundw
        case rel =>
          refine ⟨k + 1, by omega, by go_num, ⟨?_, HBW.out, HSZ⟩⟩
          have h5 := HIB.out
          rw [str_bytes, bytes_app, ← HPB.out, List.append_assoc, ← HST.out] at h5
          exact h5
        case measure => simp [intOf]; omega
    · have hke : k = l1.length := by omega
      subst hke
      have hin := HD.out.1
      rw [List.take_length] at hin
      have HIN := Aside0.mk hin
      clear hin
      by_cases hlen : (H ++ l1.flatMap pageB).length ≤ 16384
      · have hres := HRES.out
        rw [if_pos hlen] at hres
        obtain ⟨rfl, rfl⟩ := Prod.mk.inj hres
        have e1 : decide (16384 < ((Lib.byteCells (H ++ l1.flatMap pageB)).length : Int)) = false := decide_eq_false (by rw [Lib.byteCells_length]; omega)
        have e2 : decide (16384 < (Lib.byteCells (H ++ l1.flatMap pageB)).length) = false := decide_eq_false (by rw [Lib.byteCells_length]; omega)
        clear hres
        go_wp2_with (first | (go_at_call 22; refine (len_calls b b (Lib.byteCells (H ++ l1.flatMap pageB)) _ HIN.out).mono ?_; rintro e w7 ⟨rfl, rfl⟩) | (go_at_call 23; refine (string_calls b b (H ++ l1.flatMap pageB) _ HIN.out HD.out.2.2).mono ?_; rintro e w7 ⟨rfl, hb7⟩))
        go_ret2
        exact ⟨rfl, HD.out.2.1.trans (hb7.mono HWB)⟩
      · have hres := HRES.out
        rw [if_neg hlen] at hres
        obtain ⟨rfl, rfl⟩ := Prod.mk.inj hres
        have e1 : decide (16384 < ((Lib.byteCells (H ++ l1.flatMap pageB)).length : Int)) = true := decide_eq_true (by rw [Lib.byteCells_length]; omega)
        have e2 : decide (16384 < (Lib.byteCells (H ++ l1.flatMap pageB)).length) = true := decide_eq_true (by rw [Lib.byteCells_length]; omega)
        clear hres
        go_wp2_with (first | (go_at_call 22; refine (len_calls b b (Lib.byteCells (H ++ l1.flatMap pageB)) _ HIN.out).mono ?_; rintro e w7 ⟨rfl, rfl⟩))
        go_ret2
        exact ⟨rfl, HD.out.2.1⟩

/-- record.Put, told plainly. -/
def record_Put.f (lsn txn kind : Int) (undo : ByteArray) (undone : Int) (l : List S60) : Option (ByteArray × Int) :=
  if l.length ≤ 9223372036854775807 ∧ (l.all fun c => decide (c.f1.length ≤ 140737488351232)) = true then
    (if recOK lsn txn kind undo undone l then (if (recL lsn txn kind undo undone l).length ≤ 16384 then some (⟨(recL lsn txn kind undo undone l).toArray⟩, 0) else some (⟨#[]⟩, 6)) else some (⟨#[]⟩, 1)) else none

/-- THE CONTRACT. -/
theorem record_Put.calls (lsn txn kind : Int) (undo : ByteArray) (undone : Int) (A1 : Option Addr) (c1 : Nat) (l1 : List S60) (r1 : ByteArray) (r2 : Int) (w : World) (hr1 : Kd.C k60 w A1 l1.length l1) (hc1 : l1.length ≤ c1) (h : record_Put.f lsn txn kind undo undone l1 = some (r1, r2)) :
    Calls Try.prog 9 #[.agg #[.int .i64 lsn, .int .i64 txn, .int .i64 kind, .string undo, .int .i64 undone, .slice A1 l1.length c1]] w fun e w' => e = .returned (.tuple #[.string r1, .int .i64 r2]) ∧ Below w.heap.size w w' := by
  unfold record_Put.f at h
  by_cases hs : l1.length ≤ 9223372036854775807 ∧ (l1.all fun c => decide (c.f1.length ≤ 140737488351232)) = true
  · rw [if_pos hs] at h
    have hsm : recSmall l1 := ⟨hs.1, fun c hc => of_decide_eq_true (List.all_eq_true.mp hs.2 c hc)⟩
    have hk := right_said lsn txn kind undo undone l1 hsm
    by_cases hr : recOK lsn txn kind undo undone l1
    · rw [if_pos hr] at h
      rw [decide_eq_true hr] at hk
      have g := hr
      obtain ⟨⟨g1, g2⟩, ⟨g3, g4⟩, ⟨g5, g6⟩, g7, ⟨g8, g9⟩, g10, g11⟩ := g
      refine recput_does lsn txn kind undo undone A1 c1 l1 w hr1 hc1 hk _ _ _ _ _ _ (sput_six lsn g1 (by omega)) (sput_six txn g3 (by omega)) (sput_one kind (by omega) (by omega)) (sput_two (undo.size : Int) (by omega) (by omega)) (sput_two undone g8 (by omega)) (sput_one (l1.length : Int) (by omega) (by omega))
        (strOfNums_size _) (strOfNums_size _) (strOfNums_size _) (strOfNums_size _) (strOfNums_size _) (strOfNums_size _) g7 g10 g11 (headB lsn txn kind undo undone l1.length) ?_ r1 r2 ?_
      · simp only [ByteArray.data_append, Array.toList_append, be2_str, be1_str, be6_str]; rfl
      · show (if (recL lsn txn kind undo undone l1).length ≤ 16384 then ((⟨(recL lsn txn kind undo undone l1).toArray⟩ : ByteArray), (0 : Int)) else (⟨#[]⟩, 6)) = (r1, r2)
        by_cases hlen : (recL lsn txn kind undo undone l1).length ≤ 16384
        · rw [if_pos hlen] at h ⊢; exact Option.some.inj h
        · rw [if_neg hlen] at h ⊢; exact Option.some.inj h
    · rw [if_neg hr] at h
      rw [decide_eq_false hr] at hk
      obtain ⟨rfl, rfl⟩ := Prod.mk.inj (Option.some.inj h)
      exact recput_wrong lsn txn kind undo undone A1 c1 l1 w hr1 hc1 hk
  · rw [if_neg hs] at h; cases h
end Go.Proofs.Yteehchhmonlkkaa.GP
