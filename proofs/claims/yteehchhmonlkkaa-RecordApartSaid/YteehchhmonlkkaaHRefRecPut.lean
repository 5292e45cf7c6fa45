/- concordanceref07.Put's contract: the same bytes as record.Put's, told of the document's pages. Conditions: the pages are read at the slice that is handed in. -/
import Derived.Test.YteehchhmonlkkaaHRecPut
import Derived.Test.YteehchhmonlkkaaHRefPut
namespace Go.Proofs.Yteehchhmonlkkaa.GP
open Go.RowKit Go.Sort Go.Proofs.Yteehchhmonlkkaa.Tail Go.Proofs.YteehchhmonlkkaaW.PrintWords Go.Proofs.YteehchhmonlkkaaW.PrintLast Go.Proofs.YteehchhmonlkkaaW.PrintMore Go.Proofs.Yteehchhmonlkkaa.Copy Go.Proofs.Yteehchhmonlkkaa.Bld
attribute [local go_sem] max2_int min2_int max_two min_two max_three min_three max_four min_four
set_option linter.unusedVariables false
set_option linter.unusedSimpArgs false

def toD (d : S63) : S60 := ⟨d.f0, d.f1.map toP⟩
def headOK (lsn txn kind : Int) (undo : ByteArray) (undone : Int) (n : Nat) : Prop :=
  (0 ≤ lsn ∧ lsn ≤ 281474976710655) ∧ (0 ≤ txn ∧ txn ≤ 281474976710655) ∧ (1 ≤ kind ∧ kind ≤ 4) ∧ undo.size ≤ 65535 ∧ (0 ≤ undone ∧ undone ≤ 65535) ∧ n ≤ 255

set_option maxHeartbeats 3200000 in
set_option maxRecDepth 100000 in
theorem rrec_bad (lsn txn kind : Int) (undo : ByteArray) (undone : Int) (A1 : Option Addr) (c1 : Nat) (l1 : List S63) (w : World) (hbad : ¬ headOK lsn txn kind undo undone l1.length) :
    Calls Try.prog 10 #[.agg #[.int .i64 lsn, .int .i64 txn, .int .i64 kind, .string undo, .int .i64 undone, .slice A1 l1.length c1]] w fun e w' => e = .returned (.tuple #[.string ⟨#[]⟩, .int .i64 1]) ∧ Below w.heap.size w w' := by
  have hu32 := Try.underlying32
  by_cases a0 : lsn < 0
  · have d0 : decide (lsn < 0) = true := decide_eq_true a0
    clear hbad a0
    go_enter Try.func10, Try.ntmps10
    go_wp2
    go_ret2
    exact ⟨rfl, below_alloc (Below.refl _ _) _⟩
  have e0 : decide (lsn < 0) = false := decide_eq_false a0
  by_cases a1 : 281474976710656 ≤ lsn
  · have d1 : decide (281474976710656 ≤ lsn) = true := decide_eq_true a1
    clear hbad a0 a1
    go_enter Try.func10, Try.ntmps10
    go_wp2
    go_ret2
    exact ⟨rfl, below_alloc (Below.refl _ _) _⟩
  have e1 : decide (281474976710656 ≤ lsn) = false := decide_eq_false a1
  by_cases b0 : txn < 0
  · have d2 : decide (txn < 0) = true := decide_eq_true b0
    clear hbad a0 a1 b0
    go_enter Try.func10, Try.ntmps10
    go_wp2
    go_ret2
    exact ⟨rfl, below_alloc (Below.refl _ _) _⟩
  have e2 : decide (txn < 0) = false := decide_eq_false b0
  by_cases b1 : 281474976710656 ≤ txn
  · have d3 : decide (281474976710656 ≤ txn) = true := decide_eq_true b1
    clear hbad a0 a1 b0 b1
    go_enter Try.func10, Try.ntmps10
    go_wp2
    go_ret2
    exact ⟨rfl, below_alloc (Below.refl _ _) _⟩
  have e3 : decide (281474976710656 ≤ txn) = false := decide_eq_false b1
  by_cases c0 : kind < 1
  · have d4 : decide (kind < 1) = true := decide_eq_true c0
    clear hbad a0 a1 b0 b1 c0
    go_enter Try.func10, Try.ntmps10
    go_wp2
    go_ret2
    exact ⟨rfl, below_alloc (Below.refl _ _) _⟩
  have e4 : decide (kind < 1) = false := decide_eq_false c0
  by_cases k1 : 4 < kind
  · have d5 : decide (4 < kind) = true := decide_eq_true k1
    clear hbad a0 a1 b0 b1 c0 k1
    go_enter Try.func10, Try.ntmps10
    go_wp2
    go_ret2
    exact ⟨rfl, below_alloc (Below.refl _ _) _⟩
  have e5 : decide (4 < kind) = false := decide_eq_false k1
  by_cases u0 : 65535 < undo.size
  · have d6 : decide (65535 < (undo.size : Int)) = true := decide_eq_true (by omega)
    have d6' : decide (65535 < undo.size) = true := decide_eq_true u0
    clear hbad a0 a1 b0 b1 c0 k1 u0
    go_enter Try.func10, Try.ntmps10
    go_wp2
    go_ret2
    exact ⟨rfl, below_alloc (Below.refl _ _) _⟩
  have e6 : decide (65535 < (undo.size : Int)) = false := decide_eq_false (by omega)
  have e6' : decide (65535 < undo.size) = false := decide_eq_false u0
  by_cases n0 : undone < 0
  · have d7 : decide (undone < 0) = true := decide_eq_true n0
    clear hbad a0 a1 b0 b1 c0 k1 u0 n0
    go_enter Try.func10, Try.ntmps10
    go_wp2
    go_ret2
    exact ⟨rfl, below_alloc (Below.refl _ _) _⟩
  have e7 : decide (undone < 0) = false := decide_eq_false n0
  by_cases n1 : 65535 < undone
  · have d8 : decide (65535 < undone) = true := decide_eq_true n1
    clear hbad a0 a1 b0 b1 c0 k1 u0 n0 n1
    go_enter Try.func10, Try.ntmps10
    go_wp2
    go_ret2
    exact ⟨rfl, below_alloc (Below.refl _ _) _⟩
  have e8 : decide (65535 < undone) = false := decide_eq_false n1
  by_cases p0 : 255 < l1.length
  · have d9 : decide (255 < (l1.length : Int)) = true := decide_eq_true (by omega)
    have d9' : decide (255 < l1.length) = true := decide_eq_true p0
    clear hbad a0 a1 b0 b1 c0 k1 u0 n0 n1 p0
    go_enter Try.func10, Try.ntmps10
    go_wp2
    go_ret2
    exact ⟨rfl, below_alloc (Below.refl _ _) _⟩
  exact absurd ⟨⟨by omega, by omega⟩, ⟨by omega, by omega⟩, ⟨by omega, by omega⟩, by omega, ⟨by omega, by omega⟩, by omega⟩ hbad

theorem rd_D (l : List S63) (i : Nat) (h : i < l.length) : rd_T63 l (i : Int) = l[i] := by simp [rd_T63, List.getD_eq_getElem?_getD, List.getElem?_eq_getElem h]
def pagesD (l : List S63) : List UInt8 := (l.map toD).flatMap pageB
def allD (l : List S63) : Bool := (l.map toD).all pageOK
theorem allD_take (l : List S63) (k : Nat) (h : ∀ i (hi : i < l.length), i < k → pageOK (toD l[i]) = true) : ((l.take k).map toD).all pageOK = true := by
  rw [List.all_eq_true]
  intro c hc
  obtain ⟨d, hd, rfl⟩ := List.mem_map.mp hc
  obtain ⟨i, hi, rfl⟩ := List.mem_iff_getElem.mp hd
  rw [List.getElem_take]
  have h1 : i < l.length ∧ i < k := by rw [List.length_take] at hi; omega
  exact h i h1.1 h1.2
theorem pagesD_length (l : List S63) (k : Nat) (hl : l.length ≤ 255) (h : ∀ i (hi : i < l.length), i < k → pageOK (toD l[i]) = true) : (pagesD (l.take k)).length ≤ 255 * (4 + 65535 * 65539) := by
  have h1 := pages_length ((l.take k).map toD) (allD_take l k h)
  have h2 : ((l.take k).map toD).length ≤ 255 := by rw [List.length_map, List.length_take]; omega
  exact Nat.le_trans h1 (Nat.mul_le_mul_right _ h2)
theorem allD_no (l : List S63) (k : Nat) (hk : k < l.length) (h : pageOK (toD l[k]) = false) : allD l = false := by
  unfold allD
  rw [List.all_eq_false]
  exact ⟨toD l[k], List.mem_map.mpr ⟨l[k], List.getElem_mem hk, rfl⟩, by rw [h]; decide⟩
theorem pagesD_succ (l : List S63) (k : Nat) (hk : k < l.length) : pagesD (l.take (k + 1)) = pagesD (l.take k) ++ pageB (toD l[k]) := by
  unfold pagesD
  rw [List.take_succ_eq_append_getElem hk, List.map_append, List.flatMap_append]
  simp

def RRecInv (w : World) (H : List UInt8) (l1 : List S63) (k : Nat) (s : ByteArray) (wr : World) : Prop :=
  s.data.toList = H ++ pagesD (l1.take k) ∧ Below w.heap.size w wr ∧ (∀ i (h : i < l1.length), i < k → pageOK (toD l1[i]) = true)

set_option maxHeartbeats 1600000 in
set_option maxRecDepth 100000 in
theorem rrec_does (lsn txn kind : Int) (undo : ByteArray) (undone : Int) (A1 : Option Addr) (c1 : Nat) (l1 : List S63) (w : World) (hr1 : Kd.C k63 w A1 l1.length l1) (hc1 : l1.length ≤ c1) (hg : headOK lsn txn kind undo undone l1.length) (hsm : ∀ c ∈ l1, c.f1.length ≤ 140737488351232)
    (s1 s2 s3 s4 s5 s6 : ByteArray) (h1 : concordanceref02_Put.f 9 lsn 6 = some s1) (h2 : concordanceref02_Put.f 9 txn 6 = some s2) (h3 : concordanceref02_Put.f 9 kind 1 = some s3) (h4 : concordanceref02_Put.f 9 (undo.size : Int) 2 = some s4) (h5 : concordanceref02_Put.f 9 undone 2 = some s5) (h6 : concordanceref02_Put.f 9 (l1.length : Int) 1 = some s6)
    (z1 : s1.size = 6) (z2 : s2.size = 6) (z3 : s3.size = 1) (z4 : s4.size = 2) (z5 : s5.size = 2) (z6 : s6.size = 1)
    (H : List UInt8) (hH : (s1 ++ s2 ++ s3 ++ s4 ++ undo ++ s5 ++ s6).data.toList = H) (r1 : ByteArray) (r2 : Int)
    (hres : (if allD l1 = true then (if (H ++ pagesD l1).length ≤ 16384 then ((⟨(H ++ pagesD l1).toArray⟩ : ByteArray), (0 : Int)) else (⟨#[]⟩, 6)) else (⟨#[]⟩, 1)) = (r1, r2)) :
    Calls Try.prog 10 #[.agg #[.int .i64 lsn, .int .i64 txn, .int .i64 kind, .string undo, .int .i64 undone, .slice A1 l1.length c1]] w fun e w' => e = .returned (.tuple #[.string r1, .int .i64 r2]) ∧ Below w.heap.size w w' := by
  have hu32 := Try.underlying32
  have hu63 := Try.underlying63
  have HR := Aside0.mk hr1
  have HC := Aside0.mk hc1
  have H1 := Aside0.mk h1
  have H2 := Aside0.mk h2
  have H3 := Aside0.mk h3
  have H4 := Aside0.mk h4
  have H5 := Aside0.mk h5
  have H6 := Aside0.mk h6
  have HHH := Aside0.mk hH
  have HRES := Aside0.mk hres
  have HSM := Aside0.mk hsm
  obtain ⟨⟨g1, g2⟩, ⟨g3, g4⟩, ⟨g5, g6⟩, g7, ⟨g8, g9⟩, g10⟩ := hg
  have e0 : decide (lsn < 0) = false := decide_eq_false (by omega)
  have e1 : decide (281474976710656 ≤ lsn) = false := decide_eq_false (by omega)
  have e2 : decide (txn < 0) = false := decide_eq_false (by omega)
  have e3 : decide (281474976710656 ≤ txn) = false := decide_eq_false (by omega)
  have e4 : decide (kind < 1) = false := decide_eq_false (by omega)
  have e5 : decide (4 < kind) = false := decide_eq_false (by omega)
  have e6 : decide (65535 < (undo.size : Int)) = false := decide_eq_false (by omega)
  have e6' : decide (65535 < undo.size) = false := decide_eq_false (by omega)
  have e7 : decide (undone < 0) = false := decide_eq_false (by omega)
  have e8 : decide (65535 < undone) = false := decide_eq_false (by omega)
  have e9 : decide (255 < (l1.length : Int)) = false := decide_eq_false (by omega)
  have e9' : decide (255 < l1.length) = false := decide_eq_false (by omega)
  clear hr1 hc1 h1 h2 h3 h4 h5 h6 hH hres hsm g1 g2 g3 g4 g5 g6 g8 g9
  go_enter Try.func10, Try.ntmps10
  go_wp2_with (first | ((with_reducible refine gate_dst (N := 1) rfl ?_); (try (refine gate_guard (by rfl) ?_; dsimp only)); refine box_event ?hg (N := 1) ?hd (cs := #[.int .i64 lsn, .int .i64 txn, .int .i64 kind, .string undo, .int .i64 undone, .slice A1 l1.length c1]) (t := 32) ?hr ?_; (case hd => rfl); (case hg => rfl); (case hr => first | (go_simp; done) | (go_simp; rfl)); intro gb hg wb hbox hb; have HB := Aside0.mk hb; have BK := Aside0.mk hbox; have GE := Aside0.mk (show w.heap.size ≤ gb by rw [hg]; exact Nat.le_refl _); clear hg hbox hb; have hcz0 : wb.cell? ⟨gb, 0, none⟩ = some (.int .i64 lsn) := (blk_cell BK.out 0).trans rfl; have hcz1 : wb.cell? ⟨gb, 1, none⟩ = some (.int .i64 txn) := (blk_cell BK.out 1).trans rfl; have hcz2 : wb.cell? ⟨gb, 2, none⟩ = some (.int .i64 kind) := (blk_cell BK.out 2).trans rfl; have hcz3 : wb.cell? ⟨gb, 3, none⟩ = some (.string undo) := (blk_cell BK.out 3).trans rfl; have hcz4 : wb.cell? ⟨gb, 4, none⟩ = some (.int .i64 undone) := (blk_cell BK.out 4).trans rfl; have hcz5 : wb.cell? ⟨gb, 5, none⟩ = some (.slice A1 l1.length c1) := (blk_cell BK.out 5).trans rfl) | fail)
  clear e0 e1 e2 e3 e4 e5 e6 e6' e7 e8 e9 e9'
  have a1 : ¬ 9223372036854775807 < s1.size + s2.size := by omega
  have a2 : ¬ 9223372036854775807 < s1.size + s2.size + s3.size := by omega
  have a3 : ¬ 9223372036854775807 < s1.size + s2.size + s3.size + s4.size := by omega
  have a4 : ¬ 9223372036854775807 < s1.size + s2.size + s3.size + s4.size + undo.size := by omega
  have a5 : ¬ 9223372036854775807 < s1.size + s2.size + s3.size + s4.size + undo.size + s5.size := by omega
  have a6 : ¬ 9223372036854775807 < s1.size + s2.size + s3.size + s4.size + undo.size + s5.size + s6.size := by omega
  have HHL := Aside0.mk (show H.length ≤ 65553 by rw [← HHH.out]; show (s1 ++ s2 ++ s3 ++ s4 ++ undo ++ s5 ++ s6).size ≤ 65553; simp only [ByteArray.size_append]; omega)
  clear z1 z2 z3 z4 z5 z6
  have k0 := cell_regrown hcz0
  have k1 := cell_regrown hcz1
  have k2 := cell_regrown hcz2
  have k3 := cell_regrown hcz3
  have k4 := cell_regrown hcz4
  have k5 := cell_regrown hcz5
  have C1 := fun d os => Calls.regrown_of (w := wb) (d := d) (os := os) (concordanceref02_Put.calls 9 lsn 6 s1 _ H1.out)
  have C2 := fun d os => Calls.regrown_of (w := wb) (d := d) (os := os) (concordanceref02_Put.calls 9 txn 6 s2 _ H2.out)
  have C3 := fun d os => Calls.regrown_of (w := wb) (d := d) (os := os) (concordanceref02_Put.calls 9 kind 1 s3 _ H3.out)
  have C4 := fun d os => Calls.regrown_of (w := wb) (d := d) (os := os) (concordanceref02_Put.calls 9 (undo.size : Int) 2 s4 _ H4.out)
  have C5 := fun d os => Calls.regrown_of (w := wb) (d := d) (os := os) (concordanceref02_Put.calls 9 undone 2 s5 _ H5.out)
  have C6 := fun d os => Calls.regrown_of (w := wb) (d := d) (os := os) (concordanceref02_Put.calls 9 (l1.length : Int) 1 s6 _ H6.out)
  clear hcz0 hcz1 hcz2 hcz3 hcz4 hcz5
  refine wp_region_quiet_below (by kernel_rfl) (by kernel_rfl) ?_
  repeat (quiet_step (first | with_reducible exact C1 _ _ | with_reducible exact C2 _ _ | with_reducible exact C3 _ _ | with_reducible exact C4 _ _ | with_reducible exact C5 _ _ | with_reducible exact C6 _ _))
  refine wpQuiet_nil ?_
  intro w4 hw4
  have n5 : w4.cell? ⟨gb, 5, none⟩ = some (.slice A1 l1.length c1) := by
    obtain ⟨p4, rfl⟩ := hw4
    exact k5 p4.d p4.os
  have n6 : Below w.heap.size w w4 := by
    obtain ⟨p4, rfl⟩ := hw4
    exact below_step HB.out (below_regrown wb p4.d p4.os)
  clear hw4 k0 k1 k2 k3 k4 k5 C1 C2 C3 C4 C5 C6 HB BK a1 a2 a3 a4 a5 a6 g7 H1 H2 H3 H4 H5 H6
  have HD : Hid (RRecInv w H l1 0 (s1 ++ s2 ++ s3 ++ s4 ++ undo ++ s5 ++ s6) w4 ∧ w4.cell? ⟨gb, 5, none⟩ = some (.slice A1 l1.length c1) ∧ gb < w4.heap.size) := ⟨⟨by rw [HHH.out]; simp [pagesD], n6, fun i _ h => absurd h (by omega)⟩, n5, World.block_lt_of_cell? w4 _ n5⟩
  clear n5 n6
  generalize s1 ++ s2 ++ s3 ++ s4 ++ undo ++ s5 ++ s6 = s0 at HD HHH ⊢
  go_wp2_with fail
  go_loopw [4, 5] (fun x i wr => ∃ (k : Nat) (s : ByteArray), k ≤ l1.length ∧ x = .string s ∧ i = .int .i64 k ∧ Hid (RRecInv w H l1 k s wr ∧ wr.cell? ⟨gb, 5, none⟩ = some (.slice A1 l1.length c1) ∧ gb < wr.heap.size)) (fun _ i _ => l1.length - (intOf i).toNat)
  case atStart => exact ⟨0, s0, Nat.zero_le _, rfl, rfl, HD⟩
  case round =>
    obtain ⟨k, s, hk, rfl, rfl, HD⟩ := hrel
    have hfl := pagesD_length l1 k g10 HD.out.1.2.2
    have hss : s.size ≤ 2000000000000 := by
      have h := congrArg List.length HD.out.1.1
      rw [List.length_append] at h
      simp only [Array.length_toList] at h
      have h2 : s.data.size = s.size := rfl
      have h3 := HHL.out
      omega
    clear hfl
    have hg5 := HD.out.2.1
    by_cases hlt : k < l1.length
    · obtain ⟨ad, A2, c2, e, hx0, hx1, hle, hC⟩ := at_T63 HR.out (k : Int) (by omega) (by omega)
      cases e
      rw [rd_D l1 k hlt] at hx0 hx1 hle hC
      simp only [Int.toNat_natCast] at hx0 hx1
      have hbl : Below w.heap.size w wr := HD.out.1.2.1
      replace hx0 := (hbl.cell (World.block_lt_of_cell? w _ hx0)).trans hx0
      replace hx1 := (hbl.cell (World.block_lt_of_cell? w _ hx1)).trans hx1
      replace hC := Kd.C_below hC hbl
      have hpsm := HSM.out l1[k] (List.getElem_mem hlt)
      obtain ⟨p0, hq0⟩ : ∃ p, l1[k].f0 = p := ⟨_, rfl⟩
      obtain ⟨p1, hq1⟩ : ∃ p, l1[k].f1 = p := ⟨_, rfl⟩
      have hpd : pageOK (toD l1[k]) = (decide (0 ≤ p0) && decide (p0 ≤ 65535) && rightB 0 (p1.map toP) && decide (p1.length ≤ 65535)) := by
        rw [← hq0, ← hq1]
        show (decide (0 ≤ l1[k].f0) && decide (l1[k].f0 ≤ 65535) && rightB 0 (l1[k].f1.map toP) && decide ((l1[k].f1.map toP).length ≤ 65535)) = _
        rw [List.length_map]
      have hpb : pageB (toD l1[k]) = be2 p0 ++ putL (p1.map toP) := by rw [← hq0, ← hq1]; rfl
      rw [hq0] at hx0
      rw [hq1] at hx1 hle hC hpsm
      have HPD := Aside0.mk hpd
      have HPB := Aside0.mk hpb
      have HLE := Aside0.mk hle
      have HPSM := Aside0.mk hpsm
      have hrt := refRight_tells p1 hpsm (2 * p1.length + 1) (Nat.le_refl _)
      have HCW := Aside0.mk hC
      clear hpd hpb hq0 hq1 hle hpsm hC hbl
      by_cases b0 : p0 < 0
      · have d0 : decide (p0 < 0) = true := decide_eq_true b0
        have HNO := Aside0.mk (allD_no l1 k hlt (by rw [HPD.out, decide_eq_false (show ¬ 0 ≤ p0 by omega)]; rfl))
        clear b0 hrt
        go_wp2_with fail
        go_ret2
        have hres := HRES.out
        rw [if_neg (by rw [HNO.out]; decide)] at hres
        obtain ⟨rfl, rfl⟩ := Prod.mk.inj hres
        exact ⟨rfl, below_alloc HD.out.1.2.1 _⟩
      have f0 : decide (p0 < 0) = false := decide_eq_false b0
      by_cases b1 : 65535 < p0
      · have d0 : decide (65535 < p0) = true := decide_eq_true b1
        have HNO := Aside0.mk (allD_no l1 k hlt (by rw [HPD.out, decide_eq_false (show ¬ p0 ≤ 65535 by omega)]; simp))
        clear b0 b1 hrt
        go_wp2_with fail
        go_ret2
        have hres := HRES.out
        rw [if_neg (by rw [HNO.out]; decide)] at hres
        obtain ⟨rfl, rfl⟩ := Prod.mk.inj hres
        exact ⟨rfl, below_alloc HD.out.1.2.1 _⟩
      have f1 : decide (65535 < p0) = false := decide_eq_false b1
      rw [decide_eq_true (show 0 ≤ p0 by omega), decide_eq_true (show p0 ≤ 65535 by omega), Bool.true_and, Bool.true_and] at HPD
      cases hrv : (rightB 0 (p1.map toP) && decide (p1.length ≤ 65535)) with
      | false =>
        rw [hrv] at hrt HPD
        have HRT := Aside0.mk hrt
        have HNO := Aside0.mk (allD_no l1 k hlt HPD.out)
        clear hrt hrv b0 b1
        go_wp2_with (first | (go_at_call 25; refine (concordanceref06_Right.calls (2 * p1.length + 1) A2 c2 p1 false _ (Kd.C_alloc HCW.out _) HLE.out HRT.out).mono ?_; rintro e w1 ⟨rfl, hb1⟩) | fail)
        go_ret2
        have hres := HRES.out
        rw [if_neg (by rw [HNO.out]; decide)] at hres
        obtain ⟨rfl, rfl⟩ := Prod.mk.inj hres
        exact ⟨rfl, below_step (below_alloc HD.out.1.2.1 _) hb1.below⟩
      | true =>
        rw [hrv] at hrt HPD
        have HRT := Aside0.mk hrt
        have HRV := Aside0.mk hrv
        have hput : concordanceref06_Put.f p1 = some ⟨(putL (p1.map toP)).toArray⟩ := by
          unfold concordanceref06_Put.f patch_Put.f
          rw [Bool.and_eq_true, decide_eq_true_eq] at hrv
          rw [if_pos (by rw [List.length_map]; exact HPSM.out), if_pos ⟨hrv.1, by rw [List.length_map]; exact hrv.2⟩]
        have hs0 := ref02_two p0 (by omega) (by omega) 9 (by omega)
        obtain ⟨t0, ht0⟩ : ∃ t0, strOfNums [p0 / 256, p0 % 256] = t0 := ⟨_, rfl⟩
        obtain ⟨t1, ht1⟩ : ∃ t1, (⟨(putL (p1.map toP)).toArray⟩ : ByteArray) = t1 := ⟨_, rfl⟩
        have hpb2 : pageB (toD l1[k]) = (t0 ++ t1).data.toList := by
          rw [HPB.out, ← ht0, ← ht1, ByteArray.data_append, Array.toList_append, be2_str]
        rw [ht0] at hs0
        rw [ht1] at hput
        have hpl := putL_length (toD l1[k]) HPD.out
        have hts : t0.size + t1.size ≤ 4 + 65535 * 65539 := by
          have h1 : (pageB (toD l1[k])).length = (t0 ++ t1).size := by rw [hpb2]; rfl
          rw [ByteArray.size_append] at h1
          omega
        have HS0 := Aside0.mk hs0
        have HPUT := Aside0.mk hput
        have HPB2 := Aside0.mk hpb2
        have dA : ¬ 9223372036854775807 < t0.size + t1.size := by omega
        have dB : ¬ 9223372036854775807 < s.size + (t0.size + t1.size) := by omega
        clear hrt hrv b0 b1 hput hs0 hpb2 hpl ht0 ht1 hts
        go_wp2_with (first | (go_at_call 25; refine (concordanceref06_Right.calls (2 * p1.length + 1) A2 c2 p1 true _ (Kd.C_alloc HCW.out _) HLE.out HRT.out).mono ?_; rintro e w1 ⟨rfl, hb1⟩; have HB1 := Aside0.mk hb1.below; clear hb1) | fail)
        have hnw := blk_below (blk_new wr (.cells #[.int .i64 p0, .slice A2 p1.length c2] 63)) HB1.out
        have HB2 := Aside0.mk (below_step (below_alloc HD.out.1.2.1 _) HB1.out)
        have n7 := ((below_step (below_alloc (Below.refl wr.heap.size wr) _) HB1.out).cell HD.out.2.2).trans hg5
        have k0 := cell_regrown (w := w1) (a := ⟨wr.heap.size, 0, none⟩) (v := .int .i64 p0) ((blk_cell hnw 0).trans rfl)
        have k1 := cell_regrown (w := w1) (a := ⟨wr.heap.size, 1, none⟩) (v := .slice A2 p1.length c2) ((blk_cell hnw 1).trans rfl)
        have HCW2 := Aside0.mk (Kd.C_below (Kd.C_alloc HCW.out (.cells #[.int .i64 p0, .slice A2 p1.length c2] 63)) HB1.out)
        have k5 := cell_regrown n7
        have C1 := fun d os => Calls.regrown_of (w := w1) (d := d) (os := os) (concordanceref02_Put.calls 9 p0 2 t0 _ HS0.out)
        have C2 := fun d os => Calls.regrown_of (w := w1) (d := d) (os := os) (concordanceref06_Put.calls A2 c2 p1 t1 _ (Kd.C_below HCW2.out (below_regrown w1 d os)) HLE.out HPUT.out)
        clear hnw n7 HB1
        refine wp_region_quiet_below (by kernel_rfl) (by kernel_rfl) ?_
        repeat (quiet_step (first | with_reducible exact C1 _ _ | with_reducible exact C2 _ _))
        refine wpQuiet_nil ?_
        intro w4 hw4
        have hb4 : Hid (Below w.heap.size w w4 ∧ w4.cell? ⟨gb, 5, none⟩ = some (.slice (some ad) l1.length c1) ∧ gb < w4.heap.size) := by
          obtain ⟨p4, rfl⟩ := hw4
          have h5 := k5 p4.d p4.os
          exact ⟨below_step HB2.out (below_regrown w1 p4.d p4.os), h5, World.block_lt_of_cell? _ _ h5⟩
        clear hw4 k0 k1 k5 C1 C2 HCW2
        go_wp2_with fail
        go_roundw
        case rel =>
          refine ⟨k + 1, _, by omega, rfl, by go_num, ⟨⟨?_, hb4.out.1, ?_⟩, hb4.out.2⟩⟩
          · rw [pagesD_succ l1 k hlt, HPB2.out, ByteArray.data_append, Array.toList_append, HD.out.1.1, List.append_assoc]
          · intro i hi hik
            by_cases he : i = k
            · subst he; exact HPD.out
            · exact HD.out.1.2.2 i hi (by omega)
        case measure => simp [intOf]; omega
    · have hke : k = l1.length := by omega
      subst hke
      have hall : allD l1 = true := by
        have h := allD_take l1 l1.length HD.out.1.2.2
        rw [List.take_length] at h
        exact h
      have hsd : s.data.toList = H ++ pagesD l1 := by
        have h := HD.out.1.1
        rw [List.take_length] at h
        exact h
      have hres := HRES.out
      rw [if_pos hall, ← hsd] at hres
      have hsl : s.data.toList.length = s.size := Array.length_toList ..
      rw [hsl] at hres
      by_cases hlen : s.size ≤ 16384
      · rw [if_pos hlen] at hres
        have HE := Aside0.mk (Prod.mk.inj hres)
        have d1 : decide (16384 < (s.size : Int)) = false := decide_eq_false (by omega)
        have d2 : decide (16384 < s.size) = false := decide_eq_false (by omega)
        clear hres hsd hall hsl
        go_wp2_with fail
        go_ret2
        have hse : (⟨s.data.toList.toArray⟩ : ByteArray) = s := by cases s; simp
        exact ⟨by rw [← HE.out.1, ← HE.out.2, hse]; rfl, HD.out.1.2.1⟩
      · rw [if_neg hlen] at hres
        have HE := Aside0.mk (Prod.mk.inj hres)
        have d1 : decide (16384 < (s.size : Int)) = true := decide_eq_true (by omega)
        have d2 : decide (16384 < s.size) = true := decide_eq_true (by omega)
        clear hres hsd hall hsl
        go_wp2_with fail
        go_ret2
        exact ⟨by rw [← HE.out.1, ← HE.out.2]; rfl, HD.out.1.2.1⟩

theorem one_byteP (x : Int) (h0 : 0 ≤ x) : strOfNums [Int.tmod x 256 % 256] = ⟨#[UInt8.ofNat (x % 256).toNat]⟩ := by
  rw [Int.tmod_eq_emod_of_nonneg h0, show x % 256 % 256 = x % 256 by omega]
  rfl
theorem widP (x : Int) (h0 : 0 ≤ x) (h1 : x < 9223372036854775808) : wrap64 x = x := by unfold wrap64; omega
theorem div_stepP (x : Int) (h0 : 0 ≤ x) (h1 : x < 9223372036854775808) : wrap64 (Int.tdiv x 256) = x / 256 := by
  rw [Int.tdiv_eq_ediv_of_nonneg h0]
  exact widP _ (by omega) (by omega)
theorem ref02_step (z : Int) (k : Nat) (x : ByteArray) (q : Int) (i : Nat) (hi : (i : Int) < z) (hz : z < 8) (h0 : 0 ≤ q) (h1 : q < 9223372036854775808) (hx : x.size ≤ 100) :
    concordanceref02_Put.l0 (k + 1) q z x (i : Int) = concordanceref02_Put.l0 k (q / 256) z ((⟨#[UInt8.ofNat (q % 256).toNat]⟩ : ByteArray) ++ x) ((i + 1 : Nat) : Int) := by
  have sz : (⟨#[UInt8.ofNat (q % 256).toNat]⟩ : ByteArray).size + x.size ≤ 9223372036854775807 := by
    have : (⟨#[UInt8.ofNat (q % 256).toNat]⟩ : ByteArray).size = 1 := rfl
    omega
  rw [concordanceref02_Put.l0.eq_2, if_pos hi, Option.bind_some, one_byteP q h0, if_pos sz, div_stepP q h0 h1, widP ((i : Int) + 1) (by omega) (by omega), show (i : Int) + 1 = ((i + 1 : Nat) : Int) by omega]
theorem ref02_one (m : Int) (m0 : 0 ≤ m) (m1 : m < 256) (k : Nat) (hk : 9 ≤ k) : concordanceref02_Put.f k m 1 = some (strOfNums [m]) := by
  obtain ⟨k, rfl⟩ : ∃ m, k = m + 1 + 1 + 1 := ⟨k - 3, by omega⟩
  have hz : (⟨#[]⟩ : ByteArray).size = 0 := rfl
  unfold concordanceref02_Put.f
  rw [if_neg (by omega), if_neg (by omega), decide_eq_false (by omega), concordanceref02_Put.j0.eq_2, if_neg (by decide), show (0 : Int) = ((0 : Nat) : Int) from rfl, ref02_step 1 _ _ m 0 (by omega) (by omega) m0 (by omega) (by rw [hz]; omega),
    concordanceref02_Put.l0.eq_2, if_neg (by omega), if_neg (by omega), show m % 256 = m by omega]
  congr 1
theorem ref02_six (m : Int) (m0 : 0 ≤ m) (m1 : m < 281474976710656) (k : Nat) (hk : 9 ≤ k) : concordanceref02_Put.f k m 6 = some ⟨(be6 m).toArray⟩ := by
  obtain ⟨k, rfl⟩ : ∃ m, k = m + 1 + 1 + 1 + 1 + 1 + 1 + 1 + 1 := ⟨k - 8, by omega⟩
  have hsz : ∀ (b : UInt8) (x : ByteArray), ((⟨#[b]⟩ : ByteArray) ++ x).size = 1 + x.size := fun b x => by rw [ByteArray.size_append]; rfl
  have hz : (⟨#[]⟩ : ByteArray).size = 0 := rfl
  unfold concordanceref02_Put.f
  rw [if_neg (by omega), if_neg (by omega), decide_eq_false (by omega), concordanceref02_Put.j0.eq_2, if_neg (by decide), show (0 : Int) = ((0 : Nat) : Int) from rfl, ref02_step 6 _ _ m 0 (by omega) (by omega) m0 (by omega) (by rw [hz]; omega),
    ref02_step 6 _ _ (m / 256) 1 (by omega) (by omega) (by omega) (by omega) (by rw [hsz, hz]; omega),
    ref02_step 6 _ _ (m / 256 / 256) 2 (by omega) (by omega) (by omega) (by omega) (by rw [hsz, hsz, hz]; omega),
    ref02_step 6 _ _ (m / 256 / 256 / 256) 3 (by omega) (by omega) (by omega) (by omega) (by rw [hsz, hsz, hsz, hz]; omega),
    ref02_step 6 _ _ (m / 256 / 256 / 256 / 256) 4 (by omega) (by omega) (by omega) (by omega) (by rw [hsz, hsz, hsz, hsz, hz]; omega),
    ref02_step 6 _ _ (m / 256 / 256 / 256 / 256 / 256) 5 (by omega) (by omega) (by omega) (by omega) (by rw [hsz, hsz, hsz, hsz, hsz, hz]; omega),
    concordanceref02_Put.l0.eq_2, if_neg (by omega), if_neg (by omega)]
  have e1 : m / 256 / 256 / 256 / 256 / 256 % 256 = m / 1099511627776 := by omega
  have e2 : m / 256 / 256 / 256 / 256 % 256 = m / 4294967296 % 256 := by omega
  have e3 : m / 256 / 256 / 256 % 256 = m / 16777216 % 256 := by omega
  have e4 : m / 256 / 256 % 256 = m / 65536 % 256 := by omega
  rw [e1, e2, e3, e4]
  congr 1

/-- The document's Put tells what the program's tells. -/
def concordanceref07_Put.f (lsn txn kind : Int) (undo : ByteArray) (undone : Int) (l : List S63) : Option (ByteArray × Int) :=
  record_Put.f lsn txn kind undo undone (l.map toD)

theorem headB_size (lsn txn kind : Int) (undo : ByteArray) (undone : Int) (n : Nat) : ((⟨(be6 lsn).toArray⟩ : ByteArray) ++ ⟨(be6 txn).toArray⟩ ++ strOfNums [kind] ++ strOfNums [(undo.size : Int) / 256, (undo.size : Int) % 256] ++ undo ++ strOfNums [undone / 256, undone % 256] ++ strOfNums [(n : Int)]).data.toList = headB lsn txn kind undo undone n := by
  simp only [ByteArray.data_append, Array.toList_append, be2_str, be1_str]; rfl

/-- THE CONTRACT. -/
theorem concordanceref07_Put.calls (lsn txn kind : Int) (undo : ByteArray) (undone : Int) (A1 : Option Addr) (c1 : Nat) (l1 : List S63) (r1 : ByteArray) (r2 : Int) (w : World) (hr1 : Kd.C k63 w A1 l1.length l1) (hc1 : l1.length ≤ c1) (h : concordanceref07_Put.f lsn txn kind undo undone l1 = some (r1, r2)) :
    Calls Try.prog 10 #[.agg #[.int .i64 lsn, .int .i64 txn, .int .i64 kind, .string undo, .int .i64 undone, .slice A1 l1.length c1]] w fun e w' => e = .returned (.tuple #[.string r1, .int .i64 r2]) ∧ Below w.heap.size w w' := by
  unfold concordanceref07_Put.f record_Put.f at h
  by_cases hs : (l1.map toD).length ≤ 9223372036854775807 ∧ ((l1.map toD).all fun c => decide (c.f1.length ≤ 140737488351232)) = true
  · rw [if_pos hs] at h
    have hsm : ∀ c ∈ l1, c.f1.length ≤ 140737488351232 := fun c hc => by
      have h1 := of_decide_eq_true (List.all_eq_true.mp hs.2 (toD c) (List.mem_map.mpr ⟨c, hc, rfl⟩))
      have h2 : (toD c).f1.length = c.f1.length := List.length_map ..
      rw [h2] at h1
      exact h1
    by_cases hg : headOK lsn txn kind undo undone l1.length
    · have g := hg
      obtain ⟨⟨g1, g2⟩, ⟨g3, g4⟩, ⟨g5, g6⟩, g7, ⟨g8, g9⟩, g10⟩ := g
      refine rrec_does lsn txn kind undo undone A1 c1 l1 w hr1 hc1 hg hsm _ _ _ _ _ _ (ref02_six lsn g1 (by omega) 9 (by omega)) (ref02_six txn g3 (by omega) 9 (by omega)) (ref02_one kind (by omega) (by omega) 9 (by omega)) (ref02_two (undo.size : Int) (by omega) (by omega) 9 (by omega)) (ref02_two undone g8 (by omega) 9 (by omega)) (ref02_one (l1.length : Int) (by omega) (by omega) 9 (by omega))
        rfl rfl (strOfNums_size _) (strOfNums_size _) (strOfNums_size _) (strOfNums_size _) (headB lsn txn kind undo undone l1.length) (headB_size lsn txn kind undo undone l1.length) r1 r2 ?_
      have hl : (l1.map toD).length = l1.length := List.length_map ..
      have hrl : recL lsn txn kind undo undone (l1.map toD) = headB lsn txn kind undo undone l1.length ++ pagesD l1 := by
        unfold recL; rw [hl]; rfl
      rw [hrl] at h
      cases ha : allD l1 with
      | true =>
        rw [if_pos (show recOK lsn txn kind undo undone (l1.map toD) from ⟨⟨g1, g2⟩, ⟨g3, g4⟩, ⟨g5, g6⟩, g7, ⟨g8, g9⟩, by rw [hl]; exact g10, ha⟩)] at h
        rw [if_pos rfl]
        by_cases hlen : (headB lsn txn kind undo undone l1.length ++ pagesD l1).length ≤ 16384
        · rw [if_pos hlen] at h ⊢; exact Option.some.inj h
        · rw [if_neg hlen] at h ⊢; exact Option.some.inj h
      | false =>
        rw [if_neg (show ¬ recOK lsn txn kind undo undone (l1.map toD) from fun hh => by have h9 := hh.2.2.2.2.2.2; rw [show (l1.map toD).all pageOK = false from ha] at h9; cases h9)] at h
        rw [if_neg (by decide)]
        exact Option.some.inj h
    · rw [if_neg (show ¬ recOK lsn txn kind undo undone (l1.map toD) from fun hh => hg ⟨hh.1, hh.2.1, hh.2.2.1, hh.2.2.2.1, hh.2.2.2.2.1, by have := hh.2.2.2.2.2.1; rwa [List.length_map] at this⟩)] at h
      obtain ⟨rfl, rfl⟩ := Prod.mk.inj (Option.some.inj h)
      exact rrec_bad lsn txn kind undo undone A1 c1 l1 w hg
  · rw [if_neg hs] at h; cases h
end Go.Proofs.Yteehchhmonlkkaa.GP
