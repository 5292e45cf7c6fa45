-- Written by a program of this session (wip/pv.py, which turns the kit's print.py in a scratch copy): see NOTES.md.
import Derived.Test.YtcpehlllgfffkaaDoorGTx0
namespace Go.Proofs.YtcpehlllgfffkaaDoor.GT
open Go.RowKit Go.Proofs.YtcpehlllgfffkaaDoorW.PrintWords Go.Proofs.YtcpehlllgfffkaaDoorW.PrintLast Go.Proofs.YtcpehlllgfffkaaDoorW.PrintMore
attribute [local go_sem] max2_int min2_int max_two min_two max_three min_three max_four min_four   -- for this text's walks alone
set_option linter.unusedVariables false
set_option linter.unusedSimpArgs false

/-! ### concordanceref01_One: function 19 -/
mutual
def concordanceref01_One.j0 : Nat → Bool → ByteArray → Int → Bool → Option (ByteArray × Int)
 | 0, _, _, _, _ => none
 | k + 1, x15, x220000, x220001, x220002 => if x15 = true then (some ((⟨#[]⟩ : ByteArray), 6)) else (if x220002 = true then (if x220001 = 0 then (if x220001 < (-1099511627776) then (concordanceref01_One.j1 k true x220000 x220001 x220002) else (concordanceref01_One.j1 k (decide (x220001 > 1099511627776)) x220000 x220001 x220002)) else (concordanceref01_One.j1 k true x220000 x220001 x220002)) else (if x220000.toList = ([] : List UInt8) then (if x220001 < (-1099511627776) then (concordanceref01_One.j1 k true x220000 x220001 x220002) else (concordanceref01_One.j1 k (decide (x220001 > 1099511627776)) x220000 x220001 x220002)) else (concordanceref01_One.j1 k true x220000 x220001 x220002)))
def concordanceref01_One.j1 : Nat → Bool → ByteArray → Int → Bool → Option (ByteArray × Int)
 | 0, _, _, _, _ => none
 | k + 1, x42, x220000, x220001, x220002 => if x42 = true then (some ((⟨#[]⟩ : ByteArray), 1)) else (if x220002 = true then (concordanceref01_One.l1 k (⟨#[]⟩ : ByteArray) 0 x220000 x220001 x220002) else (concordanceref01_One.l0 k (⟨#[]⟩ : ByteArray) (wrap64 (x220001 + 1099511627776)) 0))
def concordanceref01_One.l1 : Nat → ByteArray → Int → ByteArray → Int → Bool → Option (ByteArray × Int)
 | 0, _, _, _, _, _ => none
 | k + 1, x4, x7, x220000, x220001, x220002 => if x7 < (x220000.size : Int) then (if 0 ≤ x7 then (if x7 ≤ (wrap64 (x7 + 1)) then (if (wrap64 (x7 + 1)) ≤ (x220000.size : Int) then (if x4.size + (x220000.extract (x7 : Int).toNat ((wrap64 (x7 + 1)) : Int).toNat).size ≤ 9223372036854775807 then (if (bt x220000 x7) = 0 then (if (x4 ++ (x220000.extract (x7 : Int).toNat ((wrap64 (x7 + 1)) : Int).toNat)).size + 1 ≤ 9223372036854775807 then (concordanceref01_One.l1 k ((x4 ++ (x220000.extract (x7 : Int).toNat ((wrap64 (x7 + 1)) : Int).toNat)) ++ (⟨#[255]⟩ : ByteArray)) (wrap64 (x7 + 1)) x220000 x220001 x220002) else (none)) else (concordanceref01_One.l1 k (x4 ++ (x220000.extract (x7 : Int).toNat ((wrap64 (x7 + 1)) : Int).toNat)) (wrap64 (x7 + 1)) x220000 x220001 x220002)) else (none)) else (none)) else (none)) else (none)) else (if 1 + x4.size ≤ 9223372036854775807 then (if ((⟨#[32]⟩ : ByteArray) ++ x4).size + 2 ≤ 9223372036854775807 then (some (((⟨#[32]⟩ : ByteArray) ++ x4) ++ (⟨#[0, 1]⟩ : ByteArray), 0)) else (none)) else (none))
def concordanceref01_One.l0 : Nat → ByteArray → Int → Int → Option (ByteArray × Int)
 | 0, _, _, _ => none
 | k + 1, x4, x5, x6 => if x6 < 6 then ((some (([(Int.tmod x5 256) % 256] : List Int) : List Int)).bind fun y220 => (if (strOfNums y220).size + x4.size ≤ 9223372036854775807 then (concordanceref01_One.l0 k ((strOfNums y220) ++ x4) (wrap64 (Int.tdiv x5 256)) (wrap64 (x6 + 1))) else (none))) else (if 1 + x4.size ≤ 9223372036854775807 then (some ((⟨#[16]⟩ : ByteArray) ++ x4, 0)) else (none))
end
def concordanceref01_One.f (k : Nat) (a0_0 : ByteArray) (a0_1 : Int) (a0_2 : Bool) : Option (ByteArray × Int) := if a0_2 = true then (concordanceref01_One.j0 k (decide ((a0_0.size : Int) > 20)) a0_0 a0_1 a0_2) else (concordanceref01_One.j0 k false a0_0 a0_1 a0_2)
theorem concordanceref01_One.mono_l : ∀ k, (∀ y0 y1 y2 y3, LeO (concordanceref01_One.j0 k y0 y1 y2 y3) (concordanceref01_One.j0 (k + 1) y0 y1 y2 y3)) ∧ (∀ y0 y1 y2 y3, LeO (concordanceref01_One.j1 k y0 y1 y2 y3) (concordanceref01_One.j1 (k + 1) y0 y1 y2 y3)) ∧ (∀ y0 y1 y2 y3 y4, LeO (concordanceref01_One.l1 k y0 y1 y2 y3 y4) (concordanceref01_One.l1 (k + 1) y0 y1 y2 y3 y4)) ∧ (∀ y0 y1 y2, LeO (concordanceref01_One.l0 k y0 y1 y2) (concordanceref01_One.l0 (k + 1) y0 y1 y2))
 | 0 => ⟨fun _ _ _ _ r h => by simp [concordanceref01_One.j0] at h, fun _ _ _ _ r h => by simp [concordanceref01_One.j1] at h, fun _ _ _ _ _ r h => by simp [concordanceref01_One.l1] at h, fun _ _ _ r h => by simp [concordanceref01_One.l0] at h⟩
 | k + 1 => by
  obtain ⟨ih0, ih1, ih2, ih3⟩ := concordanceref01_One.mono_l k
  refine ⟨?_, ?_, ?_, ?_⟩
  ·intro y0 y1 y2 y3
   unfold concordanceref01_One.j0
   repeat' first
   | (with_reducible exact ih0 _ _ _ _)
   | (with_reducible exact ih1 _ _ _ _)
   | (with_reducible exact ih2 _ _ _ _ _)
   | (with_reducible exact ih3 _ _ _)
   | (with_reducible exact LeO.refl _)
   | (with_reducible exact LeO.none _)
   | (with_reducible refine LeO.ite ?_ ?_)
   | (with_reducible refine LeO.bind ?_ (fun _ => ?_))
   | exact ih0 _ _ _ _
   | exact ih1 _ _ _ _
   | exact ih2 _ _ _ _ _
   | exact ih3 _ _ _
   | exact LeO.none _
   | refine LeO.ite ?_ ?_
   | refine LeO.bind ?_ (fun _ => ?_)
  ·intro y0 y1 y2 y3
   unfold concordanceref01_One.j1
   repeat' first
   | (with_reducible exact ih0 _ _ _ _)
   | (with_reducible exact ih1 _ _ _ _)
   | (with_reducible exact ih2 _ _ _ _ _)
   | (with_reducible exact ih3 _ _ _)
   | (with_reducible exact LeO.refl _)
   | (with_reducible exact LeO.none _)
   | (with_reducible refine LeO.ite ?_ ?_)
   | (with_reducible refine LeO.bind ?_ (fun _ => ?_))
   | exact ih0 _ _ _ _
   | exact ih1 _ _ _ _
   | exact ih2 _ _ _ _ _
   | exact ih3 _ _ _
   | exact LeO.none _
   | refine LeO.ite ?_ ?_
   | refine LeO.bind ?_ (fun _ => ?_)
  ·intro y0 y1 y2 y3 y4
   unfold concordanceref01_One.l1
   repeat' first
   | (with_reducible exact ih0 _ _ _ _)
   | (with_reducible exact ih1 _ _ _ _)
   | (with_reducible exact ih2 _ _ _ _ _)
   | (with_reducible exact ih3 _ _ _)
   | (with_reducible exact LeO.refl _)
   | (with_reducible exact LeO.none _)
   | (with_reducible refine LeO.ite ?_ ?_)
   | (with_reducible refine LeO.bind ?_ (fun _ => ?_))
   | exact ih0 _ _ _ _
   | exact ih1 _ _ _ _
   | exact ih2 _ _ _ _ _
   | exact ih3 _ _ _
   | exact LeO.none _
   | refine LeO.ite ?_ ?_
   | refine LeO.bind ?_ (fun _ => ?_)
  ·intro y0 y1 y2
   unfold concordanceref01_One.l0
   repeat' first
   | (with_reducible exact ih0 _ _ _ _)
   | (with_reducible exact ih1 _ _ _ _)
   | (with_reducible exact ih2 _ _ _ _ _)
   | (with_reducible exact ih3 _ _ _)
   | (with_reducible exact LeO.refl _)
   | (with_reducible exact LeO.none _)
   | (with_reducible refine LeO.ite ?_ ?_)
   | (with_reducible refine LeO.bind ?_ (fun _ => ?_))
   | exact ih0 _ _ _ _
   | exact ih1 _ _ _ _
   | exact ih2 _ _ _ _ _
   | exact ih3 _ _ _
   | exact LeO.none _
   | refine LeO.ite ?_ ?_
   | refine LeO.bind ?_ (fun _ => ?_)
theorem concordanceref01_One.mono : ∀ a0 a1 a2 k, LeO (concordanceref01_One.f k a0 a1 a2) (concordanceref01_One.f (k + 1) a0 a1 a2) := by
 intro a0 a1 a2 k
 obtain ⟨ih0, ih1, ih2, ih3⟩ := concordanceref01_One.mono_l k
 unfold concordanceref01_One.f
 repeat' first
   | (with_reducible exact ih0 _ _ _ _)
   | (with_reducible exact ih1 _ _ _ _)
   | (with_reducible exact ih2 _ _ _ _ _)
   | (with_reducible exact ih3 _ _ _)
   | (with_reducible exact LeO.refl _)
   | (with_reducible exact LeO.none _)
   | (with_reducible refine LeO.ite ?_ ?_)
   | (with_reducible refine LeO.bind ?_ (fun _ => ?_))
   | exact ih0 _ _ _ _
   | exact ih1 _ _ _ _
   | exact ih2 _ _ _ _ _
   | exact ih3 _ _ _
   | exact LeO.none _
   | refine LeO.ite ?_ ?_
   | refine LeO.bind ?_ (fun _ => ?_)
set_option maxHeartbeats 8000000 in
set_option maxRecDepth 100000 in
theorem concordanceref01_One.calls (k : Nat) (a0_0 : ByteArray) (a0_1 : Int) (a0_2 : Bool) (r1 : ByteArray) (r2 : Int) (w : World) (h : concordanceref01_One.f k a0_0 a0_1 a0_2 = some (r1, r2)) :
  Calls Tryd.prog 19 #[.agg #[.string a0_0, .int .i64 a0_1, .bool a0_2]] w fun e w' => e = .returned (.tuple #[.string r1, .int .i64 r2]) ∧ Below w.heap.size w w' := by
 have hu26 := Tryd.underlying26
 have HB := Aside0.mk (Below.refl w.heap.size w)
 have H : (if a0_2 = true then (concordanceref01_One.j0 k (decide ((a0_0.size : Int) > 20)) a0_0 a0_1 a0_2) else (concordanceref01_One.j0 k false a0_0 a0_1 a0_2)) = some (r1, r2) := h
 clear h
 have HC2 := Aside0.mk H
 clear H
 go_enter Tryd.func19, Tryd.ntmps19
 go_upto_region 1 with (first | ((with_reducible refine gate_dst (N := 1) rfl ?_); (try (refine gate_guard (by rfl) ?_; dsimp only)); refine box_event ?hg (N := 1) ?hd (cs := #[.string a0_0, .int .i64 a0_1, .bool a0_2]) (t := 26) ?hr ?_; (case hd => rfl); (case hg => rfl); (case hr => first | (go_simp; done) | (go_simp; rfl)); intro gb219 hg w3 hbox hb; have n0_ := Aside0.mk (below_step (by repeat (first | (with_reducible first | exact HB.out | apply below_alloc | apply pw_below_drewN | apply below_drew1) | exact HB.out)) hb); have n1_ := Aside0.mk (hbox); have n2_ := Aside0.mk ((by rw [hg]; exact (below_size (by repeat (first | (with_reducible first | exact HB.out | apply below_alloc | apply pw_below_drewN | apply below_drew1) | exact HB.out))) : w.heap.size ≤ gb219)); have n3_ := Aside0.mk ((by rw [hg]; exact (below_size (by repeat (first | (with_reducible first | exact HB.out | apply below_alloc | apply pw_below_drewN | apply below_drew1) | exact HB.out))) : w.heap.size ≤ gb219)); clear HB; have HB := n0_; have BK219 := n1_; have GW219 := n2_; have GE219 := n3_; clear n0_ n1_ n2_ n3_; clear hb hbox hg))
 (try simp only [Act.put, List.setIfInBounds_toArray, List.set_cons_zero, List.set_cons_succ])
 go_cut [15] (fun v15 wc => ∃ (kq : Nat) (x15_1 : Bool), v15 = .bool x15_1 ∧ Aside0 (concordanceref01_One.j0 kq x15_1 a0_0 a0_1 a0_2 = some (r1, r2)) ∧ Aside0 (kq ≤ k) ∧ Aside0 (wc.heap[gb219]? = some (.cells #[.string a0_0, .int .i64 a0_1, .bool a0_2] 26 (0, 0))) ∧ Aside0 (Below w.heap.size w wc))
 case first =>
  have H := HC2.out
  clear HC2
  by_cases c4 : a0_2 = true
  ·subst c4
   have H1 : (concordanceref01_One.j0 k (decide ((a0_0.size : Int) > 20)) a0_0 a0_1 true) = some (r1, r2) := by rw [if_pos rfl] at H; exact H
   clear H
   have H := H1
   clear H1
   have H' := Aside0.mk H
   clear H
   have hcz5_0 : w3.cell? ⟨gb219, 0, none⟩ = some (.string a0_0) := (blk_cell BK219.out 0).trans rfl
   have hcz5_1 : w3.cell? ⟨gb219, 1, none⟩ = some (.int .i64 a0_1) := (blk_cell BK219.out 1).trans rfl
   have hcz5_2 : w3.cell? ⟨gb219, 2, none⟩ = some (.bool true) := (blk_cell BK219.out 2).trans rfl
   have hfz5_0 := blk_frozen BK219.out 0
   have hfz5_1 := blk_frozen BK219.out 1
   have hfz5_2 := blk_frozen BK219.out 2
   go_wp2
   go_meet
   case rel => exact ⟨_, (decide ((a0_0.size : Int) > 20)), (by first | rfl | (simp; done) | (simp [*]; done)), H', ⟨by first | omega | exact Nat.le_refl _⟩, ⟨by (with_reducible repeat (first | refine blk_drewN ?_ _ | refine blk_drew ?_ | refine blk_alloc ?_ _)); exact BK219.out⟩, ⟨by repeat (first | (with_reducible first | exact HB.out | apply below_alloc | apply pw_below_drewN | apply below_drew1 | refine below_set ?_ GE219.out) | exact HB.out)⟩⟩
  ·replace c4 := Bool.eq_false_iff.mpr c4
   subst c4
   have H1 : (concordanceref01_One.j0 k false a0_0 a0_1 false) = some (r1, r2) := by rw [if_neg (show ¬ (false = true) by decide)] at H; exact H
   clear H
   have H := H1
   clear H1
   have H' := Aside0.mk H
   clear H
   have hcz6_0 : w3.cell? ⟨gb219, 0, none⟩ = some (.string a0_0) := (blk_cell BK219.out 0).trans rfl
   have hcz6_1 : w3.cell? ⟨gb219, 1, none⟩ = some (.int .i64 a0_1) := (blk_cell BK219.out 1).trans rfl
   have hcz6_2 : w3.cell? ⟨gb219, 2, none⟩ = some (.bool false) := (blk_cell BK219.out 2).trans rfl
   have hfz6_0 := blk_frozen BK219.out 0
   have hfz6_1 := blk_frozen BK219.out 1
   have hfz6_2 := blk_frozen BK219.out 2
   go_wp2
   go_meet
   case rel => exact ⟨_, (false), (by first | rfl | (simp; done) | (simp [*]; done)), H', ⟨by first | omega | exact Nat.le_refl _⟩, ⟨by (with_reducible repeat (first | refine blk_drewN ?_ _ | refine blk_drew ?_ | refine blk_alloc ?_ _)); exact BK219.out⟩, ⟨by repeat (first | (with_reducible first | exact HB.out | apply below_alloc | apply pw_below_drewN | apply below_drew1 | refine below_set ?_ GE219.out) | exact HB.out)⟩⟩
 case rest =>
  clear HC2
  try clear c1
  try clear p2
  try clear c4
  try clear hcz5_0
  try clear hcz5_1
  try clear hcz5_2
  try clear hcz6_0
  try clear hcz6_1
  try clear hcz6_2
  try clear hfz5_0
  try clear hfz5_1
  try clear hfz5_2
  try clear hfz6_0
  try clear hfz6_1
  try clear hfz6_2
  obtain ⟨kq, x15_1, rfl, HA, HJ1, BK219, HB⟩ := hcut
  cases kq with
  | zero => exact absurd HA.out (by simp [concordanceref01_One.j0])
  | succ kj1 =>
   have H := HA.out
   clear HA
   simp only [concordanceref01_One.j0] at H
   by_cases c7 : x15_1 = true
   ·subst c7
    have H1 : (some ((⟨#[]⟩ : ByteArray), 6)) = some (r1, r2) := by rw [if_pos rfl] at H; exact H
    clear H
    have H := H1
    clear H1
    simp only [Option.some.injEq, Prod.mk.injEq] at H
    obtain ⟨rfl, rfl⟩ := H
    go_wp2
    go_ret2
    exact ⟨by first | rfl | (simp [errW_none, errW_some] <;> rfl) | (simp [*, errW_none, errW_some] <;> rfl), by repeat (first | (with_reducible first | exact HB.out | apply below_alloc | apply pw_below_drewN | apply below_drew1 | refine below_set ?_ GE219.out) | exact HB.out)⟩
   ·replace c7 := Bool.eq_false_iff.mpr c7
    subst c7
    have H1 : (if a0_2 = true then (if a0_1 = 0 then (if a0_1 < (-1099511627776) then (concordanceref01_One.j1 kj1 true a0_0 a0_1 a0_2) else (concordanceref01_One.j1 kj1 (decide (a0_1 > 1099511627776)) a0_0 a0_1 a0_2)) else (concordanceref01_One.j1 kj1 true a0_0 a0_1 a0_2)) else (if a0_0.toList = ([] : List UInt8) then (if a0_1 < (-1099511627776) then (concordanceref01_One.j1 kj1 true a0_0 a0_1 a0_2) else (concordanceref01_One.j1 kj1 (decide (a0_1 > 1099511627776)) a0_0 a0_1 a0_2)) else (concordanceref01_One.j1 kj1 true a0_0 a0_1 a0_2))) = some (r1, r2) := by rw [if_neg (show ¬ (false = true) by decide)] at H; exact H
    clear H
    have H := H1
    clear H1
    have HC8 := Aside0.mk H
    clear H
    go_upto_region 3 with (fail)
    go_cut [42] (fun v42 wc => ∃ (kq : Nat) (x42_7 : Bool), v42 = .bool x42_7 ∧ Aside0 (concordanceref01_One.j1 kq x42_7 a0_0 a0_1 a0_2 = some (r1, r2)) ∧ Aside0 (kq ≤ kj1) ∧ Aside0 (wc.heap[gb219]? = some (.cells #[.string a0_0, .int .i64 a0_1, .bool a0_2] 26 (0, 0))) ∧ Aside0 (Below w.heap.size w wc))
    case first =>
     have H := HC8.out
     clear HC8
     by_cases c9 : a0_2 = true
     ·subst c9
      have H1 : (if a0_1 = 0 then (if a0_1 < (-1099511627776) then (concordanceref01_One.j1 kj1 true a0_0 a0_1 true) else (concordanceref01_One.j1 kj1 (decide (a0_1 > 1099511627776)) a0_0 a0_1 true)) else (concordanceref01_One.j1 kj1 true a0_0 a0_1 true)) = some (r1, r2) := by rw [if_pos rfl] at H; exact H
      clear H
      have H := H1
      clear H1
      by_cases c10 : a0_1 = 0
      ·rw [if_pos c10] at H
       have c10b0 : (a0_1 == 0) = true := beq_iff_eq.mpr c10
       have c10b1 : (a0_1 != 0) = false := bne_eq_false_iff_eq.mpr c10
       clear c10
       (first | rw [c10b0] | (simp only [i64_w, i32_w]; rw [c10b0]) | skip)
       by_cases c11 : a0_1 < (-1099511627776)
       ·rw [if_pos c11] at H
        have c11b0 : decide (a0_1 < (-1099511627776)) = true := decide_eq_true c11
        clear c11
        have H' := Aside0.mk H
        clear H
        have hcz12_0 : wc.cell? ⟨gb219, 0, none⟩ = some (.string a0_0) := (blk_cell BK219.out 0).trans rfl
        have hcz12_1 : wc.cell? ⟨gb219, 1, none⟩ = some (.int .i64 a0_1) := (blk_cell BK219.out 1).trans rfl
        have hcz12_2 : wc.cell? ⟨gb219, 2, none⟩ = some (.bool true) := (blk_cell BK219.out 2).trans rfl
        have hfz12_0 := blk_frozen BK219.out 0
        have hfz12_1 := blk_frozen BK219.out 1
        have hfz12_2 := blk_frozen BK219.out 2
        go_wp2
        go_meet
        case rel => exact ⟨_, (true), (by first | rfl | (simp; done) | (simp [*]; done)), H', ⟨by have := HJ1.out; first | omega | exact Nat.le_refl _⟩, ⟨by (with_reducible repeat (first | refine blk_drewN ?_ _ | refine blk_drew ?_ | refine blk_alloc ?_ _)); exact BK219.out⟩, ⟨by repeat (first | (with_reducible first | exact HB.out | apply below_alloc | apply pw_below_drewN | apply below_drew1 | refine below_set ?_ GE219.out) | exact HB.out)⟩⟩
       ·rw [if_neg c11] at H
        have c11b0 : decide (a0_1 < (-1099511627776)) = false := decide_eq_false c11
        clear c11
        have H' := Aside0.mk H
        clear H
        have hcz13_0 : wc.cell? ⟨gb219, 0, none⟩ = some (.string a0_0) := (blk_cell BK219.out 0).trans rfl
        have hcz13_1 : wc.cell? ⟨gb219, 1, none⟩ = some (.int .i64 a0_1) := (blk_cell BK219.out 1).trans rfl
        have hcz13_2 : wc.cell? ⟨gb219, 2, none⟩ = some (.bool true) := (blk_cell BK219.out 2).trans rfl
        have hfz13_0 := blk_frozen BK219.out 0
        have hfz13_1 := blk_frozen BK219.out 1
        have hfz13_2 := blk_frozen BK219.out 2
        go_wp2
        go_meet
        case rel => exact ⟨_, (decide (a0_1 > 1099511627776)), (by first | rfl | (simp; done) | (simp [*]; done)), H', ⟨by have := HJ1.out; first | omega | exact Nat.le_refl _⟩, ⟨by (with_reducible repeat (first | refine blk_drewN ?_ _ | refine blk_drew ?_ | refine blk_alloc ?_ _)); exact BK219.out⟩, ⟨by repeat (first | (with_reducible first | exact HB.out | apply below_alloc | apply pw_below_drewN | apply below_drew1 | refine below_set ?_ GE219.out) | exact HB.out)⟩⟩
      ·rw [if_neg c10] at H
       have c10b0 : (a0_1 == 0) = false := beq_eq_false_iff_ne.mpr c10
       have c10b1 : (a0_1 != 0) = true := bne_iff_ne.mpr c10
       (first | rw [c10b0] | (simp only [i64_w, i32_w]; rw [c10b0]) | skip)
       have H' := Aside0.mk H
       clear H
       have hcz14_0 : wc.cell? ⟨gb219, 0, none⟩ = some (.string a0_0) := (blk_cell BK219.out 0).trans rfl
       have hcz14_1 : wc.cell? ⟨gb219, 1, none⟩ = some (.int .i64 a0_1) := (blk_cell BK219.out 1).trans rfl
       have hcz14_2 : wc.cell? ⟨gb219, 2, none⟩ = some (.bool true) := (blk_cell BK219.out 2).trans rfl
       have hfz14_0 := blk_frozen BK219.out 0
       have hfz14_1 := blk_frozen BK219.out 1
       have hfz14_2 := blk_frozen BK219.out 2
       go_wp2
       go_meet
       case rel => exact ⟨_, (true), (by first | rfl | (simp; done) | (simp [*]; done)), H', ⟨by have := HJ1.out; first | omega | exact Nat.le_refl _⟩, ⟨by (with_reducible repeat (first | refine blk_drewN ?_ _ | refine blk_drew ?_ | refine blk_alloc ?_ _)); exact BK219.out⟩, ⟨by repeat (first | (with_reducible first | exact HB.out | apply below_alloc | apply pw_below_drewN | apply below_drew1 | refine below_set ?_ GE219.out) | exact HB.out)⟩⟩
     ·replace c9 := Bool.eq_false_iff.mpr c9
      subst c9
      have H1 : (if a0_0.toList = ([] : List UInt8) then (if a0_1 < (-1099511627776) then (concordanceref01_One.j1 kj1 true a0_0 a0_1 false) else (concordanceref01_One.j1 kj1 (decide (a0_1 > 1099511627776)) a0_0 a0_1 false)) else (concordanceref01_One.j1 kj1 true a0_0 a0_1 false)) = some (r1, r2) := by rw [if_neg (show ¬ (false = true) by decide)] at H; exact H
      clear H
      have H := H1
      clear H1
      by_cases c15 : a0_0.toList = ([] : List UInt8)
      ·rw [if_pos c15] at H
       have c15b0 : (a0_0.toList == ([] : List UInt8)) = true := beq_iff_eq.mpr c15
       have c15b1 : (a0_0.toList != ([] : List UInt8)) = false := bne_eq_false_iff_eq.mpr c15
       clear c15
       by_cases c16 : a0_1 < (-1099511627776)
       ·rw [if_pos c16] at H
        have c16b0 : decide (a0_1 < (-1099511627776)) = true := decide_eq_true c16
        clear c16
        have H' := Aside0.mk H
        clear H
        have hcz17_0 : wc.cell? ⟨gb219, 0, none⟩ = some (.string a0_0) := (blk_cell BK219.out 0).trans rfl
        have hcz17_1 : wc.cell? ⟨gb219, 1, none⟩ = some (.int .i64 a0_1) := (blk_cell BK219.out 1).trans rfl
        have hcz17_2 : wc.cell? ⟨gb219, 2, none⟩ = some (.bool false) := (blk_cell BK219.out 2).trans rfl
        have hfz17_0 := blk_frozen BK219.out 0
        have hfz17_1 := blk_frozen BK219.out 1
        have hfz17_2 := blk_frozen BK219.out 2
        go_wp2
        go_meet
        case rel => exact ⟨_, (true), (by first | rfl | (simp; done) | (simp [*]; done)), H', ⟨by have := HJ1.out; first | omega | exact Nat.le_refl _⟩, ⟨by (with_reducible repeat (first | refine blk_drewN ?_ _ | refine blk_drew ?_ | refine blk_alloc ?_ _)); exact BK219.out⟩, ⟨by repeat (first | (with_reducible first | exact HB.out | apply below_alloc | apply pw_below_drewN | apply below_drew1 | refine below_set ?_ GE219.out) | exact HB.out)⟩⟩
       ·rw [if_neg c16] at H
        have c16b0 : decide (a0_1 < (-1099511627776)) = false := decide_eq_false c16
        clear c16
        have H' := Aside0.mk H
        clear H
        have hcz18_0 : wc.cell? ⟨gb219, 0, none⟩ = some (.string a0_0) := (blk_cell BK219.out 0).trans rfl
        have hcz18_1 : wc.cell? ⟨gb219, 1, none⟩ = some (.int .i64 a0_1) := (blk_cell BK219.out 1).trans rfl
        have hcz18_2 : wc.cell? ⟨gb219, 2, none⟩ = some (.bool false) := (blk_cell BK219.out 2).trans rfl
        have hfz18_0 := blk_frozen BK219.out 0
        have hfz18_1 := blk_frozen BK219.out 1
        have hfz18_2 := blk_frozen BK219.out 2
        go_wp2
        go_meet
        case rel => exact ⟨_, (decide (a0_1 > 1099511627776)), (by first | rfl | (simp; done) | (simp [*]; done)), H', ⟨by have := HJ1.out; first | omega | exact Nat.le_refl _⟩, ⟨by (with_reducible repeat (first | refine blk_drewN ?_ _ | refine blk_drew ?_ | refine blk_alloc ?_ _)); exact BK219.out⟩, ⟨by repeat (first | (with_reducible first | exact HB.out | apply below_alloc | apply pw_below_drewN | apply below_drew1 | refine below_set ?_ GE219.out) | exact HB.out)⟩⟩
      ·rw [if_neg c15] at H
       have c15b0 : (a0_0.toList == ([] : List UInt8)) = false := beq_eq_false_iff_ne.mpr c15
       have c15b1 : (a0_0.toList != ([] : List UInt8)) = true := bne_iff_ne.mpr c15
       have H' := Aside0.mk H
       clear H
       have hcz19_0 : wc.cell? ⟨gb219, 0, none⟩ = some (.string a0_0) := (blk_cell BK219.out 0).trans rfl
       have hcz19_1 : wc.cell? ⟨gb219, 1, none⟩ = some (.int .i64 a0_1) := (blk_cell BK219.out 1).trans rfl
       have hcz19_2 : wc.cell? ⟨gb219, 2, none⟩ = some (.bool false) := (blk_cell BK219.out 2).trans rfl
       have hfz19_0 := blk_frozen BK219.out 0
       have hfz19_1 := blk_frozen BK219.out 1
       have hfz19_2 := blk_frozen BK219.out 2
       go_wp2
       go_meet
       case rel => exact ⟨_, (true), (by first | rfl | (simp; done) | (simp [*]; done)), H', ⟨by have := HJ1.out; first | omega | exact Nat.le_refl _⟩, ⟨by (with_reducible repeat (first | refine blk_drewN ?_ _ | refine blk_drew ?_ | refine blk_alloc ?_ _)); exact BK219.out⟩, ⟨by repeat (first | (with_reducible first | exact HB.out | apply below_alloc | apply pw_below_drewN | apply below_drew1 | refine below_set ?_ GE219.out) | exact HB.out)⟩⟩
    case rest =>
     clear HC8
     try clear c1
     try clear p2
     try clear c4
     try clear c7
     try clear c9
     try clear c10
     try clear c10b0
     try clear c10b1
     try clear c11
     try clear c11b0
     try clear c15
     try clear c15b0
     try clear c15b1
     try clear c16
     try clear c16b0
     try clear c19
     try clear hcz12_0
     try clear hcz12_1
     try clear hcz12_2
     try clear hcz13_0
     try clear hcz13_1
     try clear hcz13_2
     try clear hcz14_0
     try clear hcz14_1
     try clear hcz14_2
     try clear hcz17_0
     try clear hcz17_1
     try clear hcz17_2
     try clear hcz18_0
     try clear hcz18_1
     try clear hcz18_2
     try clear hcz19_0
     try clear hcz19_1
     try clear hcz19_2
     try clear hcz5_0
     try clear hcz5_1
     try clear hcz5_2
     try clear hcz6_0
     try clear hcz6_1
     try clear hcz6_2
     try clear hfz12_0
     try clear hfz12_1
     try clear hfz12_2
     try clear hfz13_0
     try clear hfz13_1
     try clear hfz13_2
     try clear hfz14_0
     try clear hfz14_1
     try clear hfz14_2
     try clear hfz17_0
     try clear hfz17_1
     try clear hfz17_2
     try clear hfz18_0
     try clear hfz18_1
     try clear hfz18_2
     try clear hfz19_0
     try clear hfz19_1
     try clear hfz19_2
     try clear hfz5_0
     try clear hfz5_1
     try clear hfz5_2
     try clear hfz6_0
     try clear hfz6_1
     try clear hfz6_2
     try clear p2
     obtain ⟨kq, x42_7, rfl, HA, HJ7, BK219, HB⟩ := hcut
     cases kq with
     | zero => exact absurd HA.out (by simp [concordanceref01_One.j1])
     | succ kj7 =>
      have H := HA.out
      clear HA
      simp only [concordanceref01_One.j1] at H
      by_cases c20 : x42_7 = true
      ·subst c20
       have H1 : (some ((⟨#[]⟩ : ByteArray), 1)) = some (r1, r2) := by rw [if_pos rfl] at H; exact H
       clear H
       have H := H1
       clear H1
       simp only [Option.some.injEq, Prod.mk.injEq] at H
       obtain ⟨rfl, rfl⟩ := H
       go_wp2
       go_ret2
       exact ⟨by first | rfl | (simp [errW_none, errW_some] <;> rfl) | (simp [*, errW_none, errW_some] <;> rfl), by repeat (first | (with_reducible first | exact HB.out | apply below_alloc | apply pw_below_drewN | apply below_drew1 | refine below_set ?_ GE219.out) | exact HB.out)⟩
      ·replace c20 := Bool.eq_false_iff.mpr c20
       subst c20
       have H1 : (if a0_2 = true then (concordanceref01_One.l1 kj7 (⟨#[]⟩ : ByteArray) 0 a0_0 a0_1 a0_2) else (concordanceref01_One.l0 kj7 (⟨#[]⟩ : ByteArray) (wrap64 (a0_1 + 1099511627776)) 0)) = some (r1, r2) := by rw [if_neg (show ¬ (false = true) by decide)] at H; exact H
       clear H
       have H := H1
       clear H1
       by_cases c21 : a0_2 = true
       ·subst c21
        have H1 : (concordanceref01_One.l1 kj7 (⟨#[]⟩ : ByteArray) 0 a0_0 a0_1 true) = some (r1, r2) := by rw [if_pos rfl] at H; exact H
        clear H
        have H := H1
        clear H1
        have H' := Aside0.mk H
        clear H
        have hcz22_0 : wc.cell? ⟨gb219, 0, none⟩ = some (.string a0_0) := (blk_cell BK219.out 0).trans rfl
        have hcz22_1 : wc.cell? ⟨gb219, 1, none⟩ = some (.int .i64 a0_1) := (blk_cell BK219.out 1).trans rfl
        have hcz22_2 : wc.cell? ⟨gb219, 2, none⟩ = some (.bool true) := (blk_cell BK219.out 2).trans rfl
        have hfz22_0 := blk_frozen BK219.out 0
        have hfz22_1 := blk_frozen BK219.out 1
        have hfz22_2 := blk_frozen BK219.out 2
        go_wp2
        go_loopg [4, 7] kj7 (fun kq v4 v7 w' => ∃ (x4_3 : ByteArray) (x7_3 : Int), v4 = .string x4_3 ∧ v7 = .int .i64 x7_3 ∧ Aside0 (concordanceref01_One.l1 kq x4_3 x7_3 a0_0 a0_1 true = some (r1, r2)) ∧ Aside0 (kq ≤ kj7) ∧ Aside0 (w'.heap[gb219]? = some (.cells #[.string a0_0, .int .i64 a0_1, .bool true] 26 (0, 0))) ∧ Aside0 (Below w.heap.size w w'))
        case atStart => exact ⟨((⟨#[]⟩ : ByteArray)), (0), (by first | rfl | (simp; done) | (simp [*]; done)), (by first | rfl | (simp; done) | (simp [*]; done)), H', ⟨Nat.le_refl _⟩, ⟨by (with_reducible repeat (first | refine blk_drewN ?_ _ | refine blk_drew ?_ | refine blk_alloc ?_ _)); exact BK219.out⟩, ⟨by repeat (first | (with_reducible first | exact HB.out | apply below_alloc | apply pw_below_drewN | apply below_drew1 | refine below_set ?_ GE219.out) | exact HB.out)⟩⟩
        case round =>
         clear H'
         try clear c1
         try clear c2
         try clear p2
         try clear c4
         try clear p6
         try clear c7
         try clear c9
         try clear c10
         try clear c10b0
         try clear c10b1
         try clear c11
         try clear c11b0
         try clear c15
         try clear c15b0
         try clear c15b1
         try clear c16
         try clear c16b0
         try clear c19
         try clear c20
         try clear c21
         try clear hcz12_0
         try clear hcz12_1
         try clear hcz12_2
         try clear hcz13_0
         try clear hcz13_1
         try clear hcz13_2
         try clear hcz14_0
         try clear hcz14_1
         try clear hcz14_2
         try clear hcz17_0
         try clear hcz17_1
         try clear hcz17_2
         try clear hcz18_0
         try clear hcz18_1
         try clear hcz18_2
         try clear hcz19_0
         try clear hcz19_1
         try clear hcz19_2
         try clear hcz22_0
         try clear hcz22_1
         try clear hcz22_2
         try clear hcz5_0
         try clear hcz5_1
         try clear hcz5_2
         try clear hcz6_0
         try clear hcz6_1
         try clear hcz6_2
         try clear hfz12_0
         try clear hfz12_1
         try clear hfz12_2
         try clear hfz13_0
         try clear hfz13_1
         try clear hfz13_2
         try clear hfz14_0
         try clear hfz14_1
         try clear hfz14_2
         try clear hfz17_0
         try clear hfz17_1
         try clear hfz17_2
         try clear hfz18_0
         try clear hfz18_1
         try clear hfz18_2
         try clear hfz19_0
         try clear hfz19_1
         try clear hfz19_2
         try clear hfz22_0
         try clear hfz22_1
         try clear hfz22_2
         try clear hfz5_0
         try clear hfz5_1
         try clear hfz5_2
         try clear hfz6_0
         try clear hfz6_1
         try clear hfz6_2
         try clear p2
         obtain ⟨x4_3, x7_3, rfl, rfl, HA, HK3, BK219, HB⟩ := hrel
         cases gk with
         | zero => exact absurd HA.out (by simp [concordanceref01_One.l1])
         | succ k3 =>
          have H := HA.out
          clear HA
          simp only [concordanceref01_One.l1] at H
          by_cases c23 : x7_3 < (a0_0.size : Int)
          ·rw [if_pos c23] at H
           have c23b0 : decide (x7_3 < (a0_0.size : Int)) = true := decide_eq_true c23
           clear c23
           by_cases c24 : 0 ≤ x7_3
           ·rw [if_pos c24] at H
            have c24b0 := eq_true c24
            have c24b1 : decide (0 ≤ x7_3) = true := decide_eq_true c24
            clear c24
            by_cases c25 : x7_3 ≤ (wrap64 (x7_3 + 1))
            ·rw [if_pos c25] at H
             have c25b0 := eq_true c25
             have c25b1 : decide (x7_3 ≤ (wrap64 (x7_3 + 1))) = true := decide_eq_true c25
             by_cases c26 : (wrap64 (x7_3 + 1)) ≤ (a0_0.size : Int)
             ·rw [if_pos c26] at H
              have c26b0 := eq_true c26
              have c26b1 : decide ((wrap64 (x7_3 + 1)) ≤ (a0_0.size : Int)) = true := decide_eq_true c26
              by_cases c27 : x4_3.size + (a0_0.extract (x7_3 : Int).toNat ((wrap64 (x7_3 + 1)) : Int).toNat).size ≤ 9223372036854775807
              ·rw [if_pos c27] at H
               have c27b0 := eq_true c27
               have c27b1 : decide (x4_3.size + (a0_0.extract (x7_3 : Int).toNat ((wrap64 (x7_3 + 1)) : Int).toNat).size ≤ 9223372036854775807) = true := decide_eq_true c27
               try have c27b2 : (9223372036854775807 < x4_3.size + (a0_0.extract (x7_3 : Int).toNat ((wrap64 (x7_3 + 1)) : Int).toNat).size) = False := eq_false (Nat.not_lt.2 c27)
               try (have hz_ : (a0_0.extract x7_3.toNat (wrap64 (x7_3 + 1)).toNat).size = (wrap64 (x7_3 + 1)).toNat - x7_3.toNat := by rw [ByteArray.size_extract, Nat.min_eq_left (Int.toNat_le.mpr (of_eq_true (by assumption)))]); (have c27b6 := c27b2; rw [hz_] at c27b6; clear hz_)
               by_cases c29 : (bt a0_0 x7_3) = 0
               ·rw [if_pos c29] at H
                have c29b0 : ((bt a0_0 x7_3) == 0) = true := beq_iff_eq.mpr c29
                have c29b1 : ((bt a0_0 x7_3) != 0) = false := bne_eq_false_iff_eq.mpr c29
                clear c29
                by_cases c30 : (x4_3 ++ (a0_0.extract (x7_3 : Int).toNat ((wrap64 (x7_3 + 1)) : Int).toNat)).size + 1 ≤ 9223372036854775807
                ·rw [if_pos c30] at H
                 have c30b0 := eq_true c30
                 have c30b1 : decide ((x4_3 ++ (a0_0.extract (x7_3 : Int).toNat ((wrap64 (x7_3 + 1)) : Int).toNat)).size + 1 ≤ 9223372036854775807) = true := decide_eq_true c30
                 try have c30b2 : (9223372036854775807 < (x4_3 ++ (a0_0.extract (x7_3 : Int).toNat ((wrap64 (x7_3 + 1)) : Int).toNat)).size + 1) = False := eq_false (Nat.not_lt.2 c30)
                 try (have c30b4 := c30b2; simp only [ByteArray.size_append] at c30b4)
                 try (have hz_ : (a0_0.extract x7_3.toNat (wrap64 (x7_3 + 1)).toNat).size = (wrap64 (x7_3 + 1)).toNat - x7_3.toNat := by rw [ByteArray.size_extract, Nat.min_eq_left (Int.toNat_le.mpr (of_eq_true (by assumption)))]); (have c30b6 := c30b4; rw [hz_] at c30b6; clear hz_)
                 have H' := Aside0.mk H
                 clear H
                 have hcz31_0 : wr.cell? ⟨gb219, 0, none⟩ = some (.string a0_0) := (blk_cell BK219.out 0).trans rfl
                 have hcz31_1 : wr.cell? ⟨gb219, 1, none⟩ = some (.int .i64 a0_1) := (blk_cell BK219.out 1).trans rfl
                 have hcz31_2 : wr.cell? ⟨gb219, 2, none⟩ = some (.bool true) := (blk_cell BK219.out 2).trans rfl
                 have hfz31_0 := blk_frozen BK219.out 0
                 have hfz31_1 := blk_frozen BK219.out 1
                 have hfz31_2 := blk_frozen BK219.out 2
                 have p28 : 0 ≤ (x7_3 : Int) := of_decide_eq_true (by first | (with_reducible assumption) | assumption)
                 have q28 : x7_3 < (a0_0.size : Int) := of_decide_eq_true (by first | (with_reducible assumption) | assumption)
                 have hx28 := bt_at a0_0 x7_3
                 replace p28 := eq_true p28
                 replace q28 := eq_true q28
                 go_wp2
                 go_roundg k3
                 case measure => have := HJ1.out; have := HJ7.out; have := HK3.out; omega
                 case rel => exact ⟨((x4_3 ++ (a0_0.extract (x7_3 : Int).toNat ((wrap64 (x7_3 + 1)) : Int).toNat)) ++ (⟨#[255]⟩ : ByteArray)), (wrap64 (x7_3 + 1)), (by first | rfl | (simp; done) | (simp [*]; done)), (by first | rfl | (simp; done) | (simp [*]; done)), H', ⟨by have := HJ1.out; have := HJ7.out; have := HK3.out; omega⟩, ⟨by (with_reducible repeat (first | refine blk_drewN ?_ _ | refine blk_drew ?_ | refine blk_alloc ?_ _)); exact BK219.out⟩, ⟨by repeat (first | (with_reducible first | exact HB.out | apply below_alloc | apply pw_below_drewN | apply below_drew1 | refine below_set ?_ GE219.out) | exact HB.out)⟩⟩
                ·rw [if_neg c30] at H
                 exact absurd H (by simp)
               ·rw [if_neg c29] at H
                have c29b0 : ((bt a0_0 x7_3) == 0) = false := beq_eq_false_iff_ne.mpr c29
                have c29b1 : ((bt a0_0 x7_3) != 0) = true := bne_iff_ne.mpr c29
                have H' := Aside0.mk H
                clear H
                have hcz32_0 : wr.cell? ⟨gb219, 0, none⟩ = some (.string a0_0) := (blk_cell BK219.out 0).trans rfl
                have hcz32_1 : wr.cell? ⟨gb219, 1, none⟩ = some (.int .i64 a0_1) := (blk_cell BK219.out 1).trans rfl
                have hcz32_2 : wr.cell? ⟨gb219, 2, none⟩ = some (.bool true) := (blk_cell BK219.out 2).trans rfl
                have hfz32_0 := blk_frozen BK219.out 0
                have hfz32_1 := blk_frozen BK219.out 1
                have hfz32_2 := blk_frozen BK219.out 2
                have p28 : 0 ≤ (x7_3 : Int) := of_decide_eq_true (by first | (with_reducible assumption) | assumption)
                have q28 : x7_3 < (a0_0.size : Int) := of_decide_eq_true (by first | (with_reducible assumption) | assumption)
                have hx28 := bt_at a0_0 x7_3
                replace p28 := eq_true p28
                replace q28 := eq_true q28
                go_wp2
                go_roundg k3
                case measure => have := HJ1.out; have := HJ7.out; have := HK3.out; omega
                case rel => exact ⟨(x4_3 ++ (a0_0.extract (x7_3 : Int).toNat ((wrap64 (x7_3 + 1)) : Int).toNat)), (wrap64 (x7_3 + 1)), (by first | rfl | (simp; done) | (simp [*]; done)), (by first | rfl | (simp; done) | (simp [*]; done)), H', ⟨by have := HJ1.out; have := HJ7.out; have := HK3.out; omega⟩, ⟨by (with_reducible repeat (first | refine blk_drewN ?_ _ | refine blk_drew ?_ | refine blk_alloc ?_ _)); exact BK219.out⟩, ⟨by repeat (first | (with_reducible first | exact HB.out | apply below_alloc | apply pw_below_drewN | apply below_drew1 | refine below_set ?_ GE219.out) | exact HB.out)⟩⟩
              ·rw [if_neg c27] at H
               exact absurd H (by simp)
             ·rw [if_neg c26] at H
              exact absurd H (by simp)
            ·rw [if_neg c25] at H
             exact absurd H (by simp)
           ·rw [if_neg c24] at H
            exact absurd H (by simp)
          ·rw [if_neg c23] at H
           have c23b0 : decide (x7_3 < (a0_0.size : Int)) = false := decide_eq_false c23
           clear c23
           by_cases c33 : 1 + x4_3.size ≤ 9223372036854775807
           ·rw [if_pos c33] at H
            have c33b0 := eq_true c33
            have c33b1 : decide (1 + x4_3.size ≤ 9223372036854775807) = true := decide_eq_true c33
            try have c33b2 : (9223372036854775807 < 1 + x4_3.size) = False := eq_false (Nat.not_lt.2 c33)
            by_cases c34 : ((⟨#[32]⟩ : ByteArray) ++ x4_3).size + 2 ≤ 9223372036854775807
            ·rw [if_pos c34] at H
             have c34b0 := eq_true c34
             have c34b1 : decide (((⟨#[32]⟩ : ByteArray) ++ x4_3).size + 2 ≤ 9223372036854775807) = true := decide_eq_true c34
             try have c34b2 : (9223372036854775807 < ((⟨#[32]⟩ : ByteArray) ++ x4_3).size + 2) = False := eq_false (Nat.not_lt.2 c34)
             try (have c34b4 := c34b2; simp only [ByteArray.size_append] at c34b4)
             try have c34b6 : (9223372036854775807 < 1 + x4_3.size + 2) = False := c34b4
             simp only [Option.some.injEq, Prod.mk.injEq] at H
             obtain ⟨rfl, rfl⟩ := H
             have hcz35_0 : wr.cell? ⟨gb219, 0, none⟩ = some (.string a0_0) := (blk_cell BK219.out 0).trans rfl
             have hcz35_1 : wr.cell? ⟨gb219, 1, none⟩ = some (.int .i64 a0_1) := (blk_cell BK219.out 1).trans rfl
             have hcz35_2 : wr.cell? ⟨gb219, 2, none⟩ = some (.bool true) := (blk_cell BK219.out 2).trans rfl
             have hfz35_0 := blk_frozen BK219.out 0
             have hfz35_1 := blk_frozen BK219.out 1
             have hfz35_2 := blk_frozen BK219.out 2
             go_wp2
             go_ret2
             exact ⟨by first | rfl | (simp [errW_none, errW_some] <;> rfl) | (simp [*, errW_none, errW_some] <;> rfl), by repeat (first | (with_reducible first | exact HB.out | apply below_alloc | apply pw_below_drewN | apply below_drew1 | refine below_set ?_ GE219.out) | exact HB.out)⟩
            ·rw [if_neg c34] at H
             exact absurd H (by simp)
           ·rw [if_neg c33] at H
            exact absurd H (by simp)
       ·replace c21 := Bool.eq_false_iff.mpr c21
        subst c21
        have H1 : (concordanceref01_One.l0 kj7 (⟨#[]⟩ : ByteArray) (wrap64 (a0_1 + 1099511627776)) 0) = some (r1, r2) := by rw [if_neg (show ¬ (false = true) by decide)] at H; exact H
        clear H
        have H := H1
        clear H1
        have H' := Aside0.mk H
        clear H
        have hcz36_0 : wc.cell? ⟨gb219, 0, none⟩ = some (.string a0_0) := (blk_cell BK219.out 0).trans rfl
        have hcz36_1 : wc.cell? ⟨gb219, 1, none⟩ = some (.int .i64 a0_1) := (blk_cell BK219.out 1).trans rfl
        have hcz36_2 : wc.cell? ⟨gb219, 2, none⟩ = some (.bool false) := (blk_cell BK219.out 2).trans rfl
        have hfz36_0 := blk_frozen BK219.out 0
        have hfz36_1 := blk_frozen BK219.out 1
        have hfz36_2 := blk_frozen BK219.out 2
        go_wp2
        go_loopg [4, 5, 6] kj7 (fun kq v4 v5 v6 w' => ∃ (x4_3 : ByteArray) (x5_3 : Int) (x6_3 : Int), v4 = .string x4_3 ∧ v5 = .int .i64 x5_3 ∧ v6 = .int .i64 x6_3 ∧ Aside0 (concordanceref01_One.l0 kq x4_3 x5_3 x6_3 = some (r1, r2)) ∧ Aside0 (kq ≤ kj7) ∧ Aside0 (w'.heap[gb219]? = some (.cells #[.string a0_0, .int .i64 a0_1, .bool false] 26 (0, 0))) ∧ Aside0 (Below w.heap.size w w'))
        case atStart => exact ⟨((⟨#[]⟩ : ByteArray)), (wrap64 (a0_1 + 1099511627776)), (0), (by first | rfl | (simp; done) | (simp [*]; done)), (by first | rfl | (simp; done) | (simp [*]; done)), (by first | rfl | (simp; done) | (simp [*]; done)), H', ⟨Nat.le_refl _⟩, ⟨by (with_reducible repeat (first | refine blk_drewN ?_ _ | refine blk_drew ?_ | refine blk_alloc ?_ _)); exact BK219.out⟩, ⟨by repeat (first | (with_reducible first | exact HB.out | apply below_alloc | apply pw_below_drewN | apply below_drew1 | refine below_set ?_ GE219.out) | exact HB.out)⟩⟩
        case round =>
         clear H'
         try clear c1
         try clear c2
         try clear p2
         try clear q2
         try clear hx2
         try clear c3
         try clear c4
         try clear p6
         try clear c7
         try clear c9
         try clear c10
         try clear c10b0
         try clear c10b1
         try clear c11
         try clear c11b0
         try clear c15
         try clear c15b0
         try clear c15b1
         try clear c16
         try clear c16b0
         try clear c19
         try clear c20
         try clear c21
         try clear c23
         try clear c23b0
         try clear c24
         try clear c24b0
         try clear c24b1
         try clear c25
         try clear c25b0
         try clear c25b1
         try clear c26
         try clear c26b0
         try clear c26b1
         try clear c27
         try clear c27b0
         try clear c27b1
         try clear c27b2
         try clear p28
         try clear q28
         try clear hx28
         try clear c29
         try clear c29b0
         try clear c29b1
         try clear c30
         try clear c30b0
         try clear c30b1
         try clear c30b2
         try clear c33
         try clear c33b0
         try clear c33b1
         try clear c33b2
         try clear c34
         try clear c34b0
         try clear c34b1
         try clear c34b2
         try clear hcz12_0
         try clear hcz12_1
         try clear hcz12_2
         try clear hcz13_0
         try clear hcz13_1
         try clear hcz13_2
         try clear hcz14_0
         try clear hcz14_1
         try clear hcz14_2
         try clear hcz17_0
         try clear hcz17_1
         try clear hcz17_2
         try clear hcz18_0
         try clear hcz18_1
         try clear hcz18_2
         try clear hcz19_0
         try clear hcz19_1
         try clear hcz19_2
         try clear hcz22_0
         try clear hcz22_1
         try clear hcz22_2
         try clear hcz31_0
         try clear hcz31_1
         try clear hcz31_2
         try clear hcz32_0
         try clear hcz32_1
         try clear hcz32_2
         try clear hcz35_0
         try clear hcz35_1
         try clear hcz35_2
         try clear hcz36_0
         try clear hcz36_1
         try clear hcz36_2
         try clear hcz5_0
         try clear hcz5_1
         try clear hcz5_2
         try clear hcz6_0
         try clear hcz6_1
         try clear hcz6_2
         try clear hfz12_0
         try clear hfz12_1
         try clear hfz12_2
         try clear hfz13_0
         try clear hfz13_1
         try clear hfz13_2
         try clear hfz14_0
         try clear hfz14_1
         try clear hfz14_2
         try clear hfz17_0
         try clear hfz17_1
         try clear hfz17_2
         try clear hfz18_0
         try clear hfz18_1
         try clear hfz18_2
         try clear hfz19_0
         try clear hfz19_1
         try clear hfz19_2
         try clear hfz22_0
         try clear hfz22_1
         try clear hfz22_2
         try clear hfz31_0
         try clear hfz31_1
         try clear hfz31_2
         try clear hfz32_0
         try clear hfz32_1
         try clear hfz32_2
         try clear hfz35_0
         try clear hfz35_1
         try clear hfz35_2
         try clear hfz36_0
         try clear hfz36_1
         try clear hfz36_2
         try clear hfz5_0
         try clear hfz5_1
         try clear hfz5_2
         try clear hfz6_0
         try clear hfz6_1
         try clear hfz6_2
         try clear p2
         try clear p28
         try clear p6
         try clear q28
         obtain ⟨x4_3, x5_3, x6_3, rfl, rfl, rfl, HA, HK3, BK219, HB⟩ := hrel
         cases gk with
         | zero => exact absurd HA.out (by simp [concordanceref01_One.l0])
         | succ k3 =>
          have H := HA.out
          clear HA
          simp only [concordanceref01_One.l0] at H
          by_cases c37 : x6_3 < 6
          ·rw [if_pos c37] at H
           have c37b0 : decide (x6_3 < 6) = true := decide_eq_true c37
           clear c37
           obtain ⟨y220, hy220⟩ : ∃ y_ : List Int, y_ = (([(Int.tmod x5_3 256) % 256] : List Int)) := ⟨_, rfl⟩
           replace H : (if (strOfNums y220).size + x4_3.size ≤ 9223372036854775807 then (concordanceref01_One.l0 k3 ((strOfNums y220) ++ x4_3) (wrap64 (Int.tdiv x5_3 256)) (wrap64 (x6_3 + 1))) else (none)) = some (r1, r2) := by first | (rw [hy220]; with_reducible exact H) | (have H2_ := (Option.bind_some _ _).symm.trans H; rw [hy220]; with_reducible exact H2_) | (have H2_ := (Option.bind_some _ _).symm.trans H; with_reducible exact H2_) | with_reducible exact H | (rw [hy220]; exact H) | exact H
           have Ny220 := Aside0.mk hy220
           clear hy220
           by_cases c38 : (strOfNums y220).size + x4_3.size ≤ 9223372036854775807
           ·rw [if_pos c38] at H
            have c38b0 := eq_true c38
            have c38b1 : decide ((strOfNums y220).size + x4_3.size ≤ 9223372036854775807) = true := decide_eq_true c38
            try have c38b2 : (9223372036854775807 < (strOfNums y220).size + x4_3.size) = False := eq_false (Nat.not_lt.2 c38)
            have H' := Aside0.mk H
            clear H
            go_wp2_with (first | ((with_reducible refine gate_dst (N := 56) rfl ?_); (try (refine gate_guard (by rfl) ?_; dsimp only)); refine Kd.R_lit (Kd.int .u8) _ 5 ?hg (N := 56) ?hd (xs := ([(Int.tmod x5_3 256) % 256] : List Int)) (inner := [.int .u8 ((Int.tmod x5_3 256) % 256)]) (ok := fun _ => True) (okp := fun _ => True) ?hr ?hp (fun _ hk => hk) trivial (Below.refl _ _) (Nat.le_refl _) (by simp) ?_; (case hd => rfl); (case hg => rfl); (case hr => first | (go_simp; done) | (go_simp; rfl)); (case hp => exact (Reps.one (show Kd.M (Kd.int .u8) _ _ _ ((Int.tmod x5_3 256) % 256) [.int .u8 ((Int.tmod x5_3 256) % 256)] from rfl) (Reps.none _ _))); intro v221 w39 ho40 hb hg_ hnew_; clear hg_ hnew_; (first | rw [← Ny220.out] at ho40 | (simp only [Int.reduceToNat] at ho40; rw [← Ny220.out] at ho40)); have n0_ := Aside0.mk (Kd.R_lower ho40 (below_size (by repeat (first | (with_reducible first | exact HB.out | apply below_alloc | apply pw_below_drewN | apply below_drew1 | refine below_set ?_ GE219.out) | exact HB.out)))); have n1_ := Aside0.mk (blk_below (g := gb219) (o := .cells #[.string a0_0, .int .i64 a0_1, .bool false] 26 (0, 0)) (by (with_reducible repeat (first | refine blk_drewN ?_ _ | refine blk_drew ?_ | refine blk_alloc ?_ _)); exact BK219.out) hb); have n2_ := Aside0.mk (below_step (by repeat (first | (with_reducible first | exact HB.out | apply below_alloc | apply pw_below_drewN | apply below_drew1 | refine below_set ?_ GE219.out) | exact HB.out)) hb); clear BK219; clear HB; have HO222 := n0_; have BK219 := n1_; have HB := n2_; clear n0_ n1_ n2_; clear hb ho40; have hcv41 := own_string (P := Tryd.prog) Tryd.underlying77 Tryd.underlying5 Tryd.underlying9 (Kd.own_of_R HO222.out)))
            go_roundg k3
            case measure => have := HJ1.out; have := HJ7.out; have := HK3.out; omega
            case rel => exact ⟨((strOfNums y220) ++ x4_3), (wrap64 (Int.tdiv x5_3 256)), (wrap64 (x6_3 + 1)), (by first | rfl | (simp; done) | (simp [*]; done)), (by first | rfl | (simp; done) | (simp [*]; done)), (by first | rfl | (simp; done) | (simp [*]; done)), H', ⟨by have := HJ1.out; have := HJ7.out; have := HK3.out; omega⟩, ⟨by (with_reducible repeat (first | refine blk_drewN ?_ _ | refine blk_drew ?_ | refine blk_alloc ?_ _)); exact BK219.out⟩, ⟨by repeat (first | (with_reducible first | exact HB.out | apply below_alloc | apply pw_below_drewN | apply below_drew1 | refine below_set ?_ GE219.out) | exact HB.out)⟩⟩
           ·rw [if_neg c38] at H
            exact absurd H (by simp)
          ·rw [if_neg c37] at H
           have c37b0 : decide (x6_3 < 6) = false := decide_eq_false c37
           clear c37
           by_cases c42 : 1 + x4_3.size ≤ 9223372036854775807
           ·rw [if_pos c42] at H
            have c42b0 := eq_true c42
            have c42b1 : decide (1 + x4_3.size ≤ 9223372036854775807) = true := decide_eq_true c42
            try have c42b2 : (9223372036854775807 < 1 + x4_3.size) = False := eq_false (Nat.not_lt.2 c42)
            simp only [Option.some.injEq, Prod.mk.injEq] at H
            obtain ⟨rfl, rfl⟩ := H
            go_wp2
            go_ret2
            exact ⟨by first | rfl | (simp [errW_none, errW_some] <;> rfl) | (simp [*, errW_none, errW_some] <;> rfl), by repeat (first | (with_reducible first | exact HB.out | apply below_alloc | apply pw_below_drewN | apply below_drew1 | refine below_set ?_ GE219.out) | exact HB.out)⟩
           ·rw [if_neg c42] at H
            exact absurd H (by simp)

end Go.Proofs.YtcpehlllgfffkaaDoor.GT
