-- Written by a program of this session (wip/pv.py, which turns the kit's print.py in a scratch copy): see NOTES.md.
import Derived.Test.YtcpehlllgfffkaaDoorGTx0
import Derived.Test.YtcpehlllgfffkaaDoorGTx7
namespace Go.Proofs.YtcpehlllgfffkaaDoor.GT
open Go.RowKit Go.Proofs.YtcpehlllgfffkaaDoorW.PrintWords Go.Proofs.YtcpehlllgfffkaaDoorW.PrintLast Go.Proofs.YtcpehlllgfffkaaDoorW.PrintMore
attribute [local go_sem] max2_int min2_int max_two min_two max_three min_three max_four min_four   -- for this text's walks alone
set_option linter.unusedVariables false
set_option linter.unusedSimpArgs false

/-! ### concordanceref19_Show: function 20 -/
def concordanceref19_Show.l0 : Nat → ByteArray → Int → ByteArray → Int → Bool → Option (ByteArray)
 | 0, _, _, _, _, _ => none
 | k + 1, x3, x4, x318000, x318001, x318002 => if x4 < (x318000.size : Int) then (if 0 ≤ x4 then (if (wrap64 (bt x318000 x4)) > 31 then (if (wrap64 (bt x318000 x4)) < 127 then (if (wrap64 (bt x318000 x4)) = 39 then (if 0 ≤ (wrap64 (Int.tdiv (wrap64 (bt x318000 x4)) 16)) then (if (wrap64 (Int.tdiv (wrap64 (bt x318000 x4)) 16)) ≤ (wrap64 ((wrap64 (Int.tdiv (wrap64 (bt x318000 x4)) 16)) + 1)) then (if (wrap64 ((wrap64 (Int.tdiv (wrap64 (bt x318000 x4)) 16)) + 1)) ≤ 16 then (if 1 + ((⟨#[48, 49, 50, 51, 52, 53, 54, 55, 56, 57, 97, 98, 99, 100, 101, 102]⟩ : ByteArray).extract ((wrap64 (Int.tdiv (wrap64 (bt x318000 x4)) 16)) : Int).toNat ((wrap64 ((wrap64 (Int.tdiv (wrap64 (bt x318000 x4)) 16)) + 1)) : Int).toNat).size ≤ 9223372036854775807 then (if 0 ≤ (Int.tmod (wrap64 (bt x318000 x4)) 16) then (if (Int.tmod (wrap64 (bt x318000 x4)) 16) ≤ (wrap64 ((Int.tmod (wrap64 (bt x318000 x4)) 16) + 1)) then (if (wrap64 ((Int.tmod (wrap64 (bt x318000 x4)) 16) + 1)) ≤ 16 then (if ((⟨#[92]⟩ : ByteArray) ++ ((⟨#[48, 49, 50, 51, 52, 53, 54, 55, 56, 57, 97, 98, 99, 100, 101, 102]⟩ : ByteArray).extract ((wrap64 (Int.tdiv (wrap64 (bt x318000 x4)) 16)) : Int).toNat ((wrap64 ((wrap64 (Int.tdiv (wrap64 (bt x318000 x4)) 16)) + 1)) : Int).toNat)).size + ((⟨#[48, 49, 50, 51, 52, 53, 54, 55, 56, 57, 97, 98, 99, 100, 101, 102]⟩ : ByteArray).extract ((Int.tmod (wrap64 (bt x318000 x4)) 16) : Int).toNat ((wrap64 ((Int.tmod (wrap64 (bt x318000 x4)) 16) + 1)) : Int).toNat).size ≤ 9223372036854775807 then (if x3.size + (((⟨#[92]⟩ : ByteArray) ++ ((⟨#[48, 49, 50, 51, 52, 53, 54, 55, 56, 57, 97, 98, 99, 100, 101, 102]⟩ : ByteArray).extract ((wrap64 (Int.tdiv (wrap64 (bt x318000 x4)) 16)) : Int).toNat ((wrap64 ((wrap64 (Int.tdiv (wrap64 (bt x318000 x4)) 16)) + 1)) : Int).toNat)) ++ ((⟨#[48, 49, 50, 51, 52, 53, 54, 55, 56, 57, 97, 98, 99, 100, 101, 102]⟩ : ByteArray).extract ((Int.tmod (wrap64 (bt x318000 x4)) 16) : Int).toNat ((wrap64 ((Int.tmod (wrap64 (bt x318000 x4)) 16) + 1)) : Int).toNat)).size ≤ 9223372036854775807 then (concordanceref19_Show.l0 k (x3 ++ (((⟨#[92]⟩ : ByteArray) ++ ((⟨#[48, 49, 50, 51, 52, 53, 54, 55, 56, 57, 97, 98, 99, 100, 101, 102]⟩ : ByteArray).extract ((wrap64 (Int.tdiv (wrap64 (bt x318000 x4)) 16)) : Int).toNat ((wrap64 ((wrap64 (Int.tdiv (wrap64 (bt x318000 x4)) 16)) + 1)) : Int).toNat)) ++ ((⟨#[48, 49, 50, 51, 52, 53, 54, 55, 56, 57, 97, 98, 99, 100, 101, 102]⟩ : ByteArray).extract ((Int.tmod (wrap64 (bt x318000 x4)) 16) : Int).toNat ((wrap64 ((Int.tmod (wrap64 (bt x318000 x4)) 16) + 1)) : Int).toNat))) (wrap64 (x4 + 1)) x318000 x318001 x318002) else (none)) else (none)) else (none)) else (none)) else (none)) else (none)) else (none)) else (none)) else (none)) else (if (wrap64 (bt x318000 x4)) = 92 then (if 0 ≤ (wrap64 (Int.tdiv (wrap64 (bt x318000 x4)) 16)) then (if (wrap64 (Int.tdiv (wrap64 (bt x318000 x4)) 16)) ≤ (wrap64 ((wrap64 (Int.tdiv (wrap64 (bt x318000 x4)) 16)) + 1)) then (if (wrap64 ((wrap64 (Int.tdiv (wrap64 (bt x318000 x4)) 16)) + 1)) ≤ 16 then (if 1 + ((⟨#[48, 49, 50, 51, 52, 53, 54, 55, 56, 57, 97, 98, 99, 100, 101, 102]⟩ : ByteArray).extract ((wrap64 (Int.tdiv (wrap64 (bt x318000 x4)) 16)) : Int).toNat ((wrap64 ((wrap64 (Int.tdiv (wrap64 (bt x318000 x4)) 16)) + 1)) : Int).toNat).size ≤ 9223372036854775807 then (if 0 ≤ (Int.tmod (wrap64 (bt x318000 x4)) 16) then (if (Int.tmod (wrap64 (bt x318000 x4)) 16) ≤ (wrap64 ((Int.tmod (wrap64 (bt x318000 x4)) 16) + 1)) then (if (wrap64 ((Int.tmod (wrap64 (bt x318000 x4)) 16) + 1)) ≤ 16 then (if ((⟨#[92]⟩ : ByteArray) ++ ((⟨#[48, 49, 50, 51, 52, 53, 54, 55, 56, 57, 97, 98, 99, 100, 101, 102]⟩ : ByteArray).extract ((wrap64 (Int.tdiv (wrap64 (bt x318000 x4)) 16)) : Int).toNat ((wrap64 ((wrap64 (Int.tdiv (wrap64 (bt x318000 x4)) 16)) + 1)) : Int).toNat)).size + ((⟨#[48, 49, 50, 51, 52, 53, 54, 55, 56, 57, 97, 98, 99, 100, 101, 102]⟩ : ByteArray).extract ((Int.tmod (wrap64 (bt x318000 x4)) 16) : Int).toNat ((wrap64 ((Int.tmod (wrap64 (bt x318000 x4)) 16) + 1)) : Int).toNat).size ≤ 9223372036854775807 then (if x3.size + (((⟨#[92]⟩ : ByteArray) ++ ((⟨#[48, 49, 50, 51, 52, 53, 54, 55, 56, 57, 97, 98, 99, 100, 101, 102]⟩ : ByteArray).extract ((wrap64 (Int.tdiv (wrap64 (bt x318000 x4)) 16)) : Int).toNat ((wrap64 ((wrap64 (Int.tdiv (wrap64 (bt x318000 x4)) 16)) + 1)) : Int).toNat)) ++ ((⟨#[48, 49, 50, 51, 52, 53, 54, 55, 56, 57, 97, 98, 99, 100, 101, 102]⟩ : ByteArray).extract ((Int.tmod (wrap64 (bt x318000 x4)) 16) : Int).toNat ((wrap64 ((Int.tmod (wrap64 (bt x318000 x4)) 16) + 1)) : Int).toNat)).size ≤ 9223372036854775807 then (concordanceref19_Show.l0 k (x3 ++ (((⟨#[92]⟩ : ByteArray) ++ ((⟨#[48, 49, 50, 51, 52, 53, 54, 55, 56, 57, 97, 98, 99, 100, 101, 102]⟩ : ByteArray).extract ((wrap64 (Int.tdiv (wrap64 (bt x318000 x4)) 16)) : Int).toNat ((wrap64 ((wrap64 (Int.tdiv (wrap64 (bt x318000 x4)) 16)) + 1)) : Int).toNat)) ++ ((⟨#[48, 49, 50, 51, 52, 53, 54, 55, 56, 57, 97, 98, 99, 100, 101, 102]⟩ : ByteArray).extract ((Int.tmod (wrap64 (bt x318000 x4)) 16) : Int).toNat ((wrap64 ((Int.tmod (wrap64 (bt x318000 x4)) 16) + 1)) : Int).toNat))) (wrap64 (x4 + 1)) x318000 x318001 x318002) else (none)) else (none)) else (none)) else (none)) else (none)) else (none)) else (none)) else (none)) else (none)) else (if x4 ≤ (wrap64 (x4 + 1)) then (if (wrap64 (x4 + 1)) ≤ (x318000.size : Int) then (if x3.size + (x318000.extract (x4 : Int).toNat ((wrap64 (x4 + 1)) : Int).toNat).size ≤ 9223372036854775807 then (concordanceref19_Show.l0 k (x3 ++ (x318000.extract (x4 : Int).toNat ((wrap64 (x4 + 1)) : Int).toNat)) (wrap64 (x4 + 1)) x318000 x318001 x318002) else (none)) else (none)) else (none)))) else (if 0 ≤ (wrap64 (Int.tdiv (wrap64 (bt x318000 x4)) 16)) then (if (wrap64 (Int.tdiv (wrap64 (bt x318000 x4)) 16)) ≤ (wrap64 ((wrap64 (Int.tdiv (wrap64 (bt x318000 x4)) 16)) + 1)) then (if (wrap64 ((wrap64 (Int.tdiv (wrap64 (bt x318000 x4)) 16)) + 1)) ≤ 16 then (if 1 + ((⟨#[48, 49, 50, 51, 52, 53, 54, 55, 56, 57, 97, 98, 99, 100, 101, 102]⟩ : ByteArray).extract ((wrap64 (Int.tdiv (wrap64 (bt x318000 x4)) 16)) : Int).toNat ((wrap64 ((wrap64 (Int.tdiv (wrap64 (bt x318000 x4)) 16)) + 1)) : Int).toNat).size ≤ 9223372036854775807 then (if 0 ≤ (Int.tmod (wrap64 (bt x318000 x4)) 16) then (if (Int.tmod (wrap64 (bt x318000 x4)) 16) ≤ (wrap64 ((Int.tmod (wrap64 (bt x318000 x4)) 16) + 1)) then (if (wrap64 ((Int.tmod (wrap64 (bt x318000 x4)) 16) + 1)) ≤ 16 then (if ((⟨#[92]⟩ : ByteArray) ++ ((⟨#[48, 49, 50, 51, 52, 53, 54, 55, 56, 57, 97, 98, 99, 100, 101, 102]⟩ : ByteArray).extract ((wrap64 (Int.tdiv (wrap64 (bt x318000 x4)) 16)) : Int).toNat ((wrap64 ((wrap64 (Int.tdiv (wrap64 (bt x318000 x4)) 16)) + 1)) : Int).toNat)).size + ((⟨#[48, 49, 50, 51, 52, 53, 54, 55, 56, 57, 97, 98, 99, 100, 101, 102]⟩ : ByteArray).extract ((Int.tmod (wrap64 (bt x318000 x4)) 16) : Int).toNat ((wrap64 ((Int.tmod (wrap64 (bt x318000 x4)) 16) + 1)) : Int).toNat).size ≤ 9223372036854775807 then (if x3.size + (((⟨#[92]⟩ : ByteArray) ++ ((⟨#[48, 49, 50, 51, 52, 53, 54, 55, 56, 57, 97, 98, 99, 100, 101, 102]⟩ : ByteArray).extract ((wrap64 (Int.tdiv (wrap64 (bt x318000 x4)) 16)) : Int).toNat ((wrap64 ((wrap64 (Int.tdiv (wrap64 (bt x318000 x4)) 16)) + 1)) : Int).toNat)) ++ ((⟨#[48, 49, 50, 51, 52, 53, 54, 55, 56, 57, 97, 98, 99, 100, 101, 102]⟩ : ByteArray).extract ((Int.tmod (wrap64 (bt x318000 x4)) 16) : Int).toNat ((wrap64 ((Int.tmod (wrap64 (bt x318000 x4)) 16) + 1)) : Int).toNat)).size ≤ 9223372036854775807 then (concordanceref19_Show.l0 k (x3 ++ (((⟨#[92]⟩ : ByteArray) ++ ((⟨#[48, 49, 50, 51, 52, 53, 54, 55, 56, 57, 97, 98, 99, 100, 101, 102]⟩ : ByteArray).extract ((wrap64 (Int.tdiv (wrap64 (bt x318000 x4)) 16)) : Int).toNat ((wrap64 ((wrap64 (Int.tdiv (wrap64 (bt x318000 x4)) 16)) + 1)) : Int).toNat)) ++ ((⟨#[48, 49, 50, 51, 52, 53, 54, 55, 56, 57, 97, 98, 99, 100, 101, 102]⟩ : ByteArray).extract ((Int.tmod (wrap64 (bt x318000 x4)) 16) : Int).toNat ((wrap64 ((Int.tmod (wrap64 (bt x318000 x4)) 16) + 1)) : Int).toNat))) (wrap64 (x4 + 1)) x318000 x318001 x318002) else (none)) else (none)) else (none)) else (none)) else (none)) else (none)) else (none)) else (none)) else (none))) else (if 0 ≤ (wrap64 (Int.tdiv (wrap64 (bt x318000 x4)) 16)) then (if (wrap64 (Int.tdiv (wrap64 (bt x318000 x4)) 16)) ≤ (wrap64 ((wrap64 (Int.tdiv (wrap64 (bt x318000 x4)) 16)) + 1)) then (if (wrap64 ((wrap64 (Int.tdiv (wrap64 (bt x318000 x4)) 16)) + 1)) ≤ 16 then (if 1 + ((⟨#[48, 49, 50, 51, 52, 53, 54, 55, 56, 57, 97, 98, 99, 100, 101, 102]⟩ : ByteArray).extract ((wrap64 (Int.tdiv (wrap64 (bt x318000 x4)) 16)) : Int).toNat ((wrap64 ((wrap64 (Int.tdiv (wrap64 (bt x318000 x4)) 16)) + 1)) : Int).toNat).size ≤ 9223372036854775807 then (if 0 ≤ (Int.tmod (wrap64 (bt x318000 x4)) 16) then (if (Int.tmod (wrap64 (bt x318000 x4)) 16) ≤ (wrap64 ((Int.tmod (wrap64 (bt x318000 x4)) 16) + 1)) then (if (wrap64 ((Int.tmod (wrap64 (bt x318000 x4)) 16) + 1)) ≤ 16 then (if ((⟨#[92]⟩ : ByteArray) ++ ((⟨#[48, 49, 50, 51, 52, 53, 54, 55, 56, 57, 97, 98, 99, 100, 101, 102]⟩ : ByteArray).extract ((wrap64 (Int.tdiv (wrap64 (bt x318000 x4)) 16)) : Int).toNat ((wrap64 ((wrap64 (Int.tdiv (wrap64 (bt x318000 x4)) 16)) + 1)) : Int).toNat)).size + ((⟨#[48, 49, 50, 51, 52, 53, 54, 55, 56, 57, 97, 98, 99, 100, 101, 102]⟩ : ByteArray).extract ((Int.tmod (wrap64 (bt x318000 x4)) 16) : Int).toNat ((wrap64 ((Int.tmod (wrap64 (bt x318000 x4)) 16) + 1)) : Int).toNat).size ≤ 9223372036854775807 then (if x3.size + (((⟨#[92]⟩ : ByteArray) ++ ((⟨#[48, 49, 50, 51, 52, 53, 54, 55, 56, 57, 97, 98, 99, 100, 101, 102]⟩ : ByteArray).extract ((wrap64 (Int.tdiv (wrap64 (bt x318000 x4)) 16)) : Int).toNat ((wrap64 ((wrap64 (Int.tdiv (wrap64 (bt x318000 x4)) 16)) + 1)) : Int).toNat)) ++ ((⟨#[48, 49, 50, 51, 52, 53, 54, 55, 56, 57, 97, 98, 99, 100, 101, 102]⟩ : ByteArray).extract ((Int.tmod (wrap64 (bt x318000 x4)) 16) : Int).toNat ((wrap64 ((Int.tmod (wrap64 (bt x318000 x4)) 16) + 1)) : Int).toNat)).size ≤ 9223372036854775807 then (concordanceref19_Show.l0 k (x3 ++ (((⟨#[92]⟩ : ByteArray) ++ ((⟨#[48, 49, 50, 51, 52, 53, 54, 55, 56, 57, 97, 98, 99, 100, 101, 102]⟩ : ByteArray).extract ((wrap64 (Int.tdiv (wrap64 (bt x318000 x4)) 16)) : Int).toNat ((wrap64 ((wrap64 (Int.tdiv (wrap64 (bt x318000 x4)) 16)) + 1)) : Int).toNat)) ++ ((⟨#[48, 49, 50, 51, 52, 53, 54, 55, 56, 57, 97, 98, 99, 100, 101, 102]⟩ : ByteArray).extract ((Int.tmod (wrap64 (bt x318000 x4)) 16) : Int).toNat ((wrap64 ((Int.tmod (wrap64 (bt x318000 x4)) 16) + 1)) : Int).toNat))) (wrap64 (x4 + 1)) x318000 x318001 x318002) else (none)) else (none)) else (none)) else (none)) else (none)) else (none)) else (none)) else (none)) else (none))) else (none)) else (if x3.size + 1 ≤ 9223372036854775807 then (some (x3 ++ (⟨#[39]⟩ : ByteArray))) else (none))
def concordanceref19_Show.f (k : Nat) (a0_0 : ByteArray) (a0_1 : Int) (a0_2 : Bool) : Option (ByteArray) := if a0_2 = true then (concordanceref19_Show.l0 k (⟨#[39]⟩ : ByteArray) 0 a0_0 a0_1 a0_2) else ((concordanceref19_Digits.f k a0_1).bind fun t318 => (some t318))
theorem concordanceref19_Show.mono_l : ∀ k, (∀ y0 y1 y2 y3 y4, LeO (concordanceref19_Show.l0 k y0 y1 y2 y3 y4) (concordanceref19_Show.l0 (k + 1) y0 y1 y2 y3 y4))
 | 0 => fun _ _ _ _ _ r h => by simp [concordanceref19_Show.l0] at h
 | k + 1 => by
  have ih0 := concordanceref19_Show.mono_l k
  ·intro y0 y1 y2 y3 y4
   unfold concordanceref19_Show.l0
   repeat' first
   | (with_reducible exact ih0 _ _ _ _ _)
   | (with_reducible exact concordanceref19_Digits.mono _ _)
   | (with_reducible exact LeO.refl _)
   | (with_reducible exact LeO.none _)
   | (with_reducible refine LeO.ite ?_ ?_)
   | (with_reducible refine LeO.bind ?_ (fun _ => ?_))
   | exact ih0 _ _ _ _ _
   | exact concordanceref19_Digits.mono _ _
   | exact LeO.none _
   | refine LeO.ite ?_ ?_
   | refine LeO.bind ?_ (fun _ => ?_)
theorem concordanceref19_Show.mono : ∀ a0 a1 a2 k, LeO (concordanceref19_Show.f k a0 a1 a2) (concordanceref19_Show.f (k + 1) a0 a1 a2) := by
 intro a0 a1 a2 k
 have ih0 := concordanceref19_Show.mono_l k
 unfold concordanceref19_Show.f
 repeat' first
   | (with_reducible exact ih0 _ _ _ _ _)
   | (with_reducible exact concordanceref19_Digits.mono _ _)
   | (with_reducible exact LeO.refl _)
   | (with_reducible exact LeO.none _)
   | (with_reducible refine LeO.ite ?_ ?_)
   | (with_reducible refine LeO.bind ?_ (fun _ => ?_))
   | exact ih0 _ _ _ _ _
   | exact concordanceref19_Digits.mono _ _
   | exact LeO.none _
   | refine LeO.ite ?_ ?_
   | refine LeO.bind ?_ (fun _ => ?_)
set_option maxHeartbeats 8000000 in
set_option maxRecDepth 100000 in
theorem concordanceref19_Show.calls (k : Nat) (a0_0 : ByteArray) (a0_1 : Int) (a0_2 : Bool) (r : ByteArray) (w : World) (h : concordanceref19_Show.f k a0_0 a0_1 a0_2 = some r) :
  Calls Tryd.prog 20 #[.agg #[.string a0_0, .int .i64 a0_1, .bool a0_2]] w fun e w' => e = .returned (.string r) ∧ Below w.heap.size w w' := by
 have hu26 := Tryd.underlying26
 have HB := Aside0.mk (Below.refl w.heap.size w)
 have H : (if a0_2 = true then (concordanceref19_Show.l0 k (⟨#[39]⟩ : ByteArray) 0 a0_0 a0_1 a0_2) else ((concordanceref19_Digits.f k a0_1).bind fun t318 => (some t318))) = some r := h
 clear h
 by_cases c2 : a0_2 = true
 ·subst c2
  have H1 : (concordanceref19_Show.l0 k (⟨#[39]⟩ : ByteArray) 0 a0_0 a0_1 true) = some r := by rw [if_pos rfl] at H; exact H
  clear H
  have H := H1
  clear H1
  have H' := Aside0.mk H
  clear H
  go_enter Tryd.func20, Tryd.ntmps20
  go_wp2_with (first | ((with_reducible refine gate_dst (N := 1) rfl ?_); refine box_event ?hg (N := 1) ?hd (cs := #[.string a0_0, .int .i64 a0_1, .bool true]) (t := 26) ?hr ?_; (case hd => rfl); (case hg => rfl); (case hr => first | (go_simp; done) | (go_simp; rfl)); intro gb317 hg w3 hbox hb; have n0_ := Aside0.mk (below_step (by repeat (first | (with_reducible first | exact HB.out | apply below_alloc | apply pw_below_drewN | apply below_drew1) | exact HB.out)) hb); have n1_ := Aside0.mk (hbox); have n2_ := Aside0.mk ((by rw [hg]; exact (below_size (by repeat (first | (with_reducible first | exact HB.out | apply below_alloc | apply pw_below_drewN | apply below_drew1) | exact HB.out))) : w.heap.size ≤ gb317)); have n3_ := Aside0.mk ((by rw [hg]; exact (below_size (by repeat (first | (with_reducible first | exact HB.out | apply below_alloc | apply pw_below_drewN | apply below_drew1) | exact HB.out))) : w.heap.size ≤ gb317)); clear HB; have HB := n0_; have BK317 := n1_; have GW317 := n2_; have GE317 := n3_; clear n0_ n1_ n2_ n3_; clear hb hbox hg; have hcz4_0 : w3.cell? ⟨gb317, 0, none⟩ = some (.string a0_0) := (blk_cell BK317.out 0).trans rfl; have hcz4_1 : w3.cell? ⟨gb317, 1, none⟩ = some (.int .i64 a0_1) := (blk_cell BK317.out 1).trans rfl; have hcz4_2 : w3.cell? ⟨gb317, 2, none⟩ = some (.bool true) := (blk_cell BK317.out 2).trans rfl; have hfz4_0 := blk_frozen BK317.out 0; have hfz4_1 := blk_frozen BK317.out 1; have hfz4_2 := blk_frozen BK317.out 2))
  repeat (go_quiet (first | ((with_reducible refine gate_dst (N := 1) rfl ?_); refine box_event ?hg (N := 1) ?hd (cs := #[.string a0_0, .int .i64 a0_1, .bool true]) (t := 26) ?hr ?_; (case hd => rfl); (case hg => rfl); (case hr => first | (go_simp; done) | (go_simp; rfl)); intro gb317 hg w3 hbox hb; have n0_ := Aside0.mk (below_step (by repeat (first | (with_reducible first | exact HB.out | apply below_alloc | apply pw_below_drewN | apply below_drew1) | exact HB.out)) hb); have n1_ := Aside0.mk (hbox); have n2_ := Aside0.mk ((by rw [hg]; exact (below_size (by repeat (first | (with_reducible first | exact HB.out | apply below_alloc | apply pw_below_drewN | apply below_drew1) | exact HB.out))) : w.heap.size ≤ gb317)); have n3_ := Aside0.mk ((by rw [hg]; exact (below_size (by repeat (first | (with_reducible first | exact HB.out | apply below_alloc | apply pw_below_drewN | apply below_drew1) | exact HB.out))) : w.heap.size ≤ gb317)); clear HB; have HB := n0_; have BK317 := n1_; have GW317 := n2_; have GE317 := n3_; clear n0_ n1_ n2_ n3_; clear hb hbox hg; have hcz4_0 : w3.cell? ⟨gb317, 0, none⟩ = some (.string a0_0) := (blk_cell BK317.out 0).trans rfl; have hcz4_1 : w3.cell? ⟨gb317, 1, none⟩ = some (.int .i64 a0_1) := (blk_cell BK317.out 1).trans rfl; have hcz4_2 : w3.cell? ⟨gb317, 2, none⟩ = some (.bool true) := (blk_cell BK317.out 2).trans rfl; have hfz4_0 := blk_frozen BK317.out 0; have hfz4_1 := blk_frozen BK317.out 1; have hfz4_2 := blk_frozen BK317.out 2)); try go_wp2_with (first | ((with_reducible refine gate_dst (N := 1) rfl ?_); refine box_event ?hg (N := 1) ?hd (cs := #[.string a0_0, .int .i64 a0_1, .bool true]) (t := 26) ?hr ?_; (case hd => rfl); (case hg => rfl); (case hr => first | (go_simp; done) | (go_simp; rfl)); intro gb317 hg w3 hbox hb; have n0_ := Aside0.mk (below_step (by repeat (first | (with_reducible first | exact HB.out | apply below_alloc | apply pw_below_drewN | apply below_drew1) | exact HB.out)) hb); have n1_ := Aside0.mk (hbox); have n2_ := Aside0.mk ((by rw [hg]; exact (below_size (by repeat (first | (with_reducible first | exact HB.out | apply below_alloc | apply pw_below_drewN | apply below_drew1) | exact HB.out))) : w.heap.size ≤ gb317)); have n3_ := Aside0.mk ((by rw [hg]; exact (below_size (by repeat (first | (with_reducible first | exact HB.out | apply below_alloc | apply pw_below_drewN | apply below_drew1) | exact HB.out))) : w.heap.size ≤ gb317)); clear HB; have HB := n0_; have BK317 := n1_; have GW317 := n2_; have GE317 := n3_; clear n0_ n1_ n2_ n3_; clear hb hbox hg; have hcz4_0 : w3.cell? ⟨gb317, 0, none⟩ = some (.string a0_0) := (blk_cell BK317.out 0).trans rfl; have hcz4_1 : w3.cell? ⟨gb317, 1, none⟩ = some (.int .i64 a0_1) := (blk_cell BK317.out 1).trans rfl; have hcz4_2 : w3.cell? ⟨gb317, 2, none⟩ = some (.bool true) := (blk_cell BK317.out 2).trans rfl; have hfz4_0 := blk_frozen BK317.out 0; have hfz4_1 := blk_frozen BK317.out 1; have hfz4_2 := blk_frozen BK317.out 2)))
  go_loopg [3, 4] k (fun kq v3 v4 w' => ∃ (x3_1 : ByteArray) (x4_1 : Int), v3 = .string x3_1 ∧ v4 = .int .i64 x4_1 ∧ Aside0 (concordanceref19_Show.l0 kq x3_1 x4_1 a0_0 a0_1 true = some r) ∧ Aside0 (kq ≤ k) ∧ Aside0 (w'.heap[gb317]? = some (.cells #[.string a0_0, .int .i64 a0_1, .bool true] 26 (0, 0))) ∧ Aside0 (Below w.heap.size w w'))
  case atStart => exact ⟨((⟨#[39]⟩ : ByteArray)), (0), (by first | rfl | (simp; done) | (simp [*]; done)), (by first | rfl | (simp; done) | (simp [*]; done)), H', ⟨Nat.le_refl _⟩, ⟨by (with_reducible repeat (first | refine blk_drewN ?_ _ | refine blk_drew ?_ | refine blk_alloc ?_ _)); exact BK317.out⟩, ⟨by repeat (first | (with_reducible first | exact HB.out | apply below_alloc | apply pw_below_drewN | apply below_drew1 | refine below_set ?_ GE317.out) | exact HB.out)⟩⟩
  case round =>
   clear H'
   try clear c2
   try clear p2
   try clear hcz4_0
   try clear hcz4_1
   try clear hcz4_2
   try clear hfz4_0
   try clear hfz4_1
   try clear hfz4_2
   obtain ⟨x3_1, x4_1, rfl, rfl, HA, HK1, BK317, HB⟩ := hrel
   cases gk with
   | zero => exact absurd HA.out (by simp [concordanceref19_Show.l0])
   | succ k1 =>
    have H := HA.out
    clear HA
    simp only [concordanceref19_Show.l0] at H
    by_cases c5 : x4_1 < (a0_0.size : Int)
    ·rw [if_pos c5] at H
     have c5b0 : decide (x4_1 < (a0_0.size : Int)) = true := decide_eq_true c5
     clear c5
     by_cases c6 : 0 ≤ x4_1
     ·rw [if_pos c6] at H
      have c6b0 : decide (0 ≤ x4_1) = true := decide_eq_true c6
      clear c6
      by_cases c8 : (wrap64 (bt a0_0 x4_1)) > 31
      ·rw [if_pos c8] at H
       have c8b0 : decide (31 < (wrap64 (bt a0_0 x4_1))) = true := decide_eq_true c8
       clear c8
       by_cases c9 : (wrap64 (bt a0_0 x4_1)) < 127
       ·rw [if_pos c9] at H
        have c9b0 : decide ((wrap64 (bt a0_0 x4_1)) < 127) = true := decide_eq_true c9
        clear c9
        by_cases c10 : (wrap64 (bt a0_0 x4_1)) = 39
        ·rw [if_pos c10] at H
         have c10b0 : ((wrap64 (bt a0_0 x4_1)) == 39) = true := beq_iff_eq.mpr c10
         have c10b1 : ((wrap64 (bt a0_0 x4_1)) != 39) = false := bne_eq_false_iff_eq.mpr c10
         clear c10
         obtain ⟨ji11, hji11⟩ : ∃ j_ : Int, (wrap64 (Int.tdiv (wrap64 (bt a0_0 x4_1)) 16)) = j_ := ⟨_, rfl⟩
         replace H : (if 0 ≤ (ji11) then (if (ji11) ≤ (wrap64 ((ji11) + 1)) then (if (wrap64 ((ji11) + 1)) ≤ 16 then (if 1 + ((⟨#[48, 49, 50, 51, 52, 53, 54, 55, 56, 57, 97, 98, 99, 100, 101, 102]⟩ : ByteArray).extract ((ji11) : Int).toNat ((wrap64 ((ji11) + 1)) : Int).toNat).size ≤ 9223372036854775807 then (if 0 ≤ (Int.tmod (wrap64 (bt a0_0 x4_1)) 16) then (if (Int.tmod (wrap64 (bt a0_0 x4_1)) 16) ≤ (wrap64 ((Int.tmod (wrap64 (bt a0_0 x4_1)) 16) + 1)) then (if (wrap64 ((Int.tmod (wrap64 (bt a0_0 x4_1)) 16) + 1)) ≤ 16 then (if ((⟨#[92]⟩ : ByteArray) ++ ((⟨#[48, 49, 50, 51, 52, 53, 54, 55, 56, 57, 97, 98, 99, 100, 101, 102]⟩ : ByteArray).extract ((ji11) : Int).toNat ((wrap64 ((ji11) + 1)) : Int).toNat)).size + ((⟨#[48, 49, 50, 51, 52, 53, 54, 55, 56, 57, 97, 98, 99, 100, 101, 102]⟩ : ByteArray).extract ((Int.tmod (wrap64 (bt a0_0 x4_1)) 16) : Int).toNat ((wrap64 ((Int.tmod (wrap64 (bt a0_0 x4_1)) 16) + 1)) : Int).toNat).size ≤ 9223372036854775807 then (if x3_1.size + (((⟨#[92]⟩ : ByteArray) ++ ((⟨#[48, 49, 50, 51, 52, 53, 54, 55, 56, 57, 97, 98, 99, 100, 101, 102]⟩ : ByteArray).extract ((ji11) : Int).toNat ((wrap64 ((ji11) + 1)) : Int).toNat)) ++ ((⟨#[48, 49, 50, 51, 52, 53, 54, 55, 56, 57, 97, 98, 99, 100, 101, 102]⟩ : ByteArray).extract ((Int.tmod (wrap64 (bt a0_0 x4_1)) 16) : Int).toNat ((wrap64 ((Int.tmod (wrap64 (bt a0_0 x4_1)) 16) + 1)) : Int).toNat)).size ≤ 9223372036854775807 then (concordanceref19_Show.l0 k1 (x3_1 ++ (((⟨#[92]⟩ : ByteArray) ++ ((⟨#[48, 49, 50, 51, 52, 53, 54, 55, 56, 57, 97, 98, 99, 100, 101, 102]⟩ : ByteArray).extract ((ji11) : Int).toNat ((wrap64 ((ji11) + 1)) : Int).toNat)) ++ ((⟨#[48, 49, 50, 51, 52, 53, 54, 55, 56, 57, 97, 98, 99, 100, 101, 102]⟩ : ByteArray).extract ((Int.tmod (wrap64 (bt a0_0 x4_1)) 16) : Int).toNat ((wrap64 ((Int.tmod (wrap64 (bt a0_0 x4_1)) 16) + 1)) : Int).toNat))) (wrap64 (x4_1 + 1)) a0_0 a0_1 true) else (none)) else (none)) else (none)) else (none)) else (none)) else (none)) else (none)) else (none)) else (none)) = some r := by first | (rw [hji11] at H; exact H) | (simp only [hji11] at H ⊢; exact H)
         have hji11w : (IntKind.i64.wrap (Int.tdiv (wrap64 (bt a0_0 x4_1)) 16)) = ji11 := (i64_w _).trans hji11
         by_cases c12 : 0 ≤ (ji11)
         ·rw [if_pos c12] at H
          have c12b0 := eq_true c12
          have c12b1 : decide (0 ≤ (ji11)) = true := decide_eq_true c12
          clear c12
          by_cases c13 : (ji11) ≤ (wrap64 ((ji11) + 1))
          ·rw [if_pos c13] at H
           have c13b0 := eq_true c13
           have c13b1 : decide ((ji11) ≤ (wrap64 ((ji11) + 1))) = true := decide_eq_true c13
           by_cases c14 : (wrap64 ((ji11) + 1)) ≤ 16
           ·rw [if_pos c14] at H
            have c14b0 := eq_true c14
            have c14b1 : decide ((wrap64 ((ji11) + 1)) ≤ 16) = true := decide_eq_true c14
            by_cases c15 : 1 + ((⟨#[48, 49, 50, 51, 52, 53, 54, 55, 56, 57, 97, 98, 99, 100, 101, 102]⟩ : ByteArray).extract ((ji11) : Int).toNat ((wrap64 ((ji11) + 1)) : Int).toNat).size ≤ 9223372036854775807
            ·rw [if_pos c15] at H
             have c15b0 := eq_true c15
             have c15b1 : decide (1 + ((⟨#[48, 49, 50, 51, 52, 53, 54, 55, 56, 57, 97, 98, 99, 100, 101, 102]⟩ : ByteArray).extract ((ji11) : Int).toNat ((wrap64 ((ji11) + 1)) : Int).toNat).size ≤ 9223372036854775807) = true := decide_eq_true c15
             try have c15b2 : (9223372036854775807 < 1 + ((⟨#[48, 49, 50, 51, 52, 53, 54, 55, 56, 57, 97, 98, 99, 100, 101, 102]⟩ : ByteArray).extract ((ji11) : Int).toNat ((wrap64 ((ji11) + 1)) : Int).toNat).size) = False := eq_false (Nat.not_lt.2 c15)
             obtain ⟨ji16, hji16⟩ : ∃ j_ : Int, (Int.tmod (wrap64 (bt a0_0 x4_1)) 16) = j_ := ⟨_, rfl⟩
             replace H : (if 0 ≤ (ji16) then (if (ji16) ≤ (wrap64 ((ji16) + 1)) then (if (wrap64 ((ji16) + 1)) ≤ 16 then (if ((⟨#[92]⟩ : ByteArray) ++ ((⟨#[48, 49, 50, 51, 52, 53, 54, 55, 56, 57, 97, 98, 99, 100, 101, 102]⟩ : ByteArray).extract ((ji11) : Int).toNat ((wrap64 ((ji11) + 1)) : Int).toNat)).size + ((⟨#[48, 49, 50, 51, 52, 53, 54, 55, 56, 57, 97, 98, 99, 100, 101, 102]⟩ : ByteArray).extract ((ji16) : Int).toNat ((wrap64 ((ji16) + 1)) : Int).toNat).size ≤ 9223372036854775807 then (if x3_1.size + (((⟨#[92]⟩ : ByteArray) ++ ((⟨#[48, 49, 50, 51, 52, 53, 54, 55, 56, 57, 97, 98, 99, 100, 101, 102]⟩ : ByteArray).extract ((ji11) : Int).toNat ((wrap64 ((ji11) + 1)) : Int).toNat)) ++ ((⟨#[48, 49, 50, 51, 52, 53, 54, 55, 56, 57, 97, 98, 99, 100, 101, 102]⟩ : ByteArray).extract ((ji16) : Int).toNat ((wrap64 ((ji16) + 1)) : Int).toNat)).size ≤ 9223372036854775807 then (concordanceref19_Show.l0 k1 (x3_1 ++ (((⟨#[92]⟩ : ByteArray) ++ ((⟨#[48, 49, 50, 51, 52, 53, 54, 55, 56, 57, 97, 98, 99, 100, 101, 102]⟩ : ByteArray).extract ((ji11) : Int).toNat ((wrap64 ((ji11) + 1)) : Int).toNat)) ++ ((⟨#[48, 49, 50, 51, 52, 53, 54, 55, 56, 57, 97, 98, 99, 100, 101, 102]⟩ : ByteArray).extract ((ji16) : Int).toNat ((wrap64 ((ji16) + 1)) : Int).toNat))) (wrap64 (x4_1 + 1)) a0_0 a0_1 true) else (none)) else (none)) else (none)) else (none)) else (none)) = some r := by first | (rw [hji16] at H; exact H) | (simp only [hji16] at H ⊢; exact H)
             by_cases c17 : 0 ≤ (ji16)
             ·rw [if_pos c17] at H
              have c17b0 := eq_true c17
              have c17b1 : decide (0 ≤ (ji16)) = true := decide_eq_true c17
              clear c17
              by_cases c18 : (ji16) ≤ (wrap64 ((ji16) + 1))
              ·rw [if_pos c18] at H
               have c18b0 := eq_true c18
               have c18b1 : decide ((ji16) ≤ (wrap64 ((ji16) + 1))) = true := decide_eq_true c18
               by_cases c19 : (wrap64 ((ji16) + 1)) ≤ 16
               ·rw [if_pos c19] at H
                have c19b0 := eq_true c19
                have c19b1 : decide ((wrap64 ((ji16) + 1)) ≤ 16) = true := decide_eq_true c19
                by_cases c20 : ((⟨#[92]⟩ : ByteArray) ++ ((⟨#[48, 49, 50, 51, 52, 53, 54, 55, 56, 57, 97, 98, 99, 100, 101, 102]⟩ : ByteArray).extract ((ji11) : Int).toNat ((wrap64 ((ji11) + 1)) : Int).toNat)).size + ((⟨#[48, 49, 50, 51, 52, 53, 54, 55, 56, 57, 97, 98, 99, 100, 101, 102]⟩ : ByteArray).extract ((ji16) : Int).toNat ((wrap64 ((ji16) + 1)) : Int).toNat).size ≤ 9223372036854775807
                ·rw [if_pos c20] at H
                 have c20b0 := eq_true c20
                 have c20b1 : decide (((⟨#[92]⟩ : ByteArray) ++ ((⟨#[48, 49, 50, 51, 52, 53, 54, 55, 56, 57, 97, 98, 99, 100, 101, 102]⟩ : ByteArray).extract ((ji11) : Int).toNat ((wrap64 ((ji11) + 1)) : Int).toNat)).size + ((⟨#[48, 49, 50, 51, 52, 53, 54, 55, 56, 57, 97, 98, 99, 100, 101, 102]⟩ : ByteArray).extract ((ji16) : Int).toNat ((wrap64 ((ji16) + 1)) : Int).toNat).size ≤ 9223372036854775807) = true := decide_eq_true c20
                 try have c20b2 : (9223372036854775807 < ((⟨#[92]⟩ : ByteArray) ++ ((⟨#[48, 49, 50, 51, 52, 53, 54, 55, 56, 57, 97, 98, 99, 100, 101, 102]⟩ : ByteArray).extract ((ji11) : Int).toNat ((wrap64 ((ji11) + 1)) : Int).toNat)).size + ((⟨#[48, 49, 50, 51, 52, 53, 54, 55, 56, 57, 97, 98, 99, 100, 101, 102]⟩ : ByteArray).extract ((ji16) : Int).toNat ((wrap64 ((ji16) + 1)) : Int).toNat).size) = False := eq_false (Nat.not_lt.2 c20)
                 try (have c20b4 := c20b2; simp only [ByteArray.size_append] at c20b4)
                 by_cases c21 : x3_1.size + (((⟨#[92]⟩ : ByteArray) ++ ((⟨#[48, 49, 50, 51, 52, 53, 54, 55, 56, 57, 97, 98, 99, 100, 101, 102]⟩ : ByteArray).extract ((ji11) : Int).toNat ((wrap64 ((ji11) + 1)) : Int).toNat)) ++ ((⟨#[48, 49, 50, 51, 52, 53, 54, 55, 56, 57, 97, 98, 99, 100, 101, 102]⟩ : ByteArray).extract ((ji16) : Int).toNat ((wrap64 ((ji16) + 1)) : Int).toNat)).size ≤ 9223372036854775807
                 ·rw [if_pos c21] at H
                  have c21b0 := eq_true c21
                  have c21b1 : decide (x3_1.size + (((⟨#[92]⟩ : ByteArray) ++ ((⟨#[48, 49, 50, 51, 52, 53, 54, 55, 56, 57, 97, 98, 99, 100, 101, 102]⟩ : ByteArray).extract ((ji11) : Int).toNat ((wrap64 ((ji11) + 1)) : Int).toNat)) ++ ((⟨#[48, 49, 50, 51, 52, 53, 54, 55, 56, 57, 97, 98, 99, 100, 101, 102]⟩ : ByteArray).extract ((ji16) : Int).toNat ((wrap64 ((ji16) + 1)) : Int).toNat)).size ≤ 9223372036854775807) = true := decide_eq_true c21
                  try have c21b2 : (9223372036854775807 < x3_1.size + (((⟨#[92]⟩ : ByteArray) ++ ((⟨#[48, 49, 50, 51, 52, 53, 54, 55, 56, 57, 97, 98, 99, 100, 101, 102]⟩ : ByteArray).extract ((ji11) : Int).toNat ((wrap64 ((ji11) + 1)) : Int).toNat)) ++ ((⟨#[48, 49, 50, 51, 52, 53, 54, 55, 56, 57, 97, 98, 99, 100, 101, 102]⟩ : ByteArray).extract ((ji16) : Int).toNat ((wrap64 ((ji16) + 1)) : Int).toNat)).size) = False := eq_false (Nat.not_lt.2 c21)
                  try (have c21b4 := c21b2; simp only [ByteArray.size_append] at c21b4)
                  have H' := Aside0.mk H
                  clear H
                  have hcz22_0 : wr.cell? ⟨gb317, 0, none⟩ = some (.string a0_0) := (blk_cell BK317.out 0).trans rfl
                  have hcz22_1 : wr.cell? ⟨gb317, 1, none⟩ = some (.int .i64 a0_1) := (blk_cell BK317.out 1).trans rfl
                  have hcz22_2 : wr.cell? ⟨gb317, 2, none⟩ = some (.bool true) := (blk_cell BK317.out 2).trans rfl
                  have hfz22_0 := blk_frozen BK317.out 0
                  have hfz22_1 := blk_frozen BK317.out 1
                  have hfz22_2 := blk_frozen BK317.out 2
                  have p7 : 0 ≤ (x4_1 : Int) := of_decide_eq_true (by first | (with_reducible assumption) | assumption)
                  have q7 : x4_1 < (a0_0.size : Int) := of_decide_eq_true (by first | (with_reducible assumption) | assumption)
                  have hx7 := bt_at a0_0 x4_1
                  replace p7 := eq_true p7
                  replace q7 := eq_true q7
                  go_wp2
                  repeat (go_quiet (fail); try go_wp2)
                  go_roundg k1
                  case measure => have := HK1.out; omega
                  case rel => exact ⟨(x3_1 ++ (((⟨#[92]⟩ : ByteArray) ++ ((⟨#[48, 49, 50, 51, 52, 53, 54, 55, 56, 57, 97, 98, 99, 100, 101, 102]⟩ : ByteArray).extract ((ji11) : Int).toNat ((wrap64 ((ji11) + 1)) : Int).toNat)) ++ ((⟨#[48, 49, 50, 51, 52, 53, 54, 55, 56, 57, 97, 98, 99, 100, 101, 102]⟩ : ByteArray).extract ((ji16) : Int).toNat ((wrap64 ((ji16) + 1)) : Int).toNat))), (wrap64 (x4_1 + 1)), (by first | rfl | (simp; done) | (simp only [← hji11, ← hji16] <;> (first | rfl | simp)) | (simp [*]; done)), (by first | rfl | (simp; done) | (simp [*]; done)), H', ⟨by have := HK1.out; omega⟩, ⟨by (with_reducible repeat (first | refine blk_drewN ?_ _ | refine blk_drew ?_ | refine blk_alloc ?_ _)); exact BK317.out⟩, ⟨by repeat (first | (with_reducible first | exact HB.out | apply below_alloc | apply pw_below_drewN | apply below_drew1 | refine below_set ?_ GE317.out) | exact HB.out)⟩⟩
                 ·rw [if_neg c21] at H
                  exact absurd H (by simp)
                ·rw [if_neg c20] at H
                 exact absurd H (by simp)
               ·rw [if_neg c19] at H
                exact absurd H (by simp)
              ·rw [if_neg c18] at H
               exact absurd H (by simp)
             ·rw [if_neg c17] at H
              exact absurd H (by simp)
            ·rw [if_neg c15] at H
             exact absurd H (by simp)
           ·rw [if_neg c14] at H
            exact absurd H (by simp)
          ·rw [if_neg c13] at H
           exact absurd H (by simp)
         ·rw [if_neg c12] at H
          exact absurd H (by simp)
        ·rw [if_neg c10] at H
         have c10b0 : ((wrap64 (bt a0_0 x4_1)) == 39) = false := beq_eq_false_iff_ne.mpr c10
         have c10b1 : ((wrap64 (bt a0_0 x4_1)) != 39) = true := bne_iff_ne.mpr c10
         by_cases c23 : (wrap64 (bt a0_0 x4_1)) = 92
         ·rw [if_pos c23] at H
          have c23b0 : ((wrap64 (bt a0_0 x4_1)) == 92) = true := beq_iff_eq.mpr c23
          have c23b1 : ((wrap64 (bt a0_0 x4_1)) != 92) = false := bne_eq_false_iff_eq.mpr c23
          clear c23
          obtain ⟨ji24, hji24⟩ : ∃ j_ : Int, (wrap64 (Int.tdiv (wrap64 (bt a0_0 x4_1)) 16)) = j_ := ⟨_, rfl⟩
          replace H : (if 0 ≤ (ji24) then (if (ji24) ≤ (wrap64 ((ji24) + 1)) then (if (wrap64 ((ji24) + 1)) ≤ 16 then (if 1 + ((⟨#[48, 49, 50, 51, 52, 53, 54, 55, 56, 57, 97, 98, 99, 100, 101, 102]⟩ : ByteArray).extract ((ji24) : Int).toNat ((wrap64 ((ji24) + 1)) : Int).toNat).size ≤ 9223372036854775807 then (if 0 ≤ (Int.tmod (wrap64 (bt a0_0 x4_1)) 16) then (if (Int.tmod (wrap64 (bt a0_0 x4_1)) 16) ≤ (wrap64 ((Int.tmod (wrap64 (bt a0_0 x4_1)) 16) + 1)) then (if (wrap64 ((Int.tmod (wrap64 (bt a0_0 x4_1)) 16) + 1)) ≤ 16 then (if ((⟨#[92]⟩ : ByteArray) ++ ((⟨#[48, 49, 50, 51, 52, 53, 54, 55, 56, 57, 97, 98, 99, 100, 101, 102]⟩ : ByteArray).extract ((ji24) : Int).toNat ((wrap64 ((ji24) + 1)) : Int).toNat)).size + ((⟨#[48, 49, 50, 51, 52, 53, 54, 55, 56, 57, 97, 98, 99, 100, 101, 102]⟩ : ByteArray).extract ((Int.tmod (wrap64 (bt a0_0 x4_1)) 16) : Int).toNat ((wrap64 ((Int.tmod (wrap64 (bt a0_0 x4_1)) 16) + 1)) : Int).toNat).size ≤ 9223372036854775807 then (if x3_1.size + (((⟨#[92]⟩ : ByteArray) ++ ((⟨#[48, 49, 50, 51, 52, 53, 54, 55, 56, 57, 97, 98, 99, 100, 101, 102]⟩ : ByteArray).extract ((ji24) : Int).toNat ((wrap64 ((ji24) + 1)) : Int).toNat)) ++ ((⟨#[48, 49, 50, 51, 52, 53, 54, 55, 56, 57, 97, 98, 99, 100, 101, 102]⟩ : ByteArray).extract ((Int.tmod (wrap64 (bt a0_0 x4_1)) 16) : Int).toNat ((wrap64 ((Int.tmod (wrap64 (bt a0_0 x4_1)) 16) + 1)) : Int).toNat)).size ≤ 9223372036854775807 then (concordanceref19_Show.l0 k1 (x3_1 ++ (((⟨#[92]⟩ : ByteArray) ++ ((⟨#[48, 49, 50, 51, 52, 53, 54, 55, 56, 57, 97, 98, 99, 100, 101, 102]⟩ : ByteArray).extract ((ji24) : Int).toNat ((wrap64 ((ji24) + 1)) : Int).toNat)) ++ ((⟨#[48, 49, 50, 51, 52, 53, 54, 55, 56, 57, 97, 98, 99, 100, 101, 102]⟩ : ByteArray).extract ((Int.tmod (wrap64 (bt a0_0 x4_1)) 16) : Int).toNat ((wrap64 ((Int.tmod (wrap64 (bt a0_0 x4_1)) 16) + 1)) : Int).toNat))) (wrap64 (x4_1 + 1)) a0_0 a0_1 true) else (none)) else (none)) else (none)) else (none)) else (none)) else (none)) else (none)) else (none)) else (none)) = some r := by first | (rw [hji24] at H; exact H) | (simp only [hji24] at H ⊢; exact H)
          have hji24w : (IntKind.i64.wrap (Int.tdiv (wrap64 (bt a0_0 x4_1)) 16)) = ji24 := (i64_w _).trans hji24
          by_cases c25 : 0 ≤ (ji24)
          ·rw [if_pos c25] at H
           have c25b0 := eq_true c25
           have c25b1 : decide (0 ≤ (ji24)) = true := decide_eq_true c25
           clear c25
           by_cases c26 : (ji24) ≤ (wrap64 ((ji24) + 1))
           ·rw [if_pos c26] at H
            have c26b0 := eq_true c26
            have c26b1 : decide ((ji24) ≤ (wrap64 ((ji24) + 1))) = true := decide_eq_true c26
            by_cases c27 : (wrap64 ((ji24) + 1)) ≤ 16
            ·rw [if_pos c27] at H
             have c27b0 := eq_true c27
             have c27b1 : decide ((wrap64 ((ji24) + 1)) ≤ 16) = true := decide_eq_true c27
             by_cases c28 : 1 + ((⟨#[48, 49, 50, 51, 52, 53, 54, 55, 56, 57, 97, 98, 99, 100, 101, 102]⟩ : ByteArray).extract ((ji24) : Int).toNat ((wrap64 ((ji24) + 1)) : Int).toNat).size ≤ 9223372036854775807
             ·rw [if_pos c28] at H
              have c28b0 := eq_true c28
              have c28b1 : decide (1 + ((⟨#[48, 49, 50, 51, 52, 53, 54, 55, 56, 57, 97, 98, 99, 100, 101, 102]⟩ : ByteArray).extract ((ji24) : Int).toNat ((wrap64 ((ji24) + 1)) : Int).toNat).size ≤ 9223372036854775807) = true := decide_eq_true c28
              try have c28b2 : (9223372036854775807 < 1 + ((⟨#[48, 49, 50, 51, 52, 53, 54, 55, 56, 57, 97, 98, 99, 100, 101, 102]⟩ : ByteArray).extract ((ji24) : Int).toNat ((wrap64 ((ji24) + 1)) : Int).toNat).size) = False := eq_false (Nat.not_lt.2 c28)
              obtain ⟨ji29, hji29⟩ : ∃ j_ : Int, (Int.tmod (wrap64 (bt a0_0 x4_1)) 16) = j_ := ⟨_, rfl⟩
              replace H : (if 0 ≤ (ji29) then (if (ji29) ≤ (wrap64 ((ji29) + 1)) then (if (wrap64 ((ji29) + 1)) ≤ 16 then (if ((⟨#[92]⟩ : ByteArray) ++ ((⟨#[48, 49, 50, 51, 52, 53, 54, 55, 56, 57, 97, 98, 99, 100, 101, 102]⟩ : ByteArray).extract ((ji24) : Int).toNat ((wrap64 ((ji24) + 1)) : Int).toNat)).size + ((⟨#[48, 49, 50, 51, 52, 53, 54, 55, 56, 57, 97, 98, 99, 100, 101, 102]⟩ : ByteArray).extract ((ji29) : Int).toNat ((wrap64 ((ji29) + 1)) : Int).toNat).size ≤ 9223372036854775807 then (if x3_1.size + (((⟨#[92]⟩ : ByteArray) ++ ((⟨#[48, 49, 50, 51, 52, 53, 54, 55, 56, 57, 97, 98, 99, 100, 101, 102]⟩ : ByteArray).extract ((ji24) : Int).toNat ((wrap64 ((ji24) + 1)) : Int).toNat)) ++ ((⟨#[48, 49, 50, 51, 52, 53, 54, 55, 56, 57, 97, 98, 99, 100, 101, 102]⟩ : ByteArray).extract ((ji29) : Int).toNat ((wrap64 ((ji29) + 1)) : Int).toNat)).size ≤ 9223372036854775807 then (concordanceref19_Show.l0 k1 (x3_1 ++ (((⟨#[92]⟩ : ByteArray) ++ ((⟨#[48, 49, 50, 51, 52, 53, 54, 55, 56, 57, 97, 98, 99, 100, 101, 102]⟩ : ByteArray).extract ((ji24) : Int).toNat ((wrap64 ((ji24) + 1)) : Int).toNat)) ++ ((⟨#[48, 49, 50, 51, 52, 53, 54, 55, 56, 57, 97, 98, 99, 100, 101, 102]⟩ : ByteArray).extract ((ji29) : Int).toNat ((wrap64 ((ji29) + 1)) : Int).toNat))) (wrap64 (x4_1 + 1)) a0_0 a0_1 true) else (none)) else (none)) else (none)) else (none)) else (none)) = some r := by first | (rw [hji29] at H; exact H) | (simp only [hji29] at H ⊢; exact H)
              by_cases c30 : 0 ≤ (ji29)
              ·rw [if_pos c30] at H
               have c30b0 := eq_true c30
               have c30b1 : decide (0 ≤ (ji29)) = true := decide_eq_true c30
               clear c30
               by_cases c31 : (ji29) ≤ (wrap64 ((ji29) + 1))
               ·rw [if_pos c31] at H
                have c31b0 := eq_true c31
                have c31b1 : decide ((ji29) ≤ (wrap64 ((ji29) + 1))) = true := decide_eq_true c31
                by_cases c32 : (wrap64 ((ji29) + 1)) ≤ 16
                ·rw [if_pos c32] at H
                 have c32b0 := eq_true c32
                 have c32b1 : decide ((wrap64 ((ji29) + 1)) ≤ 16) = true := decide_eq_true c32
                 by_cases c33 : ((⟨#[92]⟩ : ByteArray) ++ ((⟨#[48, 49, 50, 51, 52, 53, 54, 55, 56, 57, 97, 98, 99, 100, 101, 102]⟩ : ByteArray).extract ((ji24) : Int).toNat ((wrap64 ((ji24) + 1)) : Int).toNat)).size + ((⟨#[48, 49, 50, 51, 52, 53, 54, 55, 56, 57, 97, 98, 99, 100, 101, 102]⟩ : ByteArray).extract ((ji29) : Int).toNat ((wrap64 ((ji29) + 1)) : Int).toNat).size ≤ 9223372036854775807
                 ·rw [if_pos c33] at H
                  have c33b0 := eq_true c33
                  have c33b1 : decide (((⟨#[92]⟩ : ByteArray) ++ ((⟨#[48, 49, 50, 51, 52, 53, 54, 55, 56, 57, 97, 98, 99, 100, 101, 102]⟩ : ByteArray).extract ((ji24) : Int).toNat ((wrap64 ((ji24) + 1)) : Int).toNat)).size + ((⟨#[48, 49, 50, 51, 52, 53, 54, 55, 56, 57, 97, 98, 99, 100, 101, 102]⟩ : ByteArray).extract ((ji29) : Int).toNat ((wrap64 ((ji29) + 1)) : Int).toNat).size ≤ 9223372036854775807) = true := decide_eq_true c33
                  try have c33b2 : (9223372036854775807 < ((⟨#[92]⟩ : ByteArray) ++ ((⟨#[48, 49, 50, 51, 52, 53, 54, 55, 56, 57, 97, 98, 99, 100, 101, 102]⟩ : ByteArray).extract ((ji24) : Int).toNat ((wrap64 ((ji24) + 1)) : Int).toNat)).size + ((⟨#[48, 49, 50, 51, 52, 53, 54, 55, 56, 57, 97, 98, 99, 100, 101, 102]⟩ : ByteArray).extract ((ji29) : Int).toNat ((wrap64 ((ji29) + 1)) : Int).toNat).size) = False := eq_false (Nat.not_lt.2 c33)
                  try (have c33b4 := c33b2; simp only [ByteArray.size_append] at c33b4)
                  by_cases c34 : x3_1.size + (((⟨#[92]⟩ : ByteArray) ++ ((⟨#[48, 49, 50, 51, 52, 53, 54, 55, 56, 57, 97, 98, 99, 100, 101, 102]⟩ : ByteArray).extract ((ji24) : Int).toNat ((wrap64 ((ji24) + 1)) : Int).toNat)) ++ ((⟨#[48, 49, 50, 51, 52, 53, 54, 55, 56, 57, 97, 98, 99, 100, 101, 102]⟩ : ByteArray).extract ((ji29) : Int).toNat ((wrap64 ((ji29) + 1)) : Int).toNat)).size ≤ 9223372036854775807
                  ·rw [if_pos c34] at H
                   have c34b0 := eq_true c34
                   have c34b1 : decide (x3_1.size + (((⟨#[92]⟩ : ByteArray) ++ ((⟨#[48, 49, 50, 51, 52, 53, 54, 55, 56, 57, 97, 98, 99, 100, 101, 102]⟩ : ByteArray).extract ((ji24) : Int).toNat ((wrap64 ((ji24) + 1)) : Int).toNat)) ++ ((⟨#[48, 49, 50, 51, 52, 53, 54, 55, 56, 57, 97, 98, 99, 100, 101, 102]⟩ : ByteArray).extract ((ji29) : Int).toNat ((wrap64 ((ji29) + 1)) : Int).toNat)).size ≤ 9223372036854775807) = true := decide_eq_true c34
                   try have c34b2 : (9223372036854775807 < x3_1.size + (((⟨#[92]⟩ : ByteArray) ++ ((⟨#[48, 49, 50, 51, 52, 53, 54, 55, 56, 57, 97, 98, 99, 100, 101, 102]⟩ : ByteArray).extract ((ji24) : Int).toNat ((wrap64 ((ji24) + 1)) : Int).toNat)) ++ ((⟨#[48, 49, 50, 51, 52, 53, 54, 55, 56, 57, 97, 98, 99, 100, 101, 102]⟩ : ByteArray).extract ((ji29) : Int).toNat ((wrap64 ((ji29) + 1)) : Int).toNat)).size) = False := eq_false (Nat.not_lt.2 c34)
                   try (have c34b4 := c34b2; simp only [ByteArray.size_append] at c34b4)
                   have H' := Aside0.mk H
                   clear H
                   have hcz35_0 : wr.cell? ⟨gb317, 0, none⟩ = some (.string a0_0) := (blk_cell BK317.out 0).trans rfl
                   have hcz35_1 : wr.cell? ⟨gb317, 1, none⟩ = some (.int .i64 a0_1) := (blk_cell BK317.out 1).trans rfl
                   have hcz35_2 : wr.cell? ⟨gb317, 2, none⟩ = some (.bool true) := (blk_cell BK317.out 2).trans rfl
                   have hfz35_0 := blk_frozen BK317.out 0
                   have hfz35_1 := blk_frozen BK317.out 1
                   have hfz35_2 := blk_frozen BK317.out 2
                   have p7 : 0 ≤ (x4_1 : Int) := of_decide_eq_true (by first | (with_reducible assumption) | assumption)
                   have q7 : x4_1 < (a0_0.size : Int) := of_decide_eq_true (by first | (with_reducible assumption) | assumption)
                   have hx7 := bt_at a0_0 x4_1
                   replace p7 := eq_true p7
                   replace q7 := eq_true q7
                   go_wp2
                   repeat (go_quiet (fail); try go_wp2)
                   go_roundg k1
                   case measure => have := HK1.out; omega
                   case rel => exact ⟨(x3_1 ++ (((⟨#[92]⟩ : ByteArray) ++ ((⟨#[48, 49, 50, 51, 52, 53, 54, 55, 56, 57, 97, 98, 99, 100, 101, 102]⟩ : ByteArray).extract ((ji24) : Int).toNat ((wrap64 ((ji24) + 1)) : Int).toNat)) ++ ((⟨#[48, 49, 50, 51, 52, 53, 54, 55, 56, 57, 97, 98, 99, 100, 101, 102]⟩ : ByteArray).extract ((ji29) : Int).toNat ((wrap64 ((ji29) + 1)) : Int).toNat))), (wrap64 (x4_1 + 1)), (by first | rfl | (simp; done) | (simp only [← hji24, ← hji29] <;> (first | rfl | simp)) | (simp [*]; done)), (by first | rfl | (simp; done) | (simp [*]; done)), H', ⟨by have := HK1.out; omega⟩, ⟨by (with_reducible repeat (first | refine blk_drewN ?_ _ | refine blk_drew ?_ | refine blk_alloc ?_ _)); exact BK317.out⟩, ⟨by repeat (first | (with_reducible first | exact HB.out | apply below_alloc | apply pw_below_drewN | apply below_drew1 | refine below_set ?_ GE317.out) | exact HB.out)⟩⟩
                  ·rw [if_neg c34] at H
                   exact absurd H (by simp)
                 ·rw [if_neg c33] at H
                  exact absurd H (by simp)
                ·rw [if_neg c32] at H
                 exact absurd H (by simp)
               ·rw [if_neg c31] at H
                exact absurd H (by simp)
              ·rw [if_neg c30] at H
               exact absurd H (by simp)
             ·rw [if_neg c28] at H
              exact absurd H (by simp)
            ·rw [if_neg c27] at H
             exact absurd H (by simp)
           ·rw [if_neg c26] at H
            exact absurd H (by simp)
          ·rw [if_neg c25] at H
           exact absurd H (by simp)
         ·rw [if_neg c23] at H
          have c23b0 : ((wrap64 (bt a0_0 x4_1)) == 92) = false := beq_eq_false_iff_ne.mpr c23
          have c23b1 : ((wrap64 (bt a0_0 x4_1)) != 92) = true := bne_iff_ne.mpr c23
          have c36b0 := eq_true (of_decide_eq_true (by first | (with_reducible assumption) | assumption) : 0 ≤ x4_1)
          by_cases c37 : x4_1 ≤ (wrap64 (x4_1 + 1))
          ·rw [if_pos c37] at H
           have c37b0 := eq_true c37
           have c37b1 : decide (x4_1 ≤ (wrap64 (x4_1 + 1))) = true := decide_eq_true c37
           by_cases c38 : (wrap64 (x4_1 + 1)) ≤ (a0_0.size : Int)
           ·rw [if_pos c38] at H
            have c38b0 := eq_true c38
            have c38b1 : decide ((wrap64 (x4_1 + 1)) ≤ (a0_0.size : Int)) = true := decide_eq_true c38
            by_cases c39 : x3_1.size + (a0_0.extract (x4_1 : Int).toNat ((wrap64 (x4_1 + 1)) : Int).toNat).size ≤ 9223372036854775807
            ·rw [if_pos c39] at H
             have c39b0 := eq_true c39
             have c39b1 : decide (x3_1.size + (a0_0.extract (x4_1 : Int).toNat ((wrap64 (x4_1 + 1)) : Int).toNat).size ≤ 9223372036854775807) = true := decide_eq_true c39
             try have c39b2 : (9223372036854775807 < x3_1.size + (a0_0.extract (x4_1 : Int).toNat ((wrap64 (x4_1 + 1)) : Int).toNat).size) = False := eq_false (Nat.not_lt.2 c39)
             try (have hz_ : (a0_0.extract x4_1.toNat (wrap64 (x4_1 + 1)).toNat).size = (wrap64 (x4_1 + 1)).toNat - x4_1.toNat := by rw [ByteArray.size_extract, Nat.min_eq_left (Int.toNat_le.mpr (of_eq_true (by assumption)))]); (have c39b6 := c39b2; rw [hz_] at c39b6; clear hz_)
             have H' := Aside0.mk H
             clear H
             have hcz40_0 : wr.cell? ⟨gb317, 0, none⟩ = some (.string a0_0) := (blk_cell BK317.out 0).trans rfl
             have hcz40_1 : wr.cell? ⟨gb317, 1, none⟩ = some (.int .i64 a0_1) := (blk_cell BK317.out 1).trans rfl
             have hcz40_2 : wr.cell? ⟨gb317, 2, none⟩ = some (.bool true) := (blk_cell BK317.out 2).trans rfl
             have hfz40_0 := blk_frozen BK317.out 0
             have hfz40_1 := blk_frozen BK317.out 1
             have hfz40_2 := blk_frozen BK317.out 2
             have p7 : 0 ≤ (x4_1 : Int) := of_decide_eq_true (by first | (with_reducible assumption) | assumption)
             have q7 : x4_1 < (a0_0.size : Int) := of_decide_eq_true (by first | (with_reducible assumption) | assumption)
             have hx7 := bt_at a0_0 x4_1
             replace p7 := eq_true p7
             replace q7 := eq_true q7
             go_wp2
             repeat (go_quiet (fail); try go_wp2)
             go_roundg k1
             case measure => have := HK1.out; omega
             case rel => exact ⟨(x3_1 ++ (a0_0.extract (x4_1 : Int).toNat ((wrap64 (x4_1 + 1)) : Int).toNat)), (wrap64 (x4_1 + 1)), (by first | rfl | (simp; done) | (simp [*]; done)), (by first | rfl | (simp; done) | (simp [*]; done)), H', ⟨by have := HK1.out; omega⟩, ⟨by (with_reducible repeat (first | refine blk_drewN ?_ _ | refine blk_drew ?_ | refine blk_alloc ?_ _)); exact BK317.out⟩, ⟨by repeat (first | (with_reducible first | exact HB.out | apply below_alloc | apply pw_below_drewN | apply below_drew1 | refine below_set ?_ GE317.out) | exact HB.out)⟩⟩
            ·rw [if_neg c39] at H
             exact absurd H (by simp)
           ·rw [if_neg c38] at H
            exact absurd H (by simp)
          ·rw [if_neg c37] at H
           exact absurd H (by simp)
       ·rw [if_neg c9] at H
        have c9b0 : decide ((wrap64 (bt a0_0 x4_1)) < 127) = false := decide_eq_false c9
        clear c9
        obtain ⟨ji41, hji41⟩ : ∃ j_ : Int, (wrap64 (Int.tdiv (wrap64 (bt a0_0 x4_1)) 16)) = j_ := ⟨_, rfl⟩
        replace H : (if 0 ≤ (ji41) then (if (ji41) ≤ (wrap64 ((ji41) + 1)) then (if (wrap64 ((ji41) + 1)) ≤ 16 then (if 1 + ((⟨#[48, 49, 50, 51, 52, 53, 54, 55, 56, 57, 97, 98, 99, 100, 101, 102]⟩ : ByteArray).extract ((ji41) : Int).toNat ((wrap64 ((ji41) + 1)) : Int).toNat).size ≤ 9223372036854775807 then (if 0 ≤ (Int.tmod (wrap64 (bt a0_0 x4_1)) 16) then (if (Int.tmod (wrap64 (bt a0_0 x4_1)) 16) ≤ (wrap64 ((Int.tmod (wrap64 (bt a0_0 x4_1)) 16) + 1)) then (if (wrap64 ((Int.tmod (wrap64 (bt a0_0 x4_1)) 16) + 1)) ≤ 16 then (if ((⟨#[92]⟩ : ByteArray) ++ ((⟨#[48, 49, 50, 51, 52, 53, 54, 55, 56, 57, 97, 98, 99, 100, 101, 102]⟩ : ByteArray).extract ((ji41) : Int).toNat ((wrap64 ((ji41) + 1)) : Int).toNat)).size + ((⟨#[48, 49, 50, 51, 52, 53, 54, 55, 56, 57, 97, 98, 99, 100, 101, 102]⟩ : ByteArray).extract ((Int.tmod (wrap64 (bt a0_0 x4_1)) 16) : Int).toNat ((wrap64 ((Int.tmod (wrap64 (bt a0_0 x4_1)) 16) + 1)) : Int).toNat).size ≤ 9223372036854775807 then (if x3_1.size + (((⟨#[92]⟩ : ByteArray) ++ ((⟨#[48, 49, 50, 51, 52, 53, 54, 55, 56, 57, 97, 98, 99, 100, 101, 102]⟩ : ByteArray).extract ((ji41) : Int).toNat ((wrap64 ((ji41) + 1)) : Int).toNat)) ++ ((⟨#[48, 49, 50, 51, 52, 53, 54, 55, 56, 57, 97, 98, 99, 100, 101, 102]⟩ : ByteArray).extract ((Int.tmod (wrap64 (bt a0_0 x4_1)) 16) : Int).toNat ((wrap64 ((Int.tmod (wrap64 (bt a0_0 x4_1)) 16) + 1)) : Int).toNat)).size ≤ 9223372036854775807 then (concordanceref19_Show.l0 k1 (x3_1 ++ (((⟨#[92]⟩ : ByteArray) ++ ((⟨#[48, 49, 50, 51, 52, 53, 54, 55, 56, 57, 97, 98, 99, 100, 101, 102]⟩ : ByteArray).extract ((ji41) : Int).toNat ((wrap64 ((ji41) + 1)) : Int).toNat)) ++ ((⟨#[48, 49, 50, 51, 52, 53, 54, 55, 56, 57, 97, 98, 99, 100, 101, 102]⟩ : ByteArray).extract ((Int.tmod (wrap64 (bt a0_0 x4_1)) 16) : Int).toNat ((wrap64 ((Int.tmod (wrap64 (bt a0_0 x4_1)) 16) + 1)) : Int).toNat))) (wrap64 (x4_1 + 1)) a0_0 a0_1 true) else (none)) else (none)) else (none)) else (none)) else (none)) else (none)) else (none)) else (none)) else (none)) = some r := by first | (rw [hji41] at H; exact H) | (simp only [hji41] at H ⊢; exact H)
        have hji41w : (IntKind.i64.wrap (Int.tdiv (wrap64 (bt a0_0 x4_1)) 16)) = ji41 := (i64_w _).trans hji41
        by_cases c42 : 0 ≤ (ji41)
        ·rw [if_pos c42] at H
         have c42b0 := eq_true c42
         have c42b1 : decide (0 ≤ (ji41)) = true := decide_eq_true c42
         clear c42
         by_cases c43 : (ji41) ≤ (wrap64 ((ji41) + 1))
         ·rw [if_pos c43] at H
          have c43b0 := eq_true c43
          have c43b1 : decide ((ji41) ≤ (wrap64 ((ji41) + 1))) = true := decide_eq_true c43
          by_cases c44 : (wrap64 ((ji41) + 1)) ≤ 16
          ·rw [if_pos c44] at H
           have c44b0 := eq_true c44
           have c44b1 : decide ((wrap64 ((ji41) + 1)) ≤ 16) = true := decide_eq_true c44
           by_cases c45 : 1 + ((⟨#[48, 49, 50, 51, 52, 53, 54, 55, 56, 57, 97, 98, 99, 100, 101, 102]⟩ : ByteArray).extract ((ji41) : Int).toNat ((wrap64 ((ji41) + 1)) : Int).toNat).size ≤ 9223372036854775807
           ·rw [if_pos c45] at H
            have c45b0 := eq_true c45
            have c45b1 : decide (1 + ((⟨#[48, 49, 50, 51, 52, 53, 54, 55, 56, 57, 97, 98, 99, 100, 101, 102]⟩ : ByteArray).extract ((ji41) : Int).toNat ((wrap64 ((ji41) + 1)) : Int).toNat).size ≤ 9223372036854775807) = true := decide_eq_true c45
            try have c45b2 : (9223372036854775807 < 1 + ((⟨#[48, 49, 50, 51, 52, 53, 54, 55, 56, 57, 97, 98, 99, 100, 101, 102]⟩ : ByteArray).extract ((ji41) : Int).toNat ((wrap64 ((ji41) + 1)) : Int).toNat).size) = False := eq_false (Nat.not_lt.2 c45)
            obtain ⟨ji46, hji46⟩ : ∃ j_ : Int, (Int.tmod (wrap64 (bt a0_0 x4_1)) 16) = j_ := ⟨_, rfl⟩
            replace H : (if 0 ≤ (ji46) then (if (ji46) ≤ (wrap64 ((ji46) + 1)) then (if (wrap64 ((ji46) + 1)) ≤ 16 then (if ((⟨#[92]⟩ : ByteArray) ++ ((⟨#[48, 49, 50, 51, 52, 53, 54, 55, 56, 57, 97, 98, 99, 100, 101, 102]⟩ : ByteArray).extract ((ji41) : Int).toNat ((wrap64 ((ji41) + 1)) : Int).toNat)).size + ((⟨#[48, 49, 50, 51, 52, 53, 54, 55, 56, 57, 97, 98, 99, 100, 101, 102]⟩ : ByteArray).extract ((ji46) : Int).toNat ((wrap64 ((ji46) + 1)) : Int).toNat).size ≤ 9223372036854775807 then (if x3_1.size + (((⟨#[92]⟩ : ByteArray) ++ ((⟨#[48, 49, 50, 51, 52, 53, 54, 55, 56, 57, 97, 98, 99, 100, 101, 102]⟩ : ByteArray).extract ((ji41) : Int).toNat ((wrap64 ((ji41) + 1)) : Int).toNat)) ++ ((⟨#[48, 49, 50, 51, 52, 53, 54, 55, 56, 57, 97, 98, 99, 100, 101, 102]⟩ : ByteArray).extract ((ji46) : Int).toNat ((wrap64 ((ji46) + 1)) : Int).toNat)).size ≤ 9223372036854775807 then (concordanceref19_Show.l0 k1 (x3_1 ++ (((⟨#[92]⟩ : ByteArray) ++ ((⟨#[48, 49, 50, 51, 52, 53, 54, 55, 56, 57, 97, 98, 99, 100, 101, 102]⟩ : ByteArray).extract ((ji41) : Int).toNat ((wrap64 ((ji41) + 1)) : Int).toNat)) ++ ((⟨#[48, 49, 50, 51, 52, 53, 54, 55, 56, 57, 97, 98, 99, 100, 101, 102]⟩ : ByteArray).extract ((ji46) : Int).toNat ((wrap64 ((ji46) + 1)) : Int).toNat))) (wrap64 (x4_1 + 1)) a0_0 a0_1 true) else (none)) else (none)) else (none)) else (none)) else (none)) = some r := by first | (rw [hji46] at H; exact H) | (simp only [hji46] at H ⊢; exact H)
            by_cases c47 : 0 ≤ (ji46)
            ·rw [if_pos c47] at H
             have c47b0 := eq_true c47
             have c47b1 : decide (0 ≤ (ji46)) = true := decide_eq_true c47
             clear c47
             by_cases c48 : (ji46) ≤ (wrap64 ((ji46) + 1))
             ·rw [if_pos c48] at H
              have c48b0 := eq_true c48
              have c48b1 : decide ((ji46) ≤ (wrap64 ((ji46) + 1))) = true := decide_eq_true c48
              by_cases c49 : (wrap64 ((ji46) + 1)) ≤ 16
              ·rw [if_pos c49] at H
               have c49b0 := eq_true c49
               have c49b1 : decide ((wrap64 ((ji46) + 1)) ≤ 16) = true := decide_eq_true c49
               by_cases c50 : ((⟨#[92]⟩ : ByteArray) ++ ((⟨#[48, 49, 50, 51, 52, 53, 54, 55, 56, 57, 97, 98, 99, 100, 101, 102]⟩ : ByteArray).extract ((ji41) : Int).toNat ((wrap64 ((ji41) + 1)) : Int).toNat)).size + ((⟨#[48, 49, 50, 51, 52, 53, 54, 55, 56, 57, 97, 98, 99, 100, 101, 102]⟩ : ByteArray).extract ((ji46) : Int).toNat ((wrap64 ((ji46) + 1)) : Int).toNat).size ≤ 9223372036854775807
               ·rw [if_pos c50] at H
                have c50b0 := eq_true c50
                have c50b1 : decide (((⟨#[92]⟩ : ByteArray) ++ ((⟨#[48, 49, 50, 51, 52, 53, 54, 55, 56, 57, 97, 98, 99, 100, 101, 102]⟩ : ByteArray).extract ((ji41) : Int).toNat ((wrap64 ((ji41) + 1)) : Int).toNat)).size + ((⟨#[48, 49, 50, 51, 52, 53, 54, 55, 56, 57, 97, 98, 99, 100, 101, 102]⟩ : ByteArray).extract ((ji46) : Int).toNat ((wrap64 ((ji46) + 1)) : Int).toNat).size ≤ 9223372036854775807) = true := decide_eq_true c50
                try have c50b2 : (9223372036854775807 < ((⟨#[92]⟩ : ByteArray) ++ ((⟨#[48, 49, 50, 51, 52, 53, 54, 55, 56, 57, 97, 98, 99, 100, 101, 102]⟩ : ByteArray).extract ((ji41) : Int).toNat ((wrap64 ((ji41) + 1)) : Int).toNat)).size + ((⟨#[48, 49, 50, 51, 52, 53, 54, 55, 56, 57, 97, 98, 99, 100, 101, 102]⟩ : ByteArray).extract ((ji46) : Int).toNat ((wrap64 ((ji46) + 1)) : Int).toNat).size) = False := eq_false (Nat.not_lt.2 c50)
                try (have c50b4 := c50b2; simp only [ByteArray.size_append] at c50b4)
                by_cases c51 : x3_1.size + (((⟨#[92]⟩ : ByteArray) ++ ((⟨#[48, 49, 50, 51, 52, 53, 54, 55, 56, 57, 97, 98, 99, 100, 101, 102]⟩ : ByteArray).extract ((ji41) : Int).toNat ((wrap64 ((ji41) + 1)) : Int).toNat)) ++ ((⟨#[48, 49, 50, 51, 52, 53, 54, 55, 56, 57, 97, 98, 99, 100, 101, 102]⟩ : ByteArray).extract ((ji46) : Int).toNat ((wrap64 ((ji46) + 1)) : Int).toNat)).size ≤ 9223372036854775807
                ·rw [if_pos c51] at H
                 have c51b0 := eq_true c51
                 have c51b1 : decide (x3_1.size + (((⟨#[92]⟩ : ByteArray) ++ ((⟨#[48, 49, 50, 51, 52, 53, 54, 55, 56, 57, 97, 98, 99, 100, 101, 102]⟩ : ByteArray).extract ((ji41) : Int).toNat ((wrap64 ((ji41) + 1)) : Int).toNat)) ++ ((⟨#[48, 49, 50, 51, 52, 53, 54, 55, 56, 57, 97, 98, 99, 100, 101, 102]⟩ : ByteArray).extract ((ji46) : Int).toNat ((wrap64 ((ji46) + 1)) : Int).toNat)).size ≤ 9223372036854775807) = true := decide_eq_true c51
                 try have c51b2 : (9223372036854775807 < x3_1.size + (((⟨#[92]⟩ : ByteArray) ++ ((⟨#[48, 49, 50, 51, 52, 53, 54, 55, 56, 57, 97, 98, 99, 100, 101, 102]⟩ : ByteArray).extract ((ji41) : Int).toNat ((wrap64 ((ji41) + 1)) : Int).toNat)) ++ ((⟨#[48, 49, 50, 51, 52, 53, 54, 55, 56, 57, 97, 98, 99, 100, 101, 102]⟩ : ByteArray).extract ((ji46) : Int).toNat ((wrap64 ((ji46) + 1)) : Int).toNat)).size) = False := eq_false (Nat.not_lt.2 c51)
                 try (have c51b4 := c51b2; simp only [ByteArray.size_append] at c51b4)
                 have H' := Aside0.mk H
                 clear H
                 have hcz52_0 : wr.cell? ⟨gb317, 0, none⟩ = some (.string a0_0) := (blk_cell BK317.out 0).trans rfl
                 have hcz52_1 : wr.cell? ⟨gb317, 1, none⟩ = some (.int .i64 a0_1) := (blk_cell BK317.out 1).trans rfl
                 have hcz52_2 : wr.cell? ⟨gb317, 2, none⟩ = some (.bool true) := (blk_cell BK317.out 2).trans rfl
                 have hfz52_0 := blk_frozen BK317.out 0
                 have hfz52_1 := blk_frozen BK317.out 1
                 have hfz52_2 := blk_frozen BK317.out 2
                 have p7 : 0 ≤ (x4_1 : Int) := of_decide_eq_true (by first | (with_reducible assumption) | assumption)
                 have q7 : x4_1 < (a0_0.size : Int) := of_decide_eq_true (by first | (with_reducible assumption) | assumption)
                 have hx7 := bt_at a0_0 x4_1
                 replace p7 := eq_true p7
                 replace q7 := eq_true q7
                 go_wp2
                 repeat (go_quiet (fail); try go_wp2)
                 go_roundg k1
                 case measure => have := HK1.out; omega
                 case rel => exact ⟨(x3_1 ++ (((⟨#[92]⟩ : ByteArray) ++ ((⟨#[48, 49, 50, 51, 52, 53, 54, 55, 56, 57, 97, 98, 99, 100, 101, 102]⟩ : ByteArray).extract ((ji41) : Int).toNat ((wrap64 ((ji41) + 1)) : Int).toNat)) ++ ((⟨#[48, 49, 50, 51, 52, 53, 54, 55, 56, 57, 97, 98, 99, 100, 101, 102]⟩ : ByteArray).extract ((ji46) : Int).toNat ((wrap64 ((ji46) + 1)) : Int).toNat))), (wrap64 (x4_1 + 1)), (by first | rfl | (simp; done) | (simp only [← hji41, ← hji46] <;> (first | rfl | simp)) | (simp [*]; done)), (by first | rfl | (simp; done) | (simp [*]; done)), H', ⟨by have := HK1.out; omega⟩, ⟨by (with_reducible repeat (first | refine blk_drewN ?_ _ | refine blk_drew ?_ | refine blk_alloc ?_ _)); exact BK317.out⟩, ⟨by repeat (first | (with_reducible first | exact HB.out | apply below_alloc | apply pw_below_drewN | apply below_drew1 | refine below_set ?_ GE317.out) | exact HB.out)⟩⟩
                ·rw [if_neg c51] at H
                 exact absurd H (by simp)
               ·rw [if_neg c50] at H
                exact absurd H (by simp)
              ·rw [if_neg c49] at H
               exact absurd H (by simp)
             ·rw [if_neg c48] at H
              exact absurd H (by simp)
            ·rw [if_neg c47] at H
             exact absurd H (by simp)
           ·rw [if_neg c45] at H
            exact absurd H (by simp)
          ·rw [if_neg c44] at H
           exact absurd H (by simp)
         ·rw [if_neg c43] at H
          exact absurd H (by simp)
        ·rw [if_neg c42] at H
         exact absurd H (by simp)
      ·rw [if_neg c8] at H
       have c8b0 : decide (31 < (wrap64 (bt a0_0 x4_1))) = false := decide_eq_false c8
       clear c8
       obtain ⟨ji53, hji53⟩ : ∃ j_ : Int, (wrap64 (Int.tdiv (wrap64 (bt a0_0 x4_1)) 16)) = j_ := ⟨_, rfl⟩
       replace H : (if 0 ≤ (ji53) then (if (ji53) ≤ (wrap64 ((ji53) + 1)) then (if (wrap64 ((ji53) + 1)) ≤ 16 then (if 1 + ((⟨#[48, 49, 50, 51, 52, 53, 54, 55, 56, 57, 97, 98, 99, 100, 101, 102]⟩ : ByteArray).extract ((ji53) : Int).toNat ((wrap64 ((ji53) + 1)) : Int).toNat).size ≤ 9223372036854775807 then (if 0 ≤ (Int.tmod (wrap64 (bt a0_0 x4_1)) 16) then (if (Int.tmod (wrap64 (bt a0_0 x4_1)) 16) ≤ (wrap64 ((Int.tmod (wrap64 (bt a0_0 x4_1)) 16) + 1)) then (if (wrap64 ((Int.tmod (wrap64 (bt a0_0 x4_1)) 16) + 1)) ≤ 16 then (if ((⟨#[92]⟩ : ByteArray) ++ ((⟨#[48, 49, 50, 51, 52, 53, 54, 55, 56, 57, 97, 98, 99, 100, 101, 102]⟩ : ByteArray).extract ((ji53) : Int).toNat ((wrap64 ((ji53) + 1)) : Int).toNat)).size + ((⟨#[48, 49, 50, 51, 52, 53, 54, 55, 56, 57, 97, 98, 99, 100, 101, 102]⟩ : ByteArray).extract ((Int.tmod (wrap64 (bt a0_0 x4_1)) 16) : Int).toNat ((wrap64 ((Int.tmod (wrap64 (bt a0_0 x4_1)) 16) + 1)) : Int).toNat).size ≤ 9223372036854775807 then (if x3_1.size + (((⟨#[92]⟩ : ByteArray) ++ ((⟨#[48, 49, 50, 51, 52, 53, 54, 55, 56, 57, 97, 98, 99, 100, 101, 102]⟩ : ByteArray).extract ((ji53) : Int).toNat ((wrap64 ((ji53) + 1)) : Int).toNat)) ++ ((⟨#[48, 49, 50, 51, 52, 53, 54, 55, 56, 57, 97, 98, 99, 100, 101, 102]⟩ : ByteArray).extract ((Int.tmod (wrap64 (bt a0_0 x4_1)) 16) : Int).toNat ((wrap64 ((Int.tmod (wrap64 (bt a0_0 x4_1)) 16) + 1)) : Int).toNat)).size ≤ 9223372036854775807 then (concordanceref19_Show.l0 k1 (x3_1 ++ (((⟨#[92]⟩ : ByteArray) ++ ((⟨#[48, 49, 50, 51, 52, 53, 54, 55, 56, 57, 97, 98, 99, 100, 101, 102]⟩ : ByteArray).extract ((ji53) : Int).toNat ((wrap64 ((ji53) + 1)) : Int).toNat)) ++ ((⟨#[48, 49, 50, 51, 52, 53, 54, 55, 56, 57, 97, 98, 99, 100, 101, 102]⟩ : ByteArray).extract ((Int.tmod (wrap64 (bt a0_0 x4_1)) 16) : Int).toNat ((wrap64 ((Int.tmod (wrap64 (bt a0_0 x4_1)) 16) + 1)) : Int).toNat))) (wrap64 (x4_1 + 1)) a0_0 a0_1 true) else (none)) else (none)) else (none)) else (none)) else (none)) else (none)) else (none)) else (none)) else (none)) = some r := by first | (rw [hji53] at H; exact H) | (simp only [hji53] at H ⊢; exact H)
       have hji53w : (IntKind.i64.wrap (Int.tdiv (wrap64 (bt a0_0 x4_1)) 16)) = ji53 := (i64_w _).trans hji53
       by_cases c54 : 0 ≤ (ji53)
       ·rw [if_pos c54] at H
        have c54b0 := eq_true c54
        have c54b1 : decide (0 ≤ (ji53)) = true := decide_eq_true c54
        clear c54
        by_cases c55 : (ji53) ≤ (wrap64 ((ji53) + 1))
        ·rw [if_pos c55] at H
         have c55b0 := eq_true c55
         have c55b1 : decide ((ji53) ≤ (wrap64 ((ji53) + 1))) = true := decide_eq_true c55
         by_cases c56 : (wrap64 ((ji53) + 1)) ≤ 16
         ·rw [if_pos c56] at H
          have c56b0 := eq_true c56
          have c56b1 : decide ((wrap64 ((ji53) + 1)) ≤ 16) = true := decide_eq_true c56
          by_cases c57 : 1 + ((⟨#[48, 49, 50, 51, 52, 53, 54, 55, 56, 57, 97, 98, 99, 100, 101, 102]⟩ : ByteArray).extract ((ji53) : Int).toNat ((wrap64 ((ji53) + 1)) : Int).toNat).size ≤ 9223372036854775807
          ·rw [if_pos c57] at H
           have c57b0 := eq_true c57
           have c57b1 : decide (1 + ((⟨#[48, 49, 50, 51, 52, 53, 54, 55, 56, 57, 97, 98, 99, 100, 101, 102]⟩ : ByteArray).extract ((ji53) : Int).toNat ((wrap64 ((ji53) + 1)) : Int).toNat).size ≤ 9223372036854775807) = true := decide_eq_true c57
           try have c57b2 : (9223372036854775807 < 1 + ((⟨#[48, 49, 50, 51, 52, 53, 54, 55, 56, 57, 97, 98, 99, 100, 101, 102]⟩ : ByteArray).extract ((ji53) : Int).toNat ((wrap64 ((ji53) + 1)) : Int).toNat).size) = False := eq_false (Nat.not_lt.2 c57)
           obtain ⟨ji58, hji58⟩ : ∃ j_ : Int, (Int.tmod (wrap64 (bt a0_0 x4_1)) 16) = j_ := ⟨_, rfl⟩
           replace H : (if 0 ≤ (ji58) then (if (ji58) ≤ (wrap64 ((ji58) + 1)) then (if (wrap64 ((ji58) + 1)) ≤ 16 then (if ((⟨#[92]⟩ : ByteArray) ++ ((⟨#[48, 49, 50, 51, 52, 53, 54, 55, 56, 57, 97, 98, 99, 100, 101, 102]⟩ : ByteArray).extract ((ji53) : Int).toNat ((wrap64 ((ji53) + 1)) : Int).toNat)).size + ((⟨#[48, 49, 50, 51, 52, 53, 54, 55, 56, 57, 97, 98, 99, 100, 101, 102]⟩ : ByteArray).extract ((ji58) : Int).toNat ((wrap64 ((ji58) + 1)) : Int).toNat).size ≤ 9223372036854775807 then (if x3_1.size + (((⟨#[92]⟩ : ByteArray) ++ ((⟨#[48, 49, 50, 51, 52, 53, 54, 55, 56, 57, 97, 98, 99, 100, 101, 102]⟩ : ByteArray).extract ((ji53) : Int).toNat ((wrap64 ((ji53) + 1)) : Int).toNat)) ++ ((⟨#[48, 49, 50, 51, 52, 53, 54, 55, 56, 57, 97, 98, 99, 100, 101, 102]⟩ : ByteArray).extract ((ji58) : Int).toNat ((wrap64 ((ji58) + 1)) : Int).toNat)).size ≤ 9223372036854775807 then (concordanceref19_Show.l0 k1 (x3_1 ++ (((⟨#[92]⟩ : ByteArray) ++ ((⟨#[48, 49, 50, 51, 52, 53, 54, 55, 56, 57, 97, 98, 99, 100, 101, 102]⟩ : ByteArray).extract ((ji53) : Int).toNat ((wrap64 ((ji53) + 1)) : Int).toNat)) ++ ((⟨#[48, 49, 50, 51, 52, 53, 54, 55, 56, 57, 97, 98, 99, 100, 101, 102]⟩ : ByteArray).extract ((ji58) : Int).toNat ((wrap64 ((ji58) + 1)) : Int).toNat))) (wrap64 (x4_1 + 1)) a0_0 a0_1 true) else (none)) else (none)) else (none)) else (none)) else (none)) = some r := by first | (rw [hji58] at H; exact H) | (simp only [hji58] at H ⊢; exact H)
           by_cases c59 : 0 ≤ (ji58)
           ·rw [if_pos c59] at H
            have c59b0 := eq_true c59
            have c59b1 : decide (0 ≤ (ji58)) = true := decide_eq_true c59
            clear c59
            by_cases c60 : (ji58) ≤ (wrap64 ((ji58) + 1))
            ·rw [if_pos c60] at H
             have c60b0 := eq_true c60
             have c60b1 : decide ((ji58) ≤ (wrap64 ((ji58) + 1))) = true := decide_eq_true c60
             by_cases c61 : (wrap64 ((ji58) + 1)) ≤ 16
             ·rw [if_pos c61] at H
              have c61b0 := eq_true c61
              have c61b1 : decide ((wrap64 ((ji58) + 1)) ≤ 16) = true := decide_eq_true c61
              by_cases c62 : ((⟨#[92]⟩ : ByteArray) ++ ((⟨#[48, 49, 50, 51, 52, 53, 54, 55, 56, 57, 97, 98, 99, 100, 101, 102]⟩ : ByteArray).extract ((ji53) : Int).toNat ((wrap64 ((ji53) + 1)) : Int).toNat)).size + ((⟨#[48, 49, 50, 51, 52, 53, 54, 55, 56, 57, 97, 98, 99, 100, 101, 102]⟩ : ByteArray).extract ((ji58) : Int).toNat ((wrap64 ((ji58) + 1)) : Int).toNat).size ≤ 9223372036854775807
              ·rw [if_pos c62] at H
               have c62b0 := eq_true c62
               have c62b1 : decide (((⟨#[92]⟩ : ByteArray) ++ ((⟨#[48, 49, 50, 51, 52, 53, 54, 55, 56, 57, 97, 98, 99, 100, 101, 102]⟩ : ByteArray).extract ((ji53) : Int).toNat ((wrap64 ((ji53) + 1)) : Int).toNat)).size + ((⟨#[48, 49, 50, 51, 52, 53, 54, 55, 56, 57, 97, 98, 99, 100, 101, 102]⟩ : ByteArray).extract ((ji58) : Int).toNat ((wrap64 ((ji58) + 1)) : Int).toNat).size ≤ 9223372036854775807) = true := decide_eq_true c62
               try have c62b2 : (9223372036854775807 < ((⟨#[92]⟩ : ByteArray) ++ ((⟨#[48, 49, 50, 51, 52, 53, 54, 55, 56, 57, 97, 98, 99, 100, 101, 102]⟩ : ByteArray).extract ((ji53) : Int).toNat ((wrap64 ((ji53) + 1)) : Int).toNat)).size + ((⟨#[48, 49, 50, 51, 52, 53, 54, 55, 56, 57, 97, 98, 99, 100, 101, 102]⟩ : ByteArray).extract ((ji58) : Int).toNat ((wrap64 ((ji58) + 1)) : Int).toNat).size) = False := eq_false (Nat.not_lt.2 c62)
               try (have c62b4 := c62b2; simp only [ByteArray.size_append] at c62b4)
               by_cases c63 : x3_1.size + (((⟨#[92]⟩ : ByteArray) ++ ((⟨#[48, 49, 50, 51, 52, 53, 54, 55, 56, 57, 97, 98, 99, 100, 101, 102]⟩ : ByteArray).extract ((ji53) : Int).toNat ((wrap64 ((ji53) + 1)) : Int).toNat)) ++ ((⟨#[48, 49, 50, 51, 52, 53, 54, 55, 56, 57, 97, 98, 99, 100, 101, 102]⟩ : ByteArray).extract ((ji58) : Int).toNat ((wrap64 ((ji58) + 1)) : Int).toNat)).size ≤ 9223372036854775807
               ·rw [if_pos c63] at H
                have c63b0 := eq_true c63
                have c63b1 : decide (x3_1.size + (((⟨#[92]⟩ : ByteArray) ++ ((⟨#[48, 49, 50, 51, 52, 53, 54, 55, 56, 57, 97, 98, 99, 100, 101, 102]⟩ : ByteArray).extract ((ji53) : Int).toNat ((wrap64 ((ji53) + 1)) : Int).toNat)) ++ ((⟨#[48, 49, 50, 51, 52, 53, 54, 55, 56, 57, 97, 98, 99, 100, 101, 102]⟩ : ByteArray).extract ((ji58) : Int).toNat ((wrap64 ((ji58) + 1)) : Int).toNat)).size ≤ 9223372036854775807) = true := decide_eq_true c63
                try have c63b2 : (9223372036854775807 < x3_1.size + (((⟨#[92]⟩ : ByteArray) ++ ((⟨#[48, 49, 50, 51, 52, 53, 54, 55, 56, 57, 97, 98, 99, 100, 101, 102]⟩ : ByteArray).extract ((ji53) : Int).toNat ((wrap64 ((ji53) + 1)) : Int).toNat)) ++ ((⟨#[48, 49, 50, 51, 52, 53, 54, 55, 56, 57, 97, 98, 99, 100, 101, 102]⟩ : ByteArray).extract ((ji58) : Int).toNat ((wrap64 ((ji58) + 1)) : Int).toNat)).size) = False := eq_false (Nat.not_lt.2 c63)
                try (have c63b4 := c63b2; simp only [ByteArray.size_append] at c63b4)
                have H' := Aside0.mk H
                clear H
                have hcz64_0 : wr.cell? ⟨gb317, 0, none⟩ = some (.string a0_0) := (blk_cell BK317.out 0).trans rfl
                have hcz64_1 : wr.cell? ⟨gb317, 1, none⟩ = some (.int .i64 a0_1) := (blk_cell BK317.out 1).trans rfl
                have hcz64_2 : wr.cell? ⟨gb317, 2, none⟩ = some (.bool true) := (blk_cell BK317.out 2).trans rfl
                have hfz64_0 := blk_frozen BK317.out 0
                have hfz64_1 := blk_frozen BK317.out 1
                have hfz64_2 := blk_frozen BK317.out 2
                have p7 : 0 ≤ (x4_1 : Int) := of_decide_eq_true (by first | (with_reducible assumption) | assumption)
                have q7 : x4_1 < (a0_0.size : Int) := of_decide_eq_true (by first | (with_reducible assumption) | assumption)
                have hx7 := bt_at a0_0 x4_1
                replace p7 := eq_true p7
                replace q7 := eq_true q7
                go_wp2
                repeat (go_quiet (fail); try go_wp2)
                go_roundg k1
                case measure => have := HK1.out; omega
                case rel => exact ⟨(x3_1 ++ (((⟨#[92]⟩ : ByteArray) ++ ((⟨#[48, 49, 50, 51, 52, 53, 54, 55, 56, 57, 97, 98, 99, 100, 101, 102]⟩ : ByteArray).extract ((ji53) : Int).toNat ((wrap64 ((ji53) + 1)) : Int).toNat)) ++ ((⟨#[48, 49, 50, 51, 52, 53, 54, 55, 56, 57, 97, 98, 99, 100, 101, 102]⟩ : ByteArray).extract ((ji58) : Int).toNat ((wrap64 ((ji58) + 1)) : Int).toNat))), (wrap64 (x4_1 + 1)), (by first | rfl | (simp; done) | (simp only [← hji53, ← hji58] <;> (first | rfl | simp)) | (simp [*]; done)), (by first | rfl | (simp; done) | (simp [*]; done)), H', ⟨by have := HK1.out; omega⟩, ⟨by (with_reducible repeat (first | refine blk_drewN ?_ _ | refine blk_drew ?_ | refine blk_alloc ?_ _)); exact BK317.out⟩, ⟨by repeat (first | (with_reducible first | exact HB.out | apply below_alloc | apply pw_below_drewN | apply below_drew1 | refine below_set ?_ GE317.out) | exact HB.out)⟩⟩
               ·rw [if_neg c63] at H
                exact absurd H (by simp)
              ·rw [if_neg c62] at H
               exact absurd H (by simp)
             ·rw [if_neg c61] at H
              exact absurd H (by simp)
            ·rw [if_neg c60] at H
             exact absurd H (by simp)
           ·rw [if_neg c59] at H
            exact absurd H (by simp)
          ·rw [if_neg c57] at H
           exact absurd H (by simp)
         ·rw [if_neg c56] at H
          exact absurd H (by simp)
        ·rw [if_neg c55] at H
         exact absurd H (by simp)
       ·rw [if_neg c54] at H
        exact absurd H (by simp)
     ·rw [if_neg c6] at H
      exact absurd H (by simp)
    ·rw [if_neg c5] at H
     have c5b0 : decide (x4_1 < (a0_0.size : Int)) = false := decide_eq_false c5
     clear c5
     by_cases c65 : x3_1.size + 1 ≤ 9223372036854775807
     ·rw [if_pos c65] at H
      have c65b0 := eq_true c65
      have c65b1 : decide (x3_1.size + 1 ≤ 9223372036854775807) = true := decide_eq_true c65
      try have c65b2 : (9223372036854775807 < x3_1.size + 1) = False := eq_false (Nat.not_lt.2 c65)
      obtain rfl := Option.some.inj H
      have hcz66_0 : wr.cell? ⟨gb317, 0, none⟩ = some (.string a0_0) := (blk_cell BK317.out 0).trans rfl
      have hcz66_1 : wr.cell? ⟨gb317, 1, none⟩ = some (.int .i64 a0_1) := (blk_cell BK317.out 1).trans rfl
      have hcz66_2 : wr.cell? ⟨gb317, 2, none⟩ = some (.bool true) := (blk_cell BK317.out 2).trans rfl
      have hfz66_0 := blk_frozen BK317.out 0
      have hfz66_1 := blk_frozen BK317.out 1
      have hfz66_2 := blk_frozen BK317.out 2
      go_wp2
      repeat (go_quiet (fail); try go_wp2)
      go_ret
      exact ⟨by first | rfl | (simp [errW_none, errW_some] <;> rfl) | (simp [*, errW_none, errW_some] <;> rfl), by repeat (first | (with_reducible first | exact HB.out | apply below_alloc | apply pw_below_drewN | apply below_drew1 | refine below_set ?_ GE317.out) | exact HB.out)⟩
     ·rw [if_neg c65] at H
      exact absurd H (by simp)
 ·replace c2 := Bool.eq_false_iff.mpr c2
  subst c2
  have H1 : ((concordanceref19_Digits.f k a0_1).bind fun t318 => (some t318)) = some r := by rw [if_neg (show ¬ (false = true) by decide)] at H; exact H
  clear H
  have H := H1
  clear H1
  replace H := Option.bind_eq_some_iff.mp H
  obtain ⟨t318, A670, H⟩ := H
  replace H : (some t318) = some r := H
  have A67 := Aside0.mk A670
  clear A670
  obtain rfl := Option.some.inj H
  go_enter Tryd.func20, Tryd.ntmps20
  go_wp2_with (first | ((with_reducible refine gate_dst (N := 1) rfl ?_); refine box_event ?hg (N := 1) ?hd (cs := #[.string a0_0, .int .i64 a0_1, .bool false]) (t := 26) ?hr ?_; (case hd => rfl); (case hg => rfl); (case hr => first | (go_simp; done) | (go_simp; rfl)); intro gb317 hg w68 hbox hb; have n0_ := Aside0.mk (below_step (by repeat (first | (with_reducible first | exact HB.out | apply below_alloc | apply pw_below_drewN | apply below_drew1) | exact HB.out)) hb); have n1_ := Aside0.mk (hbox); have n2_ := Aside0.mk ((by rw [hg]; exact (below_size (by repeat (first | (with_reducible first | exact HB.out | apply below_alloc | apply pw_below_drewN | apply below_drew1) | exact HB.out))) : w.heap.size ≤ gb317)); have n3_ := Aside0.mk ((by rw [hg]; exact (below_size (by repeat (first | (with_reducible first | exact HB.out | apply below_alloc | apply pw_below_drewN | apply below_drew1) | exact HB.out))) : w.heap.size ≤ gb317)); clear HB; have HB := n0_; have BK317 := n1_; have GW317 := n2_; have GE317 := n3_; clear n0_ n1_ n2_ n3_; clear hb hbox hg; have hcz69_0 : w68.cell? ⟨gb317, 0, none⟩ = some (.string a0_0) := (blk_cell BK317.out 0).trans rfl; have hcz69_1 : w68.cell? ⟨gb317, 1, none⟩ = some (.int .i64 a0_1) := (blk_cell BK317.out 1).trans rfl; have hcz69_2 : w68.cell? ⟨gb317, 2, none⟩ = some (.bool false) := (blk_cell BK317.out 2).trans rfl; have hfz69_0 := blk_frozen BK317.out 0; have hfz69_1 := blk_frozen BK317.out 1; have hfz69_2 := blk_frozen BK317.out 2) | (go_at_call 44; (with_reducible refine (concordanceref19_Digits.calls k a0_1 t318 _ A67.out).mono ?_); rintro e w70 ⟨rfl, hb⟩; have n0_ := Aside0.mk (blk_below (g := gb317) (o := .cells #[.string a0_0, .int .i64 a0_1, .bool false] 26 (0, 0)) (by (with_reducible repeat (first | refine blk_drewN ?_ _ | refine blk_drew ?_ | refine blk_alloc ?_ _)); exact BK317.out) hb); have n1_ := Aside0.mk (below_step (by repeat (first | (with_reducible first | exact HB.out | apply below_alloc | apply pw_below_drewN | apply below_drew1 | refine below_set ?_ GE317.out) | exact HB.out)) hb); clear BK317; clear HB; have BK317 := n0_; have HB := n1_; clear n0_ n1_; (try clear hb); (try clear hb2); (try clear hk); (try clear hi)))
  repeat (go_quiet (first | ((with_reducible refine gate_dst (N := 1) rfl ?_); refine box_event ?hg (N := 1) ?hd (cs := #[.string a0_0, .int .i64 a0_1, .bool false]) (t := 26) ?hr ?_; (case hd => rfl); (case hg => rfl); (case hr => first | (go_simp; done) | (go_simp; rfl)); intro gb317 hg w68 hbox hb; have n0_ := Aside0.mk (below_step (by repeat (first | (with_reducible first | exact HB.out | apply below_alloc | apply pw_below_drewN | apply below_drew1) | exact HB.out)) hb); have n1_ := Aside0.mk (hbox); have n2_ := Aside0.mk ((by rw [hg]; exact (below_size (by repeat (first | (with_reducible first | exact HB.out | apply below_alloc | apply pw_below_drewN | apply below_drew1) | exact HB.out))) : w.heap.size ≤ gb317)); have n3_ := Aside0.mk ((by rw [hg]; exact (below_size (by repeat (first | (with_reducible first | exact HB.out | apply below_alloc | apply pw_below_drewN | apply below_drew1) | exact HB.out))) : w.heap.size ≤ gb317)); clear HB; have HB := n0_; have BK317 := n1_; have GW317 := n2_; have GE317 := n3_; clear n0_ n1_ n2_ n3_; clear hb hbox hg; have hcz69_0 : w68.cell? ⟨gb317, 0, none⟩ = some (.string a0_0) := (blk_cell BK317.out 0).trans rfl; have hcz69_1 : w68.cell? ⟨gb317, 1, none⟩ = some (.int .i64 a0_1) := (blk_cell BK317.out 1).trans rfl; have hcz69_2 : w68.cell? ⟨gb317, 2, none⟩ = some (.bool false) := (blk_cell BK317.out 2).trans rfl; have hfz69_0 := blk_frozen BK317.out 0; have hfz69_1 := blk_frozen BK317.out 1; have hfz69_2 := blk_frozen BK317.out 2) | (go_at_call 44; (with_reducible refine (concordanceref19_Digits.calls k a0_1 t318 _ A67.out).mono ?_); rintro e w70 ⟨rfl, hb⟩; have n0_ := Aside0.mk (blk_below (g := gb317) (o := .cells #[.string a0_0, .int .i64 a0_1, .bool false] 26 (0, 0)) (by (with_reducible repeat (first | refine blk_drewN ?_ _ | refine blk_drew ?_ | refine blk_alloc ?_ _)); exact BK317.out) hb); have n1_ := Aside0.mk (below_step (by repeat (first | (with_reducible first | exact HB.out | apply below_alloc | apply pw_below_drewN | apply below_drew1 | refine below_set ?_ GE317.out) | exact HB.out)) hb); clear BK317; clear HB; have BK317 := n0_; have HB := n1_; clear n0_ n1_; (try clear hb); (try clear hb2); (try clear hk); (try clear hi))); try go_wp2_with (first | ((with_reducible refine gate_dst (N := 1) rfl ?_); refine box_event ?hg (N := 1) ?hd (cs := #[.string a0_0, .int .i64 a0_1, .bool false]) (t := 26) ?hr ?_; (case hd => rfl); (case hg => rfl); (case hr => first | (go_simp; done) | (go_simp; rfl)); intro gb317 hg w68 hbox hb; have n0_ := Aside0.mk (below_step (by repeat (first | (with_reducible first | exact HB.out | apply below_alloc | apply pw_below_drewN | apply below_drew1) | exact HB.out)) hb); have n1_ := Aside0.mk (hbox); have n2_ := Aside0.mk ((by rw [hg]; exact (below_size (by repeat (first | (with_reducible first | exact HB.out | apply below_alloc | apply pw_below_drewN | apply below_drew1) | exact HB.out))) : w.heap.size ≤ gb317)); have n3_ := Aside0.mk ((by rw [hg]; exact (below_size (by repeat (first | (with_reducible first | exact HB.out | apply below_alloc | apply pw_below_drewN | apply below_drew1) | exact HB.out))) : w.heap.size ≤ gb317)); clear HB; have HB := n0_; have BK317 := n1_; have GW317 := n2_; have GE317 := n3_; clear n0_ n1_ n2_ n3_; clear hb hbox hg; have hcz69_0 : w68.cell? ⟨gb317, 0, none⟩ = some (.string a0_0) := (blk_cell BK317.out 0).trans rfl; have hcz69_1 : w68.cell? ⟨gb317, 1, none⟩ = some (.int .i64 a0_1) := (blk_cell BK317.out 1).trans rfl; have hcz69_2 : w68.cell? ⟨gb317, 2, none⟩ = some (.bool false) := (blk_cell BK317.out 2).trans rfl; have hfz69_0 := blk_frozen BK317.out 0; have hfz69_1 := blk_frozen BK317.out 1; have hfz69_2 := blk_frozen BK317.out 2) | (go_at_call 44; (with_reducible refine (concordanceref19_Digits.calls k a0_1 t318 _ A67.out).mono ?_); rintro e w70 ⟨rfl, hb⟩; have n0_ := Aside0.mk (blk_below (g := gb317) (o := .cells #[.string a0_0, .int .i64 a0_1, .bool false] 26 (0, 0)) (by (with_reducible repeat (first | refine blk_drewN ?_ _ | refine blk_drew ?_ | refine blk_alloc ?_ _)); exact BK317.out) hb); have n1_ := Aside0.mk (below_step (by repeat (first | (with_reducible first | exact HB.out | apply below_alloc | apply pw_below_drewN | apply below_drew1 | refine below_set ?_ GE317.out) | exact HB.out)) hb); clear BK317; clear HB; have BK317 := n0_; have HB := n1_; clear n0_ n1_; (try clear hb); (try clear hb2); (try clear hk); (try clear hi))))
  go_ret
  exact ⟨by first | rfl | (simp [errW_none, errW_some] <;> rfl) | (simp [*, errW_none, errW_some] <;> rfl), by repeat (first | (with_reducible first | exact HB.out | apply below_alloc | apply pw_below_drewN | apply below_drew1 | refine below_set ?_ GE317.out) | exact HB.out)⟩

/-! ### concordanceref01_Bytes: function 45 -/
mutual
def concordanceref01_Bytes.l0 : Nat → ByteArray → ByteArray → Int → Option (Int)
 | 0, _, _, _ => none
 | k + 1, x0, x1, x5 => if x5 < (x0.size : Int) then (concordanceref01_Bytes.j1 k x0 x1 x5 (decide (x5 < (x1.size : Int)))) else (concordanceref01_Bytes.j1 k x0 x1 x5 false)
def concordanceref01_Bytes.j1 : Nat → ByteArray → ByteArray → Int → Bool → Option (Int)
 | 0, _, _, _, _ => none
 | k + 1, x0, x1, x5, x15 => if x15 = true then (if 0 ≤ x5 then (if x5 < (x0.size : Int) then (if x5 < (x1.size : Int) then (if (bt x0 x5) < (bt x1 x5) then (some (-1)) else (if (bt x0 x5) > (bt x1 x5) then (some 1) else (concordanceref01_Bytes.l0 k x0 x1 (wrap64 (x5 + 1))))) else (none)) else (none)) else (none)) else (if (x0.size : Int) < (x1.size : Int) then (some (-1)) else (if (x0.size : Int) > (x1.size : Int) then (some 1) else (some 0)))
end
def concordanceref01_Bytes.f (k : Nat) (a0 : ByteArray) (a1 : ByteArray) : Option (Int) := concordanceref01_Bytes.l0 k a0 a1 0
theorem concordanceref01_Bytes.mono_l : ∀ k, (∀ y0 y1 y2, LeO (concordanceref01_Bytes.l0 k y0 y1 y2) (concordanceref01_Bytes.l0 (k + 1) y0 y1 y2)) ∧ (∀ y0 y1 y2 y3, LeO (concordanceref01_Bytes.j1 k y0 y1 y2 y3) (concordanceref01_Bytes.j1 (k + 1) y0 y1 y2 y3))
 | 0 => ⟨fun _ _ _ r h => by simp [concordanceref01_Bytes.l0] at h, fun _ _ _ _ r h => by simp [concordanceref01_Bytes.j1] at h⟩
 | k + 1 => by
  obtain ⟨ih0, ih1⟩ := concordanceref01_Bytes.mono_l k
  refine ⟨?_, ?_⟩
  ·intro y0 y1 y2
   unfold concordanceref01_Bytes.l0
   repeat' first
   | (with_reducible exact ih0 _ _ _)
   | (with_reducible exact ih1 _ _ _ _)
   | (with_reducible exact LeO.refl _)
   | (with_reducible exact LeO.none _)
   | (with_reducible refine LeO.ite ?_ ?_)
   | (with_reducible refine LeO.bind ?_ (fun _ => ?_))
   | exact ih0 _ _ _
   | exact ih1 _ _ _ _
   | exact LeO.none _
   | refine LeO.ite ?_ ?_
   | refine LeO.bind ?_ (fun _ => ?_)
  ·intro y0 y1 y2 y3
   unfold concordanceref01_Bytes.j1
   repeat' first
   | (with_reducible exact ih0 _ _ _)
   | (with_reducible exact ih1 _ _ _ _)
   | (with_reducible exact LeO.refl _)
   | (with_reducible exact LeO.none _)
   | (with_reducible refine LeO.ite ?_ ?_)
   | (with_reducible refine LeO.bind ?_ (fun _ => ?_))
   | exact ih0 _ _ _
   | exact ih1 _ _ _ _
   | exact LeO.none _
   | refine LeO.ite ?_ ?_
   | refine LeO.bind ?_ (fun _ => ?_)
theorem concordanceref01_Bytes.mono : ∀ a0 a1 k, LeO (concordanceref01_Bytes.f k a0 a1) (concordanceref01_Bytes.f (k + 1) a0 a1) := by
 intro a0 a1 k
 obtain ⟨ih0, ih1⟩ := concordanceref01_Bytes.mono_l k
 unfold concordanceref01_Bytes.f
 repeat' first
   | (with_reducible exact ih0 _ _ _)
   | (with_reducible exact ih1 _ _ _ _)
   | (with_reducible exact LeO.refl _)
   | (with_reducible exact LeO.none _)
   | (with_reducible refine LeO.ite ?_ ?_)
   | (with_reducible refine LeO.bind ?_ (fun _ => ?_))
   | exact ih0 _ _ _
   | exact ih1 _ _ _ _
   | exact LeO.none _
   | refine LeO.ite ?_ ?_
   | refine LeO.bind ?_ (fun _ => ?_)
set_option maxHeartbeats 8000000 in
set_option maxRecDepth 100000 in
theorem concordanceref01_Bytes.calls (k : Nat) (a0 : ByteArray) (a1 : ByteArray) (r : Int) (w : World) (h : concordanceref01_Bytes.f k a0 a1 = some r) :
  Calls Tryd.prog 45 #[.string a0, .string a1] w fun e w' => e = .returned (.int .i64 r) ∧ Drawn0 w w' := by
 have H : (concordanceref01_Bytes.l0 k a0 a1 0) = some r := h
 clear h
 have H' := Aside0.mk H
 clear H
 go_enter Tryd.func45, Tryd.ntmps45
 go_wp2
 repeat (go_quiet (fail); try go_wp2)
 go_loopg [5] k (fun kq v5 w' => ∃ (x5_1 : Int), v5 = .int .i64 x5_1 ∧ Aside0 (concordanceref01_Bytes.l0 kq a0 a1 x5_1 = some r) ∧ Aside0 (kq ≤ k) ∧ Drawn0 w w')
 case atStart => exact ⟨(0), (by first | rfl | (simp; done) | (simp [*]; done)), H', ⟨Nat.le_refl _⟩, by repeat (first | exact Drawn0.refl _ | apply Drawn0.step)⟩
 case round =>
  clear H'
  try clear p2
  obtain ⟨x5_1, rfl, HA, HK1, ⟨m1, rfl⟩⟩ := hrel
  cases gk with
  | zero => exact absurd HA.out (by simp [concordanceref01_Bytes.l0])
  | succ k1 =>
   have H := HA.out
   clear HA
   simp only [concordanceref01_Bytes.l0] at H
   have HC3 := Aside0.mk H
   clear H
   go_upto_region 2 with (fail)
   repeat (go_quiet (fail); go_upto_region 2 with (fail))
   go_cut [15] (fun v15 wc => ∃ (kq : Nat) (x15_2 : Bool), v15 = .bool x15_2 ∧ Aside0 (concordanceref01_Bytes.j1 kq a0 a1 x5_1 x15_2 = some r) ∧ Aside0 (kq ≤ k1) ∧ Drawn0 w wc)
   case first =>
    have H := HC3.out
    clear HC3
    by_cases c4 : x5_1 < (a0.size : Int)
    ·rw [if_pos c4] at H
     have c4b0 : decide (x5_1 < (a0.size : Int)) = true := decide_eq_true c4
     clear c4
     (first | rw [c4b0] | (simp only [i64_w, i32_w]; rw [c4b0]) | skip)
     have H' := Aside0.mk H
     clear H
     go_wp2
     repeat (go_quiet (fail); try go_wp2)
     go_meet
     case rel => exact ⟨_, (decide (x5_1 < (a1.size : Int))), (by first | rfl | (simp; done) | (simp [*]; done)), H', ⟨by have := HK1.out; first | omega | exact Nat.le_refl _⟩, by repeat (first | exact Drawn0.refl _ | apply Drawn0.step)⟩
    ·rw [if_neg c4] at H
     have c4b0 : decide (x5_1 < (a0.size : Int)) = false := decide_eq_false c4
     clear c4
     (first | rw [c4b0] | (simp only [i64_w, i32_w]; rw [c4b0]) | skip)
     have H' := Aside0.mk H
     clear H
     go_wp2
     repeat (go_quiet (fail); try go_wp2)
     go_meet
     case rel => exact ⟨_, (false), (by first | rfl | (simp; done) | (simp [*]; done)), H', ⟨by have := HK1.out; first | omega | exact Nat.le_refl _⟩, by repeat (first | exact Drawn0.refl _ | apply Drawn0.step)⟩
   case rest =>
    clear HC3
    try clear p2
    try clear c4
    try clear c4b0
    try clear p2
    obtain ⟨kq, x15_2, rfl, HA, HJ2, ⟨mc2, rfl⟩⟩ := hcut
    cases kq with
    | zero => exact absurd HA.out (by simp [concordanceref01_Bytes.j1])
    | succ kj2 =>
     have H := HA.out
     clear HA
     simp only [concordanceref01_Bytes.j1] at H
     by_cases c5 : x15_2 = true
     ·subst c5
      have H1 : (if 0 ≤ x5_1 then (if x5_1 < (a0.size : Int) then (if x5_1 < (a1.size : Int) then (if (bt a0 x5_1) < (bt a1 x5_1) then (some (-1)) else (if (bt a0 x5_1) > (bt a1 x5_1) then (some 1) else (concordanceref01_Bytes.l0 kj2 a0 a1 (wrap64 (x5_1 + 1))))) else (none)) else (none)) else (none)) = some r := by rw [if_pos rfl] at H; exact H
      clear H
      have H := H1
      clear H1
      by_cases c6 : 0 ≤ x5_1
      ·rw [if_pos c6] at H
       have c6b0 : decide (0 ≤ x5_1) = true := decide_eq_true c6
       clear c6
       by_cases c7 : x5_1 < (a0.size : Int)
       ·rw [if_pos c7] at H
        have c7b0 : decide (x5_1 < (a0.size : Int)) = true := decide_eq_true c7
        clear c7
        by_cases c9 : x5_1 < (a1.size : Int)
        ·rw [if_pos c9] at H
         have c9b0 : decide (x5_1 < (a1.size : Int)) = true := decide_eq_true c9
         clear c9
         by_cases c11 : (bt a0 x5_1) < (bt a1 x5_1)
         ·rw [if_pos c11] at H
          have c11b0 : decide ((bt a0 x5_1) < (bt a1 x5_1)) = true := decide_eq_true c11
          clear c11
          obtain rfl := Option.some.inj H
          have p8 : 0 ≤ (x5_1 : Int) := of_decide_eq_true (by first | (with_reducible assumption) | assumption)
          have q8 : x5_1 < (a0.size : Int) := of_decide_eq_true (by first | (with_reducible assumption) | assumption)
          have hx8 := bt_at a0 x5_1
          replace p8 := eq_true p8
          replace q8 := eq_true q8
          have p10 : 0 ≤ (x5_1 : Int) := of_decide_eq_true (by first | (with_reducible assumption) | assumption)
          have q10 : x5_1 < (a1.size : Int) := of_decide_eq_true (by first | (with_reducible assumption) | assumption)
          have hx10 := bt_at a1 x5_1
          replace p10 := eq_true p10
          replace q10 := eq_true q10
          go_wp2
          repeat (go_quiet (fail); try go_wp2)
          go_ret
          exact ⟨by first | rfl | (simp; done) | (simp [*]; done), by repeat (first | exact Drawn0.refl _ | apply Drawn0.step)⟩
         ·rw [if_neg c11] at H
          have c11b0 : decide ((bt a0 x5_1) < (bt a1 x5_1)) = false := decide_eq_false c11
          clear c11
          by_cases c14 : (bt a0 x5_1) > (bt a1 x5_1)
          ·rw [if_pos c14] at H
           have c14b0 : decide ((bt a1 x5_1) < (bt a0 x5_1)) = true := decide_eq_true c14
           clear c14
           obtain rfl := Option.some.inj H
           have p8 : 0 ≤ (x5_1 : Int) := of_decide_eq_true (by first | (with_reducible assumption) | assumption)
           have q8 : x5_1 < (a0.size : Int) := of_decide_eq_true (by first | (with_reducible assumption) | assumption)
           have hx8 := bt_at a0 x5_1
           replace p8 := eq_true p8
           replace q8 := eq_true q8
           have p10 : 0 ≤ (x5_1 : Int) := of_decide_eq_true (by first | (with_reducible assumption) | assumption)
           have q10 : x5_1 < (a1.size : Int) := of_decide_eq_true (by first | (with_reducible assumption) | assumption)
           have hx10 := bt_at a1 x5_1
           replace p10 := eq_true p10
           replace q10 := eq_true q10
           have p12 : 0 ≤ (x5_1 : Int) := of_decide_eq_true (by first | (with_reducible assumption) | assumption)
           have q12 : x5_1 < (a0.size : Int) := of_decide_eq_true (by first | (with_reducible assumption) | assumption)
           have hx12 := bt_at a0 x5_1
           replace p12 := eq_true p12
           replace q12 := eq_true q12
           have p13 : 0 ≤ (x5_1 : Int) := of_decide_eq_true (by first | (with_reducible assumption) | assumption)
           have q13 : x5_1 < (a1.size : Int) := of_decide_eq_true (by first | (with_reducible assumption) | assumption)
           have hx13 := bt_at a1 x5_1
           replace p13 := eq_true p13
           replace q13 := eq_true q13
           go_wp2
           repeat (go_quiet (fail); try go_wp2)
           go_ret
           exact ⟨by first | rfl | (simp; done) | (simp [*]; done), by repeat (first | exact Drawn0.refl _ | apply Drawn0.step)⟩
          ·rw [if_neg c14] at H
           have c14b0 : decide ((bt a1 x5_1) < (bt a0 x5_1)) = false := decide_eq_false c14
           clear c14
           have H' := Aside0.mk H
           clear H
           have p8 : 0 ≤ (x5_1 : Int) := of_decide_eq_true (by first | (with_reducible assumption) | assumption)
           have q8 : x5_1 < (a0.size : Int) := of_decide_eq_true (by first | (with_reducible assumption) | assumption)
           have hx8 := bt_at a0 x5_1
           replace p8 := eq_true p8
           replace q8 := eq_true q8
           have p10 : 0 ≤ (x5_1 : Int) := of_decide_eq_true (by first | (with_reducible assumption) | assumption)
           have q10 : x5_1 < (a1.size : Int) := of_decide_eq_true (by first | (with_reducible assumption) | assumption)
           have hx10 := bt_at a1 x5_1
           replace p10 := eq_true p10
           replace q10 := eq_true q10
           have p12 : 0 ≤ (x5_1 : Int) := of_decide_eq_true (by first | (with_reducible assumption) | assumption)
           have q12 : x5_1 < (a0.size : Int) := of_decide_eq_true (by first | (with_reducible assumption) | assumption)
           have hx12 := bt_at a0 x5_1
           replace p12 := eq_true p12
           replace q12 := eq_true q12
           have p13 : 0 ≤ (x5_1 : Int) := of_decide_eq_true (by first | (with_reducible assumption) | assumption)
           have q13 : x5_1 < (a1.size : Int) := of_decide_eq_true (by first | (with_reducible assumption) | assumption)
           have hx13 := bt_at a1 x5_1
           replace p13 := eq_true p13
           replace q13 := eq_true q13
           go_wp2
           repeat (go_quiet (fail); try go_wp2)
           go_roundg kj2
           case measure => have := HK1.out; have := HJ2.out; omega
           case rel => exact ⟨(wrap64 (x5_1 + 1)), (by first | rfl | (simp; done) | (simp [*]; done)), H', ⟨by have := HK1.out; have := HJ2.out; omega⟩, by repeat (first | exact Drawn0.refl _ | apply Drawn0.step)⟩
        ·rw [if_neg c9] at H
         exact absurd H (by simp)
       ·rw [if_neg c7] at H
        exact absurd H (by simp)
      ·rw [if_neg c6] at H
       exact absurd H (by simp)
     ·replace c5 := Bool.eq_false_iff.mpr c5
      subst c5
      have H1 : (if (a0.size : Int) < (a1.size : Int) then (some (-1)) else (if (a0.size : Int) > (a1.size : Int) then (some 1) else (some 0))) = some r := by rw [if_neg (show ¬ (false = true) by decide)] at H; exact H
      clear H
      have H := H1
      clear H1
      by_cases c15 : (a0.size : Int) < (a1.size : Int)
      ·rw [if_pos c15] at H
       have c15b0 : decide ((a0.size : Int) < (a1.size : Int)) = true := decide_eq_true c15
       have c15b1 : decide (a0.size < a1.size) = true := decide_eq_true (Int.ofNat_lt.mp c15)
       clear c15
       obtain rfl := Option.some.inj H
       go_wp2
       repeat (go_quiet (fail); try go_wp2)
       go_ret
       exact ⟨by first | rfl | (simp; done) | (simp [*]; done), by repeat (first | exact Drawn0.refl _ | apply Drawn0.step)⟩
      ·rw [if_neg c15] at H
       have c15b0 : decide ((a0.size : Int) < (a1.size : Int)) = false := decide_eq_false c15
       have c15b1 : decide (a0.size < a1.size) = false := decide_eq_false (fun h => c15 (Int.ofNat_lt.mpr h))
       clear c15
       by_cases c16 : (a0.size : Int) > (a1.size : Int)
       ·rw [if_pos c16] at H
        have c16b0 : decide ((a1.size : Int) < (a0.size : Int)) = true := decide_eq_true c16
        have c16b1 : decide (a1.size < a0.size) = true := decide_eq_true (Int.ofNat_lt.mp c16)
        clear c16
        obtain rfl := Option.some.inj H
        go_wp2
        repeat (go_quiet (fail); try go_wp2)
        go_ret
        exact ⟨by first | rfl | (simp; done) | (simp [*]; done), by repeat (first | exact Drawn0.refl _ | apply Drawn0.step)⟩
       ·rw [if_neg c16] at H
        have c16b0 : decide ((a1.size : Int) < (a0.size : Int)) = false := decide_eq_false c16
        have c16b1 : decide (a1.size < a0.size) = false := decide_eq_false (fun h => c16 (Int.ofNat_lt.mpr h))
        clear c16
        obtain rfl := Option.some.inj H
        go_wp2
        repeat (go_quiet (fail); try go_wp2)
        go_ret
        exact ⟨by first | rfl | (simp; done) | (simp [*]; done), by repeat (first | exact Drawn0.refl _ | apply Drawn0.step)⟩

/-! ### concordanceref01_Compare: function 21 -/
def concordanceref01_Compare.f (k : Nat) (a0_0 : ByteArray) (a0_1 : Int) (a0_2 : Bool) (a1_0 : ByteArray) (a1_1 : Int) (a1_2 : Bool) : Option (Int) := if (a0_2 != a1_2) = true then (if a0_2 = true then (some 1) else (some (-1))) else (if a0_2 = true then ((concordanceref01_Bytes.f k a0_0 a1_0).bind fun t321 => (some t321)) else (if a0_1 < a1_1 then (some (-1)) else (if a0_1 > a1_1 then (some 1) else (some 0))))
theorem concordanceref01_Compare.mono : ∀ a0 a1 a2 a3 a4 a5 k, LeO (concordanceref01_Compare.f k a0 a1 a2 a3 a4 a5) (concordanceref01_Compare.f (k + 1) a0 a1 a2 a3 a4 a5) := by
 intro a0 a1 a2 a3 a4 a5 k
 unfold concordanceref01_Compare.f
 repeat' first
   | (with_reducible exact concordanceref01_Bytes.mono _ _ _)
   | (with_reducible exact LeO.refl _)
   | (with_reducible exact LeO.none _)
   | (with_reducible refine LeO.ite ?_ ?_)
   | (with_reducible refine LeO.bind ?_ (fun _ => ?_))
   | exact concordanceref01_Bytes.mono _ _ _
   | exact LeO.none _
   | refine LeO.ite ?_ ?_
   | refine LeO.bind ?_ (fun _ => ?_)
set_option maxHeartbeats 8000000 in
set_option maxRecDepth 100000 in
theorem concordanceref01_Compare.calls (k : Nat) (a0_0 : ByteArray) (a0_1 : Int) (a0_2 : Bool) (a1_0 : ByteArray) (a1_1 : Int) (a1_2 : Bool) (r : Int) (w : World) (h : concordanceref01_Compare.f k a0_0 a0_1 a0_2 a1_0 a1_1 a1_2 = some r) :
  Calls Tryd.prog 21 #[.agg #[.string a0_0, .int .i64 a0_1, .bool a0_2], .agg #[.string a1_0, .int .i64 a1_1, .bool a1_2]] w fun e w' => e = .returned (.int .i64 r) ∧ Below w.heap.size w w' := by
 have hu26 := Tryd.underlying26
 have HB := Aside0.mk (Below.refl w.heap.size w)
 have H : (if (a0_2 != a1_2) = true then (if a0_2 = true then (some 1) else (some (-1))) else (if a0_2 = true then ((concordanceref01_Bytes.f k a0_0 a1_0).bind fun t321 => (some t321)) else (if a0_1 < a1_1 then (some (-1)) else (if a0_1 > a1_1 then (some 1) else (some 0))))) = some r := h
 clear h
 by_cases c3 : (a0_2 != a1_2) = true
 ·rw [if_pos c3] at H
  have c3b0 : (a0_2 != a1_2) = true := c3
  (try (have c3b1 : decide (a0_2 = a1_2) = false := by simpa using c3))
  (try (have c3b2 : (a0_2 == a1_2) = false := by simpa using c3))
  (try (have c3b3 : ¬ (a0_2 = a1_2) := by simpa using c3))
  clear c3
  by_cases c4 : a0_2 = true
  ·subst c4
   have H1 : (some 1) = some r := by rw [if_pos rfl] at H; exact H
   clear H
   have H := H1
   clear H1
   obtain rfl := Option.some.inj H
   go_enter Tryd.func21, Tryd.ntmps21
   go_wp2_with (first | ((with_reducible refine gate_dst (N := 2) rfl ?_); refine box_event ?hg (N := 2) ?hd (cs := #[.string a0_0, .int .i64 a0_1, .bool true]) (t := 26) ?hr ?_; (case hd => rfl); (case hg => rfl); (case hr => first | (go_simp; done) | (go_simp; rfl)); intro gb319 hg w5 hbox hb; have n0_ := Aside0.mk (below_step (by repeat (first | (with_reducible first | exact HB.out | apply below_alloc | apply pw_below_drewN | apply below_drew1) | exact HB.out)) hb); have n1_ := Aside0.mk (hbox); have n2_ := Aside0.mk ((by rw [hg]; exact (below_size (by repeat (first | (with_reducible first | exact HB.out | apply below_alloc | apply pw_below_drewN | apply below_drew1) | exact HB.out))) : w.heap.size ≤ gb319)); have n3_ := Aside0.mk ((by rw [hg]; exact (below_size (by repeat (first | (with_reducible first | exact HB.out | apply below_alloc | apply pw_below_drewN | apply below_drew1) | exact HB.out))) : w.heap.size ≤ gb319)); clear HB; have HB := n0_; have BK319 := n1_; have GW319 := n2_; have GE319 := n3_; clear n0_ n1_ n2_ n3_; clear hb hbox hg) | ((with_reducible refine gate_dst (N := 3) rfl ?_); refine box_event ?hg (N := 3) ?hd (cs := #[.string a1_0, .int .i64 a1_1, .bool a1_2]) (t := 26) ?hr ?_; (case hd => rfl); (case hg => rfl); (case hr => first | (go_simp; done) | (go_simp; rfl)); intro gb320 hg w6 hbox hb; have n0_ := Aside0.mk (blk_below (g := gb319) (o := .cells #[.string a0_0, .int .i64 a0_1, .bool true] 26 (0, 0)) (by (with_reducible repeat (first | refine blk_drewN ?_ _ | refine blk_drew ?_ | refine blk_alloc ?_ _)); exact BK319.out) hb); have n1_ := Aside0.mk (below_step (by repeat (first | (with_reducible first | exact HB.out | apply below_alloc | apply pw_below_drewN | apply below_drew1 | refine below_set ?_ GE319.out) | exact HB.out)) hb); have n2_ := Aside0.mk (hbox); have n3_ := Aside0.mk ((by rw [hg]; exact (below_size (by repeat (first | (with_reducible first | exact HB.out | apply below_alloc | apply pw_below_drewN | apply below_drew1 | refine below_set ?_ GE319.out) | exact HB.out))) : w.heap.size ≤ gb320)); have n4_ := Aside0.mk ((by rw [hg]; exact (below_size (by repeat (first | (with_reducible first | exact HB.out | apply below_alloc | apply pw_below_drewN | apply below_drew1 | refine below_set ?_ GE319.out) | exact HB.out))) : w.heap.size ≤ gb320)); have n5_ := Aside0.mk ((by rw [hg]; exact Nat.ne_of_lt (blk_lt (g := gb319) (o := .cells #[.string a0_0, .int .i64 a0_1, .bool true] 26 (0, 0)) (by (with_reducible repeat (first | refine blk_drewN ?_ _ | refine blk_drew ?_ | refine blk_alloc ?_ _)); exact BK319.out)) : gb319 ≠ gb320)); have n6_ := Aside0.mk ((by rw [hg]; exact Nat.ne_of_gt (blk_lt (g := gb319) (o := .cells #[.string a0_0, .int .i64 a0_1, .bool true] 26 (0, 0)) (by (with_reducible repeat (first | refine blk_drewN ?_ _ | refine blk_drew ?_ | refine blk_alloc ?_ _)); exact BK319.out)) : gb320 ≠ gb319)); clear BK319; clear HB; have BK319 := n0_; have HB := n1_; have BK320 := n2_; have GW320 := n3_; have GE320 := n4_; have NB319_320 := n5_; have NB320_319 := n6_; clear n0_ n1_ n2_ n3_ n4_ n5_ n6_; clear hb hbox hg; have hnb7 := NB319_320.out; have hnc7 := NB320_319.out; have hcz8_0 : w6.cell? ⟨gb319, 0, none⟩ = some (.string a0_0) := (blk_cell BK319.out 0).trans rfl; have hcz8_1 : w6.cell? ⟨gb319, 1, none⟩ = some (.int .i64 a0_1) := (blk_cell BK319.out 1).trans rfl; have hcz8_2 : w6.cell? ⟨gb319, 2, none⟩ = some (.bool true) := (blk_cell BK319.out 2).trans rfl; have hfz8_0 := blk_frozen BK319.out 0; have hfz8_1 := blk_frozen BK319.out 1; have hfz8_2 := blk_frozen BK319.out 2; have hcz9_0 : w6.cell? ⟨gb320, 0, none⟩ = some (.string a1_0) := (blk_cell BK320.out 0).trans rfl; have hcz9_1 : w6.cell? ⟨gb320, 1, none⟩ = some (.int .i64 a1_1) := (blk_cell BK320.out 1).trans rfl; have hcz9_2 : w6.cell? ⟨gb320, 2, none⟩ = some (.bool a1_2) := (blk_cell BK320.out 2).trans rfl; have hfz9_0 := blk_frozen BK320.out 0; have hfz9_1 := blk_frozen BK320.out 1; have hfz9_2 := blk_frozen BK320.out 2))
   go_ret
   exact ⟨by first | rfl | (simp [errW_none, errW_some] <;> rfl) | (simp [*, errW_none, errW_some] <;> rfl), by repeat (first | (with_reducible first | exact HB.out | apply below_alloc | apply pw_below_drewN | apply below_drew1 | refine below_set ?_ GE319.out | refine below_set ?_ GE320.out) | exact HB.out)⟩
  ·replace c4 := Bool.eq_false_iff.mpr c4
   subst c4
   have H1 : (some (-1)) = some r := by rw [if_neg (show ¬ (false = true) by decide)] at H; exact H
   clear H
   have H := H1
   clear H1
   obtain rfl := Option.some.inj H
   go_enter Tryd.func21, Tryd.ntmps21
   go_wp2_with (first | ((with_reducible refine gate_dst (N := 2) rfl ?_); refine box_event ?hg (N := 2) ?hd (cs := #[.string a0_0, .int .i64 a0_1, .bool false]) (t := 26) ?hr ?_; (case hd => rfl); (case hg => rfl); (case hr => first | (go_simp; done) | (go_simp; rfl)); intro gb319 hg w10 hbox hb; have n0_ := Aside0.mk (below_step (by repeat (first | (with_reducible first | exact HB.out | apply below_alloc | apply pw_below_drewN | apply below_drew1) | exact HB.out)) hb); have n1_ := Aside0.mk (hbox); have n2_ := Aside0.mk ((by rw [hg]; exact (below_size (by repeat (first | (with_reducible first | exact HB.out | apply below_alloc | apply pw_below_drewN | apply below_drew1) | exact HB.out))) : w.heap.size ≤ gb319)); have n3_ := Aside0.mk ((by rw [hg]; exact (below_size (by repeat (first | (with_reducible first | exact HB.out | apply below_alloc | apply pw_below_drewN | apply below_drew1) | exact HB.out))) : w.heap.size ≤ gb319)); clear HB; have HB := n0_; have BK319 := n1_; have GW319 := n2_; have GE319 := n3_; clear n0_ n1_ n2_ n3_; clear hb hbox hg) | ((with_reducible refine gate_dst (N := 3) rfl ?_); refine box_event ?hg (N := 3) ?hd (cs := #[.string a1_0, .int .i64 a1_1, .bool a1_2]) (t := 26) ?hr ?_; (case hd => rfl); (case hg => rfl); (case hr => first | (go_simp; done) | (go_simp; rfl)); intro gb320 hg w11 hbox hb; have n0_ := Aside0.mk (blk_below (g := gb319) (o := .cells #[.string a0_0, .int .i64 a0_1, .bool false] 26 (0, 0)) (by (with_reducible repeat (first | refine blk_drewN ?_ _ | refine blk_drew ?_ | refine blk_alloc ?_ _)); exact BK319.out) hb); have n1_ := Aside0.mk (below_step (by repeat (first | (with_reducible first | exact HB.out | apply below_alloc | apply pw_below_drewN | apply below_drew1 | refine below_set ?_ GE319.out) | exact HB.out)) hb); have n2_ := Aside0.mk (hbox); have n3_ := Aside0.mk ((by rw [hg]; exact (below_size (by repeat (first | (with_reducible first | exact HB.out | apply below_alloc | apply pw_below_drewN | apply below_drew1 | refine below_set ?_ GE319.out) | exact HB.out))) : w.heap.size ≤ gb320)); have n4_ := Aside0.mk ((by rw [hg]; exact (below_size (by repeat (first | (with_reducible first | exact HB.out | apply below_alloc | apply pw_below_drewN | apply below_drew1 | refine below_set ?_ GE319.out) | exact HB.out))) : w.heap.size ≤ gb320)); have n5_ := Aside0.mk ((by rw [hg]; exact Nat.ne_of_lt (blk_lt (g := gb319) (o := .cells #[.string a0_0, .int .i64 a0_1, .bool false] 26 (0, 0)) (by (with_reducible repeat (first | refine blk_drewN ?_ _ | refine blk_drew ?_ | refine blk_alloc ?_ _)); exact BK319.out)) : gb319 ≠ gb320)); have n6_ := Aside0.mk ((by rw [hg]; exact Nat.ne_of_gt (blk_lt (g := gb319) (o := .cells #[.string a0_0, .int .i64 a0_1, .bool false] 26 (0, 0)) (by (with_reducible repeat (first | refine blk_drewN ?_ _ | refine blk_drew ?_ | refine blk_alloc ?_ _)); exact BK319.out)) : gb320 ≠ gb319)); clear BK319; clear HB; have BK319 := n0_; have HB := n1_; have BK320 := n2_; have GW320 := n3_; have GE320 := n4_; have NB319_320 := n5_; have NB320_319 := n6_; clear n0_ n1_ n2_ n3_ n4_ n5_ n6_; clear hb hbox hg; have hnb12 := NB319_320.out; have hnc12 := NB320_319.out; have hcz13_0 : w11.cell? ⟨gb319, 0, none⟩ = some (.string a0_0) := (blk_cell BK319.out 0).trans rfl; have hcz13_1 : w11.cell? ⟨gb319, 1, none⟩ = some (.int .i64 a0_1) := (blk_cell BK319.out 1).trans rfl; have hcz13_2 : w11.cell? ⟨gb319, 2, none⟩ = some (.bool false) := (blk_cell BK319.out 2).trans rfl; have hfz13_0 := blk_frozen BK319.out 0; have hfz13_1 := blk_frozen BK319.out 1; have hfz13_2 := blk_frozen BK319.out 2; have hcz14_0 : w11.cell? ⟨gb320, 0, none⟩ = some (.string a1_0) := (blk_cell BK320.out 0).trans rfl; have hcz14_1 : w11.cell? ⟨gb320, 1, none⟩ = some (.int .i64 a1_1) := (blk_cell BK320.out 1).trans rfl; have hcz14_2 : w11.cell? ⟨gb320, 2, none⟩ = some (.bool a1_2) := (blk_cell BK320.out 2).trans rfl; have hfz14_0 := blk_frozen BK320.out 0; have hfz14_1 := blk_frozen BK320.out 1; have hfz14_2 := blk_frozen BK320.out 2))
   go_ret
   exact ⟨by first | rfl | (simp [errW_none, errW_some] <;> rfl) | (simp [*, errW_none, errW_some] <;> rfl), by repeat (first | (with_reducible first | exact HB.out | apply below_alloc | apply pw_below_drewN | apply below_drew1 | refine below_set ?_ GE319.out | refine below_set ?_ GE320.out) | exact HB.out)⟩
 ·rw [if_neg c3] at H
  have c3b0 : (a0_2 != a1_2) = false := by simpa using c3
  (try (have c3b1 : decide (a0_2 = a1_2) = true := by simpa using c3))
  (try (have c3b2 : (a0_2 == a1_2) = true := by simpa using c3))
  clear c3
  by_cases c15 : a0_2 = true
  ·subst c15
   have H1 : ((concordanceref01_Bytes.f k a0_0 a1_0).bind fun t321 => (some t321)) = some r := by rw [if_pos rfl] at H; exact H
   clear H
   have H := H1
   clear H1
   replace H := Option.bind_eq_some_iff.mp H
   obtain ⟨t321, A160, H⟩ := H
   replace H : (some t321) = some r := H
   have A16 := Aside0.mk A160
   clear A160
   obtain rfl := Option.some.inj H
   go_enter Tryd.func21, Tryd.ntmps21
   go_wp2_with (first | ((with_reducible refine gate_dst (N := 2) rfl ?_); refine box_event ?hg (N := 2) ?hd (cs := #[.string a0_0, .int .i64 a0_1, .bool true]) (t := 26) ?hr ?_; (case hd => rfl); (case hg => rfl); (case hr => first | (go_simp; done) | (go_simp; rfl)); intro gb319 hg w17 hbox hb; have n0_ := Aside0.mk (below_step (by repeat (first | (with_reducible first | exact HB.out | apply below_alloc | apply pw_below_drewN | apply below_drew1) | exact HB.out)) hb); have n1_ := Aside0.mk (hbox); have n2_ := Aside0.mk ((by rw [hg]; exact (below_size (by repeat (first | (with_reducible first | exact HB.out | apply below_alloc | apply pw_below_drewN | apply below_drew1) | exact HB.out))) : w.heap.size ≤ gb319)); have n3_ := Aside0.mk ((by rw [hg]; exact (below_size (by repeat (first | (with_reducible first | exact HB.out | apply below_alloc | apply pw_below_drewN | apply below_drew1) | exact HB.out))) : w.heap.size ≤ gb319)); clear HB; have HB := n0_; have BK319 := n1_; have GW319 := n2_; have GE319 := n3_; clear n0_ n1_ n2_ n3_; clear hb hbox hg) | ((with_reducible refine gate_dst (N := 3) rfl ?_); refine box_event ?hg (N := 3) ?hd (cs := #[.string a1_0, .int .i64 a1_1, .bool a1_2]) (t := 26) ?hr ?_; (case hd => rfl); (case hg => rfl); (case hr => first | (go_simp; done) | (go_simp; rfl)); intro gb320 hg w18 hbox hb; have n0_ := Aside0.mk (blk_below (g := gb319) (o := .cells #[.string a0_0, .int .i64 a0_1, .bool true] 26 (0, 0)) (by (with_reducible repeat (first | refine blk_drewN ?_ _ | refine blk_drew ?_ | refine blk_alloc ?_ _)); exact BK319.out) hb); have n1_ := Aside0.mk (below_step (by repeat (first | (with_reducible first | exact HB.out | apply below_alloc | apply pw_below_drewN | apply below_drew1 | refine below_set ?_ GE319.out) | exact HB.out)) hb); have n2_ := Aside0.mk (hbox); have n3_ := Aside0.mk ((by rw [hg]; exact (below_size (by repeat (first | (with_reducible first | exact HB.out | apply below_alloc | apply pw_below_drewN | apply below_drew1 | refine below_set ?_ GE319.out) | exact HB.out))) : w.heap.size ≤ gb320)); have n4_ := Aside0.mk ((by rw [hg]; exact (below_size (by repeat (first | (with_reducible first | exact HB.out | apply below_alloc | apply pw_below_drewN | apply below_drew1 | refine below_set ?_ GE319.out) | exact HB.out))) : w.heap.size ≤ gb320)); have n5_ := Aside0.mk ((by rw [hg]; exact Nat.ne_of_lt (blk_lt (g := gb319) (o := .cells #[.string a0_0, .int .i64 a0_1, .bool true] 26 (0, 0)) (by (with_reducible repeat (first | refine blk_drewN ?_ _ | refine blk_drew ?_ | refine blk_alloc ?_ _)); exact BK319.out)) : gb319 ≠ gb320)); have n6_ := Aside0.mk ((by rw [hg]; exact Nat.ne_of_gt (blk_lt (g := gb319) (o := .cells #[.string a0_0, .int .i64 a0_1, .bool true] 26 (0, 0)) (by (with_reducible repeat (first | refine blk_drewN ?_ _ | refine blk_drew ?_ | refine blk_alloc ?_ _)); exact BK319.out)) : gb320 ≠ gb319)); clear BK319; clear HB; have BK319 := n0_; have HB := n1_; have BK320 := n2_; have GW320 := n3_; have GE320 := n4_; have NB319_320 := n5_; have NB320_319 := n6_; clear n0_ n1_ n2_ n3_ n4_ n5_ n6_; clear hb hbox hg; have hnb19 := NB319_320.out; have hnc19 := NB320_319.out; have hcz20_0 : w18.cell? ⟨gb319, 0, none⟩ = some (.string a0_0) := (blk_cell BK319.out 0).trans rfl; have hcz20_1 : w18.cell? ⟨gb319, 1, none⟩ = some (.int .i64 a0_1) := (blk_cell BK319.out 1).trans rfl; have hcz20_2 : w18.cell? ⟨gb319, 2, none⟩ = some (.bool true) := (blk_cell BK319.out 2).trans rfl; have hfz20_0 := blk_frozen BK319.out 0; have hfz20_1 := blk_frozen BK319.out 1; have hfz20_2 := blk_frozen BK319.out 2; have hcz21_0 : w18.cell? ⟨gb320, 0, none⟩ = some (.string a1_0) := (blk_cell BK320.out 0).trans rfl; have hcz21_1 : w18.cell? ⟨gb320, 1, none⟩ = some (.int .i64 a1_1) := (blk_cell BK320.out 1).trans rfl; have hcz21_2 : w18.cell? ⟨gb320, 2, none⟩ = some (.bool a1_2) := (blk_cell BK320.out 2).trans rfl; have hfz21_0 := blk_frozen BK320.out 0; have hfz21_1 := blk_frozen BK320.out 1; have hfz21_2 := blk_frozen BK320.out 2) | ((with_reducible refine gate_callee (f := 45) rfl ?_); refine goesL_ (some 18) rfl rfl Tryd.func45 (by kernel_rfl) rfl #[.string a0_0, .string a1_0] rfl (by (try simp only [List.map_toArray, List.map_cons, List.map_nil]); first | done | rfl | (simp only [List.length_drop, List.length_take]; rfl)) ?_; (with_reducible refine (concordanceref01_Bytes.calls k a0_0 a1_0 t321 _ A16.out).mono ?_); rintro e w' ⟨rfl, ⟨nd, rfl⟩⟩; refine ⟨_, rfl, ?_⟩))
   go_ret
   exact ⟨by first | rfl | (simp [errW_none, errW_some] <;> rfl) | (simp [*, errW_none, errW_some] <;> rfl), by repeat (first | (with_reducible first | exact HB.out | apply below_alloc | apply pw_below_drewN | apply below_drew1 | refine below_set ?_ GE319.out | refine below_set ?_ GE320.out) | exact HB.out)⟩
  ·replace c15 := Bool.eq_false_iff.mpr c15
   subst c15
   have H1 : (if a0_1 < a1_1 then (some (-1)) else (if a0_1 > a1_1 then (some 1) else (some 0))) = some r := by rw [if_neg (show ¬ (false = true) by decide)] at H; exact H
   clear H
   have H := H1
   clear H1
   by_cases c22 : a0_1 < a1_1
   ·rw [if_pos c22] at H
    have c22b0 : decide (a0_1 < a1_1) = true := decide_eq_true c22
    clear c22
    obtain rfl := Option.some.inj H
    go_enter Tryd.func21, Tryd.ntmps21
    go_wp2_with (first | ((with_reducible refine gate_dst (N := 2) rfl ?_); refine box_event ?hg (N := 2) ?hd (cs := #[.string a0_0, .int .i64 a0_1, .bool false]) (t := 26) ?hr ?_; (case hd => rfl); (case hg => rfl); (case hr => first | (go_simp; done) | (go_simp; rfl)); intro gb319 hg w23 hbox hb; have n0_ := Aside0.mk (below_step (by repeat (first | (with_reducible first | exact HB.out | apply below_alloc | apply pw_below_drewN | apply below_drew1) | exact HB.out)) hb); have n1_ := Aside0.mk (hbox); have n2_ := Aside0.mk ((by rw [hg]; exact (below_size (by repeat (first | (with_reducible first | exact HB.out | apply below_alloc | apply pw_below_drewN | apply below_drew1) | exact HB.out))) : w.heap.size ≤ gb319)); have n3_ := Aside0.mk ((by rw [hg]; exact (below_size (by repeat (first | (with_reducible first | exact HB.out | apply below_alloc | apply pw_below_drewN | apply below_drew1) | exact HB.out))) : w.heap.size ≤ gb319)); clear HB; have HB := n0_; have BK319 := n1_; have GW319 := n2_; have GE319 := n3_; clear n0_ n1_ n2_ n3_; clear hb hbox hg) | ((with_reducible refine gate_dst (N := 3) rfl ?_); refine box_event ?hg (N := 3) ?hd (cs := #[.string a1_0, .int .i64 a1_1, .bool a1_2]) (t := 26) ?hr ?_; (case hd => rfl); (case hg => rfl); (case hr => first | (go_simp; done) | (go_simp; rfl)); intro gb320 hg w24 hbox hb; have n0_ := Aside0.mk (blk_below (g := gb319) (o := .cells #[.string a0_0, .int .i64 a0_1, .bool false] 26 (0, 0)) (by (with_reducible repeat (first | refine blk_drewN ?_ _ | refine blk_drew ?_ | refine blk_alloc ?_ _)); exact BK319.out) hb); have n1_ := Aside0.mk (below_step (by repeat (first | (with_reducible first | exact HB.out | apply below_alloc | apply pw_below_drewN | apply below_drew1 | refine below_set ?_ GE319.out) | exact HB.out)) hb); have n2_ := Aside0.mk (hbox); have n3_ := Aside0.mk ((by rw [hg]; exact (below_size (by repeat (first | (with_reducible first | exact HB.out | apply below_alloc | apply pw_below_drewN | apply below_drew1 | refine below_set ?_ GE319.out) | exact HB.out))) : w.heap.size ≤ gb320)); have n4_ := Aside0.mk ((by rw [hg]; exact (below_size (by repeat (first | (with_reducible first | exact HB.out | apply below_alloc | apply pw_below_drewN | apply below_drew1 | refine below_set ?_ GE319.out) | exact HB.out))) : w.heap.size ≤ gb320)); have n5_ := Aside0.mk ((by rw [hg]; exact Nat.ne_of_lt (blk_lt (g := gb319) (o := .cells #[.string a0_0, .int .i64 a0_1, .bool false] 26 (0, 0)) (by (with_reducible repeat (first | refine blk_drewN ?_ _ | refine blk_drew ?_ | refine blk_alloc ?_ _)); exact BK319.out)) : gb319 ≠ gb320)); have n6_ := Aside0.mk ((by rw [hg]; exact Nat.ne_of_gt (blk_lt (g := gb319) (o := .cells #[.string a0_0, .int .i64 a0_1, .bool false] 26 (0, 0)) (by (with_reducible repeat (first | refine blk_drewN ?_ _ | refine blk_drew ?_ | refine blk_alloc ?_ _)); exact BK319.out)) : gb320 ≠ gb319)); clear BK319; clear HB; have BK319 := n0_; have HB := n1_; have BK320 := n2_; have GW320 := n3_; have GE320 := n4_; have NB319_320 := n5_; have NB320_319 := n6_; clear n0_ n1_ n2_ n3_ n4_ n5_ n6_; clear hb hbox hg; have hnb25 := NB319_320.out; have hnc25 := NB320_319.out; have hcz26_0 : w24.cell? ⟨gb319, 0, none⟩ = some (.string a0_0) := (blk_cell BK319.out 0).trans rfl; have hcz26_1 : w24.cell? ⟨gb319, 1, none⟩ = some (.int .i64 a0_1) := (blk_cell BK319.out 1).trans rfl; have hcz26_2 : w24.cell? ⟨gb319, 2, none⟩ = some (.bool false) := (blk_cell BK319.out 2).trans rfl; have hfz26_0 := blk_frozen BK319.out 0; have hfz26_1 := blk_frozen BK319.out 1; have hfz26_2 := blk_frozen BK319.out 2; have hcz27_0 : w24.cell? ⟨gb320, 0, none⟩ = some (.string a1_0) := (blk_cell BK320.out 0).trans rfl; have hcz27_1 : w24.cell? ⟨gb320, 1, none⟩ = some (.int .i64 a1_1) := (blk_cell BK320.out 1).trans rfl; have hcz27_2 : w24.cell? ⟨gb320, 2, none⟩ = some (.bool a1_2) := (blk_cell BK320.out 2).trans rfl; have hfz27_0 := blk_frozen BK320.out 0; have hfz27_1 := blk_frozen BK320.out 1; have hfz27_2 := blk_frozen BK320.out 2))
    go_ret
    exact ⟨by first | rfl | (simp [errW_none, errW_some] <;> rfl) | (simp [*, errW_none, errW_some] <;> rfl), by repeat (first | (with_reducible first | exact HB.out | apply below_alloc | apply pw_below_drewN | apply below_drew1 | refine below_set ?_ GE319.out | refine below_set ?_ GE320.out) | exact HB.out)⟩
   ·rw [if_neg c22] at H
    have c22b0 : decide (a0_1 < a1_1) = false := decide_eq_false c22
    clear c22
    by_cases c28 : a0_1 > a1_1
    ·rw [if_pos c28] at H
     have c28b0 : decide (a1_1 < a0_1) = true := decide_eq_true c28
     clear c28
     obtain rfl := Option.some.inj H
     go_enter Tryd.func21, Tryd.ntmps21
     go_wp2_with (first | ((with_reducible refine gate_dst (N := 2) rfl ?_); refine box_event ?hg (N := 2) ?hd (cs := #[.string a0_0, .int .i64 a0_1, .bool false]) (t := 26) ?hr ?_; (case hd => rfl); (case hg => rfl); (case hr => first | (go_simp; done) | (go_simp; rfl)); intro gb319 hg w29 hbox hb; have n0_ := Aside0.mk (below_step (by repeat (first | (with_reducible first | exact HB.out | apply below_alloc | apply pw_below_drewN | apply below_drew1) | exact HB.out)) hb); have n1_ := Aside0.mk (hbox); have n2_ := Aside0.mk ((by rw [hg]; exact (below_size (by repeat (first | (with_reducible first | exact HB.out | apply below_alloc | apply pw_below_drewN | apply below_drew1) | exact HB.out))) : w.heap.size ≤ gb319)); have n3_ := Aside0.mk ((by rw [hg]; exact (below_size (by repeat (first | (with_reducible first | exact HB.out | apply below_alloc | apply pw_below_drewN | apply below_drew1) | exact HB.out))) : w.heap.size ≤ gb319)); clear HB; have HB := n0_; have BK319 := n1_; have GW319 := n2_; have GE319 := n3_; clear n0_ n1_ n2_ n3_; clear hb hbox hg) | ((with_reducible refine gate_dst (N := 3) rfl ?_); refine box_event ?hg (N := 3) ?hd (cs := #[.string a1_0, .int .i64 a1_1, .bool a1_2]) (t := 26) ?hr ?_; (case hd => rfl); (case hg => rfl); (case hr => first | (go_simp; done) | (go_simp; rfl)); intro gb320 hg w30 hbox hb; have n0_ := Aside0.mk (blk_below (g := gb319) (o := .cells #[.string a0_0, .int .i64 a0_1, .bool false] 26 (0, 0)) (by (with_reducible repeat (first | refine blk_drewN ?_ _ | refine blk_drew ?_ | refine blk_alloc ?_ _)); exact BK319.out) hb); have n1_ := Aside0.mk (below_step (by repeat (first | (with_reducible first | exact HB.out | apply below_alloc | apply pw_below_drewN | apply below_drew1 | refine below_set ?_ GE319.out) | exact HB.out)) hb); have n2_ := Aside0.mk (hbox); have n3_ := Aside0.mk ((by rw [hg]; exact (below_size (by repeat (first | (with_reducible first | exact HB.out | apply below_alloc | apply pw_below_drewN | apply below_drew1 | refine below_set ?_ GE319.out) | exact HB.out))) : w.heap.size ≤ gb320)); have n4_ := Aside0.mk ((by rw [hg]; exact (below_size (by repeat (first | (with_reducible first | exact HB.out | apply below_alloc | apply pw_below_drewN | apply below_drew1 | refine below_set ?_ GE319.out) | exact HB.out))) : w.heap.size ≤ gb320)); have n5_ := Aside0.mk ((by rw [hg]; exact Nat.ne_of_lt (blk_lt (g := gb319) (o := .cells #[.string a0_0, .int .i64 a0_1, .bool false] 26 (0, 0)) (by (with_reducible repeat (first | refine blk_drewN ?_ _ | refine blk_drew ?_ | refine blk_alloc ?_ _)); exact BK319.out)) : gb319 ≠ gb320)); have n6_ := Aside0.mk ((by rw [hg]; exact Nat.ne_of_gt (blk_lt (g := gb319) (o := .cells #[.string a0_0, .int .i64 a0_1, .bool false] 26 (0, 0)) (by (with_reducible repeat (first | refine blk_drewN ?_ _ | refine blk_drew ?_ | refine blk_alloc ?_ _)); exact BK319.out)) : gb320 ≠ gb319)); clear BK319; clear HB; have BK319 := n0_; have HB := n1_; have BK320 := n2_; have GW320 := n3_; have GE320 := n4_; have NB319_320 := n5_; have NB320_319 := n6_; clear n0_ n1_ n2_ n3_ n4_ n5_ n6_; clear hb hbox hg; have hnb31 := NB319_320.out; have hnc31 := NB320_319.out; have hcz32_0 : w30.cell? ⟨gb319, 0, none⟩ = some (.string a0_0) := (blk_cell BK319.out 0).trans rfl; have hcz32_1 : w30.cell? ⟨gb319, 1, none⟩ = some (.int .i64 a0_1) := (blk_cell BK319.out 1).trans rfl; have hcz32_2 : w30.cell? ⟨gb319, 2, none⟩ = some (.bool false) := (blk_cell BK319.out 2).trans rfl; have hfz32_0 := blk_frozen BK319.out 0; have hfz32_1 := blk_frozen BK319.out 1; have hfz32_2 := blk_frozen BK319.out 2; have hcz33_0 : w30.cell? ⟨gb320, 0, none⟩ = some (.string a1_0) := (blk_cell BK320.out 0).trans rfl; have hcz33_1 : w30.cell? ⟨gb320, 1, none⟩ = some (.int .i64 a1_1) := (blk_cell BK320.out 1).trans rfl; have hcz33_2 : w30.cell? ⟨gb320, 2, none⟩ = some (.bool a1_2) := (blk_cell BK320.out 2).trans rfl; have hfz33_0 := blk_frozen BK320.out 0; have hfz33_1 := blk_frozen BK320.out 1; have hfz33_2 := blk_frozen BK320.out 2))
     go_ret
     exact ⟨by first | rfl | (simp [errW_none, errW_some] <;> rfl) | (simp [*, errW_none, errW_some] <;> rfl), by repeat (first | (with_reducible first | exact HB.out | apply below_alloc | apply pw_below_drewN | apply below_drew1 | refine below_set ?_ GE319.out | refine below_set ?_ GE320.out) | exact HB.out)⟩
    ·rw [if_neg c28] at H
     have c28b0 : decide (a1_1 < a0_1) = false := decide_eq_false c28
     clear c28
     obtain rfl := Option.some.inj H
     go_enter Tryd.func21, Tryd.ntmps21
     go_wp2_with (first | ((with_reducible refine gate_dst (N := 2) rfl ?_); refine box_event ?hg (N := 2) ?hd (cs := #[.string a0_0, .int .i64 a0_1, .bool false]) (t := 26) ?hr ?_; (case hd => rfl); (case hg => rfl); (case hr => first | (go_simp; done) | (go_simp; rfl)); intro gb319 hg w34 hbox hb; have n0_ := Aside0.mk (below_step (by repeat (first | (with_reducible first | exact HB.out | apply below_alloc | apply pw_below_drewN | apply below_drew1) | exact HB.out)) hb); have n1_ := Aside0.mk (hbox); have n2_ := Aside0.mk ((by rw [hg]; exact (below_size (by repeat (first | (with_reducible first | exact HB.out | apply below_alloc | apply pw_below_drewN | apply below_drew1) | exact HB.out))) : w.heap.size ≤ gb319)); have n3_ := Aside0.mk ((by rw [hg]; exact (below_size (by repeat (first | (with_reducible first | exact HB.out | apply below_alloc | apply pw_below_drewN | apply below_drew1) | exact HB.out))) : w.heap.size ≤ gb319)); clear HB; have HB := n0_; have BK319 := n1_; have GW319 := n2_; have GE319 := n3_; clear n0_ n1_ n2_ n3_; clear hb hbox hg) | ((with_reducible refine gate_dst (N := 3) rfl ?_); refine box_event ?hg (N := 3) ?hd (cs := #[.string a1_0, .int .i64 a1_1, .bool a1_2]) (t := 26) ?hr ?_; (case hd => rfl); (case hg => rfl); (case hr => first | (go_simp; done) | (go_simp; rfl)); intro gb320 hg w35 hbox hb; have n0_ := Aside0.mk (blk_below (g := gb319) (o := .cells #[.string a0_0, .int .i64 a0_1, .bool false] 26 (0, 0)) (by (with_reducible repeat (first | refine blk_drewN ?_ _ | refine blk_drew ?_ | refine blk_alloc ?_ _)); exact BK319.out) hb); have n1_ := Aside0.mk (below_step (by repeat (first | (with_reducible first | exact HB.out | apply below_alloc | apply pw_below_drewN | apply below_drew1 | refine below_set ?_ GE319.out) | exact HB.out)) hb); have n2_ := Aside0.mk (hbox); have n3_ := Aside0.mk ((by rw [hg]; exact (below_size (by repeat (first | (with_reducible first | exact HB.out | apply below_alloc | apply pw_below_drewN | apply below_drew1 | refine below_set ?_ GE319.out) | exact HB.out))) : w.heap.size ≤ gb320)); have n4_ := Aside0.mk ((by rw [hg]; exact (below_size (by repeat (first | (with_reducible first | exact HB.out | apply below_alloc | apply pw_below_drewN | apply below_drew1 | refine below_set ?_ GE319.out) | exact HB.out))) : w.heap.size ≤ gb320)); have n5_ := Aside0.mk ((by rw [hg]; exact Nat.ne_of_lt (blk_lt (g := gb319) (o := .cells #[.string a0_0, .int .i64 a0_1, .bool false] 26 (0, 0)) (by (with_reducible repeat (first | refine blk_drewN ?_ _ | refine blk_drew ?_ | refine blk_alloc ?_ _)); exact BK319.out)) : gb319 ≠ gb320)); have n6_ := Aside0.mk ((by rw [hg]; exact Nat.ne_of_gt (blk_lt (g := gb319) (o := .cells #[.string a0_0, .int .i64 a0_1, .bool false] 26 (0, 0)) (by (with_reducible repeat (first | refine blk_drewN ?_ _ | refine blk_drew ?_ | refine blk_alloc ?_ _)); exact BK319.out)) : gb320 ≠ gb319)); clear BK319; clear HB; have BK319 := n0_; have HB := n1_; have BK320 := n2_; have GW320 := n3_; have GE320 := n4_; have NB319_320 := n5_; have NB320_319 := n6_; clear n0_ n1_ n2_ n3_ n4_ n5_ n6_; clear hb hbox hg; have hnb36 := NB319_320.out; have hnc36 := NB320_319.out; have hcz37_0 : w35.cell? ⟨gb319, 0, none⟩ = some (.string a0_0) := (blk_cell BK319.out 0).trans rfl; have hcz37_1 : w35.cell? ⟨gb319, 1, none⟩ = some (.int .i64 a0_1) := (blk_cell BK319.out 1).trans rfl; have hcz37_2 : w35.cell? ⟨gb319, 2, none⟩ = some (.bool false) := (blk_cell BK319.out 2).trans rfl; have hfz37_0 := blk_frozen BK319.out 0; have hfz37_1 := blk_frozen BK319.out 1; have hfz37_2 := blk_frozen BK319.out 2; have hcz38_0 : w35.cell? ⟨gb320, 0, none⟩ = some (.string a1_0) := (blk_cell BK320.out 0).trans rfl; have hcz38_1 : w35.cell? ⟨gb320, 1, none⟩ = some (.int .i64 a1_1) := (blk_cell BK320.out 1).trans rfl; have hcz38_2 : w35.cell? ⟨gb320, 2, none⟩ = some (.bool a1_2) := (blk_cell BK320.out 2).trans rfl; have hfz38_0 := blk_frozen BK320.out 0; have hfz38_1 := blk_frozen BK320.out 1; have hfz38_2 := blk_frozen BK320.out 2))
     go_ret
     exact ⟨by first | rfl | (simp [errW_none, errW_some] <;> rfl) | (simp [*, errW_none, errW_some] <;> rfl), by repeat (first | (with_reducible first | exact HB.out | apply below_alloc | apply pw_below_drewN | apply below_drew1 | refine below_set ?_ GE319.out | refine below_set ?_ GE320.out) | exact HB.out)⟩

end Go.Proofs.YtcpehlllgfffkaaDoor.GT
