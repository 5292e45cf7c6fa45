/- law07.made's contract: a record of the input's numbers, texts and pages, cut to their bounds, for the program and for the document. Conditions: the pages are read at the slice that is handed in. -/
import Derived.Test.YteehchhmonlkkaaHOwn
import Derived.Test.YteehchhmonlkkaaHRefRecPut
namespace Go.Proofs.Yteehchhmonlkkaa.GP
open Go.RowKit Go.Sort Go.Proofs.Yteehchhmonlkkaa.Ownd Go.Proofs.Yteehchhmonlkkaa.Tail Go.Proofs.YteehchhmonlkkaaW.PrintWords Go.Proofs.YteehchhmonlkkaaW.PrintLast Go.Proofs.YteehchhmonlkkaaW.PrintMore Go.Proofs.Yteehchhmonlkkaa.Copy Go.Proofs.Yteehchhmonlkkaa.Bld
attribute [local go_sem] max2_int min2_int max_two min_two max_three min_three max_four min_four
set_option linter.unusedVariables false
set_option linter.unusedSimpArgs false

/-- A piece, its data cut to 600 bytes. -/
def cutQ (x : S65) : S67 := ⟨x.f0, x.f1.extract 0 (min x.f1.size 600)⟩
def cutP (x : S65) : S66 := ⟨x.f0, x.f1.extract 0 (min x.f1.size 600)⟩
/-- A changed page of at most ten pieces. -/
def madeD (x : S57) : S63 := ⟨x.f0, (x.f1.take 10).map cutQ⟩
def madeC (x : S57) : S60 := ⟨x.f0, (x.f1.take 10).map cutP⟩
def madeU (u : ByteArray) : ByteArray := u.extract 0 (min u.size 20000)
def pagesD' (l : List S57) : List S63 := (l.take 300).map madeD
def pagesC' (l : List S57) : List S60 := (l.take 300).map madeC
def concordancelaw07_made.f (a b c d : Int) (u : ByteArray) (l : List S57) : Option (Int × Int × Int × ByteArray × Int × List S60 × Int × Int × Int × ByteArray × Int × List S63) :=
  some (a, b, c, madeU u, d, pagesC' l, a, b, c, madeU u, d, pagesD' l)
theorem fk_66 (W : World) (ok : Nat → Prop) (x : S66) : Kd.FK k66 W ok x [.int .i64 x.f0, .string x.f1] := fun W2 _ => k66_mk W2 x
theorem fk_67 (W : World) (ok : Nat → Prop) (x : S67) : Kd.FK k67 W ok x [.int .i64 x.f0, .string x.f1] := fun W2 _ => k67_mk W2 x
theorem fk_60 (W : World) (ok : Nat → Prop) (x : S60) {A1 : Option Addr} {c1 : Nat} (l1 : x.f1.length ≤ c1) (g1 : Kd.F k66 W ok A1 x.f1.length x.f1) : Kd.FK k60 W ok x [.int .i64 x.f0, .slice A1 x.f1.length c1] := fun W2 hW => k60_mk W2 x l1 (g1 W2 hW)
theorem fk_63 (W : World) (ok : Nat → Prop) (x : S63) {A1 : Option Addr} {c1 : Nat} (l1 : x.f1.length ≤ c1) (g1 : Kd.F k67 W ok A1 x.f1.length x.f1) : Kd.FK k63 W ok x [.int .i64 x.f0, .slice A1 x.f1.length c1] := fun W2 hW => k63_mk W2 x l1 (g1 W2 hW)
theorem rd_L (l : List S57) (i : Nat) (h : i < l.length) : rd_T57 l (i : Int) = l[i] := by simp [rd_T57, List.getD_eq_getElem?_getD, List.getElem?_eq_getElem h]
theorem rd_M (l : List S65) (i : Nat) (h : i < l.length) : rd_T65 l (i : Int) = l[i] := by simp [rd_T65, List.getD_eq_getElem?_getD, List.getElem?_eq_getElem h]
theorem len24 {α β : Type} (l : List α) (f : α → β) (x : β) (j : Nat) (h : j ≤ 300) : (((l.take j).map f).length + [x].length) * 24 ≤ 140737488355328 := by
  simp only [List.length_map, List.length_take, List.length_cons, List.length_nil]
  omega
theorem len32 {α β : Type} (l : List α) (f : α → β) (x : β) (j : Nat) (h : j ≤ 300) : (((l.take j).map f).length + [x].length) * 32 ≤ 140737488355328 := by
  simp only [List.length_map, List.length_take, List.length_cons, List.length_nil]
  omega
theorem take_more {α β : Type} (l : List α) (f : α → β) (j : Nat) (h : j < l.length) (x : β) (e : f l[j] = x) : (l.take j).map f ++ [x] = (l.take (j + 1)).map f := by
  rw [List.take_succ_eq_append_getElem h, List.map_append, List.map_cons, List.map_nil, e]
theorem min_fact (n m : Nat) : (if (m : Int) < (n : Int) then (m : Int) else (n : Int)) = ((min n m : Nat) : Int) := by split <;> omega

def made_T7 : Bool × List (List Nat × List Nat) := (true, [([], []), ([0], [0]), ([], []), ([1, 2], [1, 2]), ([3], [3]), ([4], [4]), ([5], [5]), ([], []), ([7], [7]), ([], []), ([8, 9], [8, 9]), ([10], [10]), ([11], [11]), ([12], [12]), ([], []), ([], []), ([14, 6, 0, 1, 2, 3, 4, 5, 6, 14, 15], [6, 14]), ([15, 13, 16, 0, 1, 2, 3, 4, 5, 6, 7, 8, 9, 10, 11, 12, 13, 14, 15, 16], [13, 15])])
def made_B7 : List Nat := [0, 1, 0, 7, 15, 31, 63, 0, 128, 0, 896, 1920, 3968, 8064, 0, 0, 49279, 131071]
theorem made_tab7 : rtab .any (opsOf Try.f8 7) = made_T7 := by kernel_rfl
theorem made_bits7 : waitsOk made_T7.2 made_B7 = true := by kernel_rfl
def made_T13 : Bool × List (List Nat × List Nat) := (true, [([], []), ([0], [0]), ([], []), ([2], [2]), ([1, 3], [1, 3]), ([], []), ([5], [5]), ([], []), ([7], [7]), ([6, 8, 4], [6, 8]), ([0, 1, 2, 3, 4], []), ([10, 4, 9, 0, 1, 2, 3, 4], [4, 10]), ([0, 1, 2, 3, 4, 5, 6, 7, 8, 9, 10, 11], []), ([12, 9, 11, 0, 1, 2, 3, 4, 5, 6, 7, 8, 9, 10, 11], [9, 12])])
def made_B13 : List Nat := [0, 1, 0, 4, 15, 0, 32, 0, 128, 511, 31, 2047, 4095, 8191]
theorem made_tab13 : rtab .any (opsOf Try.f8 13) = made_T13 := by kernel_rfl
theorem made_bits13 : waitsOk made_T13.2 made_B13 = true := by kernel_rfl
theorem made_tab14 : rtab .any (opsOf Try.f8 14) = made_T13 := by kernel_rfl
theorem made_bits14 : waitsOk made_T13.2 made_B13 = true := made_bits13
theorem take_max {α : Type} (l : List α) (j m : Nat) (h : j = min m l.length) : l.take j = l.take m := by
  rcases Nat.le_total m l.length with h1 | h1
  · rw [h, Nat.min_eq_left h1]
  · rw [h, Nat.min_eq_right h1, List.take_length, List.take_of_length_le h1]
theorem take_ten {α : Type} (l : List α) (j : Nat) (h : j = min 10 l.length) : l.take j = l.take 10 := by
  rcases Nat.le_total 10 l.length with h1 | h1
  · rw [h, Nat.min_eq_left h1]
  · rw [h, Nat.min_eq_right h1, List.take_length, List.take_of_length_le h1]

set_option maxHeartbeats 3200000 in
set_option maxRecDepth 100000 in
theorem made_does (a b c d : Int) (u : ByteArray) (A0 : Option Addr) (c0 : Nat) (l : List S57) (w : World) (hr : Kd.C k57 w A0 l.length l) (hc : l.length ≤ c0) :
    Calls Try.prog 8 #[.agg #[.int .i64 a, .int .i64 b, .int .i64 c, .int .i64 d, .string u, .slice A0 l.length c0]] w fun e w' => ∃ v1 v2 : Value, e = .returned (.tuple #[.agg #[.int .i64 a, .int .i64 b, .int .i64 c, .string (madeU u), .int .i64 d, v1], .agg #[.int .i64 a, .int .i64 b, .int .i64 c, .string (madeU u), .int .i64 d, v2]]) ∧
      ∃ l' : List Thing, l'[5]? = some (.row k60 60 v1 (pagesC' l)) ∧ l'[6]? = some (.row k63 63 v2 (pagesD' l)) ∧ Own w w' l' := by
  have hu25 := Try.underlying25
  have hu29 := Try.underlying29
  have hu32 := Try.underlying32
  have hu60 := Try.underlying60
  have hu63 := Try.underlying63
  have hu65 := Try.underlying65
  have HR := Aside0.mk hr
  have HC := Aside0.mk hc
  have HU := Aside0.mk (show u.extract 0 (min u.size 20000) = madeU u from rfl)
  have hm0 : (if (20000 : Int) < (u.size : Int) then (20000 : Int) else (u.size : Int)) = ((min u.size 20000 : Nat) : Int) := min_fact u.size 20000
  have hm1 : min u.size 20000 ≤ u.size := Nat.min_le_left _ _
  generalize min u.size 20000 = m at hm0 hm1 HU
  have q0 : (0 ≤ (m : Int)) = True := eq_true (by omega)
  have q1 : decide (0 ≤ (m : Int)) = true := decide_eq_true (by omega)
  have q2 : ((m : Int) ≤ (u.size : Int)) = True := eq_true (by omega)
  have q3 : decide ((m : Int) ≤ (u.size : Int)) = true := decide_eq_true (by omega)
  have HO := Aside0.mk (Own.start w 14)
  clear hr hc
  go_enter Try.func8, Try.ntmps8
  go_upto_region 1 with (first | ((with_reducible refine gate_dst (N := 1) rfl ?_); refine box_event ?hg (N := 1) ?hd (cs := #[.int .i64 a, .int .i64 b, .int .i64 c, .int .i64 d, .string u, .slice A0 l.length c0]) (t := 25) ?hr ?_; (case hd => rfl); (case hg => rfl); (case hr => first | (go_simp; done) | (go_simp; rfl)); intro g1 hg w1 hbox hb; have HO1 := Aside0.mk (HO.out.new 0 rfl hb hbox (Nat.le_of_eq hg.symm)); clear HO hg hbox hb; have HO := HO1; clear HO1) | ((with_reducible refine gate_dst (N := 2) rfl ?_); refine box_event ?hg (N := 2) ?hd (cs := #[.int .i64 0, .int .i64 0, .int .i64 0, .string (⟨#[]⟩ : ByteArray), .int .i64 0, .slice none 0 0]) (t := 29) ?hr ?_; (case hd => rfl); (case hg => rfl); (case hr => first | (go_simp; done) | (go_simp; rfl)); intro g2 hg w2 hbox hb; have HO1 := Aside0.mk (HO.out.new 1 rfl hb hbox (Nat.le_of_eq hg.symm)); clear HO hg hbox hb; have HO := HO1; clear HO1) | ((with_reducible refine gate_dst (N := 3) rfl ?_); refine box_event ?hg (N := 3) ?hd (cs := #[.int .i64 0, .int .i64 0, .int .i64 0, .string (⟨#[]⟩ : ByteArray), .int .i64 0, .slice none 0 0]) (t := 32) ?hr ?_; (case hd => rfl); (case hg => rfl); (case hr => first | (go_simp; done) | (go_simp; rfl)); intro g3 hg w3 hbox hb; have HO1 := Aside0.mk (HO.out.new 2 rfl hb hbox (Nat.le_of_eq hg.symm)); clear HO hg hbox hb; have HO := HO1; clear HO1) | fail)
  have z0 : w3.cell? ⟨g1, 0, none⟩ = some (.int .i64 a) := (HO.out.cell 0 rfl 0).trans rfl
  have z1 : w3.cell? ⟨g1, 1, none⟩ = some (.int .i64 b) := (HO.out.cell 0 rfl 1).trans rfl
  have z2 : w3.cell? ⟨g1, 2, none⟩ = some (.int .i64 c) := (HO.out.cell 0 rfl 2).trans rfl
  have z3 : w3.cell? ⟨g1, 3, none⟩ = some (.int .i64 d) := (HO.out.cell 0 rfl 3).trans rfl
  have z4 : w3.cell? ⟨g1, 4, none⟩ = some (.string u) := (HO.out.cell 0 rfl 4).trans rfl
  go_upto_region 3 with fail
  simp only [hm0, Int.toNat_natCast, HU.out]
  clear z0 z1 z2 z3 z4 hm0 hm1 q0 q1 q2 q3 HU
  have HO1 := Aside0.mk (HO.out.alloc 3 rfl (.cells #[.int .i64 a, .int .i64 b, .int .i64 c, .string (madeU u), .int .i64 d, .slice none 0 0] 29))
  clear HO
  have HO := HO1
  clear HO1
  generalize w3.alloc (.cells #[.int .i64 a, .int .i64 b, .int .i64 c, .string (madeU u), .int .i64 d, .slice none 0 0] 29) = W1 at HO ⊢
  generalize w3.heap.size = g4 at HO ⊢
  have z0 : W1.cell? ⟨g1, 0, none⟩ = some (.int .i64 a) := (HO.out.cell 0 rfl 0).trans rfl
  have z1 : W1.cell? ⟨g1, 1, none⟩ = some (.int .i64 b) := (HO.out.cell 0 rfl 1).trans rfl
  have z2 : W1.cell? ⟨g1, 2, none⟩ = some (.int .i64 c) := (HO.out.cell 0 rfl 2).trans rfl
  have z3 : W1.cell? ⟨g1, 3, none⟩ = some (.int .i64 d) := (HO.out.cell 0 rfl 3).trans rfl
  go_upto_region 4 with fail
  have HO1 := Aside0.mk (HO.out.alloc 4 rfl (.cells #[.int .i64 a, .int .i64 b, .int .i64 c, .string (madeU u), .int .i64 d, .slice none 0 0] 32))
  clear HO z0 z1 z2 z3
  have HO := HO1
  clear HO1
  generalize W1.alloc (.cells #[.int .i64 a, .int .i64 b, .int .i64 c, .string (madeU u), .int .i64 d, .slice none 0 0] 32) = W2 at HO ⊢
  generalize W1.heap.size = g5 at HO ⊢
  have HO1 := Aside0.mk ((HO.out.nil 5 k60 60).nil 6 k63 63)
  clear HO
  have HD : Hid (Own w W2 [.box g1 (.cells #[.int .i64 a, .int .i64 b, .int .i64 c, .int .i64 d, .string u, .slice A0 l.length c0] 25 (0, 0)), .box g2 (.cells #[.int .i64 0, .int .i64 0, .int .i64 0, .string (⟨#[]⟩ : ByteArray), .int .i64 0, .slice none 0 0] 29 (0, 0)), .box g3 (.cells #[.int .i64 0, .int .i64 0, .int .i64 0, .string (⟨#[]⟩ : ByteArray), .int .i64 0, .slice none 0 0] 32 (0, 0)), .box g4 (.cells #[.int .i64 a, .int .i64 b, .int .i64 c, .string (madeU u), .int .i64 d, .slice none 0 0] 29 (0, 0)), .box g5 (.cells #[.int .i64 a, .int .i64 b, .int .i64 c, .string (madeU u), .int .i64 d, .slice none 0 0] 32 (0, 0)), .row k60 60 (.slice none 0 0) ((l.take 0).map madeC), .row k63 63 (.slice none 0 0) ((l.take 0).map madeD), .gone, .gone, .gone, .gone, .gone, .gone, .gone]) := HO1.out
  clear HO1
  go_wp2_with fail
  go_loopw [7] (fun i wr => ∃ (k : Nat) (v1 v2 : Value), k ≤ min 300 l.length ∧ i = .int .i64 k ∧ Hid (Own w wr [.box g1 (.cells #[.int .i64 a, .int .i64 b, .int .i64 c, .int .i64 d, .string u, .slice A0 l.length c0] 25 (0, 0)), .box g2 (.cells #[.int .i64 0, .int .i64 0, .int .i64 0, .string (⟨#[]⟩ : ByteArray), .int .i64 0, .slice none 0 0] 29 (0, 0)), .box g3 (.cells #[.int .i64 0, .int .i64 0, .int .i64 0, .string (⟨#[]⟩ : ByteArray), .int .i64 0, .slice none 0 0] 32 (0, 0)), .box g4 (.cells #[.int .i64 a, .int .i64 b, .int .i64 c, .string (madeU u), .int .i64 d, v1] 29 (0, 0)), .box g5 (.cells #[.int .i64 a, .int .i64 b, .int .i64 c, .string (madeU u), .int .i64 d, v2] 32 (0, 0)), .row k60 60 v1 ((l.take k).map madeC), .row k63 63 v2 ((l.take k).map madeD), .gone, .gone, .gone, .gone, .gone, .gone, .gone])) (fun i _ => 300 - (intOf i).toNat)
  case atStart => exact ⟨0, _, _, Nat.zero_le _, rfl, HD⟩
  case round =>
    obtain ⟨k, v1, v2, hk, rfl, HD⟩ := hrel
    have hk300 : k ≤ 300 := by omega
    have HO := Aside0.mk HD.out
    clear HD
    have z5 : wr.cell? ⟨g1, 5, none⟩ = some (.slice A0 l.length c0) := (HO.out.cell 0 rfl 5).trans rfl
    go_upto_region 5 with fail
    go_cut [55] (fun v wc => ∃ q : Bool, wc = wr ∧ v = .bool q ∧ Hid (q = decide (k < l.length ∧ k < 300)))
    case first =>
      by_cases h1 : k < l.length
      · have d1 : decide (k < l.length) = true := decide_eq_true h1
        have d1' : decide ((k : Int) < (l.length : Int)) = true := decide_eq_true (by omega)
        go_wp2_with fail
        go_meet
        case rel => exact ⟨_, rfl, rfl, (by show _ = decide _; simp [h1] <;> omega)⟩
      · have d1 : decide (k < l.length) = false := decide_eq_false h1
        have d1' : decide ((k : Int) < (l.length : Int)) = false := decide_eq_false (by omega)
        go_wp2_with fail
        go_meet
        case rel => exact ⟨_, rfl, rfl, (by show _ = decide _; simp [h1] <;> omega)⟩
    case rest =>
      obtain ⟨q, hw_, hv_, hq_⟩ := hcut
      rw [hw_, hv_]
      clear hw_ hv_
      have HQ := Aside0.mk hq_.out
      clear hq_
      cases q with
      | true =>
        have hq := of_decide_eq_true HQ.out.symm
        have hlt : k < l.length := hq.1
        have hlt3 : k < 300 := hq.2
        clear hq HQ
        obtain ⟨ad, A5, c5, e, hx0, hx1, hle, hC⟩ := at_T57 HR.out (k : Int) (by omega) (by omega)
        cases e
        rw [rd_L l k hlt] at hx0 hx1 hle hC
        simp only [Int.toNat_natCast] at hx0 hx1
        have hmc : madeC l[k] = (⟨l[k].f0, (l[k].f1.take 10).map cutP⟩ : S60) := rfl
        have hmd : madeD l[k] = (⟨l[k].f0, (l[k].f1.take 10).map cutQ⟩ : S63) := rfl
        generalize l[k].f0 = pg at hx0 hmc hmd
        generalize l[k].f1 = p1 at hx1 hle hC hmc hmd
        have HX0 := Aside0.mk hx0
        have HX1 := Aside0.mk hx1
        have HLE := Aside0.mk hle
        have HP := Aside0.mk hC
        have HMC := Aside0.mk hmc
        have HMD := Aside0.mk hmd
        clear hx0 hx1 hle hC hmc hmd z5
        go_wp2_with fail
        have HOd := Aside0.mk (HO.out.below (below_drew (Below.refl _ _)))
        refine start_ (n := 18) (S := fun w' => w'.cell? ⟨g1, 5, none⟩ = some (.slice (some ad) l.length c0) ∧ w'.cell? (ad.add (k * 2)) = some (.int .i64 pg)) (ds := []) #[false, false, false, false, false, false, false, false, false, false, false, false, false, false, false, false, false, false] (by kernel_rfl) rfl rfl ⟨(HOd.out.cell 0 rfl 5).trans rfl, (HOd.out.1.cell (World.block_lt_of_cell? w _ HX0.out)).trans HX0.out⟩ (fun hHeld => ?_)
        refine with_tabW made_tab7 made_bits7 (fun HT_ HW_ => ?_)
        generalize wr.drew = W0 at HOd hHeld ⊢
        clear HO
        have HO := HOd
        clear HOd
        refine pure_ (i := 0) (N := some 58) (v := ?_) (a' := ?_) #[true, false, false, false, false, false, false, false, false, false, false, false, false, false, false, false, false, false] rfl rfl (any_of HT_.out (by kernel_rfl)) (fun _ _ _ h => h) (Or.inl ⟨by rfl, ?_⟩) ?_ ?_
        rotate_left
        · intro w'
          go_simp
          with_reducible rfl
        rotate_left
        · simp only [Act.put, List.setIfInBounds_toArray, List.set_cons_zero, List.set_cons_succ, i64_w, i32_w]
          rfl
        refine pure_ (i := 2) (N := some 60) (v := ?_) (a' := ?_) #[true, false, true, false, false, false, false, false, false, false, false, false, false, false, false, false, false, false] rfl rfl (any_of HT_.out (by kernel_rfl)) (fun _ _ _ h => h) (Or.inl ⟨by rfl, ?_⟩) ?_ ?_
        rotate_left
        · intro w'
          go_simp
          with_reducible rfl
        rotate_left
        · simp only [Act.put, List.setIfInBounds_toArray, List.set_cons_zero, List.set_cons_succ, i64_w, i32_w]
          rfl
        refine pure_ (i := 7) (N := some 65) (v := ?_) (a' := ?_) #[true, false, true, false, false, false, false, true, false, false, false, false, false, false, false, false, false, false] rfl rfl (any_of HT_.out (by kernel_rfl)) (fun _ _ _ h => h) (Or.inl ⟨by rfl, ?_⟩) ?_ ?_
        rotate_left
        · intro w'
          go_simp
          with_reducible rfl
        rotate_left
        · simp only [Act.put, List.setIfInBounds_toArray, List.set_cons_zero, List.set_cons_succ, i64_w, i32_w]
          rfl
        refine pure_ (i := 9) (N := some 67) (v := ?_) (a' := ?_) #[true, false, true, false, false, false, false, true, false, true, false, false, false, false, false, false, false, false] rfl rfl (any_of HT_.out (by kernel_rfl)) (fun _ _ _ h => h) (Or.inl ⟨by rfl, ?_⟩) ?_ ?_
        rotate_left
        · intro w'
          go_simp
          with_reducible rfl
        rotate_left
        · simp only [Act.put, List.setIfInBounds_toArray, List.set_cons_zero, List.set_cons_succ, i64_w, i32_w]
          rfl
        refine take_ (i := 1) (N := some 59) (v := ?_) (a' := ?_) #[true, true, true, false, false, false, false, true, false, true, false, false, false, false, false, false, false, false] rfl rfl (take_ofW HT_.out HW_.out (by kernel_rfl)) (fun _ _ _ h => h) (Or.inl ⟨by rfl, ?_⟩) hHeld ?_ ?_
        rotate_left
        · rintro w' ⟨s0, s1⟩
          go_simp
          with_reducible rfl
        rotate_left
        · simp only [Act.put, List.setIfInBounds_toArray, List.set_cons_zero, List.set_cons_succ, i64_w, i32_w]
          rfl
        refine pure_ (i := 3) (N := some 61) (v := ?_) (a' := ?_) #[true, true, true, true, false, false, false, true, false, true, false, false, false, false, false, false, false, false] rfl rfl (any_of HT_.out (by kernel_rfl)) (fun _ _ _ h => h) (Or.inl ⟨by rfl, ?_⟩) ?_ ?_
        rotate_left
        · intro w'
          go_simp
          with_reducible rfl
        rotate_left
        · simp only [Act.put, List.setIfInBounds_toArray, List.set_cons_zero, List.set_cons_succ, i64_w, i32_w]
          rfl
        refine pure_ (i := 4) (N := some 62) (v := ?_) (a' := ?_) #[true, true, true, true, true, false, false, true, false, true, false, false, false, false, false, false, false, false] rfl rfl (any_of HT_.out (by kernel_rfl)) (fun _ _ _ h => h) (Or.inl ⟨by rfl, ?_⟩) ?_ ?_
        rotate_left
        · intro w'
          go_simp
          with_reducible rfl
        rotate_left
        · simp only [Act.put, List.setIfInBounds_toArray, List.set_cons_zero, List.set_cons_succ, i64_w, i32_w]
          rfl
        refine take_ (i := 5) (N := some 63) (v := ?_) (a' := ?_) #[true, true, true, true, true, true, false, true, false, true, false, false, false, false, false, false, false, false] rfl rfl (take_ofW HT_.out HW_.out (by kernel_rfl)) (fun _ _ _ h => h) (Or.inl ⟨by rfl, ?_⟩) hHeld ?_ ?_
        rotate_left
        · rintro w' ⟨s0, s1⟩
          go_simp
          with_reducible rfl
        rotate_left
        · simp only [Act.put, List.setIfInBounds_toArray, List.set_cons_zero, List.set_cons_succ, i64_w, i32_w]
          rfl
        refine pure_ (i := 6) (N := some 64) (v := ?_) (a' := ?_) #[true, true, true, true, true, true, true, true, false, true, false, false, false, false, false, false, false, false] rfl rfl (any_of HT_.out (by kernel_rfl)) (fun _ _ _ h => h) (Or.inl ⟨by rfl, ?_⟩) ?_ ?_
        rotate_left
        · intro w'
          go_simp
          with_reducible rfl
        rotate_left
        · simp only [Act.put, List.setIfInBounds_toArray, List.set_cons_zero, List.set_cons_succ, i64_w, i32_w]
          rfl
        refine take_ (i := 8) (N := some 66) (v := ?_) (a' := ?_) #[true, true, true, true, true, true, true, true, true, true, false, false, false, false, false, false, false, false] rfl rfl (take_ofW HT_.out HW_.out (by kernel_rfl)) (fun _ _ _ h => h) (Or.inl ⟨by rfl, ?_⟩) hHeld ?_ ?_
        rotate_left
        · rintro w' ⟨s0, s1⟩
          go_simp
          with_reducible rfl
        rotate_left
        · simp only [Act.put, List.setIfInBounds_toArray, List.set_cons_zero, List.set_cons_succ, i64_w, i32_w]
          rfl
        refine pure_ (i := 10) (N := some 68) (v := ?_) (a' := ?_) #[true, true, true, true, true, true, true, true, true, true, true, false, false, false, false, false, false, false] rfl rfl (any_of HT_.out (by kernel_rfl)) (fun _ _ _ h => h) (Or.inl ⟨by rfl, ?_⟩) ?_ ?_
        rotate_left
        · intro w'
          go_simp
          with_reducible rfl
        rotate_left
        · simp only [Act.put, List.setIfInBounds_toArray, List.set_cons_zero, List.set_cons_succ, i64_w, i32_w]
          rfl
        refine pure_ (i := 11) (N := some 69) (v := ?_) (a' := ?_) #[true, true, true, true, true, true, true, true, true, true, true, true, false, false, false, false, false, false] rfl rfl (any_of HT_.out (by kernel_rfl)) (fun _ _ _ h => h) (Or.inl ⟨by rfl, ?_⟩) ?_ ?_
        rotate_left
        · intro w'
          go_simp
          with_reducible rfl
        rotate_left
        · simp only [Act.put, List.setIfInBounds_toArray, List.set_cons_zero, List.set_cons_succ, i64_w, i32_w]
          rfl
        refine take_ (i := 12) (N := some 70) (v := ?_) (a' := ?_) #[true, true, true, true, true, true, true, true, true, true, true, true, true, false, false, false, false, false] rfl rfl (take_ofW HT_.out HW_.out (by kernel_rfl)) (fun _ _ _ h => h) (Or.inl ⟨by rfl, ?_⟩) hHeld ?_ ?_
        rotate_left
        · rintro w' ⟨s0, s1⟩
          go_simp
          with_reducible rfl
        rotate_left
        · simp only [Act.put, List.setIfInBounds_toArray, List.set_cons_zero, List.set_cons_succ, i64_w, i32_w]
          rfl
        refine pure_ (i := 13) (N := some 71) (v := ?_) (a' := ?_) #[true, true, true, true, true, true, true, true, true, true, true, true, true, true, false, false, false, false] rfl rfl (any_of HT_.out (by kernel_rfl)) (fun _ _ _ h => h) (Or.inl ⟨by rfl, ?_⟩) ?_ ?_
        rotate_left
        · intro w'
          go_simp
          with_reducible rfl
        rotate_left
        · simp only [Act.put, List.setIfInBounds_toArray, List.set_cons_zero, List.set_cons_succ, i64_w, i32_w]
          rfl
        refine join_ (σ := Nat × Nat) 2 #[true, true, true, true, true, true, true, true, true, true, true, true, true, true, true, true, false, false] (fun s_ => [(8, .pointer (some ⟨s_.1, 0, none⟩)), (9, .pointer (some ⟨s_.2, 0, none⟩))]) (fun s_ w' => (w'.cell? ⟨g1, 5, none⟩ = some (.slice (some ad) l.length c0) ∧ w'.cell? (ad.add (k * 2)) = some (.int .i64 pg)) ∧ Own w w' [.box g1 (.cells #[.int .i64 a, .int .i64 b, .int .i64 c, .int .i64 d, .string u, .slice (some ad) l.length c0] 25 (0, 0)), .box g2 (.cells #[.int .i64 0, .int .i64 0, .int .i64 0, .string (⟨#[]⟩ : ByteArray), .int .i64 0, .slice none 0 0] 29 (0, 0)), .box g3 (.cells #[.int .i64 0, .int .i64 0, .int .i64 0, .string (⟨#[]⟩ : ByteArray), .int .i64 0, .slice none 0 0] 32 (0, 0)), .box g4 (.cells #[.int .i64 a, .int .i64 b, .int .i64 c, .string (madeU u), .int .i64 d, v1] 29 (0, 0)), .box g5 (.cells #[.int .i64 a, .int .i64 b, .int .i64 c, .string (madeU u), .int .i64 d, v2] 32 (0, 0)), .row k60 60 v1 ((l.take k).map madeC), .row k63 63 v2 ((l.take k).map madeD), .box s_.1 (.cells #[.int .i64 0, .slice none 0 0] 60 (0, 0)), .box s_.2 (.cells #[.int .i64 0, .slice none 0 0] 63 (0, 0)), .gone, .gone, .gone, .gone, .gone]) ?_ ?_
        rotate_left
        · intro hCont
          refine two_ (i := 14) (j := 15) (Ni := some 8) (Nj := some 9) #[true, true, true, true, true, true, true, true, true, true, true, true, true, true, true, false, false, false] #[true, true, true, true, true, true, true, true, true, true, true, true, true, true, false, true, false, false] rfl rfl rfl rfl (two_of HT_.out (by kernel_rfl)) (by decide) (by decide) (fun K hK => ?_) (fun K hK => ?_)
          · skip
            refine box_step ?hg (N := 8) ?hd (cs := #[.int .i64 0, .slice none 0 0]) (t := 60) ?hr ?_; (case hd => rfl); (case hg => rfl); (case hr => first | (go_simp; done) | (go_simp; rfl))
            intro g6 hg_ wg6 hbox hb
            have HO' := Aside0.mk (HO.out.new 7 rfl hb hbox (Nat.le_of_eq hg_.symm))
            clear HO hg_ hbox hb
            have HO := HO'
            clear HO'
            refine hK.out _ _ ⟨(HO.out.cell 0 rfl 5).trans rfl, (HO.out.1.cell (World.block_lt_of_cell? w _ HX0.out)).trans HX0.out⟩ (fun hHeld => ?_)
            clear hK K
            refine norm_ (a' := ?_) ?_ ?_
            rotate_left
            · show Act.put _ (some 8) _ = _
              simp only [Act.put, List.setIfInBounds_toArray, List.set_cons_zero, List.set_cons_succ, i64_w, i32_w]
              rfl
            refine one_ (i := 15) (N := some 9) #[true, true, true, true, true, true, true, true, true, true, true, true, true, true, true, true, false, false] rfl rfl (one_of HT_.out (by kernel_rfl)) (by decide) (fun K hK => ?_)
            refine box_step ?hg (N := 9) ?hd (cs := #[.int .i64 0, .slice none 0 0]) (t := 63) ?hr ?_; (case hd => rfl); (case hg => rfl); (case hr => first | (go_simp; done) | (go_simp; rfl))
            intro g7 hg_ wg7 hbox hb
            have HO' := Aside0.mk (HO.out.new 8 rfl hb hbox (Nat.le_of_eq hg_.symm))
            clear HO hg_ hbox hb
            have HO := HO'
            clear HO'
            refine hK.out _ _ ⟨(HO.out.cell 0 rfl 5).trans rfl, (HO.out.1.cell (World.block_lt_of_cell? w _ HX0.out)).trans HX0.out⟩ (fun hHeld => ?_)
            clear hK K
            refine norm_ (a' := ?_) ?_ ?_
            rotate_left
            · show Act.put _ (some 9) _ = _
              simp only [Act.put, List.setIfInBounds_toArray, List.set_cons_zero, List.set_cons_succ, i64_w, i32_w]
              rfl
            exact norm_ (by simp only [putAll, Act.put, List.setIfInBounds_toArray, List.set_cons_zero, List.set_cons_succ]) (hCont (g6, g7) _ ⟨hHeld, HO.out⟩)
          · skip
            refine box_step ?hg (N := 9) ?hd (cs := #[.int .i64 0, .slice none 0 0]) (t := 63) ?hr ?_; (case hd => rfl); (case hg => rfl); (case hr => first | (go_simp; done) | (go_simp; rfl))
            intro g7 hg_ wg7 hbox hb
            have HO' := Aside0.mk (HO.out.new 8 rfl hb hbox (Nat.le_of_eq hg_.symm))
            clear HO hg_ hbox hb
            have HO := HO'
            clear HO'
            refine hK.out _ _ ⟨(HO.out.cell 0 rfl 5).trans rfl, (HO.out.1.cell (World.block_lt_of_cell? w _ HX0.out)).trans HX0.out⟩ (fun hHeld => ?_)
            clear hK K
            refine norm_ (a' := ?_) ?_ ?_
            rotate_left
            · show Act.put _ (some 9) _ = _
              simp only [Act.put, List.setIfInBounds_toArray, List.set_cons_zero, List.set_cons_succ, i64_w, i32_w]
              rfl
            refine one_ (i := 14) (N := some 8) #[true, true, true, true, true, true, true, true, true, true, true, true, true, true, true, true, false, false] rfl rfl (one_of HT_.out (by kernel_rfl)) (by decide) (fun K hK => ?_)
            refine box_step ?hg (N := 8) ?hd (cs := #[.int .i64 0, .slice none 0 0]) (t := 60) ?hr ?_; (case hd => rfl); (case hg => rfl); (case hr => first | (go_simp; done) | (go_simp; rfl))
            intro g6 hg_ wg6 hbox hb
            have HO' := Aside0.mk (HO.out.new 7 rfl hb hbox (Nat.le_of_eq hg_.symm))
            clear HO hg_ hbox hb
            have HO := HO'
            clear HO'
            refine hK.out _ _ ⟨(HO.out.cell 0 rfl 5).trans rfl, (HO.out.1.cell (World.block_lt_of_cell? w _ HX0.out)).trans HX0.out⟩ (fun hHeld => ?_)
            clear hK K
            refine norm_ (a' := ?_) ?_ ?_
            rotate_left
            · show Act.put _ (some 8) _ = _
              simp only [Act.put, List.setIfInBounds_toArray, List.set_cons_zero, List.set_cons_succ, i64_w, i32_w]
              rfl
            exact norm_ (by simp only [putAll, Act.put, List.setIfInBounds_toArray, List.set_cons_zero, List.set_cons_succ]) (hCont (g6, g7) _ ⟨hHeld, HO.out⟩)
        rintro ⟨g6, g7⟩ W1 ⟨hHeld, hO⟩
        clear HO
        have HO := Aside0.mk hO
        clear hO
        refine norm_ (a' := ?_) ?_ ?_
        rotate_left
        · simp only [putAll, Act.put, List.setIfInBounds_toArray, List.set_cons_zero, List.set_cons_succ]
          rfl
        refine one_ (i := 16) (N := none) #[true, true, true, true, true, true, true, true, true, true, true, true, true, true, true, true, true, false] rfl rfl (one_of HT_.out (by kernel_rfl)) (by decide) (fun K hK => ?_)
        have hs0 : W1.cell? ⟨g6, 0, none⟩ = some (.int .i64 0) := (HO.out.cell 7 rfl 0).trans rfl
        have hs1 : W1.cell? ⟨g6, 1, none⟩ = some (.slice none 0 0) := (HO.out.cell 7 rfl 1).trans rfl
        have hf0 := HO.out.frozen 7 rfl 0
        have hf1 := HO.out.frozen 7 rfl 1
        have HO1 := Aside0.mk ((HO.out.store 7 rfl 0 (.int .i64 pg) rfl).store 7 rfl 1 (.slice none 0 0) rfl)
        refine skip_ (w1 := ?_) (by rfl) rfl ?_ ?_
        rotate_left
        · go_simp
          rfl
        refine hK.out _ _ ⟨(HO1.out.cell 0 rfl 5).trans rfl, (HO1.out.1.cell (World.block_lt_of_cell? w _ HX0.out)).trans HX0.out⟩ (fun hHeld => ?_)
        clear hK K
        clear hs0 hs1 hf0 hf1 HO
        generalize ((W1.setCell ⟨g6, 0, none⟩ (.int .i64 pg)).setCell ⟨g6, 1, none⟩ (.slice none 0 0)) = W2 at HO1 hHeld ⊢
        have HO := HO1
        clear HO1
        refine one_ (i := 17) (N := none) #[true, true, true, true, true, true, true, true, true, true, true, true, true, true, true, true, true, true] rfl rfl (one_of HT_.out (by kernel_rfl)) (by decide) (fun K hK => ?_)
        have hs0 : W2.cell? ⟨g7, 0, none⟩ = some (.int .i64 0) := (HO.out.cell 8 rfl 0).trans rfl
        have hs1 : W2.cell? ⟨g7, 1, none⟩ = some (.slice none 0 0) := (HO.out.cell 8 rfl 1).trans rfl
        have hf0 := HO.out.frozen 8 rfl 0
        have hf1 := HO.out.frozen 8 rfl 1
        have HO1 := Aside0.mk ((HO.out.store 8 rfl 0 (.int .i64 pg) rfl).store 8 rfl 1 (.slice none 0 0) rfl)
        refine skip_ (w1 := ?_) (by rfl) rfl ?_ ?_
        rotate_left
        · go_simp
          rfl
        refine hK.out _ _ ⟨(HO1.out.cell 0 rfl 5).trans rfl, (HO1.out.1.cell (World.block_lt_of_cell? w _ HX0.out)).trans HX0.out⟩ (fun hHeld => ?_)
        clear hK K
        clear hs0 hs1 hf0 hf1 HO
        generalize ((W2.setCell ⟨g7, 0, none⟩ (.int .i64 pg)).setCell ⟨g7, 1, none⟩ (.slice none 0 0)) = W3 at HO1 hHeld ⊢
        have HO := HO1
        clear HO1
        refine done_ (done_of HT_.out (by kernel_rfl)) ?_
        have HO1 := Aside0.mk ((HO.out.nil 9 k66 66).nil 10 k67 67)
        clear HO
        have HD : Hid (Own w W3 [.box g1 (.cells #[.int .i64 a, .int .i64 b, .int .i64 c, .int .i64 d, .string u, .slice (some ad) l.length c0] 25 (0, 0)), .box g2 (.cells #[.int .i64 0, .int .i64 0, .int .i64 0, .string (⟨#[]⟩ : ByteArray), .int .i64 0, .slice none 0 0] 29 (0, 0)), .box g3 (.cells #[.int .i64 0, .int .i64 0, .int .i64 0, .string (⟨#[]⟩ : ByteArray), .int .i64 0, .slice none 0 0] 32 (0, 0)), .box g4 (.cells #[.int .i64 a, .int .i64 b, .int .i64 c, .string (madeU u), .int .i64 d, v1] 29 (0, 0)), .box g5 (.cells #[.int .i64 a, .int .i64 b, .int .i64 c, .string (madeU u), .int .i64 d, v2] 32 (0, 0)), .row k60 60 v1 ((l.take k).map madeC), .row k63 63 v2 ((l.take k).map madeD), .box g6 (.cells #[.int .i64 pg, .slice none 0 0] 60 (0, 0)), .box g7 (.cells #[.int .i64 pg, .slice none 0 0] 63 (0, 0)), .row k66 66 (.slice none 0 0) ((p1.take 0).map cutP), .row k67 67 (.slice none 0 0) ((p1.take 0).map cutQ), .gone, .gone, .gone]) := HO1.out
        clear HO1
        go_wp2_with fail
        go_loopw [10] (fun i wj => ∃ (j : Nat) (v3 v4 : Value), j ≤ min 10 p1.length ∧ i = .int .i64 j ∧ Hid (Own w wj [.box g1 (.cells #[.int .i64 a, .int .i64 b, .int .i64 c, .int .i64 d, .string u, .slice (some ad) l.length c0] 25 (0, 0)), .box g2 (.cells #[.int .i64 0, .int .i64 0, .int .i64 0, .string (⟨#[]⟩ : ByteArray), .int .i64 0, .slice none 0 0] 29 (0, 0)), .box g3 (.cells #[.int .i64 0, .int .i64 0, .int .i64 0, .string (⟨#[]⟩ : ByteArray), .int .i64 0, .slice none 0 0] 32 (0, 0)), .box g4 (.cells #[.int .i64 a, .int .i64 b, .int .i64 c, .string (madeU u), .int .i64 d, v1] 29 (0, 0)), .box g5 (.cells #[.int .i64 a, .int .i64 b, .int .i64 c, .string (madeU u), .int .i64 d, v2] 32 (0, 0)), .row k60 60 v1 ((l.take k).map madeC), .row k63 63 v2 ((l.take k).map madeD), .box g6 (.cells #[.int .i64 pg, v3] 60 (0, 0)), .box g7 (.cells #[.int .i64 pg, v4] 63 (0, 0)), .row k66 66 v3 ((p1.take j).map cutP), .row k67 67 v4 ((p1.take j).map cutQ), .gone, .gone, .gone])) (fun i _ => 10 - (intOf i).toNat)
        case atStart => exact ⟨0, _, _, Nat.zero_le _, rfl, HD⟩
        case round =>
          clear HD
          obtain ⟨j, v3, v4, hj, rfl, HD⟩ := hrel
          have HO := Aside0.mk HD.out
          clear HD
          have hx1 := (HO.out.1.cell (World.block_lt_of_cell? w _ HX1.out)).trans HX1.out
          have z5 : wr.cell? ⟨g1, 5, none⟩ = some (.slice (some ad) l.length c0) := (HO.out.cell 0 rfl 5).trans rfl
          go_upto_region 9 with fail
          go_cut [84] (fun v wc => ∃ q : Bool, wc = wr ∧ v = .bool q ∧ Hid (q = decide (j < p1.length ∧ j < 10)))
          case first =>
            by_cases h1 : j < p1.length
            · have d1 : decide (j < p1.length) = true := decide_eq_true h1
              have d1' : decide ((j : Int) < (p1.length : Int)) = true := decide_eq_true (by omega)
              go_wp2_with fail
              go_meet
              case rel => exact ⟨_, rfl, rfl, (by show _ = decide _; simp [h1] <;> omega)⟩
            · have d1 : decide (j < p1.length) = false := decide_eq_false h1
              have d1' : decide ((j : Int) < (p1.length : Int)) = false := decide_eq_false (by omega)
              go_wp2_with fail
              go_meet
              case rel => exact ⟨_, rfl, rfl, (by show _ = decide _; simp [h1] <;> omega)⟩
          case rest =>
            obtain ⟨q, hw_, hv_, hq_⟩ := hcut
            rw [hw_, hv_]
            clear hw_ hv_
            have HQ := Aside0.mk hq_.out
            clear hq_
            obtain ⟨A3, c3, e3⟩ := HO.out.row 9 rfl
            generalize hn_ : List.length _ = n3 at e3
            have HN3 := Aside0.mk hn_
            clear hn_
            subst e3
            obtain ⟨A4, c4, e4⟩ := HO.out.row 10 rfl
            generalize hn_ : List.length _ = n4 at e4
            have HN4 := Aside0.mk hn_
            clear hn_
            subst e4
            obtain ⟨A1, c1, e1⟩ := HO.out.row 5 rfl
            generalize List.length _ = n1 at e1
            subst e1
            obtain ⟨A2, c2, e2⟩ := HO.out.row 6 rfl
            generalize List.length _ = n2 at e2
            subst e2
            cases q with
            | true =>
              have hq := of_decide_eq_true HQ.out.symm
              have hjl : j < p1.length := hq.1
              have hj10 : j < 10 := hq.2
              clear hq HQ
              obtain ⟨ad5, e, hy0, hy1⟩ := at_T65 HP.out (j : Int) (by omega) (by omega)
              cases e
              rw [rd_M p1 j hjl] at hy0 hy1
              simp only [Int.toNat_natCast] at hy0 hy1
              replace hy0 := (HO.out.1.cell (World.block_lt_of_cell? w _ hy0)).trans hy0
              replace hy1 := (HO.out.1.cell (World.block_lt_of_cell? w _ hy1)).trans hy1
              have HCU := Aside0.mk (show cutP p1[j] = (⟨p1[j].f0, p1[j].f1.extract 0 (min p1[j].f1.size 600)⟩ : S66) ∧ cutQ p1[j] = (⟨p1[j].f0, p1[j].f1.extract 0 (min p1[j].f1.size 600)⟩ : S67) from ⟨rfl, rfl⟩)
              generalize p1[j].f0 = at_ at hy0 HCU
              generalize p1[j].f1 = da at hy1 HCU
              have HDT := Aside0.mk (show da.extract 0 (min da.size 600) = da.extract 0 (min da.size 600) from rfl)
              have hm0 : (if (600 : Int) < (da.size : Int) then (600 : Int) else (da.size : Int)) = ((min da.size 600 : Nat) : Int) := min_fact da.size 600
              have hm1 : min da.size 600 ≤ da.size := Nat.min_le_left _ _
              generalize min da.size 600 = m at hm0 hm1 HCU
              obtain ⟨dt, hdt⟩ : ∃ x, da.extract 0 m = x := ⟨_, rfl⟩
              rw [hdt] at HCU
              have q0 : (0 ≤ (m : Int)) = True := eq_true (by omega)
              have q1 : decide (0 ≤ (m : Int)) = true := decide_eq_true (by omega)
              have q2 : ((m : Int) ≤ (da.size : Int)) = True := eq_true (by omega)
              have q3 : decide ((m : Int) ≤ (da.size : Int)) = true := decide_eq_true (by omega)
              go_wp2_with fail
              clear q0 q1 q2 q3 hm0 hm1 hy0 hy1 hx1 z5 HDT
              have hj300 : j ≤ 300 := by omega
              have HO1 := Aside0.mk (HO.out.alloc 11 rfl (.cells #[.int .i64 at_, .string dt] 65))
              clear HO
              have HO := HO1
              clear HO1
              generalize World.alloc wr _ = wq at HO ⊢
              generalize wr.heap.size = g8 at HO ⊢
              have HOd := Aside0.mk (HO.out.below (below_drew (Below.refl _ _)))
              clear HO
              have HO := HOd
              clear HOd
              refine start_ (n := 14) (S := fun w' => w'.cell? ⟨g6, 1, none⟩ = some (.slice A3 n3 c3) ∧ w'.cell? ⟨g8, 0, none⟩ = some (.int .i64 at_) ∧ w'.cell? ⟨g8, 1, none⟩ = some (.string dt) ∧ w'.cell? ⟨g7, 1, none⟩ = some (.slice A4 n4 c4)) (ds := [11, 13]) #[false, false, false, false, false, false, false, false, false, false, false, false, false, false] (by kernel_rfl) rfl rfl ⟨(HO.out.cell 7 rfl 1).trans rfl, (HO.out.cell 11 rfl 0).trans rfl, (HO.out.cell 11 rfl 1).trans rfl, (HO.out.cell 8 rfl 1).trans rfl⟩ (fun hHeld => ?_)
              refine with_tabW made_tab13 made_bits13 (fun HT_ HW_ => ?_)
              generalize World.drew _ = W0 at HO hHeld ⊢
              refine pure_ (i := 0) (N := some 104) (v := ?_) (a' := ?_) #[true, false, false, false, false, false, false, false, false, false, false, false, false, false] rfl rfl (any_of HT_.out (by kernel_rfl)) (fun _ _ _ h => h) (Or.inl ⟨by rfl, ?_⟩) ?_ ?_
              rotate_left
              · intro w'
                go_simp
                with_reducible rfl
              rotate_left
              · simp only [Act.put, List.setIfInBounds_toArray, List.set_cons_zero, List.set_cons_succ, i64_w, i32_w]
                rfl
              refine pure_ (i := 5) (N := some 109) (v := ?_) (a' := ?_) #[true, false, false, false, false, true, false, false, false, false, false, false, false, false] rfl rfl (any_of HT_.out (by kernel_rfl)) (fun _ _ _ h => h) (Or.inl ⟨by rfl, ?_⟩) ?_ ?_
              rotate_left
              · intro w'
                go_simp
                with_reducible rfl
              rotate_left
              · simp only [Act.put, List.setIfInBounds_toArray, List.set_cons_zero, List.set_cons_succ, i64_w, i32_w]
                rfl
              refine take_ (i := 1) (N := some 105) (v := ?_) (a' := ?_) #[true, true, false, false, false, true, false, false, false, false, false, false, false, false] rfl rfl (take_ofW HT_.out HW_.out (by kernel_rfl)) (fun _ _ _ h => h) (Or.inl ⟨by rfl, ?_⟩) hHeld ?_ ?_
              rotate_left
              · rintro w' ⟨s0, s1, s2, s3⟩
                go_simp
                with_reducible rfl
              rotate_left
              · simp only [Act.put, List.setIfInBounds_toArray, List.set_cons_zero, List.set_cons_succ, i64_w, i32_w]
                rfl
              refine take_ (i := 2) (N := some 106) (v := ?_) (a' := ?_) #[true, true, true, false, false, true, false, false, false, false, false, false, false, false] rfl rfl (take_ofW HT_.out HW_.out (by kernel_rfl)) (fun _ _ _ h => h) (Or.inl ⟨by rfl, ?_⟩) hHeld ?_ ?_
              rotate_left
              · rintro w' ⟨s0, s1, s2, s3⟩
                go_simp
                with_reducible rfl
              rotate_left
              · simp only [Act.put, List.setIfInBounds_toArray, List.set_cons_zero, List.set_cons_succ, i64_w, i32_w]
                rfl
              refine take_ (i := 6) (N := some 110) (v := ?_) (a' := ?_) #[true, true, true, false, false, true, true, false, false, false, false, false, false, false] rfl rfl (take_ofW HT_.out HW_.out (by kernel_rfl)) (fun _ _ _ h => h) (Or.inl ⟨by rfl, ?_⟩) hHeld ?_ ?_
              rotate_left
              · rintro w' ⟨s0, s1, s2, s3⟩
                go_simp
                with_reducible rfl
              rotate_left
              · simp only [Act.put, List.setIfInBounds_toArray, List.set_cons_zero, List.set_cons_succ, i64_w, i32_w]
                rfl
              refine take_ (i := 7) (N := some 111) (v := ?_) (a' := ?_) #[true, true, true, false, false, true, true, true, false, false, false, false, false, false] rfl rfl (take_ofW HT_.out HW_.out (by kernel_rfl)) (fun _ _ _ h => h) (Or.inl ⟨by rfl, ?_⟩) hHeld ?_ ?_
              rotate_left
              · rintro w' ⟨s0, s1, s2, s3⟩
                go_simp
                with_reducible rfl
              rotate_left
              · simp only [Act.put, List.setIfInBounds_toArray, List.set_cons_zero, List.set_cons_succ, i64_w, i32_w]
                rfl
              refine join_ (σ := Value × Value × Value) 4 #[true, true, true, true, true, true, true, true, true, false, true, false, false, false] (fun s_ => [(107, s_.1), (108, s_.2.1), (112, s_.2.2), (114, .pointer (some ⟨g6, 1, none⟩))]) (fun s_ w' => (w'.cell? ⟨g6, 1, none⟩ = some (.slice A3 n3 c3) ∧ w'.cell? ⟨g8, 0, none⟩ = some (.int .i64 at_) ∧ w'.cell? ⟨g8, 1, none⟩ = some (.string dt) ∧ w'.cell? ⟨g7, 1, none⟩ = some (.slice A4 n4 c4)) ∧ Own w w' [.box g1 (.cells #[.int .i64 a, .int .i64 b, .int .i64 c, .int .i64 d, .string u, .slice (some ad) l.length c0] 25 (0, 0)), .box g2 (.cells #[.int .i64 0, .int .i64 0, .int .i64 0, .string (⟨#[]⟩ : ByteArray), .int .i64 0, .slice none 0 0] 29 (0, 0)), .box g3 (.cells #[.int .i64 0, .int .i64 0, .int .i64 0, .string (⟨#[]⟩ : ByteArray), .int .i64 0, .slice none 0 0] 32 (0, 0)), .box g4 (.cells #[.int .i64 a, .int .i64 b, .int .i64 c, .string (madeU u), .int .i64 d, (.slice A1 n1 c1)] 29 (0, 0)), .box g5 (.cells #[.int .i64 a, .int .i64 b, .int .i64 c, .string (madeU u), .int .i64 d, (.slice A2 n2 c2)] 32 (0, 0)), .row k60 60 (.slice A1 n1 c1) ((l.take k).map madeC), .row k63 63 (.slice A2 n2 c2) ((l.take k).map madeD), .box g6 (.cells #[.int .i64 pg, .slice A3 n3 c3] 60 (0, 0)), .box g7 (.cells #[.int .i64 pg, .slice A4 n4 c4] 63 (0, 0)), .row k66 66 s_.2.1 (((p1.take j).map cutP) ++ [(⟨at_, dt⟩ : S66)]), .row k67 67 (.slice A4 n4 c4) ((p1.take j).map cutQ), .box g8 (.cells #[.int .i64 at_, .string dt] 65 (0, 0)), .gone, .row k67 67 s_.2.2 [(⟨at_, dt⟩ : S67)]]) ?_ ?_
              rotate_left
              · intro hCont
                refine two_ (i := 3) (j := 8) (Ni := some 107) (Nj := some 112) #[true, true, true, true, false, true, true, true, false, false, false, false, false, false] #[true, true, true, false, false, true, true, true, true, false, false, false, false, false] rfl rfl rfl rfl (two_of HT_.out (by kernel_rfl)) (by decide) (by decide) (fun K hK => ?_) (fun K hK => ?_)
                · skip
                  refine Own.lit_step k66 HO.out 12 rfl 66 ?hg (N := 107) ?hd (xs := [(⟨at_, dt⟩ : S66)]) (inner := [.int .i64 at_, .string dt]) ?hr ?hp (by simp) ?_; (case hd => rfl); (case hg => rfl); (case hr => first | (go_simp; done) | (go_simp; rfl)); (case hp => exact Reps.c2 (fk_66 _ _ (⟨at_, dt⟩ : S66)) (Reps.none _ _))
                  intro vA wA HO'
                  have HO1 := Aside0.mk HO'
                  clear HO HO'
                  have HO := HO1
                  clear HO1
                  obtain ⟨AvA_, cvA', evA⟩ := HO.out.row 12 rfl
                  subst evA
                  refine hK.out _ _ ⟨(HO.out.cell 7 rfl 1).trans rfl, (HO.out.cell 11 rfl 0).trans rfl, (HO.out.cell 11 rfl 1).trans rfl, (HO.out.cell 8 rfl 1).trans rfl⟩ (fun hHeld => ?_)
                  clear hK K
                  refine norm_ (a' := ?_) ?_ ?_
                  rotate_left
                  · show Act.put _ (some 107) _ = _
                    simp only [Act.put, List.setIfInBounds_toArray, List.set_cons_zero, List.set_cons_succ, i64_w, i32_w]
                    rfl
                  refine two_ (i := 4) (j := 8) (Ni := some 108) (Nj := some 112) #[true, true, true, true, true, true, true, true, false, false, false, false, false, false] #[true, true, true, true, false, true, true, true, true, false, false, false, false, false] rfl rfl rfl rfl (two_of HT_.out (by kernel_rfl)) (by decide) (by decide) (fun K hK => ?_) (fun K hK => ?_)
                  · skip
                    refine Own.append_step k66 HO.out 9 12 (by decide) 66 rfl rfl (by rfl) (.tmp 105) (.tmp 107) 58 (.agg #[(.int .i64 0), (.string ⟨#[]⟩)]) 24 rfl Try.underlying58 info66 rfl (by decide) (by omega) rfl rfl (len24 _ _ _ _ hj300) ?_
                    intro vC wA HO'
                    have HO1 := Aside0.mk HO'
                    clear HO HO'
                    have HO := HO1
                    clear HO1
                    refine hK.out _ _ ⟨(HO.out.cell 7 rfl 1).trans rfl, (HO.out.cell 11 rfl 0).trans rfl, (HO.out.cell 11 rfl 1).trans rfl, (HO.out.cell 8 rfl 1).trans rfl⟩ (fun hHeld => ?_)
                    clear hK K
                    refine norm_ (a' := ?_) ?_ ?_
                    rotate_left
                    · show Act.put _ (some 108) _ = _
                      simp only [Act.put, List.setIfInBounds_toArray, List.set_cons_zero, List.set_cons_succ, i64_w, i32_w]
                      rfl
                    refine pure_ (i := 10) (N := some 114) (v := ?_) (a' := ?_) #[true, true, true, true, true, true, true, true, false, false, true, false, false, false] rfl rfl (any_of HT_.out (by kernel_rfl)) (fun _ _ _ h => h) (Or.inl ⟨by rfl, ?_⟩) ?_ ?_
                    rotate_left
                    · intro w'
                      go_simp
                      with_reducible rfl
                    rotate_left
                    · simp only [Act.put, List.setIfInBounds_toArray, List.set_cons_zero, List.set_cons_succ, i64_w, i32_w]
                      rfl
                    refine one_ (i := 8) (N := some 112) #[true, true, true, true, true, true, true, true, true, false, true, false, false, false] rfl rfl (one_of HT_.out (by kernel_rfl)) (by decide) (fun K hK => ?_)
                    refine Own.lit_step k67 HO.out 13 rfl 67 ?hg (N := 112) ?hd (xs := [(⟨at_, dt⟩ : S67)]) (inner := [.int .i64 at_, .string dt]) ?hr ?hp (by simp) ?_; (case hd => rfl); (case hg => rfl); (case hr => first | (go_simp; done) | (go_simp; rfl)); (case hp => exact Reps.c2 (fk_67 _ _ (⟨at_, dt⟩ : S67)) (Reps.none _ _))
                    intro vB wA HO'
                    have HO1 := Aside0.mk HO'
                    clear HO HO'
                    have HO := HO1
                    clear HO1
                    obtain ⟨AvB_, cvB', evB⟩ := HO.out.row 13 rfl
                    subst evB
                    refine hK.out _ _ ⟨(HO.out.cell 7 rfl 1).trans rfl, (HO.out.cell 11 rfl 0).trans rfl, (HO.out.cell 11 rfl 1).trans rfl, (HO.out.cell 8 rfl 1).trans rfl⟩ (fun hHeld => ?_)
                    clear hK K
                    refine norm_ (a' := ?_) ?_ ?_
                    rotate_left
                    · show Act.put _ (some 112) _ = _
                      simp only [Act.put, List.setIfInBounds_toArray, List.set_cons_zero, List.set_cons_succ, i64_w, i32_w]
                      rfl
                    exact norm_ (by simp only [putAll, Act.put, List.setIfInBounds_toArray, List.set_cons_zero, List.set_cons_succ]) (hCont (.slice AvA_ ([(⟨at_, dt⟩ : S66)] : List _).length cvA', vC, .slice AvB_ ([(⟨at_, dt⟩ : S67)] : List _).length cvB') _ ⟨hHeld, HO.out⟩)
                  · skip
                    refine Own.lit_step k67 HO.out 13 rfl 67 ?hg (N := 112) ?hd (xs := [(⟨at_, dt⟩ : S67)]) (inner := [.int .i64 at_, .string dt]) ?hr ?hp (by simp) ?_; (case hd => rfl); (case hg => rfl); (case hr => first | (go_simp; done) | (go_simp; rfl)); (case hp => exact Reps.c2 (fk_67 _ _ (⟨at_, dt⟩ : S67)) (Reps.none _ _))
                    intro vB wA HO'
                    have HO1 := Aside0.mk HO'
                    clear HO HO'
                    have HO := HO1
                    clear HO1
                    obtain ⟨AvB_, cvB', evB⟩ := HO.out.row 13 rfl
                    subst evB
                    refine hK.out _ _ ⟨(HO.out.cell 7 rfl 1).trans rfl, (HO.out.cell 11 rfl 0).trans rfl, (HO.out.cell 11 rfl 1).trans rfl, (HO.out.cell 8 rfl 1).trans rfl⟩ (fun hHeld => ?_)
                    clear hK K
                    refine norm_ (a' := ?_) ?_ ?_
                    rotate_left
                    · show Act.put _ (some 112) _ = _
                      simp only [Act.put, List.setIfInBounds_toArray, List.set_cons_zero, List.set_cons_succ, i64_w, i32_w]
                      rfl
                    refine one_ (i := 4) (N := some 108) #[true, true, true, true, true, true, true, true, true, false, false, false, false, false] rfl rfl (one_of HT_.out (by kernel_rfl)) (by decide) (fun K hK => ?_)
                    refine Own.append_step k66 HO.out 9 12 (by decide) 66 rfl rfl (by rfl) (.tmp 105) (.tmp 107) 58 (.agg #[(.int .i64 0), (.string ⟨#[]⟩)]) 24 rfl Try.underlying58 info66 rfl (by decide) (by omega) rfl rfl (len24 _ _ _ _ hj300) ?_
                    intro vC wA HO'
                    have HO1 := Aside0.mk HO'
                    clear HO HO'
                    have HO := HO1
                    clear HO1
                    refine hK.out _ _ ⟨(HO.out.cell 7 rfl 1).trans rfl, (HO.out.cell 11 rfl 0).trans rfl, (HO.out.cell 11 rfl 1).trans rfl, (HO.out.cell 8 rfl 1).trans rfl⟩ (fun hHeld => ?_)
                    clear hK K
                    refine norm_ (a' := ?_) ?_ ?_
                    rotate_left
                    · show Act.put _ (some 108) _ = _
                      simp only [Act.put, List.setIfInBounds_toArray, List.set_cons_zero, List.set_cons_succ, i64_w, i32_w]
                      rfl
                    refine pure_ (i := 10) (N := some 114) (v := ?_) (a' := ?_) #[true, true, true, true, true, true, true, true, true, false, true, false, false, false] rfl rfl (any_of HT_.out (by kernel_rfl)) (fun _ _ _ h => h) (Or.inl ⟨by rfl, ?_⟩) ?_ ?_
                    rotate_left
                    · intro w'
                      go_simp
                      with_reducible rfl
                    rotate_left
                    · simp only [Act.put, List.setIfInBounds_toArray, List.set_cons_zero, List.set_cons_succ, i64_w, i32_w]
                      rfl
                    exact norm_ (by simp only [putAll, Act.put, List.setIfInBounds_toArray, List.set_cons_zero, List.set_cons_succ]) (hCont (.slice AvA_ ([(⟨at_, dt⟩ : S66)] : List _).length cvA', vC, .slice AvB_ ([(⟨at_, dt⟩ : S67)] : List _).length cvB') _ ⟨hHeld, HO.out⟩)
                · skip
                  refine Own.lit_step k67 HO.out 13 rfl 67 ?hg (N := 112) ?hd (xs := [(⟨at_, dt⟩ : S67)]) (inner := [.int .i64 at_, .string dt]) ?hr ?hp (by simp) ?_; (case hd => rfl); (case hg => rfl); (case hr => first | (go_simp; done) | (go_simp; rfl)); (case hp => exact Reps.c2 (fk_67 _ _ (⟨at_, dt⟩ : S67)) (Reps.none _ _))
                  intro vB wA HO'
                  have HO1 := Aside0.mk HO'
                  clear HO HO'
                  have HO := HO1
                  clear HO1
                  obtain ⟨AvB_, cvB', evB⟩ := HO.out.row 13 rfl
                  subst evB
                  refine hK.out _ _ ⟨(HO.out.cell 7 rfl 1).trans rfl, (HO.out.cell 11 rfl 0).trans rfl, (HO.out.cell 11 rfl 1).trans rfl, (HO.out.cell 8 rfl 1).trans rfl⟩ (fun hHeld => ?_)
                  clear hK K
                  refine norm_ (a' := ?_) ?_ ?_
                  rotate_left
                  · show Act.put _ (some 112) _ = _
                    simp only [Act.put, List.setIfInBounds_toArray, List.set_cons_zero, List.set_cons_succ, i64_w, i32_w]
                    rfl
                  refine one_ (i := 3) (N := some 107) #[true, true, true, true, false, true, true, true, true, false, false, false, false, false] rfl rfl (one_of HT_.out (by kernel_rfl)) (by decide) (fun K hK => ?_)
                  refine Own.lit_step k66 HO.out 12 rfl 66 ?hg (N := 107) ?hd (xs := [(⟨at_, dt⟩ : S66)]) (inner := [.int .i64 at_, .string dt]) ?hr ?hp (by simp) ?_; (case hd => rfl); (case hg => rfl); (case hr => first | (go_simp; done) | (go_simp; rfl)); (case hp => exact Reps.c2 (fk_66 _ _ (⟨at_, dt⟩ : S66)) (Reps.none _ _))
                  intro vA wA HO'
                  have HO1 := Aside0.mk HO'
                  clear HO HO'
                  have HO := HO1
                  clear HO1
                  obtain ⟨AvA_, cvA', evA⟩ := HO.out.row 12 rfl
                  subst evA
                  refine hK.out _ _ ⟨(HO.out.cell 7 rfl 1).trans rfl, (HO.out.cell 11 rfl 0).trans rfl, (HO.out.cell 11 rfl 1).trans rfl, (HO.out.cell 8 rfl 1).trans rfl⟩ (fun hHeld => ?_)
                  clear hK K
                  refine norm_ (a' := ?_) ?_ ?_
                  rotate_left
                  · show Act.put _ (some 107) _ = _
                    simp only [Act.put, List.setIfInBounds_toArray, List.set_cons_zero, List.set_cons_succ, i64_w, i32_w]
                    rfl
                  refine one_ (i := 4) (N := some 108) #[true, true, true, true, true, true, true, true, true, false, false, false, false, false] rfl rfl (one_of HT_.out (by kernel_rfl)) (by decide) (fun K hK => ?_)
                  refine Own.append_step k66 HO.out 9 12 (by decide) 66 rfl rfl (by rfl) (.tmp 105) (.tmp 107) 58 (.agg #[(.int .i64 0), (.string ⟨#[]⟩)]) 24 rfl Try.underlying58 info66 rfl (by decide) (by omega) rfl rfl (len24 _ _ _ _ hj300) ?_
                  intro vC wA HO'
                  have HO1 := Aside0.mk HO'
                  clear HO HO'
                  have HO := HO1
                  clear HO1
                  refine hK.out _ _ ⟨(HO.out.cell 7 rfl 1).trans rfl, (HO.out.cell 11 rfl 0).trans rfl, (HO.out.cell 11 rfl 1).trans rfl, (HO.out.cell 8 rfl 1).trans rfl⟩ (fun hHeld => ?_)
                  clear hK K
                  refine norm_ (a' := ?_) ?_ ?_
                  rotate_left
                  · show Act.put _ (some 108) _ = _
                    simp only [Act.put, List.setIfInBounds_toArray, List.set_cons_zero, List.set_cons_succ, i64_w, i32_w]
                    rfl
                  refine pure_ (i := 10) (N := some 114) (v := ?_) (a' := ?_) #[true, true, true, true, true, true, true, true, true, false, true, false, false, false] rfl rfl (any_of HT_.out (by kernel_rfl)) (fun _ _ _ h => h) (Or.inl ⟨by rfl, ?_⟩) ?_ ?_
                  rotate_left
                  · intro w'
                    go_simp
                    with_reducible rfl
                  rotate_left
                  · simp only [Act.put, List.setIfInBounds_toArray, List.set_cons_zero, List.set_cons_succ, i64_w, i32_w]
                    rfl
                  exact norm_ (by simp only [putAll, Act.put, List.setIfInBounds_toArray, List.set_cons_zero, List.set_cons_succ]) (hCont (.slice AvA_ ([(⟨at_, dt⟩ : S66)] : List _).length cvA', vC, .slice AvB_ ([(⟨at_, dt⟩ : S67)] : List _).length cvB') _ ⟨hHeld, HO.out⟩)
              rintro ⟨vA, vC, vB⟩ W1 ⟨hHeld, hO⟩
              clear HO
              have HO := Aside0.mk hO
              clear hO
              obtain ⟨AB, cB, eB⟩ := HO.out.row 13 rfl
              simp only at eB
              subst eB
              refine norm_ (a' := ?_) ?_ ?_
              rotate_left
              · simp only [putAll, Act.put, List.setIfInBounds_toArray, List.set_cons_zero, List.set_cons_succ]
                rfl
              refine one_ (i := 9) (N := some 113) #[true, true, true, true, true, true, true, true, true, true, true, false, false, false] rfl rfl (one_of HT_.out (by kernel_rfl)) (by decide) (fun K hK => ?_)
              refine Own.append_step k67 HO.out 10 13 (by decide) 67 rfl rfl (by rfl) (.tmp 110) (.tmp 112) 61 (.agg #[(.int .i64 0), (.string ⟨#[]⟩)]) 24 rfl Try.underlying61 info67 rfl (by decide) (by omega) rfl rfl (len24 _ _ _ _ hj300) ?_
              intro vD wA HO'
              have HO1 := Aside0.mk HO'
              clear HO HO'
              have HO := HO1
              clear HO1
              refine hK.out _ _ ⟨(HO.out.cell 7 rfl 1).trans rfl, (HO.out.cell 11 rfl 0).trans rfl, (HO.out.cell 11 rfl 1).trans rfl, (HO.out.cell 8 rfl 1).trans rfl⟩ (fun hHeld => ?_)
              clear hK K
              refine norm_ (a' := ?_) ?_ ?_
              rotate_left
              · show Act.put _ (some 113) _ = _
                simp only [Act.put, List.setIfInBounds_toArray, List.set_cons_zero, List.set_cons_succ, i64_w, i32_w]
                rfl
              obtain ⟨AC, cC, eC⟩ := HO.out.row 9 rfl
              replace eC : vC = _ := eC
              generalize List.length _ = nC at eC
              subst eC
              obtain ⟨AD, cD, eD⟩ := HO.out.row 10 rfl
              replace eD : vD = _ := eD
              generalize List.length _ = nD at eD
              subst eD
              refine last_ (i := 11) (N := none) #[true, true, true, true, true, true, true, true, true, true, true, true, false, false] rfl rfl (one_of HT_.out (by kernel_rfl)) (by decide) (fun K hK => ?_)
              have hs0 : wA.cell? ⟨g6, 1, none⟩ = some (.slice A3 n3 c3) := (HO.out.cell 7 rfl 1).trans rfl
              have hf0 := HO.out.frozen 7 rfl 1
              refine skip_ (w1 := ?_) (by rfl) rfl ?_ ?_
              rotate_left
              · go_simp
                rfl
              refine hK.out _ _ ?_
              clear hK K
              have HO1 := Aside0.mk (HO.out.store 7 rfl 1 (.slice AC nC cC) rfl)
              clear hs0 hf0 hHeld HO
              generalize wA.setCell ⟨g6, 1, none⟩ (.slice AC nC cC) = W3 at HO1 ⊢
              have HO := HO1
              clear HO1
              refine pure_ (i := 12) (N := some 115) (v := ?_) (a' := ?_) #[true, true, true, true, true, true, true, true, true, true, true, true, true, false] rfl rfl (any_of HT_.out (by kernel_rfl)) (fun _ _ _ h => h) (Or.inl ⟨by rfl, ?_⟩) ?_ ?_
              rotate_left
              · intro w'
                go_simp
                with_reducible rfl
              rotate_left
              · simp only [Act.put, List.setIfInBounds_toArray, List.set_cons_zero, List.set_cons_succ, i64_w, i32_w]
                rfl
              refine last_ (i := 13) (N := none) #[true, true, true, true, true, true, true, true, true, true, true, true, true, true] rfl rfl (one_of HT_.out (by kernel_rfl)) (by decide) (fun K hK => ?_)
              have hs0 : W3.cell? ⟨g7, 1, none⟩ = some (.slice A4 n4 c4) := (HO.out.cell 8 rfl 1).trans rfl
              have hf0 := HO.out.frozen 8 rfl 1
              refine skip_ (w1 := ?_) (by rfl) rfl ?_ ?_
              rotate_left
              · go_simp
                rfl
              refine hK.out _ _ ?_
              clear hK K
              have HO1 := Aside0.mk (HO.out.store 8 rfl 1 (.slice AD nD cD) rfl)
              clear hs0 hf0 HO
              generalize W3.setCell ⟨g7, 1, none⟩ (.slice AD nD cD) = W4 at HO1 ⊢
              have HO := HO1
              clear HO1
              refine done_ (done_of HT_.out (by kernel_rfl)) ?_
              have HO1 := Aside0.mk (HO.out.drop 11)
              clear HO
              have HO := HO1
              clear HO1
              go_wp2_with fail
              go_roundw
              case rel =>
                refine ⟨j + 1, .slice AC nC cC, .slice AD nD cD, by omega, by go_num, ?_⟩
                rw [← take_more p1 cutP j hjl ⟨at_, dt⟩ HCU.out.1, ← take_more p1 cutQ j hjl ⟨at_, dt⟩ HCU.out.2]
                exact HO.out
              case measure => simp [intOf]; omega
            | false =>
              have hq := of_decide_eq_false HQ.out.symm
              have hjm : j = min 10 p1.length := by omega
              have hj300 : j ≤ 300 := by omega
              clear hq HQ hx1 z5
              go_wp2_with fail
              have HOd := Aside0.mk (HO.out.below (below_drew (Below.refl _ _)))
              clear HO
              have HO := HOd
              clear HOd
              refine start_ (n := 14) (S := fun w' => w'.cell? ⟨g4, 5, none⟩ = some (.slice A1 n1 c1) ∧ w'.cell? ⟨g6, 0, none⟩ = some (.int .i64 pg) ∧ w'.cell? ⟨g6, 1, none⟩ = some (.slice A3 n3 c3) ∧ w'.cell? ⟨g5, 5, none⟩ = some (.slice A2 n2 c2) ∧ w'.cell? ⟨g7, 0, none⟩ = some (.int .i64 pg) ∧ w'.cell? ⟨g7, 1, none⟩ = some (.slice A4 n4 c4)) (ds := [11, 13]) #[false, false, false, false, false, false, false, false, false, false, false, false, false, false] (by kernel_rfl) rfl rfl ⟨(HO.out.cell 3 rfl 5).trans rfl, (HO.out.cell 7 rfl 0).trans rfl, (HO.out.cell 7 rfl 1).trans rfl, (HO.out.cell 4 rfl 5).trans rfl, (HO.out.cell 8 rfl 0).trans rfl, (HO.out.cell 8 rfl 1).trans rfl⟩ (fun hHeld => ?_)
              refine with_tabW made_tab14 made_bits14 (fun HT_ HW_ => ?_)
              generalize World.drew _ = W0 at HO hHeld ⊢
              refine pure_ (i := 0) (N := some 116) (v := ?_) (a' := ?_) #[true, false, false, false, false, false, false, false, false, false, false, false, false, false] rfl rfl (any_of HT_.out (by kernel_rfl)) (fun _ _ _ h => h) (Or.inl ⟨by rfl, ?_⟩) ?_ ?_
              rotate_left
              · intro w'
                go_simp
                with_reducible rfl
              rotate_left
              · simp only [Act.put, List.setIfInBounds_toArray, List.set_cons_zero, List.set_cons_succ, i64_w, i32_w]
                rfl
              refine pure_ (i := 5) (N := some 121) (v := ?_) (a' := ?_) #[true, false, false, false, false, true, false, false, false, false, false, false, false, false] rfl rfl (any_of HT_.out (by kernel_rfl)) (fun _ _ _ h => h) (Or.inl ⟨by rfl, ?_⟩) ?_ ?_
              rotate_left
              · intro w'
                go_simp
                with_reducible rfl
              rotate_left
              · simp only [Act.put, List.setIfInBounds_toArray, List.set_cons_zero, List.set_cons_succ, i64_w, i32_w]
                rfl
              refine take_ (i := 1) (N := some 117) (v := ?_) (a' := ?_) #[true, true, false, false, false, true, false, false, false, false, false, false, false, false] rfl rfl (take_ofW HT_.out HW_.out (by kernel_rfl)) (fun _ _ _ h => h) (Or.inl ⟨by rfl, ?_⟩) hHeld ?_ ?_
              rotate_left
              · rintro w' ⟨s0, s1, s2, s3, s4, s5⟩
                go_simp
                with_reducible rfl
              rotate_left
              · simp only [Act.put, List.setIfInBounds_toArray, List.set_cons_zero, List.set_cons_succ, i64_w, i32_w]
                rfl
              refine take_ (i := 2) (N := some 118) (v := ?_) (a' := ?_) #[true, true, true, false, false, true, false, false, false, false, false, false, false, false] rfl rfl (take_ofW HT_.out HW_.out (by kernel_rfl)) (fun _ _ _ h => h) (Or.inl ⟨by rfl, ?_⟩) hHeld ?_ ?_
              rotate_left
              · rintro w' ⟨s0, s1, s2, s3, s4, s5⟩
                go_simp
                with_reducible rfl
              rotate_left
              · simp only [Act.put, List.setIfInBounds_toArray, List.set_cons_zero, List.set_cons_succ, i64_w, i32_w]
                rfl
              refine take_ (i := 6) (N := some 122) (v := ?_) (a' := ?_) #[true, true, true, false, false, true, true, false, false, false, false, false, false, false] rfl rfl (take_ofW HT_.out HW_.out (by kernel_rfl)) (fun _ _ _ h => h) (Or.inl ⟨by rfl, ?_⟩) hHeld ?_ ?_
              rotate_left
              · rintro w' ⟨s0, s1, s2, s3, s4, s5⟩
                go_simp
                with_reducible rfl
              rotate_left
              · simp only [Act.put, List.setIfInBounds_toArray, List.set_cons_zero, List.set_cons_succ, i64_w, i32_w]
                rfl
              refine take_ (i := 7) (N := some 123) (v := ?_) (a' := ?_) #[true, true, true, false, false, true, true, true, false, false, false, false, false, false] rfl rfl (take_ofW HT_.out HW_.out (by kernel_rfl)) (fun _ _ _ h => h) (Or.inl ⟨by rfl, ?_⟩) hHeld ?_ ?_
              rotate_left
              · rintro w' ⟨s0, s1, s2, s3, s4, s5⟩
                go_simp
                with_reducible rfl
              rotate_left
              · simp only [Act.put, List.setIfInBounds_toArray, List.set_cons_zero, List.set_cons_succ, i64_w, i32_w]
                rfl
              refine join_ (σ := Value × Value × Value) 4 #[true, true, true, true, true, true, true, true, true, false, true, false, false, false] (fun s_ => [(119, s_.1), (120, s_.2.1), (124, s_.2.2), (126, .pointer (some ⟨g4, 5, none⟩))]) (fun s_ w' => (w'.cell? ⟨g4, 5, none⟩ = some (.slice A1 n1 c1) ∧ w'.cell? ⟨g6, 0, none⟩ = some (.int .i64 pg) ∧ w'.cell? ⟨g6, 1, none⟩ = some (.slice A3 n3 c3) ∧ w'.cell? ⟨g5, 5, none⟩ = some (.slice A2 n2 c2) ∧ w'.cell? ⟨g7, 0, none⟩ = some (.int .i64 pg) ∧ w'.cell? ⟨g7, 1, none⟩ = some (.slice A4 n4 c4)) ∧ Own w w' [.box g1 (.cells #[.int .i64 a, .int .i64 b, .int .i64 c, .int .i64 d, .string u, .slice (some ad) l.length c0] 25 (0, 0)), .box g2 (.cells #[.int .i64 0, .int .i64 0, .int .i64 0, .string (⟨#[]⟩ : ByteArray), .int .i64 0, .slice none 0 0] 29 (0, 0)), .box g3 (.cells #[.int .i64 0, .int .i64 0, .int .i64 0, .string (⟨#[]⟩ : ByteArray), .int .i64 0, .slice none 0 0] 32 (0, 0)), .box g4 (.cells #[.int .i64 a, .int .i64 b, .int .i64 c, .string (madeU u), .int .i64 d, (.slice A1 n1 c1)] 29 (0, 0)), .box g5 (.cells #[.int .i64 a, .int .i64 b, .int .i64 c, .string (madeU u), .int .i64 d, (.slice A2 n2 c2)] 32 (0, 0)), .row k60 60 s_.2.1 (((l.take k).map madeC) ++ [(⟨pg, (p1.take j).map cutP⟩ : S60)]), .row k63 63 (.slice A2 n2 c2) ((l.take k).map madeD), .box g6 (.cells #[.int .i64 pg, .slice A3 n3 c3] 60 (0, 0)), .box g7 (.cells #[.int .i64 pg, .slice A4 n4 c4] 63 (0, 0)), .gone, .gone, .gone, .gone, .row k63 63 s_.2.2 [(⟨pg, (p1.take j).map cutQ⟩ : S63)]]) ?_ ?_
              rotate_left
              · intro hCont
                refine two_ (i := 3) (j := 8) (Ni := some 119) (Nj := some 124) #[true, true, true, true, false, true, true, true, false, false, false, false, false, false] #[true, true, true, false, false, true, true, true, true, false, false, false, false, false] rfl rfl rfl rfl (two_of HT_.out (by kernel_rfl)) (by decide) (by decide) (fun K hK => ?_) (fun K hK => ?_)
                · skip
                  refine Own.lit_of_step k60 k66 HO.out 12 9 (by decide) rfl rfl 60 ?hg (N := 119) ?hd (xs := [(⟨pg, (p1.take j).map cutP⟩ : S60)]) (inner := [.int .i64 pg, .slice A3 n3 c3]) ?hr ?hp (by simp) ?_; (case hd => rfl); (case hg => rfl); (case hr => first | (go_simp; done) | (go_simp; rfl)); (case hp => intro ok hN; have en_ := HN3.out; subst en_; exact Reps.c2 (fk_60 _ _ (⟨pg, (p1.take j).map cutP⟩ : S60) (Kd.N_reads' hN).2.1 (Kd.N_F hN)) (Reps.none _ _))
                  intro vA wA HO'
                  have HO1 := Aside0.mk HO'
                  clear HO HO'
                  have HO := HO1
                  clear HO1
                  obtain ⟨AvA_, cvA', evA⟩ := HO.out.row 12 rfl
                  subst evA
                  refine hK.out _ _ ⟨(HO.out.cell 3 rfl 5).trans rfl, (HO.out.cell 7 rfl 0).trans rfl, (HO.out.cell 7 rfl 1).trans rfl, (HO.out.cell 4 rfl 5).trans rfl, (HO.out.cell 8 rfl 0).trans rfl, (HO.out.cell 8 rfl 1).trans rfl⟩ (fun hHeld => ?_)
                  clear hK K
                  refine norm_ (a' := ?_) ?_ ?_
                  rotate_left
                  · show Act.put _ (some 119) _ = _
                    simp only [Act.put, List.setIfInBounds_toArray, List.set_cons_zero, List.set_cons_succ, i64_w, i32_w]
                    rfl
                  refine two_ (i := 4) (j := 8) (Ni := some 120) (Nj := some 124) #[true, true, true, true, true, true, true, true, false, false, false, false, false, false] #[true, true, true, true, false, true, true, true, true, false, false, false, false, false] rfl rfl rfl rfl (two_of HT_.out (by kernel_rfl)) (by decide) (by decide) (fun K hK => ?_) (fun K hK => ?_)
                  · skip
                    refine Own.append_step k60 HO.out 5 12 (by decide) 60 rfl rfl (by rfl) (.tmp 117) (.tmp 119) 27 (.agg #[(.int .i64 0), (.slice none 0 0)]) 32 rfl Try.underlying27 info60 rfl (by decide) (by omega) rfl rfl (len32 _ _ _ _ hk300) ?_
                    intro vC wA HO'
                    have HO1 := Aside0.mk HO'
                    clear HO HO'
                    have HO := HO1
                    clear HO1
                    refine hK.out _ _ ⟨(HO.out.cell 3 rfl 5).trans rfl, (HO.out.cell 7 rfl 0).trans rfl, (HO.out.cell 7 rfl 1).trans rfl, (HO.out.cell 4 rfl 5).trans rfl, (HO.out.cell 8 rfl 0).trans rfl, (HO.out.cell 8 rfl 1).trans rfl⟩ (fun hHeld => ?_)
                    clear hK K
                    refine norm_ (a' := ?_) ?_ ?_
                    rotate_left
                    · show Act.put _ (some 120) _ = _
                      simp only [Act.put, List.setIfInBounds_toArray, List.set_cons_zero, List.set_cons_succ, i64_w, i32_w]
                      rfl
                    refine pure_ (i := 10) (N := some 126) (v := ?_) (a' := ?_) #[true, true, true, true, true, true, true, true, false, false, true, false, false, false] rfl rfl (any_of HT_.out (by kernel_rfl)) (fun _ _ _ h => h) (Or.inl ⟨by rfl, ?_⟩) ?_ ?_
                    rotate_left
                    · intro w'
                      go_simp
                      with_reducible rfl
                    rotate_left
                    · simp only [Act.put, List.setIfInBounds_toArray, List.set_cons_zero, List.set_cons_succ, i64_w, i32_w]
                      rfl
                    refine one_ (i := 8) (N := some 124) #[true, true, true, true, true, true, true, true, true, false, true, false, false, false] rfl rfl (one_of HT_.out (by kernel_rfl)) (by decide) (fun K hK => ?_)
                    refine Own.lit_of_step k63 k67 HO.out 13 10 (by decide) rfl rfl 63 ?hg (N := 124) ?hd (xs := [(⟨pg, (p1.take j).map cutQ⟩ : S63)]) (inner := [.int .i64 pg, .slice A4 n4 c4]) ?hr ?hp (by simp) ?_; (case hd => rfl); (case hg => rfl); (case hr => first | (go_simp; done) | (go_simp; rfl)); (case hp => intro ok hN; have en_ := HN4.out; subst en_; exact Reps.c2 (fk_63 _ _ (⟨pg, (p1.take j).map cutQ⟩ : S63) (Kd.N_reads' hN).2.1 (Kd.N_F hN)) (Reps.none _ _))
                    intro vB wA HO'
                    have HO1 := Aside0.mk HO'
                    clear HO HO'
                    have HO := HO1
                    clear HO1
                    obtain ⟨AvB_, cvB', evB⟩ := HO.out.row 13 rfl
                    subst evB
                    refine hK.out _ _ ⟨(HO.out.cell 3 rfl 5).trans rfl, (HO.out.cell 7 rfl 0).trans rfl, (HO.out.cell 7 rfl 1).trans rfl, (HO.out.cell 4 rfl 5).trans rfl, (HO.out.cell 8 rfl 0).trans rfl, (HO.out.cell 8 rfl 1).trans rfl⟩ (fun hHeld => ?_)
                    clear hK K
                    refine norm_ (a' := ?_) ?_ ?_
                    rotate_left
                    · show Act.put _ (some 124) _ = _
                      simp only [Act.put, List.setIfInBounds_toArray, List.set_cons_zero, List.set_cons_succ, i64_w, i32_w]
                      rfl
                    exact norm_ (by simp only [putAll, Act.put, List.setIfInBounds_toArray, List.set_cons_zero, List.set_cons_succ]) (hCont (.slice AvA_ ([(⟨pg, (p1.take j).map cutP⟩ : S60)] : List _).length cvA', vC, .slice AvB_ ([(⟨pg, (p1.take j).map cutQ⟩ : S63)] : List _).length cvB') _ ⟨hHeld, HO.out⟩)
                  · skip
                    refine Own.lit_of_step k63 k67 HO.out 13 10 (by decide) rfl rfl 63 ?hg (N := 124) ?hd (xs := [(⟨pg, (p1.take j).map cutQ⟩ : S63)]) (inner := [.int .i64 pg, .slice A4 n4 c4]) ?hr ?hp (by simp) ?_; (case hd => rfl); (case hg => rfl); (case hr => first | (go_simp; done) | (go_simp; rfl)); (case hp => intro ok hN; have en_ := HN4.out; subst en_; exact Reps.c2 (fk_63 _ _ (⟨pg, (p1.take j).map cutQ⟩ : S63) (Kd.N_reads' hN).2.1 (Kd.N_F hN)) (Reps.none _ _))
                    intro vB wA HO'
                    have HO1 := Aside0.mk HO'
                    clear HO HO'
                    have HO := HO1
                    clear HO1
                    obtain ⟨AvB_, cvB', evB⟩ := HO.out.row 13 rfl
                    subst evB
                    refine hK.out _ _ ⟨(HO.out.cell 3 rfl 5).trans rfl, (HO.out.cell 7 rfl 0).trans rfl, (HO.out.cell 7 rfl 1).trans rfl, (HO.out.cell 4 rfl 5).trans rfl, (HO.out.cell 8 rfl 0).trans rfl, (HO.out.cell 8 rfl 1).trans rfl⟩ (fun hHeld => ?_)
                    clear hK K
                    refine norm_ (a' := ?_) ?_ ?_
                    rotate_left
                    · show Act.put _ (some 124) _ = _
                      simp only [Act.put, List.setIfInBounds_toArray, List.set_cons_zero, List.set_cons_succ, i64_w, i32_w]
                      rfl
                    refine one_ (i := 4) (N := some 120) #[true, true, true, true, true, true, true, true, true, false, false, false, false, false] rfl rfl (one_of HT_.out (by kernel_rfl)) (by decide) (fun K hK => ?_)
                    refine Own.append_step k60 HO.out 5 12 (by decide) 60 rfl rfl (by rfl) (.tmp 117) (.tmp 119) 27 (.agg #[(.int .i64 0), (.slice none 0 0)]) 32 rfl Try.underlying27 info60 rfl (by decide) (by omega) rfl rfl (len32 _ _ _ _ hk300) ?_
                    intro vC wA HO'
                    have HO1 := Aside0.mk HO'
                    clear HO HO'
                    have HO := HO1
                    clear HO1
                    refine hK.out _ _ ⟨(HO.out.cell 3 rfl 5).trans rfl, (HO.out.cell 7 rfl 0).trans rfl, (HO.out.cell 7 rfl 1).trans rfl, (HO.out.cell 4 rfl 5).trans rfl, (HO.out.cell 8 rfl 0).trans rfl, (HO.out.cell 8 rfl 1).trans rfl⟩ (fun hHeld => ?_)
                    clear hK K
                    refine norm_ (a' := ?_) ?_ ?_
                    rotate_left
                    · show Act.put _ (some 120) _ = _
                      simp only [Act.put, List.setIfInBounds_toArray, List.set_cons_zero, List.set_cons_succ, i64_w, i32_w]
                      rfl
                    refine pure_ (i := 10) (N := some 126) (v := ?_) (a' := ?_) #[true, true, true, true, true, true, true, true, true, false, true, false, false, false] rfl rfl (any_of HT_.out (by kernel_rfl)) (fun _ _ _ h => h) (Or.inl ⟨by rfl, ?_⟩) ?_ ?_
                    rotate_left
                    · intro w'
                      go_simp
                      with_reducible rfl
                    rotate_left
                    · simp only [Act.put, List.setIfInBounds_toArray, List.set_cons_zero, List.set_cons_succ, i64_w, i32_w]
                      rfl
                    exact norm_ (by simp only [putAll, Act.put, List.setIfInBounds_toArray, List.set_cons_zero, List.set_cons_succ]) (hCont (.slice AvA_ ([(⟨pg, (p1.take j).map cutP⟩ : S60)] : List _).length cvA', vC, .slice AvB_ ([(⟨pg, (p1.take j).map cutQ⟩ : S63)] : List _).length cvB') _ ⟨hHeld, HO.out⟩)
                · skip
                  refine Own.lit_of_step k63 k67 HO.out 13 10 (by decide) rfl rfl 63 ?hg (N := 124) ?hd (xs := [(⟨pg, (p1.take j).map cutQ⟩ : S63)]) (inner := [.int .i64 pg, .slice A4 n4 c4]) ?hr ?hp (by simp) ?_; (case hd => rfl); (case hg => rfl); (case hr => first | (go_simp; done) | (go_simp; rfl)); (case hp => intro ok hN; have en_ := HN4.out; subst en_; exact Reps.c2 (fk_63 _ _ (⟨pg, (p1.take j).map cutQ⟩ : S63) (Kd.N_reads' hN).2.1 (Kd.N_F hN)) (Reps.none _ _))
                  intro vB wA HO'
                  have HO1 := Aside0.mk HO'
                  clear HO HO'
                  have HO := HO1
                  clear HO1
                  obtain ⟨AvB_, cvB', evB⟩ := HO.out.row 13 rfl
                  subst evB
                  refine hK.out _ _ ⟨(HO.out.cell 3 rfl 5).trans rfl, (HO.out.cell 7 rfl 0).trans rfl, (HO.out.cell 7 rfl 1).trans rfl, (HO.out.cell 4 rfl 5).trans rfl, (HO.out.cell 8 rfl 0).trans rfl, (HO.out.cell 8 rfl 1).trans rfl⟩ (fun hHeld => ?_)
                  clear hK K
                  refine norm_ (a' := ?_) ?_ ?_
                  rotate_left
                  · show Act.put _ (some 124) _ = _
                    simp only [Act.put, List.setIfInBounds_toArray, List.set_cons_zero, List.set_cons_succ, i64_w, i32_w]
                    rfl
                  refine one_ (i := 3) (N := some 119) #[true, true, true, true, false, true, true, true, true, false, false, false, false, false] rfl rfl (one_of HT_.out (by kernel_rfl)) (by decide) (fun K hK => ?_)
                  refine Own.lit_of_step k60 k66 HO.out 12 9 (by decide) rfl rfl 60 ?hg (N := 119) ?hd (xs := [(⟨pg, (p1.take j).map cutP⟩ : S60)]) (inner := [.int .i64 pg, .slice A3 n3 c3]) ?hr ?hp (by simp) ?_; (case hd => rfl); (case hg => rfl); (case hr => first | (go_simp; done) | (go_simp; rfl)); (case hp => intro ok hN; have en_ := HN3.out; subst en_; exact Reps.c2 (fk_60 _ _ (⟨pg, (p1.take j).map cutP⟩ : S60) (Kd.N_reads' hN).2.1 (Kd.N_F hN)) (Reps.none _ _))
                  intro vA wA HO'
                  have HO1 := Aside0.mk HO'
                  clear HO HO'
                  have HO := HO1
                  clear HO1
                  obtain ⟨AvA_, cvA', evA⟩ := HO.out.row 12 rfl
                  subst evA
                  refine hK.out _ _ ⟨(HO.out.cell 3 rfl 5).trans rfl, (HO.out.cell 7 rfl 0).trans rfl, (HO.out.cell 7 rfl 1).trans rfl, (HO.out.cell 4 rfl 5).trans rfl, (HO.out.cell 8 rfl 0).trans rfl, (HO.out.cell 8 rfl 1).trans rfl⟩ (fun hHeld => ?_)
                  clear hK K
                  refine norm_ (a' := ?_) ?_ ?_
                  rotate_left
                  · show Act.put _ (some 119) _ = _
                    simp only [Act.put, List.setIfInBounds_toArray, List.set_cons_zero, List.set_cons_succ, i64_w, i32_w]
                    rfl
                  refine one_ (i := 4) (N := some 120) #[true, true, true, true, true, true, true, true, true, false, false, false, false, false] rfl rfl (one_of HT_.out (by kernel_rfl)) (by decide) (fun K hK => ?_)
                  refine Own.append_step k60 HO.out 5 12 (by decide) 60 rfl rfl (by rfl) (.tmp 117) (.tmp 119) 27 (.agg #[(.int .i64 0), (.slice none 0 0)]) 32 rfl Try.underlying27 info60 rfl (by decide) (by omega) rfl rfl (len32 _ _ _ _ hk300) ?_
                  intro vC wA HO'
                  have HO1 := Aside0.mk HO'
                  clear HO HO'
                  have HO := HO1
                  clear HO1
                  refine hK.out _ _ ⟨(HO.out.cell 3 rfl 5).trans rfl, (HO.out.cell 7 rfl 0).trans rfl, (HO.out.cell 7 rfl 1).trans rfl, (HO.out.cell 4 rfl 5).trans rfl, (HO.out.cell 8 rfl 0).trans rfl, (HO.out.cell 8 rfl 1).trans rfl⟩ (fun hHeld => ?_)
                  clear hK K
                  refine norm_ (a' := ?_) ?_ ?_
                  rotate_left
                  · show Act.put _ (some 120) _ = _
                    simp only [Act.put, List.setIfInBounds_toArray, List.set_cons_zero, List.set_cons_succ, i64_w, i32_w]
                    rfl
                  refine pure_ (i := 10) (N := some 126) (v := ?_) (a' := ?_) #[true, true, true, true, true, true, true, true, true, false, true, false, false, false] rfl rfl (any_of HT_.out (by kernel_rfl)) (fun _ _ _ h => h) (Or.inl ⟨by rfl, ?_⟩) ?_ ?_
                  rotate_left
                  · intro w'
                    go_simp
                    with_reducible rfl
                  rotate_left
                  · simp only [Act.put, List.setIfInBounds_toArray, List.set_cons_zero, List.set_cons_succ, i64_w, i32_w]
                    rfl
                  exact norm_ (by simp only [putAll, Act.put, List.setIfInBounds_toArray, List.set_cons_zero, List.set_cons_succ]) (hCont (.slice AvA_ ([(⟨pg, (p1.take j).map cutP⟩ : S60)] : List _).length cvA', vC, .slice AvB_ ([(⟨pg, (p1.take j).map cutQ⟩ : S63)] : List _).length cvB') _ ⟨hHeld, HO.out⟩)
              rintro ⟨vA, vC, vB⟩ W1 ⟨hHeld, hO⟩
              clear HO
              have HO := Aside0.mk hO
              clear hO
              obtain ⟨AB, cB, eB⟩ := HO.out.row 13 rfl
              simp only at eB
              subst eB
              refine norm_ (a' := ?_) ?_ ?_
              rotate_left
              · simp only [putAll, Act.put, List.setIfInBounds_toArray, List.set_cons_zero, List.set_cons_succ]
                rfl
              refine one_ (i := 9) (N := some 125) #[true, true, true, true, true, true, true, true, true, true, true, false, false, false] rfl rfl (one_of HT_.out (by kernel_rfl)) (by decide) (fun K hK => ?_)
              refine Own.append_step k63 HO.out 6 13 (by decide) 63 rfl rfl (by rfl) (.tmp 122) (.tmp 124) 30 (.agg #[(.int .i64 0), (.slice none 0 0)]) 32 rfl Try.underlying30 info63 rfl (by decide) (by omega) rfl rfl (len32 _ _ _ _ hk300) ?_
              intro vD wA HO'
              have HO1 := Aside0.mk HO'
              clear HO HO'
              have HO := HO1
              clear HO1
              refine hK.out _ _ ⟨(HO.out.cell 3 rfl 5).trans rfl, (HO.out.cell 7 rfl 0).trans rfl, (HO.out.cell 7 rfl 1).trans rfl, (HO.out.cell 4 rfl 5).trans rfl, (HO.out.cell 8 rfl 0).trans rfl, (HO.out.cell 8 rfl 1).trans rfl⟩ (fun hHeld => ?_)
              clear hK K
              refine norm_ (a' := ?_) ?_ ?_
              rotate_left
              · show Act.put _ (some 125) _ = _
                simp only [Act.put, List.setIfInBounds_toArray, List.set_cons_zero, List.set_cons_succ, i64_w, i32_w]
                rfl
              obtain ⟨AC, cC, eC⟩ := HO.out.row 5 rfl
              replace eC : vC = _ := eC
              generalize List.length _ = nC at eC
              subst eC
              obtain ⟨AD, cD, eD⟩ := HO.out.row 6 rfl
              replace eD : vD = _ := eD
              generalize List.length _ = nD at eD
              subst eD
              refine last_ (i := 11) (N := none) #[true, true, true, true, true, true, true, true, true, true, true, true, false, false] rfl rfl (one_of HT_.out (by kernel_rfl)) (by decide) (fun K hK => ?_)
              have hs0 : wA.cell? ⟨g4, 5, none⟩ = some (.slice A1 n1 c1) := (HO.out.cell 3 rfl 5).trans rfl
              have hf0 := HO.out.frozen 3 rfl 5
              refine skip_ (w1 := ?_) (by rfl) rfl ?_ ?_
              rotate_left
              · go_simp
                rfl
              refine hK.out _ _ ?_
              clear hK K
              have HO1 := Aside0.mk (HO.out.store 3 rfl 5 (.slice AC nC cC) rfl)
              clear hs0 hf0 hHeld HO
              generalize wA.setCell ⟨g4, 5, none⟩ (.slice AC nC cC) = W3 at HO1 ⊢
              have HO := HO1
              clear HO1
              refine pure_ (i := 12) (N := some 127) (v := ?_) (a' := ?_) #[true, true, true, true, true, true, true, true, true, true, true, true, true, false] rfl rfl (any_of HT_.out (by kernel_rfl)) (fun _ _ _ h => h) (Or.inl ⟨by rfl, ?_⟩) ?_ ?_
              rotate_left
              · intro w'
                go_simp
                with_reducible rfl
              rotate_left
              · simp only [Act.put, List.setIfInBounds_toArray, List.set_cons_zero, List.set_cons_succ, i64_w, i32_w]
                rfl
              refine last_ (i := 13) (N := none) #[true, true, true, true, true, true, true, true, true, true, true, true, true, true] rfl rfl (one_of HT_.out (by kernel_rfl)) (by decide) (fun K hK => ?_)
              have hs0 : W3.cell? ⟨g5, 5, none⟩ = some (.slice A2 n2 c2) := (HO.out.cell 4 rfl 5).trans rfl
              have hf0 := HO.out.frozen 4 rfl 5
              refine skip_ (w1 := ?_) (by rfl) rfl ?_ ?_
              rotate_left
              · go_simp
                rfl
              refine hK.out _ _ ?_
              clear hK K
              have HO1 := Aside0.mk (HO.out.store 4 rfl 5 (.slice AD nD cD) rfl)
              clear hs0 hf0 HO
              generalize W3.setCell ⟨g5, 5, none⟩ (.slice AD nD cD) = W4 at HO1 ⊢
              have HO := HO1
              clear HO1
              refine done_ (done_of HT_.out (by kernel_rfl)) ?_
              have HO1 := Aside0.mk ((HO.out.drop 7).drop 8)
              clear HO
              have HO := HO1
              clear HO1
              go_wp2_with fail
              go_roundw
              case rel =>
                refine ⟨k + 1, .slice AC nC cC, .slice AD nD cD, by omega, by go_num, ?_⟩
                rw [← take_more l madeC k hlt ⟨pg, (p1.take j).map cutP⟩ (HMC.out.trans (by rw [take_ten p1 j hjm])), ← take_more l madeD k hlt ⟨pg, (p1.take j).map cutQ⟩ (HMD.out.trans (by rw [take_ten p1 j hjm]))]
                exact HO.out
              case measure => simp [intOf]; omega
      | false =>
        have hq := of_decide_eq_false HQ.out.symm
        have hkm : k = min 300 l.length := by omega
        clear hq HQ z5
        obtain ⟨A1, c1, e1⟩ := HO.out.row 5 rfl
        generalize List.length _ = n1 at e1
        subst e1
        obtain ⟨A2, c2, e2⟩ := HO.out.row 6 rfl
        generalize List.length _ = n2 at e2
        subst e2
        go_wp2_with fail
        have HOd := Aside0.mk (HO.out.below (below_drew (Below.refl _ _)))
        clear HO
        have HO := HOd
        clear HOd
        refine start_ (n := 4) (S := fun w' => w'.cell? ⟨g4, 0, none⟩ = some (.int .i64 a) ∧ w'.cell? ⟨g4, 1, none⟩ = some (.int .i64 b) ∧ w'.cell? ⟨g4, 2, none⟩ = some (.int .i64 c) ∧ w'.cell? ⟨g4, 3, none⟩ = some (.string (madeU u)) ∧ w'.cell? ⟨g4, 4, none⟩ = some (.int .i64 d) ∧ w'.cell? ⟨g4, 5, none⟩ = some (.slice A1 n1 c1) ∧ w'.cell? ⟨g5, 0, none⟩ = some (.int .i64 a) ∧ w'.cell? ⟨g5, 1, none⟩ = some (.int .i64 b) ∧ w'.cell? ⟨g5, 2, none⟩ = some (.int .i64 c) ∧ w'.cell? ⟨g5, 3, none⟩ = some (.string (madeU u)) ∧ w'.cell? ⟨g5, 4, none⟩ = some (.int .i64 d) ∧ w'.cell? ⟨g5, 5, none⟩ = some (.slice A2 n2 c2)) (ds := []) #[false, false, false, false] (by kernel_rfl) rfl rfl ⟨(HO.out.cell 3 rfl 0).trans rfl, (HO.out.cell 3 rfl 1).trans rfl, (HO.out.cell 3 rfl 2).trans rfl, (HO.out.cell 3 rfl 3).trans rfl, (HO.out.cell 3 rfl 4).trans rfl, (HO.out.cell 3 rfl 5).trans rfl, (HO.out.cell 4 rfl 0).trans rfl, (HO.out.cell 4 rfl 1).trans rfl, (HO.out.cell 4 rfl 2).trans rfl, (HO.out.cell 4 rfl 3).trans rfl, (HO.out.cell 4 rfl 4).trans rfl, (HO.out.cell 4 rfl 5).trans rfl⟩ (fun hHeld => ?_)
        generalize World.drew _ = W1 at HO hHeld ⊢
        refine take_ (i := 0) (N := some 128) (v := ?_) (a' := ?_) #[true, false, false, false] rfl rfl (by kernel_rfl) (fun _ _ _ h => h) (Or.inl ⟨by rfl, ?_⟩) hHeld ?_ ?_
        rotate_left
        · rintro w' ⟨s0, s1, s2, s3, s4, s5, s6, s7, s8, s9, s10, s11⟩
          go_simp
          with_reducible rfl
        rotate_left
        · simp only [Act.put, List.setIfInBounds_toArray, List.set_cons_zero, List.set_cons_succ, i64_w, i32_w]
          rfl
        refine take_ (i := 1) (N := some 129) (v := ?_) (a' := ?_) #[true, true, false, false] rfl rfl (by kernel_rfl) (fun _ _ _ h => h) (Or.inl ⟨by rfl, ?_⟩) hHeld ?_ ?_
        rotate_left
        · rintro w' ⟨s0, s1, s2, s3, s4, s5, s6, s7, s8, s9, s10, s11⟩
          go_simp
          with_reducible rfl
        rotate_left
        · simp only [Act.put, List.setIfInBounds_toArray, List.set_cons_zero, List.set_cons_succ, i64_w, i32_w]
          rfl
        refine one_ (i := 2) (N := none) #[true, true, true, false] rfl rfl (by kernel_rfl) (by decide) (fun K hK => ?_)
        have hs0 : W1.cell? ⟨g2, 0, none⟩ = some (.int .i64 0) := (HO.out.cell 1 rfl 0).trans rfl
        have hf0 := HO.out.frozen 1 rfl 0
        have hs1 : W1.cell? ⟨g2, 1, none⟩ = some (.int .i64 0) := (HO.out.cell 1 rfl 1).trans rfl
        have hf1 := HO.out.frozen 1 rfl 1
        have hs2 : W1.cell? ⟨g2, 2, none⟩ = some (.int .i64 0) := (HO.out.cell 1 rfl 2).trans rfl
        have hf2 := HO.out.frozen 1 rfl 2
        have hs3 : W1.cell? ⟨g2, 3, none⟩ = some (.string (⟨#[]⟩ : ByteArray)) := (HO.out.cell 1 rfl 3).trans rfl
        have hf3 := HO.out.frozen 1 rfl 3
        have hs4 : W1.cell? ⟨g2, 4, none⟩ = some (.int .i64 0) := (HO.out.cell 1 rfl 4).trans rfl
        have hf4 := HO.out.frozen 1 rfl 4
        have hs5 : W1.cell? ⟨g2, 5, none⟩ = some (.slice none 0 0) := (HO.out.cell 1 rfl 5).trans rfl
        have hf5 := HO.out.frozen 1 rfl 5
        have HO1 := Aside0.mk ((((((HO.out.store (cs' := #[.int .i64 a, .int .i64 0, .int .i64 0, .string (⟨#[]⟩ : ByteArray), .int .i64 0, .slice none 0 0]) 1 rfl 0 (.int .i64 a) rfl).store (cs' := #[.int .i64 a, .int .i64 b, .int .i64 0, .string (⟨#[]⟩ : ByteArray), .int .i64 0, .slice none 0 0]) 1 rfl 1 (.int .i64 b) rfl).store (cs' := #[.int .i64 a, .int .i64 b, .int .i64 c, .string (⟨#[]⟩ : ByteArray), .int .i64 0, .slice none 0 0]) 1 rfl 2 (.int .i64 c) rfl).store (cs' := #[.int .i64 a, .int .i64 b, .int .i64 c, .string (madeU u), .int .i64 0, .slice none 0 0]) 1 rfl 3 (.string (madeU u)) rfl).store (cs' := #[.int .i64 a, .int .i64 b, .int .i64 c, .string (madeU u), .int .i64 d, .slice none 0 0]) 1 rfl 4 (.int .i64 d) rfl).store (cs' := #[.int .i64 a, .int .i64 b, .int .i64 c, .string (madeU u), .int .i64 d, .slice A1 n1 c1]) 1 rfl 5 (.slice A1 n1 c1) rfl)
        refine skip_ (w1 := ?_) (by rfl) rfl ?_ ?_
        rotate_left
        · go_simp
          rfl
        refine hK.out _ _ ⟨(HO1.out.cell 3 rfl 0).trans rfl, (HO1.out.cell 3 rfl 1).trans rfl, (HO1.out.cell 3 rfl 2).trans rfl, (HO1.out.cell 3 rfl 3).trans rfl, (HO1.out.cell 3 rfl 4).trans rfl, (HO1.out.cell 3 rfl 5).trans rfl, (HO1.out.cell 4 rfl 0).trans rfl, (HO1.out.cell 4 rfl 1).trans rfl, (HO1.out.cell 4 rfl 2).trans rfl, (HO1.out.cell 4 rfl 3).trans rfl, (HO1.out.cell 4 rfl 4).trans rfl, (HO1.out.cell 4 rfl 5).trans rfl⟩ (fun hHeld => ?_)
        clear hK K
        clear hs0 hs1 hs2 hs3 hs4 hs5 hf0 hf1 hf2 hf3 hf4 hf5 HO
        generalize ((((((W1.setCell ⟨g2, 0, none⟩ (.int .i64 a)).setCell ⟨g2, 1, none⟩ (.int .i64 b)).setCell ⟨g2, 2, none⟩ (.int .i64 c)).setCell ⟨g2, 3, none⟩ (.string (madeU u))).setCell ⟨g2, 4, none⟩ (.int .i64 d)).setCell ⟨g2, 5, none⟩ (.slice A1 n1 c1)) = W2 at HO1 hHeld ⊢
        have HO := HO1
        clear HO1
        refine one_ (i := 3) (N := none) #[true, true, true, true] rfl rfl (by kernel_rfl) (by decide) (fun K hK => ?_)
        have hs0 : W2.cell? ⟨g3, 0, none⟩ = some (.int .i64 0) := (HO.out.cell 2 rfl 0).trans rfl
        have hf0 := HO.out.frozen 2 rfl 0
        have hs1 : W2.cell? ⟨g3, 1, none⟩ = some (.int .i64 0) := (HO.out.cell 2 rfl 1).trans rfl
        have hf1 := HO.out.frozen 2 rfl 1
        have hs2 : W2.cell? ⟨g3, 2, none⟩ = some (.int .i64 0) := (HO.out.cell 2 rfl 2).trans rfl
        have hf2 := HO.out.frozen 2 rfl 2
        have hs3 : W2.cell? ⟨g3, 3, none⟩ = some (.string (⟨#[]⟩ : ByteArray)) := (HO.out.cell 2 rfl 3).trans rfl
        have hf3 := HO.out.frozen 2 rfl 3
        have hs4 : W2.cell? ⟨g3, 4, none⟩ = some (.int .i64 0) := (HO.out.cell 2 rfl 4).trans rfl
        have hf4 := HO.out.frozen 2 rfl 4
        have hs5 : W2.cell? ⟨g3, 5, none⟩ = some (.slice none 0 0) := (HO.out.cell 2 rfl 5).trans rfl
        have hf5 := HO.out.frozen 2 rfl 5
        have HO1 := Aside0.mk ((((((HO.out.store (cs' := #[.int .i64 a, .int .i64 0, .int .i64 0, .string (⟨#[]⟩ : ByteArray), .int .i64 0, .slice none 0 0]) 2 rfl 0 (.int .i64 a) rfl).store (cs' := #[.int .i64 a, .int .i64 b, .int .i64 0, .string (⟨#[]⟩ : ByteArray), .int .i64 0, .slice none 0 0]) 2 rfl 1 (.int .i64 b) rfl).store (cs' := #[.int .i64 a, .int .i64 b, .int .i64 c, .string (⟨#[]⟩ : ByteArray), .int .i64 0, .slice none 0 0]) 2 rfl 2 (.int .i64 c) rfl).store (cs' := #[.int .i64 a, .int .i64 b, .int .i64 c, .string (madeU u), .int .i64 0, .slice none 0 0]) 2 rfl 3 (.string (madeU u)) rfl).store (cs' := #[.int .i64 a, .int .i64 b, .int .i64 c, .string (madeU u), .int .i64 d, .slice none 0 0]) 2 rfl 4 (.int .i64 d) rfl).store (cs' := #[.int .i64 a, .int .i64 b, .int .i64 c, .string (madeU u), .int .i64 d, .slice A2 n2 c2]) 2 rfl 5 (.slice A2 n2 c2) rfl)
        refine skip_ (w1 := ?_) (by rfl) rfl ?_ ?_
        rotate_left
        · go_simp
          rfl
        refine hK.out _ _ ⟨(HO1.out.cell 3 rfl 0).trans rfl, (HO1.out.cell 3 rfl 1).trans rfl, (HO1.out.cell 3 rfl 2).trans rfl, (HO1.out.cell 3 rfl 3).trans rfl, (HO1.out.cell 3 rfl 4).trans rfl, (HO1.out.cell 3 rfl 5).trans rfl, (HO1.out.cell 4 rfl 0).trans rfl, (HO1.out.cell 4 rfl 1).trans rfl, (HO1.out.cell 4 rfl 2).trans rfl, (HO1.out.cell 4 rfl 3).trans rfl, (HO1.out.cell 4 rfl 4).trans rfl, (HO1.out.cell 4 rfl 5).trans rfl⟩ (fun hHeld => ?_)
        clear hK K
        clear hs0 hs1 hs2 hs3 hs4 hs5 hf0 hf1 hf2 hf3 hf4 hf5 HO
        generalize ((((((W2.setCell ⟨g3, 0, none⟩ (.int .i64 a)).setCell ⟨g3, 1, none⟩ (.int .i64 b)).setCell ⟨g3, 2, none⟩ (.int .i64 c)).setCell ⟨g3, 3, none⟩ (.string (madeU u))).setCell ⟨g3, 4, none⟩ (.int .i64 d)).setCell ⟨g3, 5, none⟩ (.slice A2 n2 c2)) = W3 at HO1 hHeld ⊢
        have HO := HO1
        clear HO1
        refine done_ (by kernel_rfl) ?_
        simp only [Exit.inBlock, Exit.then]
        refine ‹∀ (a : Act) (w : World), Code.wp Try.prog Code.ret _ a w → _› _ _ ?_
        refine wp_ret ?_
        refine bodyPost_ret (results_cc rfl _ _ g2 g3 29 32 #[.int .i64 a, .int .i64 b, .int .i64 c, .string (madeU u), .int .i64 d, .slice A1 n1 c1] #[.int .i64 a, .int .i64 b, .int .i64 c, .string (madeU u), .int .i64 d, .slice A2 n2 c2] (0, 0) (0, 0) _ _ rfl (HO.out.box 1 rfl) Try.underlying29 rfl (by kernel_rfl) rfl (HO.out.box 2 rfl) Try.underlying32 rfl (by kernel_rfl)) rfl ?_
        have hp : l.take k = l.take 300 := take_max l k 300 hkm
        have h5 := HO.out
        rw [hp] at h5
        exact ⟨_, _, rfl, _, rfl, rfl, h5⟩
theorem concordancelaw07_made.calls (a b c d : Int) (u : ByteArray) (A0 : Option Addr) (c0 : Nat) (l : List S57) (r1 r2 r3 : Int) (r4 : ByteArray) (r5 : Int) (r6 : List S60) (r7 r8 r9 : Int) (r10 : ByteArray) (r11 : Int) (r12 : List S63) (w : World) (hr : Kd.C k57 w A0 l.length l) (hc : l.length ≤ c0) (h : concordancelaw07_made.f a b c d u l = some (r1, r2, r3, r4, r5, r6, r7, r8, r9, r10, r11, r12)) :
    Calls Try.prog 8 #[.agg #[.int .i64 a, .int .i64 b, .int .i64 c, .int .i64 d, .string u, .slice A0 l.length c0]] w fun e w' => ∃ v5_ v11_ : Value, e = .returned (.tuple #[.agg #[.int .i64 r1, .int .i64 r2, .int .i64 r3, .string r4, .int .i64 r5, v5_], .agg #[.int .i64 r7, .int .i64 r8, .int .i64 r9, .string r10, .int .i64 r11, v11_]]) ∧
      Kd.N k60 60 w' w.heap.size (fun k_ => (w.heap.size ≤ k_) ∧ some k_ ≠ (v11_ : Value).ownBlock) v5_ r6 ∧ Kd.N k63 63 w' w.heap.size (fun k_ => (w.heap.size ≤ k_) ∧ some k_ ≠ (v5_ : Value).ownBlock) v11_ r12 ∧ Below w.heap.size w w' := by
  cases h
  refine (made_does a b c d u A0 c0 l w hr hc).mono ?_
  rintro e w' ⟨v1, v2, rfl, l', h5, h6, hO⟩
  exact ⟨v1, v2, rfl, hO.rows 5 6 h5 h6 (by decide), hO.rows 6 5 h6 h5 (by decide), hO.1⟩
end Go.Proofs.Yteehchhmonlkkaa.GP
