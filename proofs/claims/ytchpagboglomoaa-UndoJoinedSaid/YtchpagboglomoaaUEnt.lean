/- Entries: undo.Put, undo.Get and the document's. Conditions: none. -/
import Derived.Test.YtchpagboglomoaaURec
import Derived.Test.YtchpagboglomoaaUME
namespace Go.Proofs.Ytchpagboglomoaa.Ownd
open Go.RowKit Go.Proofs.Ytchpagboglomoaa.GP Go.Proofs.YtchpagboglomoaaW.PrintWords Go.Proofs.YtchpagboglomoaaW.PrintLast Go.Proofs.YtchpagboglomoaaW.PrintMore
set_option linter.unusedVariables false
set_option linter.unusedSimpArgs false
variable {w W : World}
/-- Kind, Index, Key. -/
abbrev UE := Int × (Int × ByteArray)
def okE (x : UE) : Bool := decide ((x.1 = 2 ∨ x.1 = 3) ∧ 0 ≤ x.2.1 ∧ x.2.1 ≤ 65535 ∧ x.2.2.size ≤ 64)
def putE (x : UE) : ByteArray := if okE x = true then (strOfNums [x.1] ++ strOfNums [x.2.1 / 256, x.2.1 % 256]) ++ x.2.2 else ⟨#[]⟩
theorem okE_yes {x : UE} (h : okE x = true) : (x.1 = 2 ∨ x.1 = 3) ∧ 0 ≤ x.2.1 ∧ x.2.1 ≤ 65535 ∧ x.2.2.size ≤ 64 := of_decide_eq_true h
theorem okE_no {x : UE} (h : ¬ ((x.1 = 2 ∨ x.1 = 3) ∧ 0 ≤ x.2.1 ∧ x.2.1 ≤ 65535 ∧ x.2.2.size ≤ 64)) : okE x = false := decide_eq_false h
def pu_T : Bool × List (List Nat × List Nat) := (true, [([], []), ([0], [0]), ([1], [1]), ([], []), ([3], [3]), ([4, 2], [4]), ([2, 5], [2, 5]), ([], []), ([7], [7]), ([6, 8], [6, 8]), ([9, 5, 0, 1, 2, 3, 4, 5, 6, 7, 8, 9], [9])])
def pu_B : List Nat := [0, 1, 3, 0, 8, 31, 63, 0, 128, 511, 1023]
theorem pu_tab : rtab .any (opsOf Try.f19 3) = pu_T := by kernel_rfl
theorem pu_bits : waitsOk pu_T.2 pu_B = true := by kernel_rfl
set_option maxHeartbeats 4000000 in
set_option maxRecDepth 100000 in
theorem putE_calls (a b : Int) (s : ByteArray) (W : World) : Calls Try.prog 19 #[.agg #[.int .i64 a, .int .i64 b, .string s]] W fun ex W' => ex = .returned (.string (putE (a, b, s))) ∧ Below W.heap.size W W' := by
  obtain ⟨r, hr⟩ : ∃ r, putE (a, b, s) = r := ⟨_, rfl⟩
  rw [hr]
  have HR := Aside0.mk hr
  clear hr
  have HO : Aside0 (Own W (W.alloc (.cells #[.int .i64 a, .int .i64 b, .string s] 36)) [.box W.heap.size (.cells #[.int .i64 a, .int .i64 b, .string s] 36 (0, 0))]) := ⟨(Own.start W 1).alloc 0 rfl (.cells #[.int .i64 a, .int .i64 b, .string s] 36)⟩
  have HB := Aside0.mk (below_alloc (Below.refl W.heap.size W) (.cells #[.int .i64 a, .int .i64 b, .string s] 36))
  have c0 : (W.alloc (.cells #[.int .i64 a, .int .i64 b, .string s] 36)).cell? ⟨W.heap.size, 0, none⟩ = some (.int .i64 a) := blk_cell (blk_new W (.cells #[.int .i64 a, .int .i64 b, .string s] 36)) 0
  have c1 : (W.alloc (.cells #[.int .i64 a, .int .i64 b, .string s] 36)).cell? ⟨W.heap.size, 1, none⟩ = some (.int .i64 b) := blk_cell (blk_new W (.cells #[.int .i64 a, .int .i64 b, .string s] 36)) 1
  have c2 : (W.alloc (.cells #[.int .i64 a, .int .i64 b, .string s] 36)).cell? ⟨W.heap.size, 2, none⟩ = some (.string s) := blk_cell (blk_new W (.cells #[.int .i64 a, .int .i64 b, .string s] 36)) 2
  have hlt : W.heap.size < (W.alloc (.cells #[.int .i64 a, .int .i64 b, .string s] 36)).heap.size := blk_lt (blk_new W (.cells #[.int .i64 a, .int .i64 b, .string s] 36))
  go_enter Try.func19, Try.ntmps19
  go_upto_region 1 with fail
  generalize W.alloc (.cells #[.int .i64 a, .int .i64 b, .string s] 36) = w0 at *
  generalize hg : W.heap.size = g at c0 c1 c2 hlt HO ⊢
  clear hg
  go_cut [26] (fun s26 wx => s26 = .bool (!okE (a, b, s)) ∧ wx = w0)
  case first =>
    by_cases h23 : a = 2 ∨ a = 3
    · have key : ∀ (o : Bool), okE (a, b, s) = o → (if b < 0 then okE (a, b, s) = false else if 65535 < b then okE (a, b, s) = false else if 64 < s.size then okE (a, b, s) = false else okE (a, b, s) = true) := fun o _ => by
        split
        · exact okE_no (fun h => by have := h.2.1; simp only [] at this; omega)
        · split
          · exact okE_no (fun h => by have := h.2.2.1; simp only [] at this; omega)
          · split
            · exact okE_no (fun h => by have := h.2.2.2; simp only [] at this; omega)
            · exact decide_eq_true ⟨h23, by show 0 ≤ b; omega, by show b ≤ 65535; omega, by show s.size ≤ 64; omega⟩
      have hk := key _ rfl
      clear key
      rcases h23 with rfl | rfl
      all_goals (
        by_cases h1 : b < 0
        · rw [if_pos h1] at hk
          have HK := Aside0.mk hk
          clear hk
          go_wp2_with fail
          go_meet
          case rel => exact ⟨by rw [HK.out]; rfl, rfl⟩
        · rw [if_neg h1] at hk
          by_cases h2 : 65535 < b
          · rw [if_pos h2] at hk
            have HK := Aside0.mk hk
            clear hk
            go_wp2_with fail
            go_meet
            case rel => exact ⟨by rw [HK.out]; rfl, rfl⟩
          · rw [if_neg h2] at hk
            by_cases h3 : 64 < s.size
            · have h3' : (64 : Int) < (s.size : Int) := by omega
              rw [if_pos h3] at hk
              have HK := Aside0.mk hk
              clear hk h3
              go_wp2_with fail
              go_meet
              case rel => exact ⟨by rw [HK.out]; rfl, rfl⟩
            · have h3' : ¬ (64 : Int) < (s.size : Int) := by omega
              rw [if_neg h3] at hk
              have HK := Aside0.mk hk
              clear hk h3
              go_wp2_with fail
              go_meet
              case rel => exact ⟨by rw [HK.out]; rfl, rfl⟩)
    · have hk : okE (a, b, s) = false := okE_no (fun h => h23 h.1)
      have n2 : (a != 2) = true := by rw [bne_iff_ne]; omega
      have n3 : (a != 3) = true := by rw [bne_iff_ne]; omega
      have n2' : (a == 2) = false := by rw [beq_eq_false_iff_ne]; omega
      have n3' : (a == 3) = false := by rw [beq_eq_false_iff_ne]; omega
      have HK := Aside0.mk hk
      clear hk h23
      go_wp2_with fail
      go_meet
      case rel => exact ⟨by rw [HK.out]; rfl, rfl⟩
  case rest =>
    obtain ⟨rfl, hwc⟩ := hcut
    rw [hwc]
    clear hwc
    cases hok : okE (a, b, s) with
    | false =>
      obtain rfl : r = ⟨#[]⟩ := by rw [← HR.out]; unfold putE; rw [hok]; rfl
      clear hok
      go_wp2_with fail
      go_ret
      exact ⟨rfl, HB.out⟩
    | true =>
      have hr : (strOfNums [a] ++ strOfNums [b / 256, b % 256]) ++ s = r := by rw [← HR.out]; unfold putE; rw [hok]; rfl
      have HR2 := Aside0.mk hr
      clear hr
      obtain ⟨h23, hb0, hb1, hs⟩ := okE_yes hok
      simp only [] at h23 hb0 hb1 hs
      have HP1 := Aside0.mk (fun w => put_one a (by omega) (by omega) w)
      have HP2 := Aside0.mk (fun w => put_two b hb0 (by omega) w)
      clear h23 hok
      have hs1 : (strOfNums [a]).size = 1 := rfl
      have hs2 : (strOfNums [b / 256, b % 256]).size = 2 := rfl
      generalize strOfNums [a] = p1 at *
      generalize strOfNums [b / 256, b % 256] = p2 at *
      have hz1 : ¬ 9223372036854775807 < p1.size + p2.size := by omega
      have hz2 : ¬ 9223372036854775807 < p1.size + p2.size + s.size := by omega
      have hz3 : ¬ 9223372036854775807 < (p1 ++ p2).size + s.size := by rw [ByteArray.size_append]; omega
      have hz4 : ¬ 9223372036854775807 < 3 + s.size := by omega
      have hz5 : ¬ (9223372036854775807 : Int) < 3 + (s.size : Int) := by omega
      go_upto_region 3 with fail
      have HOd := Aside0.mk (HO.out.below (below_drew (Below.refl _ _)))
      clear HO
      have HO := HOd
      clear HOd
      refine start_ (n := 11) (S := fun w' => w'.cell? ⟨g, 0, none⟩ = some (.int .i64 a) ∧ w'.cell? ⟨g, 1, none⟩ = some (.int .i64 b) ∧ w'.cell? ⟨g, 2, none⟩ = some (.string s)) (ds := []) #[false, false, false, false, false, false, false, false, false, false, false] (by kernel_rfl) rfl rfl ⟨(HO.out.cell 0 rfl 0).trans rfl, (HO.out.cell 0 rfl 1).trans rfl, (HO.out.cell 0 rfl 2).trans rfl⟩ (fun hHeld => ?_)
      refine with_tabW pu_tab pu_bits (fun HT_ HW_ => ?_)
      generalize World.drew _ = W0 at HO hHeld ⊢
      refine pure_ (i := 0) (N := some 27) (v := ?_) (a' := ?_) #[true, false, false, false, false, false, false, false, false, false, false] rfl rfl (any_of HT_.out (by kernel_rfl)) (fun _ _ _ h => h) (Or.inl ⟨by rfl, ?_⟩) ?_ ?_
      rotate_left
      · intro w'
        go_simp
        with_reducible rfl
      rotate_left
      · simp only [Act.put, List.setIfInBounds_toArray, List.set_cons_zero, List.set_cons_succ, i64_w, i32_w]
        rfl
      refine take_ (i := 1) (N := some 28) (v := ?_) (a' := ?_) #[true, true, false, false, false, false, false, false, false, false, false] rfl rfl (take_ofW HT_.out HW_.out (by kernel_rfl)) (fun _ _ _ h => h) (Or.inl ⟨by rfl, ?_⟩) hHeld ?_ ?_
      rotate_left
      · rintro w' ⟨s0, s1, s2⟩
        go_simp
        with_reducible rfl
      rotate_left
      · simp only [Act.put, List.setIfInBounds_toArray, List.set_cons_zero, List.set_cons_succ, i64_w, i32_w]
        rfl
      refine pure_ (i := 3) (N := some 30) (v := ?_) (a' := ?_) #[true, true, false, true, false, false, false, false, false, false, false] rfl rfl (any_of HT_.out (by kernel_rfl)) (fun _ _ _ h => h) (Or.inl ⟨by rfl, ?_⟩) ?_ ?_
      rotate_left
      · intro w'
        go_simp
        with_reducible rfl
      rotate_left
      · simp only [Act.put, List.setIfInBounds_toArray, List.set_cons_zero, List.set_cons_succ, i64_w, i32_w]
        rfl
      refine take_ (i := 4) (N := some 31) (v := ?_) (a' := ?_) #[true, true, false, true, true, false, false, false, false, false, false] rfl rfl (take_ofW HT_.out HW_.out (by kernel_rfl)) (fun _ _ _ h => h) (Or.inl ⟨by rfl, ?_⟩) hHeld ?_ ?_
      rotate_left
      · rintro w' ⟨s0, s1, s2⟩
        go_simp
        with_reducible rfl
      rotate_left
      · simp only [Act.put, List.setIfInBounds_toArray, List.set_cons_zero, List.set_cons_succ, i64_w, i32_w]
        rfl
      refine pure_ (i := 7) (N := some 34) (v := ?_) (a' := ?_) #[true, true, false, true, true, false, false, true, false, false, false] rfl rfl (any_of HT_.out (by kernel_rfl)) (fun _ _ _ h => h) (Or.inl ⟨by rfl, ?_⟩) ?_ ?_
      rotate_left
      · intro w'
        go_simp
        with_reducible rfl
      rotate_left
      · simp only [Act.put, List.setIfInBounds_toArray, List.set_cons_zero, List.set_cons_succ, i64_w, i32_w]
        rfl
      refine take_ (i := 8) (N := some 35) (v := ?_) (a' := ?_) #[true, true, false, true, true, false, false, true, true, false, false] rfl rfl (take_ofW HT_.out HW_.out (by kernel_rfl)) (fun _ _ _ h => h) (Or.inl ⟨by rfl, ?_⟩) hHeld ?_ ?_
      rotate_left
      · rintro w' ⟨s0, s1, s2⟩
        go_simp
        with_reducible rfl
      rotate_left
      · simp only [Act.put, List.setIfInBounds_toArray, List.set_cons_zero, List.set_cons_succ, i64_w, i32_w]
        rfl
      refine one_ (i := 2) (N := some 29) #[true, true, true, true, true, false, false, true, true, false, false] rfl rfl (one_of HT_.out (by kernel_rfl)) (by decide) (fun K hK => ?_)
      refine goes_ Try.func34 (by kernel_rfl) rfl #[.int .i64 a, .int .i64 1] (by rfl) rfl rfl (by first | rfl | (simp [Act.eval]; done) | (go_simp; done) | decide) ?_
      refine (HP1.out _).mono ?_
      rintro e wA ⟨rfl, hb⟩
      refine ⟨_, rfl, ?_⟩
      have HO1 := Aside0.mk (HO.out.below hb)
      clear HO hb
      have HO := HO1
      clear HO1
      refine hK.out _ _ ⟨(HO.out.cell 0 rfl 0).trans rfl, (HO.out.cell 0 rfl 1).trans rfl, (HO.out.cell 0 rfl 2).trans rfl⟩ (fun hHeld => ?_)
      clear hK K
      refine norm_ (a' := ?_) ?_ ?_
      rotate_left
      · show Act.put _ (some 29) _ = _
        simp only [Act.put, List.setIfInBounds_toArray, List.set_cons_zero, List.set_cons_succ, i64_w, i32_w]
        rfl
      refine one_ (i := 5) (N := some 32) #[true, true, true, true, true, true, false, true, true, false, false] rfl rfl (one_of HT_.out (by kernel_rfl)) (by decide) (fun K hK => ?_)
      refine goes_ Try.func34 (by kernel_rfl) rfl #[.int .i64 b, .int .i64 2] (by rfl) rfl rfl (by first | rfl | (simp [Act.eval]; done) | (go_simp; done) | decide) ?_
      refine (HP2.out _).mono ?_
      rintro e wA ⟨rfl, hb⟩
      refine ⟨_, rfl, ?_⟩
      have HO1 := Aside0.mk (HO.out.below hb)
      clear HO hb
      have HO := HO1
      clear HO1
      refine hK.out _ _ ⟨(HO.out.cell 0 rfl 0).trans rfl, (HO.out.cell 0 rfl 1).trans rfl, (HO.out.cell 0 rfl 2).trans rfl⟩ (fun hHeld => ?_)
      clear hK K
      refine norm_ (a' := ?_) ?_ ?_
      rotate_left
      · show Act.put _ (some 32) _ = _
        simp only [Act.put, List.setIfInBounds_toArray, List.set_cons_zero, List.set_cons_succ, i64_w, i32_w]
        rfl
      refine pure_ (i := 6) (N := some 33) (v := ?_) (a' := ?_) #[true, true, true, true, true, true, true, true, true, false, false] rfl rfl (any_of HT_.out (by kernel_rfl)) (fun _ _ _ h => h) (Or.inl ⟨by rfl, ?_⟩) ?_ ?_
      rotate_left
      · intro w'
        go_simp
        with_reducible rfl
      rotate_left
      · simp only [Act.put, List.setIfInBounds_toArray, List.set_cons_zero, List.set_cons_succ, i64_w, i32_w]
        rfl
      refine pure_ (i := 9) (N := some 36) (v := ?_) (a' := ?_) #[true, true, true, true, true, true, true, true, true, true, false] rfl rfl (any_of HT_.out (by kernel_rfl)) (fun _ _ _ h => h) (Or.inl ⟨by rfl, ?_⟩) ?_ ?_
      rotate_left
      · intro w'
        go_simp
        with_reducible rfl
      rotate_left
      · simp only [Act.put, List.setIfInBounds_toArray, List.set_cons_zero, List.set_cons_succ, i64_w, i32_w]
        rfl
      refine pure_ (i := 10) (N := some 2) (v := ?_) (a' := ?_) #[true, true, true, true, true, true, true, true, true, true, true] rfl rfl (any_of HT_.out (by kernel_rfl)) (fun _ _ _ h => h) (Or.inl ⟨by rfl, ?_⟩) ?_ ?_
      rotate_left
      · intro w'
        go_simp
        with_reducible rfl
      rotate_left
      · simp only [Act.put, List.setIfInBounds_toArray, List.set_cons_zero, List.set_cons_succ, i64_w, i32_w]
        rfl
      refine done_ (done_of HT_.out (by kernel_rfl)) ?_
      go_wp2_with fail
      go_ret
      exact ⟨by rw [← HR2.out]; rfl, HO.out.1⟩
theorem one_byteP (x : Int) (h0 : 0 ≤ x) : strOfNums [Int.tmod x 256 % 256] = ⟨#[UInt8.ofNat (x % 256).toNat]⟩ := by
  rw [Int.tmod_eq_emod_of_nonneg h0, show x % 256 % 256 = x % 256 by omega]
  rfl
theorem widP (x : Int) (h0 : 0 ≤ x) (h1 : x < 9223372036854775808) : wrap64 x = x := by unfold wrap64; omega
theorem div_stepP (x : Int) (h0 : 0 ≤ x) (h1 : x < 9223372036854775808) : wrap64 (Int.tdiv x 256) = x / 256 := by
  rw [Int.tdiv_eq_ediv_of_nonneg h0]
  exact widP _ (by omega) (by omega)
theorem ref02_step (z : Int) (k : Nat) (x : ByteArray) (q : Int) (i : Nat) (hi : (i : Int) < z) (hz : z < 8) (h0 : 0 ≤ q) (h1 : q < 9223372036854775808) (hx : x.size ≤ 100) :
    concordanceref02_Put.l0 (k + 1) q z x (i : Int) = concordanceref02_Put.l0 k (q / 256) z ((⟨#[UInt8.ofNat (q % 256).toNat]⟩ : ByteArray) ++ x) ((i + 1 : Nat) : Int) := by
  have sz : (⟨#[UInt8.ofNat (q % 256).toNat]⟩ : ByteArray).size + x.size ≤ 9223372036854775807 := by
    have : (⟨#[UInt8.ofNat (q % 256).toNat]⟩ : ByteArray).size = 1 := rfl
    omega
  rw [concordanceref02_Put.l0.eq_2, if_pos hi, Option.bind_some, one_byteP q h0, if_pos sz, div_stepP q h0 h1, widP ((i : Int) + 1) (by omega) (by omega), show (i : Int) + 1 = ((i + 1 : Nat) : Int) by omega]
theorem ref02_one (m : Int) (m0 : 0 ≤ m) (m1 : m < 256) (k : Nat) (hk : 9 ≤ k) : concordanceref02_Put.f k m 1 = some (strOfNums [m]) := by
  obtain ⟨k, rfl⟩ : ∃ m, k = m + 1 + 1 + 1 := ⟨k - 3, by omega⟩
  have hz : (⟨#[]⟩ : ByteArray).size = 0 := rfl
  unfold concordanceref02_Put.f
  rw [if_neg (by omega), if_neg (by omega), decide_eq_false (by omega), concordanceref02_Put.j0.eq_2, if_neg (by decide), show (0 : Int) = ((0 : Nat) : Int) from rfl, ref02_step 1 _ _ m 0 (by omega) (by omega) m0 (by omega) (by rw [hz]; omega),
    concordanceref02_Put.l0.eq_2, if_neg (by omega), if_neg (by omega), show m % 256 = m by omega]
  congr 1
theorem ru_bits : waitsOk pu_T.2 pu_B = true := pu_bits
theorem ru_tab : rtab .any (opsOf Try.f20 3) = pu_T := by kernel_rfl
set_option maxHeartbeats 4000000 in
set_option maxRecDepth 100000 in
theorem rputE_calls (a b : Int) (s : ByteArray) (W : World) : Calls Try.prog 20 #[.agg #[.int .i64 a, .int .i64 b, .string s]] W fun ex W' => ex = .returned (.string (putE (a, b, s))) ∧ Below W.heap.size W W' := by
  obtain ⟨r, hr⟩ : ∃ r, putE (a, b, s) = r := ⟨_, rfl⟩
  rw [hr]
  have HR := Aside0.mk hr
  clear hr
  have HO : Aside0 (Own W (W.alloc (.cells #[.int .i64 a, .int .i64 b, .string s] 39)) [.box W.heap.size (.cells #[.int .i64 a, .int .i64 b, .string s] 39 (0, 0))]) := ⟨(Own.start W 1).alloc 0 rfl (.cells #[.int .i64 a, .int .i64 b, .string s] 39)⟩
  have HB := Aside0.mk (below_alloc (Below.refl W.heap.size W) (.cells #[.int .i64 a, .int .i64 b, .string s] 39))
  have c0 : (W.alloc (.cells #[.int .i64 a, .int .i64 b, .string s] 39)).cell? ⟨W.heap.size, 0, none⟩ = some (.int .i64 a) := blk_cell (blk_new W (.cells #[.int .i64 a, .int .i64 b, .string s] 39)) 0
  have c1 : (W.alloc (.cells #[.int .i64 a, .int .i64 b, .string s] 39)).cell? ⟨W.heap.size, 1, none⟩ = some (.int .i64 b) := blk_cell (blk_new W (.cells #[.int .i64 a, .int .i64 b, .string s] 39)) 1
  have c2 : (W.alloc (.cells #[.int .i64 a, .int .i64 b, .string s] 39)).cell? ⟨W.heap.size, 2, none⟩ = some (.string s) := blk_cell (blk_new W (.cells #[.int .i64 a, .int .i64 b, .string s] 39)) 2
  have hlt : W.heap.size < (W.alloc (.cells #[.int .i64 a, .int .i64 b, .string s] 39)).heap.size := blk_lt (blk_new W (.cells #[.int .i64 a, .int .i64 b, .string s] 39))
  go_enter Try.func20, Try.ntmps20
  go_upto_region 1 with fail
  generalize W.alloc (.cells #[.int .i64 a, .int .i64 b, .string s] 39) = w0 at *
  generalize hg : W.heap.size = g at c0 c1 c2 hlt HO ⊢
  clear hg
  go_cut [26] (fun s26 wx => s26 = .bool (!okE (a, b, s)) ∧ wx = w0)
  case first =>
    have hk : (decide (a < 2) || decide (3 < a) || decide (b < 0) || decide (65535 < b) || decide (64 < (s.size : Int))) = !okE (a, b, s) := by
      rw [Bool.eq_iff_iff, Bool.not_eq_true', ← Bool.not_eq_true]
      simp only [okE, Bool.or_eq_true, decide_eq_true_eq]
      omega
    have HK := Aside0.mk hk
    clear hk
    go_wp2_with fail
    all_goals (
      go_meet
      case rel =>
        refine ⟨congrArg Value.bool ?_, rfl⟩
        refine Eq.trans ?_ HK.out
        first
        | rfl
        | (symm; simp only [Bool.or_eq_true, decide_eq_true_eq]; omega)
        | (rw [Bool.eq_iff_iff]; simp only [Bool.or_eq_true, decide_eq_true_eq]; omega))
  case rest =>
    obtain ⟨rfl, hwc⟩ := hcut
    rw [hwc]
    clear hwc
    cases hok : okE (a, b, s) with
    | false =>
      obtain rfl : r = ⟨#[]⟩ := by rw [← HR.out]; unfold putE; rw [hok]; rfl
      clear hok
      go_wp2_with fail
      go_ret
      exact ⟨rfl, HB.out⟩
    | true =>
      have hr : (strOfNums [a] ++ strOfNums [b / 256, b % 256]) ++ s = r := by rw [← HR.out]; unfold putE; rw [hok]; rfl
      have HR2 := Aside0.mk hr
      clear hr
      obtain ⟨h23, hb0, hb1, hs⟩ := okE_yes hok
      simp only [] at h23 hb0 hb1 hs
      have HP1 := Aside0.mk (fun w => concordanceref02_Put.calls 9 a 1 _ w (ref02_one a (by omega) (by omega) 9 (by omega)))
      have HP2 := Aside0.mk (fun w => concordanceref02_Put.calls 9 b 2 _ w (ref02_two b hb0 (by omega) 9 (by omega)))
      clear h23 hok
      have hs1 : (strOfNums [a]).size = 1 := rfl
      have hs2 : (strOfNums [b / 256, b % 256]).size = 2 := rfl
      generalize strOfNums [a] = p1 at *
      generalize strOfNums [b / 256, b % 256] = p2 at *
      have hz1 : ¬ 9223372036854775807 < p1.size + p2.size := by omega
      have hz2 : ¬ 9223372036854775807 < p1.size + p2.size + s.size := by omega
      have hz3 : ¬ 9223372036854775807 < (p1 ++ p2).size + s.size := by rw [ByteArray.size_append]; omega
      have hz4 : ¬ 9223372036854775807 < 3 + s.size := by omega
      have hz5 : ¬ (9223372036854775807 : Int) < 3 + (s.size : Int) := by omega
      go_upto_region 3 with fail
      have HOd := Aside0.mk (HO.out.below (below_drew (Below.refl _ _)))
      clear HO
      have HO := HOd
      clear HOd
      refine start_ (n := 11) (S := fun w' => w'.cell? ⟨g, 0, none⟩ = some (.int .i64 a) ∧ w'.cell? ⟨g, 1, none⟩ = some (.int .i64 b) ∧ w'.cell? ⟨g, 2, none⟩ = some (.string s)) (ds := []) #[false, false, false, false, false, false, false, false, false, false, false] (by kernel_rfl) rfl rfl ⟨(HO.out.cell 0 rfl 0).trans rfl, (HO.out.cell 0 rfl 1).trans rfl, (HO.out.cell 0 rfl 2).trans rfl⟩ (fun hHeld => ?_)
      refine with_tabW ru_tab ru_bits (fun HT_ HW_ => ?_)
      generalize World.drew _ = W0 at HO hHeld ⊢
      refine pure_ (i := 0) (N := some 27) (v := ?_) (a' := ?_) #[true, false, false, false, false, false, false, false, false, false, false] rfl rfl (any_of HT_.out (by kernel_rfl)) (fun _ _ _ h => h) (Or.inl ⟨by rfl, ?_⟩) ?_ ?_
      rotate_left
      · intro w'
        go_simp
        with_reducible rfl
      rotate_left
      · simp only [Act.put, List.setIfInBounds_toArray, List.set_cons_zero, List.set_cons_succ, i64_w, i32_w]
        rfl
      refine take_ (i := 1) (N := some 28) (v := ?_) (a' := ?_) #[true, true, false, false, false, false, false, false, false, false, false] rfl rfl (take_ofW HT_.out HW_.out (by kernel_rfl)) (fun _ _ _ h => h) (Or.inl ⟨by rfl, ?_⟩) hHeld ?_ ?_
      rotate_left
      · rintro w' ⟨s0, s1, s2⟩
        go_simp
        with_reducible rfl
      rotate_left
      · simp only [Act.put, List.setIfInBounds_toArray, List.set_cons_zero, List.set_cons_succ, i64_w, i32_w]
        rfl
      refine pure_ (i := 3) (N := some 30) (v := ?_) (a' := ?_) #[true, true, false, true, false, false, false, false, false, false, false] rfl rfl (any_of HT_.out (by kernel_rfl)) (fun _ _ _ h => h) (Or.inl ⟨by rfl, ?_⟩) ?_ ?_
      rotate_left
      · intro w'
        go_simp
        with_reducible rfl
      rotate_left
      · simp only [Act.put, List.setIfInBounds_toArray, List.set_cons_zero, List.set_cons_succ, i64_w, i32_w]
        rfl
      refine take_ (i := 4) (N := some 31) (v := ?_) (a' := ?_) #[true, true, false, true, true, false, false, false, false, false, false] rfl rfl (take_ofW HT_.out HW_.out (by kernel_rfl)) (fun _ _ _ h => h) (Or.inl ⟨by rfl, ?_⟩) hHeld ?_ ?_
      rotate_left
      · rintro w' ⟨s0, s1, s2⟩
        go_simp
        with_reducible rfl
      rotate_left
      · simp only [Act.put, List.setIfInBounds_toArray, List.set_cons_zero, List.set_cons_succ, i64_w, i32_w]
        rfl
      refine pure_ (i := 7) (N := some 34) (v := ?_) (a' := ?_) #[true, true, false, true, true, false, false, true, false, false, false] rfl rfl (any_of HT_.out (by kernel_rfl)) (fun _ _ _ h => h) (Or.inl ⟨by rfl, ?_⟩) ?_ ?_
      rotate_left
      · intro w'
        go_simp
        with_reducible rfl
      rotate_left
      · simp only [Act.put, List.setIfInBounds_toArray, List.set_cons_zero, List.set_cons_succ, i64_w, i32_w]
        rfl
      refine take_ (i := 8) (N := some 35) (v := ?_) (a' := ?_) #[true, true, false, true, true, false, false, true, true, false, false] rfl rfl (take_ofW HT_.out HW_.out (by kernel_rfl)) (fun _ _ _ h => h) (Or.inl ⟨by rfl, ?_⟩) hHeld ?_ ?_
      rotate_left
      · rintro w' ⟨s0, s1, s2⟩
        go_simp
        with_reducible rfl
      rotate_left
      · simp only [Act.put, List.setIfInBounds_toArray, List.set_cons_zero, List.set_cons_succ, i64_w, i32_w]
        rfl
      refine one_ (i := 2) (N := some 29) #[true, true, true, true, true, false, false, true, true, false, false] rfl rfl (one_of HT_.out (by kernel_rfl)) (by decide) (fun K hK => ?_)
      refine goes_ Try.func36 (by kernel_rfl) rfl #[.int .i64 a, .int .i64 1] (by rfl) rfl rfl (by first | rfl | (simp [Act.eval]; done) | (go_simp; done) | decide) ?_
      refine (HP1.out _).mono ?_
      rintro e wA ⟨rfl, hb⟩
      refine ⟨_, rfl, ?_⟩
      have HO1 := Aside0.mk (HO.out.below hb)
      clear HO hb
      have HO := HO1
      clear HO1
      refine hK.out _ _ ⟨(HO.out.cell 0 rfl 0).trans rfl, (HO.out.cell 0 rfl 1).trans rfl, (HO.out.cell 0 rfl 2).trans rfl⟩ (fun hHeld => ?_)
      clear hK K
      refine norm_ (a' := ?_) ?_ ?_
      rotate_left
      · show Act.put _ (some 29) _ = _
        simp only [Act.put, List.setIfInBounds_toArray, List.set_cons_zero, List.set_cons_succ, i64_w, i32_w]
        rfl
      refine one_ (i := 5) (N := some 32) #[true, true, true, true, true, true, false, true, true, false, false] rfl rfl (one_of HT_.out (by kernel_rfl)) (by decide) (fun K hK => ?_)
      refine goes_ Try.func36 (by kernel_rfl) rfl #[.int .i64 b, .int .i64 2] (by rfl) rfl rfl (by first | rfl | (simp [Act.eval]; done) | (go_simp; done) | decide) ?_
      refine (HP2.out _).mono ?_
      rintro e wA ⟨rfl, hb⟩
      refine ⟨_, rfl, ?_⟩
      have HO1 := Aside0.mk (HO.out.below hb)
      clear HO hb
      have HO := HO1
      clear HO1
      refine hK.out _ _ ⟨(HO.out.cell 0 rfl 0).trans rfl, (HO.out.cell 0 rfl 1).trans rfl, (HO.out.cell 0 rfl 2).trans rfl⟩ (fun hHeld => ?_)
      clear hK K
      refine norm_ (a' := ?_) ?_ ?_
      rotate_left
      · show Act.put _ (some 32) _ = _
        simp only [Act.put, List.setIfInBounds_toArray, List.set_cons_zero, List.set_cons_succ, i64_w, i32_w]
        rfl
      refine pure_ (i := 6) (N := some 33) (v := ?_) (a' := ?_) #[true, true, true, true, true, true, true, true, true, false, false] rfl rfl (any_of HT_.out (by kernel_rfl)) (fun _ _ _ h => h) (Or.inl ⟨by rfl, ?_⟩) ?_ ?_
      rotate_left
      · intro w'
        go_simp
        with_reducible rfl
      rotate_left
      · simp only [Act.put, List.setIfInBounds_toArray, List.set_cons_zero, List.set_cons_succ, i64_w, i32_w]
        rfl
      refine pure_ (i := 9) (N := some 36) (v := ?_) (a' := ?_) #[true, true, true, true, true, true, true, true, true, true, false] rfl rfl (any_of HT_.out (by kernel_rfl)) (fun _ _ _ h => h) (Or.inl ⟨by rfl, ?_⟩) ?_ ?_
      rotate_left
      · intro w'
        go_simp
        with_reducible rfl
      rotate_left
      · simp only [Act.put, List.setIfInBounds_toArray, List.set_cons_zero, List.set_cons_succ, i64_w, i32_w]
        rfl
      refine pure_ (i := 10) (N := some 2) (v := ?_) (a' := ?_) #[true, true, true, true, true, true, true, true, true, true, true] rfl rfl (any_of HT_.out (by kernel_rfl)) (fun _ _ _ h => h) (Or.inl ⟨by rfl, ?_⟩) ?_ ?_
      rotate_left
      · intro w'
        go_simp
        with_reducible rfl
      rotate_left
      · simp only [Act.put, List.setIfInBounds_toArray, List.set_cons_zero, List.set_cons_succ, i64_w, i32_w]
        rfl
      refine done_ (done_of HT_.out (by kernel_rfl)) ?_
      go_wp2_with fail
      go_ret
      exact ⟨by rw [← HR2.out]; rfl, HO.out.1⟩
end Go.Proofs.Ytchpagboglomoaa.Ownd
