/- concordanceref06.Put's contract: the same bytes as patch.Put's, told of the document's pieces. Conditions: the list is read at the slice that is handed in; Right is met. -/
import Derived.Test.YteehchhmonlkkaaHPut
import Derived.Test.YteehchhmonlkkaaGPx4
import Derived.Test.YteehchhmonlkkaaGPx7
namespace Go.Proofs.Yteehchhmonlkkaa.GP
open Go.RowKit Go.Sort Go.Proofs.Yteehchhmonlkkaa.Tail Go.Proofs.YteehchhmonlkkaaW.PrintWords Go.Proofs.YteehchhmonlkkaaW.PrintLast Go.Proofs.YteehchhmonlkkaaW.PrintMore Go.Proofs.Yteehchhmonlkkaa.Copy Go.Proofs.Yteehchhmonlkkaa.Bld
attribute [local go_sem] max2_int min2_int max_two min_two max_three min_three max_four min_four
set_option linter.unusedVariables false
set_option linter.unusedSimpArgs false

/-- A document's piece as the program's. -/
def toP (q : S67) : S66 := ⟨q.f0, q.f1⟩
theorem rd_toP (l : List S67) (i : Nat) (h : i < l.length) : rd_T67 l (i : Int) = l[i] := by simp [rd_T67, List.getD_eq_getElem?_getD, List.getElem?_eq_getElem h]

/-- The document's Put of a number in two bytes. -/
theorem ref02_two (n : Int) (h0 : 0 ≤ n) (h1 : n < 65536) (k : Nat) (hk : 8 ≤ k) : concordanceref02_Put.f k n 2 = some (strOfNums [n / 256, n % 256]) := by
  obtain ⟨k, rfl⟩ : ∃ m, k = m + 1 + 1 + 1 + 1 := ⟨k - 4, by omega⟩
  unfold concordanceref02_Put.f
  rw [if_neg (by omega), if_neg (by omega), decide_eq_false (by omega), concordanceref02_Put.j0.eq_2, if_neg (by simp)]
  have t1 : Int.tmod n 256 = n % 256 := Int.tmod_eq_emod_of_nonneg h0
  have d1 : Int.tdiv n 256 = n / 256 := Int.tdiv_eq_ediv_of_nonneg h0
  have w1 : wrap64 (n / 256) = n / 256 := by unfold wrap64; omega
  have t2 : Int.tmod (n / 256) 256 = n / 256 % 256 := Int.tmod_eq_emod_of_nonneg (by omega)
  have d2 : Int.tdiv (n / 256) 256 = n / 256 / 256 := Int.tdiv_eq_ediv_of_nonneg (by omega)
  have w2 : wrap64 (n / 256 / 256) = 0 := by unfold wrap64; omega
  rw [concordanceref02_Put.l0.eq_2, if_pos (by omega), Option.bind_some, if_pos (by rw [strOfNums_size]; simp; decide), t1, d1, w1, show wrap64 (0 + 1) = 1 by unfold wrap64; omega,
    concordanceref02_Put.l0.eq_2, if_pos (by omega), Option.bind_some, if_pos (by rw [strOfNums_size, ByteArray.size_append, strOfNums_size]; simp; decide), t2, d2, w2, show wrap64 (1 + 1) = 2 by unfold wrap64; omega,
    concordanceref02_Put.l0.eq_2, if_neg (by omega), if_neg (by omega)]
  have e1 : n / 256 % 256 % 256 = n / 256 := by omega
  have e2 : n % 256 % 256 = n % 256 := by omega
  rw [e1, e2]
  rfl

theorem rightB_no (q : S67) (e : Int) (l : List S66) (h : q.f1.size = 0 ∨ 65535 < q.f1.size ∨ q.f0 < e ∨ 65535 < q.f0) : rightB e (toP q :: l) = false := by
  show (decide (q.f1.size ≠ 0) && decide (q.f1.size ≤ 65535) && decide (e ≤ q.f0) && decide (q.f0 ≤ 65535) && rightB (q.f0 + q.f1.size) l) = false
  rcases h with h | h | h | h
  · rw [decide_eq_false (show ¬ q.f1.size ≠ 0 by omega)]; simp
  · rw [decide_eq_false (show ¬ q.f1.size ≤ 65535 by omega)]; simp
  · rw [decide_eq_false (show ¬ e ≤ q.f0 by omega)]; simp
  · rw [decide_eq_false (show ¬ q.f0 ≤ 65535 by omega)]; simp
theorem rightB_go (q : S67) (e : Int) (l : List S66) (h1 : q.f1.size ≠ 0) (h2 : q.f1.size ≤ 65535) (h3 : e ≤ q.f0) (h4 : q.f0 ≤ 65535) : rightB e (toP q :: l) = rightB (q.f0 + q.f1.size) l := by
  show (decide (q.f1.size ≠ 0) && decide (q.f1.size ≤ 65535) && decide (e ≤ q.f0) && decide (q.f0 ≤ 65535) && rightB (q.f0 + q.f1.size) l) = _
  rw [decide_eq_true h1, decide_eq_true h2, decide_eq_true h3, decide_eq_true h4]; simp

/-- The document's Right says what ours says. -/
theorem refRight_loop (l : List S67) (hl : l.length ≤ 140737488351232) : ∀ (d k i : Nat) (e : Int), i + d = l.length → 2 * d < k → (i = 0 → e = 0) → (0 < i → e = (rd_T67 l ((i - 1 : Nat) : Int)).f0 + (rd_T67 l ((i - 1 : Nat) : Int)).f1.size ∧ 0 ≤ (rd_T67 l ((i - 1 : Nat) : Int)).f0 ∧ (rd_T67 l ((i - 1 : Nat) : Int)).f0 ≤ 65535 ∧ (rd_T67 l ((i - 1 : Nat) : Int)).f1.size ≤ 65535) →
    concordanceref06_Right.l0 k l (i : Int) = some (rightB e ((l.drop i).map toP) && decide (l.length ≤ 65535)) := by
  intro d
  induction d with
  | zero =>
    intro k i e hi hk he0 he
    obtain ⟨k, rfl⟩ : ∃ m, k = m + 1 := ⟨k - 1, by omega⟩
    rw [concordanceref06_Right.l0.eq_2, if_neg (by omega), List.drop_of_length_le (by omega)]
    simp [rightB]
    omega
  | succ d ih =>
    intro k i e hi hk he0 he
    obtain ⟨k, rfl⟩ : ∃ m, k = m + 1 + 1 := ⟨k - 2, by omega⟩
    have hlt : i < l.length := by omega
    have hdrop : l.drop i = l[i] :: l.drop (i + 1) := List.drop_eq_getElem_cons hlt
    have he1 : 0 ≤ e := by
      rcases Nat.eq_zero_or_pos i with h | h
      · rw [he0 h]; omega
      · obtain ⟨h1, h2, h3, h4⟩ := he h; omega
    rw [concordanceref06_Right.l0.eq_2, if_pos (by omega), if_pos (by omega), rd_toP l i hlt, hdrop, List.map_cons]
    have hw2 : wrap64 ((i : Int) + 1) = ((i + 1 : Nat) : Int) := by unfold wrap64; omega
    by_cases c1 : (l[i].f1.size : Int) = 0
    · rw [if_pos c1, concordanceref06_Right.j1.eq_2, if_pos rfl]; rw [rightB_no _ _ _ (by omega)]; rfl
    rw [if_neg c1]
    by_cases c2 : (l[i].f1.size : Int) > 65535
    · rw [if_pos c2, concordanceref06_Right.j1.eq_2, if_pos rfl]; rw [rightB_no _ _ _ (by omega)]; rfl
    rw [if_neg c2]
    by_cases c3 : l[i].f0 < 0
    · rw [if_pos c3, concordanceref06_Right.j1.eq_2, if_pos rfl]; rw [rightB_no _ _ _ (by omega)]; rfl
    rw [if_neg c3]
    by_cases c4 : l[i].f0 > 65535
    · rw [decide_eq_true c4, concordanceref06_Right.j1.eq_2, if_pos rfl]; rw [rightB_no _ _ _ (by omega)]; rfl
    rw [decide_eq_false c4, concordanceref06_Right.j1.eq_2, if_neg (by simp)]
    have hnext := ih (k + 1) (i + 1) (l[i].f0 + l[i].f1.size) (by omega) (by omega) (by omega) (fun _ => by rw [Nat.add_sub_cancel, rd_toP l i hlt]; exact ⟨rfl, by omega, by omega, by omega⟩)
    have hnext' := ih k (i + 1) (l[i].f0 + l[i].f1.size) (by omega) (by omega) (by omega) (fun _ => by rw [Nat.add_sub_cancel, rd_toP l i hlt]; exact ⟨rfl, by omega, by omega, by omega⟩)
    have hgood : e ≤ l[i].f0 → rightB e (toP l[i] :: (l.drop (i + 1)).map toP) = rightB (l[i].f0 + l[i].f1.size) ((l.drop (i + 1)).map toP) := fun hle => rightB_go _ _ _ (by omega) (by omega) hle (by omega)
    rcases Nat.eq_zero_or_pos i with h0 | h0
    · rw [if_neg (by omega), hw2, hnext', hgood (by rw [he0 h0]; omega)]
    · obtain ⟨g1, g2, g3, g4⟩ := he h0
      have hw1 : wrap64 ((i : Int) - 1) = ((i - 1 : Nat) : Int) := by unfold wrap64; omega
      rw [if_pos (by omega), if_pos (by omega), if_pos (by omega), hw1, if_pos (by omega), if_pos (by omega)]
      have hw3 : wrap64 ((rd_T67 l ((i - 1 : Nat) : Int)).f0 + ((rd_T67 l ((i - 1 : Nat) : Int)).f1.size : Int)) = e := by rw [g1]; unfold wrap64; omega
      rw [hw3, rd_toP l i hlt]
      by_cases c5 : l[i].f0 < e
      · rw [if_pos c5]; rw [rightB_no _ _ _ (by omega)]; rfl
      · rw [if_neg c5, hw2, hnext', hgood (by omega)]

theorem refRight_tells (l : List S67) (hl : l.length ≤ 140737488351232) (k : Nat) (hk : 2 * l.length + 1 ≤ k) : concordanceref06_Right.f k l = some (rightB 0 (l.map toP) && decide (l.length ≤ 65535)) := by
  unfold concordanceref06_Right.f
  exact refRight_loop l hl l.length k 0 0 (by omega) (by omega) (fun _ => rfl) (fun h => by omega)

def concordanceref06_Put.f (l : List S67) : Option ByteArray := patch_Put.f (l.map toP)

set_option maxHeartbeats 400000 in
set_option maxRecDepth 100000 in
theorem rput_wrong (A1 : Option Addr) (c1 : Nat) (l1 : List S67) (w : World) (hr1 : Kd.C k67 w A1 l1.length l1) (hc1 : l1.length ≤ c1) (hk : concordanceref06_Right.f (2 * l1.length + 1) l1 = some false) :
    Calls Try.prog 26 #[.slice A1 l1.length c1] w fun e w' => e = .returned (.string ⟨#[]⟩) ∧ Below w.heap.size w w' := by
  have HK := Aside0.mk hk
  have HR := Aside0.mk hr1
  have HC := Aside0.mk hc1
  clear hk hr1 hc1
  go_enter Try.func26, Try.ntmps26
  go_wp2_with (first | (go_at_call 25; refine (concordanceref06_Right.calls (2 * l1.length + 1) A1 c1 l1 false _ HR.out HC.out HK.out).mono ?_; rintro e w' ⟨rfl, hb⟩))
  go_ret
  exact ⟨rfl, hb.below⟩

def RPutInv (w : World) (l1 : List S67) (k : Nat) (s : ByteArray) (wr : World) : Prop :=
  s.data.toList = be2 (l1.length : Int) ++ ((l1.map toP).take k).flatMap pieceB ∧ Below w.heap.size w wr

set_option maxHeartbeats 800000 in
set_option maxRecDepth 100000 in
theorem rput_does (A1 : Option Addr) (c1 : Nat) (l1 : List S67) (w : World) (hr1 : Kd.C k67 w A1 l1.length l1) (hc1 : l1.length ≤ c1) (hk : concordanceref06_Right.f (2 * l1.length + 1) l1 = some true) (hrb : rightB 0 (l1.map toP) = true) (hl : l1.length ≤ 65535) :
    Calls Try.prog 26 #[.slice A1 l1.length c1] w fun e w' => e = .returned (.string ⟨(putL (l1.map toP)).toArray⟩) ∧ Below w.heap.size w w' := by
  have HK := Aside0.mk hk
  have HR := Aside0.mk hr1
  have HC := Aside0.mk hc1
  have HRB := Aside0.mk hrb
  have HN := Aside0.mk (ref02_two (l1.length : Int) (by omega) (by omega) 8 (by omega))
  clear hk hr1 hc1 hrb
  go_enter Try.func26, Try.ntmps26
  go_wp2_with (first | (go_at_call 25; refine (concordanceref06_Right.calls (2 * l1.length + 1) A1 c1 l1 true _ HR.out HC.out HK.out).mono ?_; rintro e w1 ⟨rfl, hb1⟩) | (go_at_call 24; refine (concordanceref02_Put.calls 8 (l1.length : Int) 2 _ _ HN.out).mono ?_; rintro e w2 ⟨rfl, hb2⟩))
  obtain ⟨s0, hs0⟩ : ∃ s0, strOfNums [(l1.length : Int) / 256, (l1.length : Int) % 256] = s0 := ⟨_, rfl⟩
  rw [hs0]
  have HD : Hid (RPutInv w l1 0 s0 w2) := ⟨by rw [← hs0, be2_str]; simp, below_step hb1.below hb2⟩
  clear hs0 hb2 hb1
  go_loopw [3, 4] (fun x i wr => ∃ (k : Nat) (s : ByteArray), k ≤ l1.length ∧ x = .string s ∧ i = .int .i64 k ∧ Hid (RPutInv w l1 k s wr)) (fun _ i _ => l1.length - (intOf i).toNat)
  case atStart => exact ⟨0, s0, Nat.zero_le _, rfl, rfl, HD⟩
  case round =>
    obtain ⟨k, s, hk, rfl, rfl, HD⟩ := hrel
    have hfl := flat_take_length (l1.map toP) HRB.out k
    rw [List.length_map] at hfl
    have hss : s.size ≤ 5000000000 := by
      have h := congrArg List.length HD.out.1
      rw [List.length_append] at h
      simp only [be2, List.length_cons, List.length_nil, Array.length_toList] at h
      have h2 : s.data.size = s.size := rfl
      omega
    clear hfl
    by_cases hlt : k < l1.length
    · obtain ⟨ad', e, hy0, hy1⟩ := at_T67 HR.out (k : Int) (by omega) (by omega)
      cases e
      obtain ⟨p, hp⟩ : ∃ p, rd_T67 l1 (k : Int) = p := ⟨_, rfl⟩
      have hat := rightB_at (l1.map toP) 0 (by omega) HRB.out k (by simpa using hlt)
      simp only [List.getElem_map] at hat
      rw [← rd_toP l1 k hlt, hp] at hat
      obtain ⟨hp0, hp3, hp2, hp1', hp4⟩ := hat
      simp only [toP] at hp0 hp3 hp2 hp1'
      rw [hp] at hy0 hy1
      have hbl : Below w.heap.size w wr := HD.out.2
      have hz0 := (hbl.cell (World.block_lt_of_cell? w _ hy0)).trans hy0
      have hz1 := (hbl.cell (World.block_lt_of_cell? w _ hy1)).trans hy1
      simp only [Int.toNat_natCast] at hz0 hz1
      have HP := Aside0.mk hp
      have hA : (strOfNums [p.f0 / 256, p.f0 % 256]).size + (strOfNums [(p.f1.size : Int) / 256, (p.f1.size : Int) % 256]).size ≤ 9223372036854775807 := by rw [strOfNums_size, strOfNums_size]; simp
      have hA3 : ¬ 9223372036854775807 < (strOfNums [p.f0 / 256, p.f0 % 256]).size + (strOfNums [(p.f1.size : Int) / 256, (p.f1.size : Int) % 256]).size := by omega
      have hA4 : ¬ 9223372036854775807 < (strOfNums [p.f0 / 256, p.f0 % 256]).size + (strOfNums [(p.f1.size : Int) / 256, (p.f1.size : Int) % 256]).size + p.f1.size := by rw [strOfNums_size, strOfNums_size]; simp; omega
      have hA5 : ¬ 9223372036854775807 < s.size + ((strOfNums [p.f0 / 256, p.f0 % 256]).size + (strOfNums [(p.f1.size : Int) / 256, (p.f1.size : Int) % 256]).size + p.f1.size) := by rw [strOfNums_size, strOfNums_size]; simp; omega
      have hi0 : (k : Int) < (l1.length : Int) := by omega
      have k0 := cell_regrown hz0
      have k1 := cell_regrown hz1
      have C1 := fun d os => Calls.regrown_of (w := wr) (d := d) (os := os) (concordanceref02_Put.calls 8 p.f0 2 _ _ (ref02_two p.f0 (by omega) (by omega) 8 (by omega)))
      have C2 := fun d os => Calls.regrown_of (w := wr) (d := d) (os := os) (concordanceref02_Put.calls 8 (p.f1.size : Int) 2 _ _ (ref02_two (p.f1.size : Int) (by omega) (by omega) 8 (by omega)))
      clear hy0 hy1 hp4 hp
      go_wp2_with fail
      refine wp_region_quiet_below (by kernel_rfl) (by kernel_rfl) ?_
      repeat (quiet_step (first | with_reducible exact C1 _ _ | with_reducible exact C2 _ _))
      refine wpQuiet_nil ?_
      intro w4 hw4
      have hb4 : Hid (Below w.heap.size w w4) := by
        obtain ⟨p4, rfl⟩ := hw4
        exact below_step hbl (below_regrown wr p4.d p4.os)
      clear hw4 k0 k1 C1 C2 hbl
      go_wp2_with fail
      go_roundw
      case rel =>
        refine ⟨k + 1, _, by omega, rfl, by go_num, ⟨?_, hb4.out⟩⟩
        have h5 := HD.out.1
        rw [ByteArray.data_append, ByteArray.data_append, ByteArray.data_append, Array.toList_append, Array.toList_append, Array.toList_append, be2_str, be2_str, h5,
          List.take_succ_eq_append_getElem (by simpa using hlt), List.flatMap_append, List.getElem_map, ← rd_toP l1 k hlt, HP.out, List.flatMap_cons, List.flatMap_nil, List.append_nil]
        simp only [pieceB, toP, List.append_assoc]
      case measure => simp [intOf]; omega
    · have hke : k = l1.length := by omega
      subst hke
      have HIN : Hid (s = ⟨(putL (l1.map toP)).toArray⟩ ∧ Below w.heap.size w wr) := by
        refine ⟨?_, HD.out.2⟩
        have h := HD.out.1
        rw [List.take_of_length_le (by simp)] at h
        have : s = ⟨s.data.toList.toArray⟩ := by cases s; simp
        rw [this, h]
        simp [putL]
      go_wp2_with fail
      go_ret
      exact ⟨congrArg (fun x => Ending.returned (Value.string x)) HIN.out.1, HIN.out.2⟩

/-- THE CONTRACT. -/
theorem concordanceref06_Put.calls (A0 : Option Addr) (c0 : Nat) (l0 : List S67) (r : ByteArray) (w : World) (hr0 : Kd.C k67 w A0 l0.length l0) (hc0 : l0.length ≤ c0) (h : concordanceref06_Put.f l0 = some r) :
    Calls Try.prog 26 #[.slice A0 l0.length c0] w fun e w' => e = .returned (.string r) ∧ Below w.heap.size w w' := by
  unfold concordanceref06_Put.f patch_Put.f at h
  rw [List.length_map] at h
  by_cases hs : l0.length ≤ 140737488351232
  · rw [if_pos hs] at h
    have hrt := refRight_tells l0 hs (2 * l0.length + 1) (Nat.le_refl _)
    by_cases hr : rightB 0 (l0.map toP) = true ∧ l0.length ≤ 65535
    · rw [if_pos hr] at h
      obtain rfl := Option.some.inj h
      rw [hr.1, decide_eq_true hr.2] at hrt
      exact rput_does A0 c0 l0 w hr0 hc0 hrt hr.1 hr.2
    · rw [if_neg hr] at h
      obtain rfl := Option.some.inj h
      have : (rightB 0 (l0.map toP) && decide (l0.length ≤ 65535)) = false := by
        cases h1 : rightB 0 (l0.map toP) with
        | false => rfl
        | true => simp only [Bool.true_and, decide_eq_false_iff_not]; exact fun h2 => hr ⟨h1, h2⟩
      rw [this] at hrt
      exact rput_wrong A0 c0 l0 w hr0 hc0 hrt
  · rw [if_neg hs] at h
    cases h
end Go.Proofs.Yteehchhmonlkkaa.GP
