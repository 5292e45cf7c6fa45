/- law03.DeviceLasts, walked: it says true. Condition: the acts and the keeps are read at the slices that are handed in. -/
import Derived.Test.YtjnbeijnlplclaaDActs
namespace Go.Proofs.Ytjnbeijnlplclaa.Ownd
open Go.RowKit Go.Proofs.YtjnbeijnlplclaaW.PrintWords Go.Proofs.YtjnbeijnlplclaaW.PrintLast Go.Proofs.YtjnbeijnlplclaaW.PrintMore
set_option linter.unusedVariables false
set_option linter.unusedSimpArgs false
theorem tmin (n : Nat) : min (n : Int) 256 = ((min n 256 : Nat) : Int) := by omega
theorem tge (n : Nat) : (0 : Int) ≤ ((min n 256 : Nat) : Int) := by omega
theorem tle (n : Nat) : ((min n 256 : Nat) : Int) ≤ (n : Int) := by omega
theorem d20 {k : Nat} (h : k < 20) : decide ((k : Int) < 20) = true := decide_eq_true (by omega)
theorem w20 {k : Nat} (h : k < 20) : wrap64 ((k : Int) + 1) = ((k + 1 : Nat) : Int) := by unfold wrap64; omega
/-- Four texts, the first k of them told. -/
def Four (f : Int → ByteArray) (k : Nat) (cs : Array Value) : Prop := cs.size = 4 ∧ (∀ j : Nat, j < k → cs[j]? = some (.string (f j))) ∧ ∀ j : Nat, j < 4 → ∃ v, cs[j]? = some (.string v)
theorem four_all (a b c d : ByteArray) : ∀ j : Nat, j < 4 → ∃ v, (#[Value.string a, .string b, .string c, .string d])[j]? = some (.string v)
  | 0, _ => ⟨a, rfl⟩
  | 1, _ => ⟨b, rfl⟩
  | 2, _ => ⟨c, rfl⟩
  | 3, _ => ⟨d, rfl⟩
theorem Four.next {f : Int → ByteArray} {k : Nat} {cs : Array Value} (h : Four f k cs) (hk : k < 4) {s : ByteArray} (hs : f k = s) : Four f (k + 1) (cs.setIfInBounds k (.string s)) := by
  obtain ⟨h1, h2, h3⟩ := h
  refine ⟨by simpa using h1, fun j hj => ?_, fun j hj => ?_⟩
  · by_cases he : k = j
    · subst he
      rw [Array.getElem?_setIfInBounds_self_of_lt (by omega), hs]
    · rw [Array.getElem?_setIfInBounds_ne he]
      exact h2 j (by omega)
  · by_cases he : k = j
    · subst he
      exact ⟨s, Array.getElem?_setIfInBounds_self_of_lt (by omega)⟩
    · rw [Array.getElem?_setIfInBounds_ne he]
      exact h3 j hj
/-- Four marks: what is not marked is not written. -/
structure Wrote (l : List PW) (cw : Array Value) : Prop where
  size : cw.size = 4
  all : ∀ j : Nat, j < 4 → ∃ b, cw[j]? = some (.bool b)
  not : ∀ j : Nat, j < 4 → cw[j]? = some (.bool false) → ∀ p ∈ l, p.1 ≠ (j : Int)
theorem wrote_nil : Wrote [] #[.bool false, .bool false, .bool false, .bool false] := ⟨rfl, fun j hj => ⟨false, by
  match j, hj with
  | 0, _ => rfl
  | 1, _ => rfl
  | 2, _ => rfl
  | 3, _ => rfl⟩, fun j _ _ p hp => by simp at hp⟩
theorem Wrote.next {l : List PW} {cw : Array Value} (h : Wrote l cw) {k : Nat} (hk : k < 4) (s : ByteArray) : Wrote (l ++ [((k : Int), s)]) (cw.setIfInBounds k (.bool true)) := by
  refine ⟨by simpa using h.size, fun j hj => ?_, fun j hj hc p hp => ?_⟩
  · by_cases he : k = j
    · subst he
      exact ⟨true, Array.getElem?_setIfInBounds_self_of_lt (by rw [h.size]; exact hk)⟩
    · rw [Array.getElem?_setIfInBounds_ne he]
      exact h.all j hj
  · by_cases he : k = j
    · subst he
      rw [Array.getElem?_setIfInBounds_self_of_lt (by rw [h.size]; exact hk)] at hc
      cases hc
    · rw [Array.getElem?_setIfInBounds_ne he] at hc
      rcases List.mem_append.mp hp with hp | hp
      · exact h.not j hj hc p hp
      · rw [List.mem_singleton.mp hp]
        show (k : Int) ≠ (j : Int)
        omega
theorem reread {w1 : World} {W : World} {a : Addr} {v : Value} (h : Below W.heap.size W w1) (hv : W.cell? a = some v) (hl : a.block < W.heap.size) : w1.cell? a = some v := (h.cell hl).trans hv
theorem n9 (n : Nat) : min (n : Int) 9 = ((min n 9 : Nat) : Int) := by omega
theorem n9c {n c : Nat} (h : n ≤ c) : ((min n 9 : Nat) : Int) ≤ (c : Int) := by omega
theorem n9n {n c : Nat} (h : n ≤ c) : min n 9 ≤ c := by omega
theorem n9l (n : Nat) : ((min n 9 : Nat) : Int) ≤ (n : Int) := by omega
theorem C_takes {W : World} {A : Option Addr} {xs : List Int} (h : Kd.C (Kd.int .i64) W A xs.length xs) : Kd.C (Kd.int .i64) W A (min xs.length 9) (xs.take (min xs.length 9)) := by
  obtain ⟨h1, h2, h3⟩ := h
  have hl : (xs.take (min xs.length 9)).length = min xs.length 9 := by rw [List.length_take]; omega
  refine ⟨hl, by omega, fun hp => ?_⟩
  obtain ⟨ad, e, h4⟩ := h3 (by omega)
  refine ⟨ad, e, fun j p hj => h4 j p ?_⟩
  rw [List.getElem?_take] at hj
  split at hj
  · exact hj
  · cases hj
theorem bytes9 {q : Nat} (h : q ≤ 9) : (([] : List Int).length + q) * 8 ≤ 140737488355328 := by rw [List.length_nil]; omega
theorem mod4n (n : Int) : ∃ m : Nat, n % 4 = (m : Int) ∧ m < 4 := ⟨(n % 4).toNat, by omega, by omega⟩
theorem d4 {k : Nat} (h : k < 4) : decide ((k : Int) < 4) = true := decide_eq_true (by omega)
theorem i4 {k : Nat} (h : k < 4) : (k : Int) < 4 := by omega
theorem n20 {n : Nat} (h : min 20 n < n) : decide (((min 20 n : Nat) : Int) < 20) = false := decide_eq_false (by omega)
set_option maxHeartbeats 8000000 in
set_option maxRecDepth 100000 in
theorem lasts_calls {W : World} (A : Option Addr) (ca : Nat) (L : List TA) (hA : Kd.C kTA W A L.length L) (hca : L.length ≤ ca) (B : Option Addr) (cb : Nat) (M : List TA) (hB : Kd.C kTA W B M.length M) (hcb : M.length ≤ cb) (K : Option Addr) (ck : Nat) (keep : List Int) (hK : Kd.C (Kd.int .i64) W K keep.length keep) (hck : keep.length ≤ ck) :
    Calls Try.prog 4 #[.slice A L.length ca, .slice B M.length cb, .slice K keep.length ck] W fun ex W' => ex = .returned (.bool true) ∧ Below W.heap.size W W' := by
  have HA := Aside0.mk hA
  have HB := Aside0.mk hB
  have HK := Aside0.mk hK
  clear hA hB hK
  go_enter Try.func4, Try.ntmps4
  go_upto_block 0 with (first
    | (go_at_call 8; refine (speaks_calls W).mono ?_; rintro e w1 ⟨rfl, hb1⟩; have H0 := Aside0.mk (HL.start2 hb1); clear hb1)
    | (go_at_call 9; refine (new_HL H0.out 4 (by decide) (by decide)).mono ?_; rintro e w2 ⟨d, rfl, h1⟩; have H1 : Aside0 (HL W w2 ([] ++ (d, mkD 4 (fun _ => none) [] 0) :: []) []) := ⟨h1⟩; clear h1 H0))
  go_cut [] (fun wx => Aside0 (∃ l c, l.length ≤ 20 ∧ HL W wx ([] ++ (d, mkD 4 (fun _ => none) l c) :: []) []))
  case first =>
    go_wp2_with fail
    go_loopg [9] (min 20 L.length) (fun gg s9 wr => ∃ k : Nat, k ≤ min 20 L.length ∧ min 20 L.length - k ≤ gg ∧ s9 = .int .i64 k ∧ Aside0 (∃ l c, l.length = k ∧ HL W wr ([] ++ (d, mkD 4 (fun _ => none) l c) :: []) []))
    case atStart => exact ⟨0, Nat.zero_le _, Nat.le_refl _, rfl, ⟨[], 0, rfl, H1.out⟩⟩
    case round =>
      clear H1
      obtain ⟨k, hk, hg, rfl, ⟨l, c, hlk, hO⟩⟩ := hrel
      have HO := Aside0.mk hO
      clear hO
      by_cases hlt : k < min 20 L.length
      · have hk1 : k < L.length := Nat.lt_of_lt_of_le hlt (Nat.min_le_right _ _)
        have hk2 : k < 20 := Nat.lt_of_lt_of_le hlt (Nat.min_le_left _ _)
        obtain ⟨ad, rfl, -, x1, x2, -⟩ := at_TA HA.out k hk1 rfl
        have y1 := (HO.out.bel.cell (World.block_lt_of_cell? W _ x1)).trans x1
        have y2 := (HO.out.bel.cell (World.block_lt_of_cell? W _ x2)).trans x2
        clear x1 x2
        generalize L[k].2.1 = at_ at y1
        generalize L[k].2.2.1 = dt at y2
        have d1 := fdlt hk1
        have d2 := d20 hk2
        have hw := w20 hk2
        have hi1 := fltI hk1
        have hi0 := fgeI k
        have m1 := tmin dt.size
        have g1 := tge dt.size
        have k1 := tle dt.size
        have ha := and3 at_
        obtain ⟨ha0, ha4⟩ := mod4 at_
        generalize at_ % 4 = sec at ha ha0 ha4
        go_upto_region 7 with fail
        go_still_tail 20, (by kernel_rfl)
        change wpList _ _ _ _ _ wr.drew
        have HO2 := Aside0.mk (HO.out.below (below_drew (Below.refl _ _)))
        clear HO y1 y2 hi1 hi0 m1 g1 k1
        generalize wr.drew = wd at HO2 ⊢
        clear hcb hck d1 d2
        have HW := Aside0.mk (write_HL HO2.out (Nat.le_trans (Nat.le_of_eq hlk) (Nat.le_trans (Nat.le_of_lt hk2) (by decide))) sec (dt.extract 0 (min dt.size 256)))
        rw [mkD_write ha0 ha4 (ext_size dt)] at HW
        go_wp2_with (go_at_call 10; refine HW.out.mono ?_; rintro e w3 ⟨rfl, h3⟩; have H3 := Aside0.mk h3; clear h3 HW HO2)
        go_roundg (min 20 L.length - (k + 1))
        case measure => exact fmeas hlt hg
        case rel => exact ⟨k + 1, hlt, Nat.le_refl _, by first | rfl | rw [hw], ⟨_, _, by rw [List.length_append, hlk]; rfl, H3.out⟩⟩
      · obtain rfl : k = min 20 L.length := Nat.le_antisymm hk (Nat.not_lt.mp hlt)
        by_cases h1 : min 20 L.length < L.length
        · have d1 := fdlt h1
          have d2 : decide (((min 20 L.length : Nat) : Int) < 20) = false := n20 h1
          have hle : l.length ≤ 20 := hlk ▸ Nat.min_le_left _ _
          generalize min 20 L.length = k at *
          go_wp2_with fail
          go_meet
          case rel => exact ⟨⟨l, c, hle, HO.out⟩⟩
        · have d1 : decide (((min 20 L.length : Nat) : Int) < (L.length : Int)) = false := fdno h1
          have hle : l.length ≤ 20 := hlk ▸ Nat.min_le_left _ _
          generalize min 20 L.length = k at *
          go_wp2_with fail
          go_meet
          case rel => exact ⟨⟨l, c, hle, HO.out⟩⟩
  case rest =>
    obtain ⟨l, c, hl, hO⟩ := hcut.out
    have HO := Aside0.mk hO
    clear hO hcut H1 HA
    have HS := Aside0.mk (sync_HL HO.out (Nat.le_trans hl (by decide)))
    rw [mkD_sync] at HS
    go_upto_block 2 with (go_at_call 11; refine HS.out.mono ?_; rintro e w3 ⟨rfl, h3⟩; have H3 := Aside0.mk h3; clear h3 HS HO)
    generalize syncF l (fun _ => none) = f1 at H3
    generalize wrap64 (c + 1) = c1 at H3
    clear hl
    have H4 := Aside0.mk (H3.out.alloc (.cells #[.string ⟨#[]⟩, .string ⟨#[]⟩, .string ⟨#[]⟩, .string ⟨#[]⟩] 37))
    clear H3
    generalize w3.alloc (.cells #[.string ⟨#[]⟩, .string ⟨#[]⟩, .string ⟨#[]⟩, .string ⟨#[]⟩] 37) = w4 at H4 ⊢
    generalize w3.heap.size = ga at H4 ⊢
    go_cut [] (fun wx => Aside0 (∃ cs, Four (fun j => (mkD 4 f1 [] c1).get j) 4 cs ∧ HL W wx ([] ++ (d, mkD 4 f1 [] c1) :: []) [.box ga (.cells cs 37 (0, 0))]))
    case first =>
      go_wp2_with fail
      go_loopg [11] 4 (fun gg s11 wr => ∃ k : Nat, k ≤ 4 ∧ 4 - k ≤ gg ∧ s11 = .int .i64 k ∧ Aside0 (∃ cs, Four (fun j => (mkD 4 f1 [] c1).get j) k cs ∧ HL W wr ([] ++ (d, mkD 4 f1 [] c1) :: []) [.box ga (.cells cs 37 (0, 0))]))
      case atStart => exact ⟨0, Nat.zero_le _, Nat.le_refl _, rfl, ⟨_, ⟨rfl, fun j hj => absurd hj (Nat.not_lt_zero _), four_all _ _ _ _⟩, H4.out⟩⟩
      case round =>
        clear H4
        obtain ⟨k, hk, hg, rfl, ⟨cs, hF, hO⟩⟩ := hrel
        have HO := Aside0.mk hO
        have HF := Aside0.mk hF
        clear hO hF
        by_cases hlt : k < 4
        · have d1 : decide ((k : Int) < 4) = true := d4 hlt
          have hw := w20 (Nat.lt_trans hlt (by decide))
          have hi1 : (k : Int) < 4 := i4 hlt
          have hi0 := fgeI k
          have HR := Aside0.mk (read_HL HO.out (Nat.zero_le _) (k : Int))
          rw [mkD_read hi0 hi1] at HR
          generalize hgt : (mkD 4 f1 [] c1).get (k : Int) = s at HR
          have HG := Aside0.mk hgt
          clear hgt
          go_wp2_with (go_at_call 14; refine HR.out.mono ?_; rintro e w5 ⟨rfl, h5⟩; have H5 := Aside0.mk h5; clear h5 HR HO; obtain ⟨v0, hv0⟩ := HF.out.2.2 k hlt; have z1 : w5.cell? ⟨ga, k, none⟩ = some (.string v0) := (H5.out.cell 0 rfl k).trans hv0; have z2 : w5.frozen? ⟨ga, k, none⟩ = false := H5.out.frozen 0 rfl k)
          have H6 := Aside0.mk (H5.out.store 0 rfl k (.string s) rfl)
          have HF2 := Aside0.mk (HF.out.next hlt HG.out)
          clear H5 HF HG z1 z2 hv0
          generalize w5.setCell ⟨ga, k, none⟩ (.string s) = w6 at H6 ⊢
          go_roundg (4 - (k + 1))
          case measure => exact fmeas hlt hg
          case rel => exact ⟨k + 1, hlt, Nat.le_refl _, by first | rfl | rw [hw], ⟨_, HF2.out, H6.out⟩⟩
        · obtain rfl : k = 4 := Nat.le_antisymm hk (Nat.not_lt.mp hlt)
          go_wp2_with fail
          go_meet
          case rel => exact ⟨⟨cs, HF.out, HO.out⟩⟩
    case rest =>
      obtain ⟨ca4, hFa, hO⟩ := hcut.out
      have HFA := Aside0.mk hFa
      have HO := Aside0.mk hO
      clear hFa hO hcut H4
      have HC := Aside0.mk (copy_HL HO.out (Nat.zero_le _) (Nat.zero_le _))
      go_upto_block 4 with (go_at_call 15; refine HC.out.mono ?_; rintro e w5 ⟨al, rfl, h5⟩; have H5 := Aside0.mk h5; clear h5 HC HO)
      have H6 := Aside0.mk (H5.out.alloc (.cells #[.bool false, .bool false, .bool false, .bool false] 39))
      clear H5
      generalize w5.alloc (.cells #[.bool false, .bool false, .bool false, .bool false] 39) = w6 at H6 ⊢
      generalize w5.heap.size = gw at H6 ⊢
      go_cut [] (fun wx => Aside0 (∃ l c c2 cw, l.length ≤ 20 ∧ Wrote l cw ∧ HL W wx ([] ++ (d, mkD 4 f1 l c) :: [(al, mkD 4 f1 l c2)]) [.box gw (.cells cw 39 (0, 0)), .box ga (.cells ca4 37 (0, 0))]))
      case first =>
        go_wp2_with fail
        go_loopg [14] (min 20 M.length) (fun gg s9 wr => ∃ k : Nat, k ≤ min 20 M.length ∧ min 20 M.length - k ≤ gg ∧ s9 = .int .i64 k ∧ Aside0 (∃ l c c2 cw, l.length = k ∧ Wrote l cw ∧ HL W wr ([] ++ (d, mkD 4 f1 l c) :: [(al, mkD 4 f1 l c2)]) [.box gw (.cells cw 39 (0, 0)), .box ga (.cells ca4 37 (0, 0))]))
        case atStart => exact ⟨0, Nat.zero_le _, Nat.le_refl _, rfl, ⟨[], c1, c1, _, rfl, wrote_nil, H6.out⟩⟩
        case round =>
          clear H6
          obtain ⟨k, hk, hg, rfl, ⟨l, c, c2, cw, hlk, hWr, hO⟩⟩ := hrel
          have HO := Aside0.mk hO
          have HWR := Aside0.mk hWr
          clear hO hWr
          by_cases hlt : k < min 20 M.length
          · have hk1 : k < M.length := Nat.lt_of_lt_of_le hlt (Nat.min_le_right _ _)
            have hk2 : k < 20 := Nat.lt_of_lt_of_le hlt (Nat.min_le_left _ _)
            obtain ⟨ad, rfl, -, x1, x2, -⟩ := at_TA HB.out k hk1 rfl
            have X1 := Aside0.mk x1
            have X2 := Aside0.mk x2
            have y1 := (HO.out.bel.cell (World.block_lt_of_cell? W _ x1)).trans x1
            have y2 := (HO.out.bel.cell (World.block_lt_of_cell? W _ x2)).trans x2
            have L1 := Aside0.mk (World.block_lt_of_cell? W _ x1)
            have L2 := Aside0.mk (World.block_lt_of_cell? W _ x2)
            clear x1 x2
            generalize M[k].2.1 = at_ at y1 X1
            generalize M[k].2.2.1 = dt at y2 X2
            have d1 := fdlt hk1
            have d2 := d20 hk2
            have hw := w20 hk2
            have hi1 := fltI hk1
            have hi0 := fgeI k
            have m1 := tmin dt.size
            have g1 := tge dt.size
            have k1 := tle dt.size
            have ha := and3 at_
            obtain ⟨sn, hsn, hs4⟩ := mod4n at_
            rw [hsn] at ha
            clear hsn
            have ha0 := fgeI sn
            have ha4 : (sn : Int) < 4 := i4 hs4
            have hll : l.length ≤ 1000000 := Nat.le_trans (Nat.le_of_eq hlk) (Nat.le_trans (Nat.le_of_lt hk2) (by decide))
            go_upto_region 19 with fail
            go_still_tail 20, (by kernel_rfl)
            change wpList _ _ _ _ _ wr.drew
            have HO2 := Aside0.mk (HO.out.below (below_drew (Below.refl _ _)))
            clear HO y1 y2
            generalize wr.drew = wd at HO2 ⊢
            have HW := Aside0.mk (write_HL HO2.out hll (sn : Int) (dt.extract 0 (min dt.size 256)))
            rw [mkD_write ha0 ha4 (ext_size dt)] at HW
            go_upto_region 20 with (go_at_call 10; refine HW.out.mono ?_; rintro e w7 ⟨rfl, h7⟩; have H7 : Aside0 (HL W w7 ([(d, _)] ++ (al, mkD 4 f1 l c2) :: []) _) := ⟨h7⟩; clear h7 HW HO2)
            have y1 := reread H7.out.bel X1.out L1.out
            have y2 := reread H7.out.bel X2.out L2.out
            go_still_tail 20, (by kernel_rfl)
            change wpList _ _ _ _ _ w7.drew
            have H8 := Aside0.mk (H7.out.below (below_drew (Below.refl _ _)))
            clear H7 y1 y2
            generalize w7.drew = wd2 at H8 ⊢
            have HW := Aside0.mk (write_HL H8.out hll (sn : Int) (dt.extract 0 (min dt.size 256)))
            rw [mkD_write ha0 ha4 (ext_size dt)] at HW
            go_upto_region 21 with (go_at_call 10; refine HW.out.mono ?_; rintro e w8 ⟨rfl, h9⟩; have H9 : Aside0 (HL W w8 ([] ++ (d, _) :: [(al, _)]) _) := ⟨h9⟩; clear h9 HW H8)
            have y1 := reread H9.out.bel X1.out L1.out
            obtain ⟨b0, hb0⟩ := HWR.out.all sn hs4
            have z1 : w8.cell? ⟨gw, sn, none⟩ = some (.bool b0) := (H9.out.cell 0 rfl sn).trans hb0
            have z2 : w8.frozen? ⟨gw, sn, none⟩ = false := H9.out.frozen 0 rfl sn
            clear hll hck hca d1 d2 X1 X2 hb0
            go_wp2_with fail
            have H10 := Aside0.mk (H9.out.store 0 rfl sn (.bool true) rfl)
            have HWR2 := Aside0.mk (HWR.out.next hs4 (pad (dt.extract 0 (min dt.size 256))))
            clear H9 y1 z1 z2 HWR
            generalize w8.setCell ⟨gw, sn, none⟩ (.bool true) = w9 at H10 ⊢
            go_roundg (min 20 M.length - (k + 1))
            case measure => exact fmeas hlt hg
            case rel => exact ⟨k + 1, hlt, Nat.le_refl _, by first | rfl | rw [hw], ⟨_, _, _, _, by rw [List.length_append, hlk]; rfl, HWR2.out, H10.out⟩⟩
          · obtain rfl : k = min 20 M.length := Nat.le_antisymm hk (Nat.not_lt.mp hlt)
            have hle : l.length ≤ 20 := hlk ▸ Nat.min_le_left _ _
            by_cases h1 : min 20 M.length < M.length
            · have d1 := fdlt h1
              have d2 : decide (((min 20 M.length : Nat) : Int) < 20) = false := n20 h1
              generalize min 20 M.length = k at *
              go_wp2_with fail
              go_meet
              case rel => exact ⟨⟨l, c, c2, cw, hle, HWR.out, HO.out⟩⟩
            · have d1 : decide (((min 20 M.length : Nat) : Int) < (M.length : Int)) = false := fdno h1
              generalize min 20 M.length = k at *
              go_wp2_with fail
              go_meet
              case rel => exact ⟨⟨l, c, c2, cw, hle, HWR.out, HO.out⟩⟩
      case rest =>
        obtain ⟨l, c, c2, cw, hl, hWr, hO⟩ := hcut.out
        have HWR := Aside0.mk hWr
        have HO := Aside0.mk hO
        clear hWr hO hcut H6 HB
        go_upto_block 6 with fail
        have H4 : Aside0 (HL W (wc.alloc (.cells #[.string ⟨#[]⟩, .string ⟨#[]⟩, .string ⟨#[]⟩, .string ⟨#[]⟩] 37)) ([(d, mkD 4 f1 l c)] ++ (al, mkD 4 f1 l c2) :: []) [.box wc.heap.size (.cells #[.string ⟨#[]⟩, .string ⟨#[]⟩, .string ⟨#[]⟩, .string ⟨#[]⟩] 37 (0, 0)), .box gw (.cells cw 39 (0, 0)), .box ga (.cells ca4 37 (0, 0))]) := ⟨HO.out.alloc _⟩
        clear HO
        generalize wc.alloc (.cells #[.string ⟨#[]⟩, .string ⟨#[]⟩, .string ⟨#[]⟩, .string ⟨#[]⟩] 37) = w4 at H4 ⊢
        generalize wc.heap.size = gn at H4 ⊢
        go_cut [] (fun wx => Aside0 (∃ cs, Four (fun j => (mkD 4 f1 l c2).get j) 4 cs ∧ HL W wx ([(d, mkD 4 f1 l c)] ++ (al, mkD 4 f1 l c2) :: []) [.box gn (.cells cs 37 (0, 0)), .box gw (.cells cw 39 (0, 0)), .box ga (.cells ca4 37 (0, 0))]))
        case first =>
          go_wp2_with fail
          go_loopg [16] 4 (fun gg s11 wr => ∃ k : Nat, k ≤ 4 ∧ 4 - k ≤ gg ∧ s11 = .int .i64 k ∧ Aside0 (∃ cs, Four (fun j => (mkD 4 f1 l c2).get j) k cs ∧ HL W wr ([(d, mkD 4 f1 l c)] ++ (al, mkD 4 f1 l c2) :: []) [.box gn (.cells cs 37 (0, 0)), .box gw (.cells cw 39 (0, 0)), .box ga (.cells ca4 37 (0, 0))]))
          case atStart => exact ⟨0, Nat.zero_le _, Nat.le_refl _, rfl, ⟨_, ⟨rfl, fun j hj => absurd hj (Nat.not_lt_zero _), four_all _ _ _ _⟩, H4.out⟩⟩
          case round =>
            clear H4
            obtain ⟨k, hk, hg, rfl, ⟨cs, hF, hO⟩⟩ := hrel
            have HO := Aside0.mk hO
            have HF := Aside0.mk hF
            clear hO hF
            by_cases hlt : k < 4
            · have d1 : decide ((k : Int) < 4) = true := d4 hlt
              have hw := w20 (Nat.lt_trans hlt (by decide))
              have hi1 : (k : Int) < 4 := i4 hlt
              have hi0 := fgeI k
              have HR := Aside0.mk (read_HL HO.out (Nat.le_trans hl (by decide)) (k : Int))
              rw [mkD_read hi0 hi1] at HR
              generalize hgt : (mkD 4 f1 l c2).get (k : Int) = s at HR
              have HG := Aside0.mk hgt
              clear hgt
              go_wp2_with (go_at_call 14; refine HR.out.mono ?_; rintro e w5 ⟨rfl, h5⟩; have H5 := Aside0.mk h5; clear h5 HR HO; obtain ⟨v0, hv0⟩ := HF.out.2.2 k hlt; have z1 : w5.cell? ⟨gn, k, none⟩ = some (.string v0) := (H5.out.cell 0 rfl k).trans hv0; have z2 : w5.frozen? ⟨gn, k, none⟩ = false := H5.out.frozen 0 rfl k)
              have H6 := Aside0.mk (H5.out.store 0 rfl k (.string s) rfl)
              have HF2 := Aside0.mk (HF.out.next hlt HG.out)
              clear H5 HF HG z1 z2 hv0
              generalize w5.setCell ⟨gn, k, none⟩ (.string s) = w6 at H6 ⊢
              go_roundg (4 - (k + 1))
              case measure => exact fmeas hlt hg
              case rel => exact ⟨k + 1, hlt, Nat.le_refl _, by first | rfl | rw [hw], ⟨_, HF2.out, H6.out⟩⟩
            · obtain rfl : k = 4 := Nat.le_antisymm hk (Nat.not_lt.mp hlt)
              go_wp2_with fail
              go_meet
              case rel => exact ⟨⟨cs, HF.out, HO.out⟩⟩
        case rest =>
          obtain ⟨cn4, hFn, hO⟩ := hcut.out
          have HFN := Aside0.mk hFn
          have HO := Aside0.mk hO
          clear hFn hO hcut H4
          have hll : l.length ≤ 1000000 := Nat.le_trans hl (by decide)
          go_upto_region 29 with (first
            | (go_at_call 12; refine (blow_HL (HO.out.below (below_alloc (Below.refl _ _) _)) hll _ 1 [1] (C_lit wc 3 [1] (by decide))).mono ?_; rintro e w7 ⟨rfl, h7⟩; have H7 := Aside0.mk h7; clear h7 HO)
            | (go_at_call 13; refine (on_HL H7.out).mono ?_; rw [mkD_blow]; rintro e w8 ⟨rfl, h8⟩; have H8 : Aside0 (HL W w8 ([] ++ (d, mkD 4 f1 l c) :: [(al, mkD 4 (failF [1] 0 l f1) [] c2)]) _) := ⟨h8⟩; clear h8 H7))
          have hk9 : min (keep.length : Int) 9 = ((min keep.length 9 : Nat) : Int) := n9 _
          have hk0 : (0 : Int) ≤ ((min keep.length 9 : Nat) : Int) := fgeI _
          have hk1 : ((min keep.length 9 : Nat) : Int) ≤ (ck : Int) := n9c hck
          have hk2 : ((min keep.length 9 : Nat) : Int) ≤ (keep.length : Int) := n9l _
          have hmx : min keep.length 9 ≤ ck := n9n hck
          have HK2 := Aside0.mk (C_takes (Kd.Heap.C (Kd.heap_int _) (fun k hk => H8.out.bel.block k hk) HK.out))
          clear HK
          generalize hq : min keep.length 9 = q at hk9 hk0 hk1 hk2 hmx HK2
          have hq9 : q ≤ 9 := hq ▸ Nat.min_le_right _ _
          clear hq
          generalize keep.take q = kp at HK2
          have hR := Aside0.mk (Kd.F_alloc (Kd.C_F (Kd.heap_int _) HK2.out) (.cells #[] 3))
          go_upto_block 8 with (first
            | (at_builtin; refine Kd.N_append_rows (Kd.int .i64) (w0 := w8) w8.heap.size rfl (.tmp 153) (.tmp 158) 34 3 (.int .i64 0) 8 rfl Try.underlying34 infoI rfl (by decide) (by decide) (.slice (some ⟨w8.heap.size, 0, none⟩) 0 0) [] kp K q ck (fun k => w8.heap.size ≤ k ∨ k < w8.heap.size) (fun k => k < w8.heap.size) rfl rfl (N_empty (Kd.int .i64) 3 w8 (fun k => w8.heap.size ≤ k ∨ k < w8.heap.size) (Or.inl (Nat.le_refl _))) hR.out (fun k hk => ⟨Or.inr hk, fun he => by simp [Value.ownBlock] at he; omega⟩) (fun k hk => Or.inl (by simp at hk; omega)) (below_alloc (Below.refl _ _) _) (by simp) (bytes9 hq9) ?_; intro v1 w9 hN1 hb1 hg1 hat1; have H9 := Aside0.mk (H8.out.below hb1); obtain ⟨A1, c3, rfl, -, hC1⟩ := Kd.N_reads hN1; have HC1 := Aside0.mk hC1; clear hN1 hb1 hg1 hat1 hC1 H8 hR HK2)
            | (go_at_call 12; refine (blow_HL H9.out hll A1 c3 ([] ++ kp) HC1.out).mono ?_; rintro e w10 ⟨rfl, h10⟩; have H10 := Aside0.mk h10; clear h10 H9 HC1)
            | (go_at_call 13; refine (on_HL H10.out).mono ?_; rw [mkD_blow]; rintro e w11 ⟨rfl, h11⟩; have H11 := Aside0.mk h11; clear h11 H10))
          clear hk9 hk0 hk1 hk2 hmx hq9
          generalize hkq : [] ++ kp = kq at H11
          clear hkq
          go_wp2_with fail
          go_loopg [17] 4 (fun gg s11 wr => ∃ k : Nat, k ≤ 4 ∧ 4 - k ≤ gg ∧ s11 = .int .i64 k ∧ Aside0 (HL W wr ([] ++ (d, mkD 4 (failF kq 0 l f1) [] c) :: [(al, mkD 4 (failF [1] 0 l f1) [] c2)]) [.box gn (.cells cn4 37 (0, 0)), .box gw (.cells cw 39 (0, 0)), .box ga (.cells ca4 37 (0, 0))]))
          case atStart => exact ⟨0, Nat.zero_le _, Nat.le_refl _, rfl, H11⟩
          case round =>
            clear H11
            obtain ⟨k, hk, hg, rfl, HO⟩ := hrel
            by_cases hlt : k < 4
            · have d1 : decide ((k : Int) < 4) = true := d4 hlt
              have hw := w20 (Nat.lt_trans hlt (by decide))
              have hi1 : (k : Int) < 4 := i4 hlt
              have hi0 := fgeI k
              have HR := Aside0.mk (read_HL HO.out (Nat.zero_le _) (k : Int))
              rw [mkD_read hi0 hi1] at HR
              have HR2 := Aside0.mk (fun (w' : World) (h : HL W w' ([(d, mkD 4 (failF kq 0 l f1) [] c)] ++ (al, mkD 4 (failF [1] 0 l f1) [] c2) :: []) [.box gn (.cells cn4 37 (0, 0)), .box gw (.cells cw 39 (0, 0)), .box ga (.cells ca4 37 (0, 0))]) => read_HL h (Nat.zero_le _) (k : Int))
              simp only [mkD_read hi0 hi1, one_kept 4 f1 l c2 c2 (k : Int)] at HR2
              have hn := HFN.out.2.1 k hlt
              have ha := HFA.out.2.1 k hlt
              obtain ⟨b, hb⟩ := HWR.out.all k hlt
              have HSA : Aside0 (b = false → (mkD 4 (failF kq 0 l f1) [] c).get (k : Int) = (mkD 4 f1 [] c1).get (k : Int)) := ⟨fun hbf => not_written 4 f1 l kq c c1 (HWR.out.not k hlt (by rw [hb, hbf]))⟩
              simp only [] at hn ha
              generalize (mkD 4 (failF kq 0 l f1) [] c).get (k : Int) = s at HR HSA
              generalize (mkD 4 f1 l c2).get (k : Int) = tt at HR2 hn
              generalize (mkD 4 f1 [] c1).get (k : Int) = u at HSA ha
              go_upto_region 36 with (first
                | (go_at_call 14; refine HR.out.mono ?_; rintro e w12 ⟨rfl, h12⟩; have H12 := Aside0.mk h12; clear h12 HR)
                | (go_at_call 14; refine (HR2.out _ H12.out).mono ?_; rintro e w13 ⟨rfl, h13⟩; have H13 : Aside0 (HL W w13 ([] ++ (d, mkD 4 (failF kq 0 l f1) [] c) :: [(al, mkD 4 (failF [1] 0 l f1) [] c2)]) _) := ⟨h13⟩; clear h13 HR2 H12))
              have z1 : w13.cell? ⟨gn, k, none⟩ = some (.string tt) := (H13.out.cell 0 rfl k).trans hn
              have z2 : w13.cell? ⟨gw, k, none⟩ = some (.bool b) := (H13.out.cell 1 rfl k).trans hb
              have z3 : w13.cell? ⟨ga, k, none⟩ = some (.string u) := (H13.out.cell 2 rfl k).trans ha
              clear hn ha hb HO
              cases b with
              | true =>
                go_upto_if 196 with fail
                clear z1 z2 z3 HWR HFA HFN HSA
                clear hll hl hck hcb hca hi1 hi0 d1
                go_wp2_with fail
                go_roundg (4 - (k + 1))
                case measure => exact fmeas hlt hg
                case rel => exact ⟨k + 1, hlt, Nat.le_refl _, by first | rfl | rw [hw], H13⟩
              | false =>
                have hsu := HSA.out rfl
                subst hsu
                go_upto_if 196 with fail
                clear z1 z2 z3 HWR HFA HFN HSA
                clear hll hl hck hcb hca hi1 hi0 d1
                go_wp2_with fail
                go_roundg (4 - (k + 1))
                case measure => exact fmeas hlt hg
                case rel => exact ⟨k + 1, hlt, Nat.le_refl _, by first | rfl | rw [hw], H13⟩
            · obtain rfl : k = 4 := Nat.le_antisymm hk (Nat.not_lt.mp hlt)
              go_wp2
              go_ret
              exact ⟨rfl, HO.out.bel⟩
end Go.Proofs.Ytjnbeijnlplclaa.Ownd
