/- law08.WalReads, walked: it says true. Conditions: the texts are read at the slice that is handed in; the table lies as the program lays it. -/
import Derived.Test.YtegeaemkkbenfaaDoorWSwitches
namespace Go.Proofs.YtegeaemkkbenfaaDoor.Ownd
open Go.Shelf Go.RowKit Go.Proofs.YtegeaemkkbenfaaDoorW.PrintWords Go.Proofs.YtegeaemkkbenfaaDoorW.PrintLast Go.Proofs.YtegeaemkkbenfaaDoorW.PrintMore
set_option linter.unusedVariables false
set_option linter.unusedSimpArgs false
variable {w W : World} {l1 l2 : List (Nat × Dev)} {rest : List Thing} {g d : Nat} {T : TD} {L : LG} {at_ G : Int} {half q : Nat} {l : List ByteArray}
section
variable {P : Program} {ops : Array Oper} {rest' : List Oper} {o : Oper} {a : Act} {Q : Exit → Act → World → Prop} {α : Type}
/-- append(v, x) to a row beside the devices, behind 'at_builtin'. -/
theorem HL.append (d : Kd α) {w W : World} {ds : List (Nat × Dev)} {l : List Thing} (hO : HL w W ds l) (j : Nat) {v : Value} {xs : List α} {e : TypeId} (hj : l[j]? = some (.row d e v xs)) (hgd : o.guard = none) (s x : Operand) (t : TypeId) (z : Value) (bytes : Nat)
    (ho : o.op = .call { callee := .builtin .append, args := #[s, x], argTypes := #[t, t] })
    (ht : P.underlying t = some (.slice e)) (hinfo : (P.info? e).map (fun i => (i.zero, i.size, i.bytes)) = some (some z, d.sz, bytes)) (hz : z.cells.size = d.sz) (hs0 : 0 < d.sz) (hb0 : 0 < bytes)
    (p : α) (cs : List Value) (hs : a.eval s = v) (hx : a.eval x = .slice (some ⟨W.heap.size, 0, none⟩) 1 1) (hp : Kd.FK d W (fun _ => False) p cs) (hl : (xs.length + 1) * bytes ≤ 140737488355328)
    (h : ∀ v1 w1, HL w w1 ds (l.set j (.row d e v1 (xs ++ [p]))) → wpList P ops Q rest' (a.put o.dst v1) w1) :
    wpList P ops Q (o :: rest') a (W.alloc (.cells cs.toArray e)) := by
  obtain ⟨rs, h1, h2, hO⟩ := hO
  refine Own.append d hO ((rs.flatMap Raw.things).length + j) ((HL.index rs j).trans hj) hgd s x t z bytes ho ht hinfo hz hs0 hb0 p cs hs hx hp hl ?_
  intro v1 w1 h3
  rw [HL.setIndex] at h3
  exact h v1 w1 ⟨rs, h1, h2, h3⟩
end
theorem HL.row {ds : List (Nat × Dev)} (h : HL w W ds rest) (j : Nat) {α : Type} {k : Kd α} {e : Nat} {v : Value} {xs : List α} (hj : rest[j]? = some (.row k e v xs)) : ∃ A c, v = .slice A xs.length c ∧ xs.length ≤ c ∧ Kd.C k W A xs.length xs := by
  obtain ⟨rs, _, _, hO⟩ := h
  obtain ⟨A, c, h1, h2, h3⟩ := hO.reads _ ((HL.index rs j).trans hj)
  exact ⟨A, c, h1, h2, h3⟩
/-- A literal of texts. -/
theorem str_lit (W : World) (xs : List ByteArray) (hm : xs.length ≤ 1000000) : Kd.N Kd.string 9 (W.alloc (.cells (xs.map Value.string).toArray 9)) W.heap.size (fun k => W.heap.size ≤ k) (.slice (some ⟨W.heap.size, 0, none⟩) xs.length xs.length) xs :=
  Kd.R_N (Kd.R_of_own (own_lit_of W W.heap.size 9 xs (Nat.le_refl _) (by omega)) (fun k hk => by
    have : W.heap.size = k := by simpa [Value.ownBlock] using hk
    omega))
theorem HL.lit {ds : List (Nat × Dev)} (h : HL w W ds rest) (xs : List ByteArray) (hm : xs.length ≤ 1000000) : HL w (W.alloc (.cells (xs.map Value.string).toArray 9)) ds (.row Kd.string 9 (.slice (some ⟨W.heap.size, 0, none⟩) xs.length xs.length) xs :: rest) :=
  h.row_new (below_alloc (Below.refl _ _) _) (str_lit W xs hm)
theorem HL.swap {ds : List (Nat × Dev)} {x y : Thing} (h : HL w W ds (x :: y :: rest)) : HL w W ds (y :: x :: rest) := by
  obtain ⟨rs, h1, h2, hO⟩ := h
  refine ⟨rs, h1, h2, ?_⟩
  have a1 : Own w W ((rs.flatMap Raw.things ++ [x]) ++ ([y] ++ rest)) := by rw [List.append_assoc]; exact hO
  have a2 := a1.rot
  rw [List.append_assoc] at a2
  exact a2.rot
def chBegin : ByteArray := ⟨#[98, 101, 103, 105, 110]⟩
theorem rightBg : Right chBegin := ⟨by decide, by decide⟩
theorem full_h32 (n : Int) : ∃ m : Nat, 1 ≤ m ∧ m ≤ 32 ∧ 1 + n % 32 = (m : Int) := ⟨(1 + n % 32).toNat, by omega, by omega, by omega⟩
theorem rd_d30 {k : Nat} (h : k < 30) : decide ((k : Int) < 30) = true := decide_eq_true (by omega)
theorem rd_n30 {n : Nat} (h : min 30 n < n) : decide (((min 30 n : Nat) : Int) < 30) = false := decide_eq_false (by omega)
theorem rd_w30 {k : Nat} (h : k < 30) : wrap64 ((k : Int) + 1) = ((k + 1 : Nat) : Int) := by unfold wrap64; omega
theorem infoStr : (Tryd.prog.info? 9).map (fun i => (i.zero, i.size, i.bytes)) = some (some (.string ⟨#[]⟩), 1, 16) := by kernel_rfl
theorem enc_len (l : List ByteArray) : l.length ≤ (encT l).size := by
  induction l with
  | nil => exact Nat.zero_le _
  | cons s r ih =>
    show r.length + 1 ≤ (textB s ++ encT r).size
    rw [ByteArray.size_append, textB_size]; omega
set_option maxHeartbeats 8000000 in
set_option maxRecDepth 100000 in
theorem reads_calls {W : World} (hT : Tab W) (A : Option Addr) (ca : Nat) (l : List ByteArray) (x : Int) (hA : Kd.C Kd.string W A l.length l) (hca : l.length ≤ ca) : Calls Tryd.prog 5 #[.slice A l.length ca, .int .i64 x] W fun ex W' => ex = .returned (.bool true) ∧ Below W.heap.size W W' := by
  have HT := Aside0.mk hT
  have HA := Aside0.mk hA
  clear hT hA
  have ha := and31 x
  obtain ⟨hf, h1, h2, hw⟩ := full_h32 x
  go_enter Tryd.func5, Tryd.ntmps5
  go_upto_region 4 with (first
    | (go_at_call 8; refine (speaks_calls HT.out).mono ?_; rintro e w1 ⟨rfl, hb1⟩; have H0 := Aside0.mk (HL.start2 hb1); clear hb1))
  clear ha hw
  have hn : (2 : Int) + 2 * (hf : Int) = ((2 + 2 * hf : Nat) : Int) := by omega
  have HN := Aside0.mk (new_HL H0.out (2 + 2 * hf) (by omega) (by omega))
  rw [← hn] at HN
  have hSite : Site (TD.new (2 + 2 * hf)) 0 hf := siteNew (by decide) (by omega) (by omega) (by omega)
  have HS := Aside0.mk hSite
  have HF := Aside0.mk (fun (d : Nat) (w' : World) (h : HL W w' ([] ++ (d, (TD.new (2 + 2 * hf)).dev) :: []) []) => format_use h HS.out ⟨#[102, 105, 114, 115, 116]⟩ ⟨by decide, by decide⟩ (by decide) (show 5 + 2 ≤ hf * 242 by omega) HT.out)
  clear hn hSite HS
  go_upto_region 11 with (first
    | (go_at_call 9; refine HN.out.mono ?_; rintro e w2 ⟨d, rfl, h2⟩; have H1 : Aside0 (HL W w2 ([] ++ (d, (TD.new (2 + 2 * hf)).dev) :: []) []) := ⟨h2⟩; clear h2 H0 HN)
    | (go_at_call 10; refine (HF.out _ _ H1.out).mono ?_; rintro e w3 ⟨rfl, T, h3, hk, hfu⟩; have H2 := Aside0.mk h3; have HK := Aside0.mk hk; have HFU := Aside0.mk hfu; clear h3 hk hfu H1 HF)
    | (go_at_call 11; refine (open_use H2.out HK.out HT.out).mono ?_; rintro e w4 ⟨g, A1, c, rfl, L, h4, ho, hg, -, -, -⟩; have H3 := Aside0.mk h4; have HO := Aside0.mk ho; have HG := Aside0.mk hg; clear h4 ho hg H2 HK)
    | (go_at_call 12; refine (switch_use H3.out HO.out HFU.out HG.out (by decide) 1 chBegin rightBg (by decide) (show 5 + 2 ≤ hf * 242 by omega) HT.out).mono ?_; rintro e w6 ⟨rfl, T6, L6, h6, hu6, hf6, hE6⟩; have H6 := Aside0.mk h6; have HU6 := Aside0.mk hu6; have HF6 := Aside0.mk hf6; have HE6 := Aside0.mk hE6; clear h6 hu6 hf6 hE6 H3 HO HFU HG))
  obtain ⟨R, hR⟩ : ∃ R : List Thing, [Thing.row Kd.string 9 (Value.slice A1 [(⟨#[102, 105, 114, 115, 116]⟩ : ByteArray)].length c) [⟨#[102, 105, 114, 115, 116]⟩]] = R := ⟨_, rfl⟩
  rw [hR] at H6
  clear hR
  have hl0 := (H6.out.lit [chBegin] (by decide)).swap
  replace hl0 : HL W (w6.alloc (.cells #[.string ⟨#[98, 101, 103, 105, 110]⟩] 9)) ([] ++ (d, TD.dev T6) :: []) (LT g d L6 :: .row Kd.string 9 (.slice (some ⟨w6.heap.size, 0, none⟩) 1 1) [chBegin] :: R) := hl0
  have H7 := Aside0.mk hl0
  clear hl0 H6
  generalize w6.alloc (.cells #[.string ⟨#[98, 101, 103, 105, 110]⟩] 9) = w7 at H7 ⊢
  generalize w6.heap.size = b7 at H7 ⊢
  go_upto_block 0 with fail
  go_cut [10] (fun s10 wx => Aside0 (∃ L want, HL W wx ([] ++ (d, TD.dev T6) :: []) (LT g d L :: .row Kd.string 9 s10 want :: R) ∧ InUse T6 L 0 hf want 1 ∧ L.epoch ≤ 2))
  case first =>
    go_wp2_with fail
    go_loopg [10, 11] (min 30 l.length) (fun gg s10 s11 wr => ∃ k : Nat, k ≤ min 30 l.length ∧ min 30 l.length - k ≤ gg ∧ s11 = .int .i64 k ∧ Aside0 (∃ L want, HL W wr ([] ++ (d, TD.dev T6) :: []) (LT g d L :: .row Kd.string 9 s10 want :: R) ∧ InUse T6 L 0 hf want 1 ∧ L.epoch ≤ 2))
    case atStart => exact ⟨0, Nat.zero_le _, Nat.le_refl _, rfl, ⟨L6, [chBegin], H7.out, HU6.out, HE6.out⟩⟩
    case round =>
      clear H7 HU6 HE6
      obtain ⟨k, hk, hg, rfl, ⟨L, want, hO, hu, hE⟩⟩ := hrel
      have HO := Aside0.mk hO
      have HU := Aside0.mk hu
      have HE := Aside0.mk hE
      clear hO hu hE
      by_cases hlt : k < min 30 l.length
      · have hk1 : k < l.length := Nat.lt_of_lt_of_le hlt (Nat.min_le_right _ _)
        have hk2 : k < 30 := Nat.lt_of_lt_of_le hlt (Nat.min_le_left _ _)
        obtain ⟨ad, rfl, x0⟩ := str_at HA.out k hk1 rfl
        have y0 := (HO.out.bel.cell (World.block_lt_of_cell? W _ x0)).trans x0
        clear x0
        generalize l[k] = x at y0
        have d1 := sz_lt hk1
        have d2 := rd_d30 hk2
        have hw := rd_w30 hk2
        have m1 : min (x.size : Int) 2000 = ((min x.size 2000 : Nat) : Int) := by omega
        have g1 : (0 : Int) ≤ ((min x.size 2000 : Nat) : Int) := by omega
        have k1 : ((min x.size 2000 : Nat) : Int) ≤ (x.size : Int) := by omega
        have hz : (x.extract 0 (min x.size 2000)).size ≤ 2000 := by rw [ByteArray.size_extract]; omega
        go_upto_region 14 with fail
        go_quiet (fail)
        have HO2 := Aside0.mk (HO.out.below (pw_below_drewN (Below.refl _ _) nq))
        clear HO y0 m1 g1 k1
        generalize wr.drewN nq = wd at HO2 ⊢
        generalize x.extract 0 (min x.size 2000) = t at hz ⊢
        obtain ⟨Aw, cw, rfl, -, -⟩ := HO2.out.row 1 rfl
        by_cases h0 : t.size = 0
        · obtain rfl : t = ⟨#[]⟩ := b_ext (List.eq_nil_of_length_eq_zero (by rw [b_len]; exact h0))
          clear h0 hz
          go_wp2_with (go_at_call 13; refine (append_none HO2.out HU.out (k : Int)).mono ?_; rintro e w8 ⟨rfl, h8⟩; have H8 := Aside0.mk h8; clear h8 HO2)
          go_roundg (min 30 l.length - (k + 1))
          case measure => omega
          case rel => exact ⟨k + 1, hlt, Nat.le_refl _, by first | rfl | rw [hw], ⟨L, want, H8.out, HU.out, HE.out⟩⟩
        · have hne := ne_nil_of h0
          by_cases hroom : (encT want).size + (t.size + 2) ≤ hf * 242
          · have HAP := Aside0.mk (append_ok HO2.out HU.out (k : Int) t h0 (by omega) hroom)
            have HLN : Aside0 ((want.length + 1) * 16 ≤ 140737488355328) := ⟨by have := enc_len want; omega⟩
            clear hroom HU
            go_upto_region 13 with (first
              | (go_at_call 13; refine HAP.out.mono ?_; rintro e w8 ⟨rfl, L8, h8, hu8, hE8⟩; have H8 := Aside0.mk h8; have HU8 := Aside0.mk hu8; have HE8 := Aside0.mk (Int.le_trans (Int.le_of_eq hE8) HE.out); clear h8 hu8 hE8 HAP HO2)
              | (refine gate_ (.call { callee := .builtin .append, args := #[.tmp 76, .tmp 78], argTypes := #[29, 29] }) rfl ?_; refine Aside0.out ?_))
            refine ⟨?_⟩
            refine H8.out.append Kd.string 1 rfl rfl (.tmp 76) (.tmp 78) 29 (.string ⟨#[]⟩) 16 rfl Tryd.underlying29 infoStr rfl (by decide) (by decide) t [.string t] rfl rfl (fun _ _ => rfl) HLN.out ?_
            intro v2 w9 hO9
            have H9 : Aside0 (HL W w9 ([] ++ (d, TD.dev T6) :: []) (LT g d L8 :: .row Kd.string 9 v2 (want ++ [t]) :: R)) := ⟨hO9⟩
            clear hO9 H8
            go_wp2_with fail
            go_roundg (min 30 l.length - (k + 1))
            case measure => omega
            case rel => exact ⟨k + 1, hlt, Nat.le_refl _, by first | rfl | rw [hw], ⟨L8, want ++ [t], H9.out, HU8.out, HE8.out⟩⟩
          · have HAP := Aside0.mk (append_no HO2.out HU.out (k : Int) t h0 (by omega) (by omega))
            clear hroom
            go_wp2_with (go_at_call 13; refine HAP.out.mono ?_; rintro e w8 ⟨rfl, h8⟩; have H8 := Aside0.mk h8; clear h8 HAP HO2)
            go_roundg (min 30 l.length - (k + 1))
            case measure => omega
            case rel => exact ⟨k + 1, hlt, Nat.le_refl _, by first | rfl | rw [hw], ⟨L, want, H8.out, HU.out, HE.out⟩⟩
      · obtain rfl : k = min 30 l.length := Nat.le_antisymm hk (Nat.not_lt.mp hlt)
        by_cases h1 : min 30 l.length < l.length
        · have d1 := sz_lt h1
          have d2 := rd_n30 h1
          generalize min 30 l.length = k at *
          go_wp2_with fail
          go_meet
          case rel => exact ⟨L, want, HO.out, HU.out, HE.out⟩
        · have d1 : decide (((min 30 l.length : Nat) : Int) < (l.length : Int)) = false := decide_eq_false (by omega)
          generalize min 30 l.length = k at *
          go_wp2_with fail
          go_meet
          case rel => exact ⟨L, want, HO.out, HU.out, HE.out⟩
  case rest =>
    obtain ⟨L, want, hO, hu, hE⟩ := hcut.out
    have HO := Aside0.mk hO
    have HU := Aside0.mk hu
    have HE := Aside0.mk hE
    have hq1 : 1 ≤ want.length := hu.qle
    clear hO hu hE hcut H7 HU6 HE6 HA
    go_upto_region 25 with (go_at_call 14; refine (flush_use HO.out HU.out HF6.out HE.out (by decide) HT.out).mono ?_; rintro e w9 ⟨rfl, T9, L9, h9, hu9, hf9, hE9⟩; have H9 := Aside0.mk h9; have HU9 := Aside0.mk hu9; have HE9 := Aside0.mk hE9; clear h9 hu9 hf9 hE9 HO HU HE)
    have hkp := HU9.out.kept hq1 HE9.out
    rw [List.take_length] at hkp
    have HKP := Aside0.mk hkp
    have HLN : Aside0 (want.length ≤ 1000000) := ⟨by have h1 := enc_len want; have h2 := HU9.out.fits; omega⟩
    clear hkp hq1 HU9 HE9
    obtain ⟨Aw, cw, rfl, -, -⟩ := H9.out.row 1 rfl
    go_wp2_with fail
    go_loopg [14] 2 (fun gg s14 wr => ∃ k : Nat, k ≤ 2 ∧ 2 - k ≤ gg ∧ s14 = .int .i64 k ∧ Aside0 (∃ T, HL W wr ([] ++ (d, TD.dev T) :: []) (LT g d L9 :: .row Kd.string 9 (.slice Aw want.length cw) want :: R) ∧ Kept T 0 hf want 2))
    case atStart => exact ⟨0, Nat.zero_le _, Nat.le_refl _, rfl, ⟨T9, H9.out, HKP.out⟩⟩
    case round =>
      clear H9 HKP
      obtain ⟨k, hk, hg, rfl, ⟨T, hO, hkp⟩⟩ := hrel
      have HO := Aside0.mk hO
      have HK := Aside0.mk hkp
      clear hO hkp
      by_cases hlt : k < 2
      · have d1 : decide ((k : Int) < 2) = true := decide_eq_true (by omega)
        have HK2 := Aside0.mk (HK.out.turned []).1
        go_upto_region 31 with (first
          | (go_at_call 17; refine (blow_use HO.out HK.out.wait none 0 [] (Kd.C_nil _ _)).mono ?_; rintro e w10 ⟨rfl, h10⟩; have H10 := Aside0.mk h10; clear h10 HO)
          | (go_at_call 18; refine (on_use H10.out).mono ?_; rintro e w11 ⟨rfl, h11⟩; have H11 := Aside0.mk h11; clear h11 H10)
          | (go_at_call 11; refine (open_use H11.out HK2.out HT.out).mono ?_; rintro e w12 ⟨g2, A2, c2, rfl, L12, h12, -, -, -, -, -⟩; have H12 := Aside0.mk h12; clear h12 H11))
        obtain ⟨_, _, e1, hc2, hC2⟩ := H12.out.row 1 rfl
        obtain ⟨rfl, -, rfl⟩ := Value.slice.inj e1
        obtain ⟨_, _, e2, hcw, hCw⟩ := H12.out.row 3 rfl
        obtain ⟨rfl, -, rfl⟩ := Value.slice.inj e2
        have HBG := Aside0.mk (begins_calls hC2 hCw hc2 hcw HLN.out true (decide_eq_true ⟨(List.take_length ..).symm, Nat.le_refl _⟩).symm)
        clear e1 e2 hC2 hCw hc2 hcw
        go_wp2_with (go_at_call 19; refine HBG.out.mono ?_; rintro e w13 ⟨rfl, h13⟩; have H13 := Aside0.mk (H12.out.below h13).drop1.drop1; clear h13 H12 HBG)
        go_roundg (2 - (k + 1))
        case measure => omega
        case rel => exact ⟨k + 1, hlt, Nat.le_refl _, by first | rfl | (unfold wrap64; congr 1; omega), ⟨_, H13.out, HK2.out⟩⟩
      · obtain rfl : k = 2 := by omega
        go_wp2_with fail
        go_ret
        exact ⟨rfl, HO.out.bel⟩
end Go.Proofs.YtegeaemkkbenfaaDoor.Ownd
