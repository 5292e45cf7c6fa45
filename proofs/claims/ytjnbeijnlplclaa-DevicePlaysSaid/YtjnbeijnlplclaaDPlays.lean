/- law03.DevicePlays, walked: it says true. Condition: the acts are read at the slice that is handed in. -/
import Derived.Test.YtjnbeijnlplclaaDPlayB
namespace Go.Proofs.Ytjnbeijnlplclaa.Ownd
open Go.RowKit Go.Proofs.YtjnbeijnlplclaaW.PrintWords Go.Proofs.YtjnbeijnlplclaaW.PrintLast Go.Proofs.YtjnbeijnlplclaaW.PrintMore
set_option linter.unusedVariables false
set_option linter.unusedSimpArgs false
section
variable {w W W1 : World} {l1 l2 ds : List (Nat × Dev)} {d r : Nat} {D : Dev} {R : RD} {post rest : List Thing}
theorem HL.nilrow (h : HL w W ds rest) {α : Type} (k : Kd α) (e : Nat) : HL w W ds (.row k e (.slice none 0 0) [] :: rest) := by
  obtain ⟨rs, h1, h2, hO⟩ := h
  refine ⟨rs, h1, h2, ?_⟩
  have h3 := hO.room.nil (rs.flatMap Raw.things).length k e
  rw [List.set_append_right _ _ (Nat.le_refl _), Nat.sub_self] at h3
  exact h3
theorem HL.add (h : HL w W ds rest) {α : Type} {k : Kd α} {e : Nat} {v : Value} {xs : List α} (h2 : Own W W1 [.row k e v xs]) : HL w W1 ds (.row k e v xs :: rest) := by
  obtain ⟨rs, h1, h2', hO⟩ := h
  refine ⟨rs, h1, h2', ?_⟩
  have h3 := hO.room.add h2 (rs.flatMap Raw.things).length (by simp)
  rw [List.set_append_right _ _ (Nat.le_refl _), Nat.sub_self] at h3
  exact h3
theorem copy_HLR (h : HLR w W (l1 ++ (d, D) :: l2) r R post) (hl : D.wait.length ≤ 1000000) (hk : D.keep.length ≤ 1000000) : Calls Try.prog 15 #[.pointer (some ⟨d, 0, none⟩)] W fun ex W' => ∃ g, ex = .returned (.pointer (some ⟨g, 0, none⟩)) ∧ HLR w W' (l1 ++ (d, D) :: (g, D) :: l2) r R post := by
  obtain ⟨vl, va, vd, vk, h⟩ := h
  refine (copy_HL h hl hk).mono ?_
  rintro ex W' ⟨g, rfl, h'⟩
  exact ⟨g, rfl, vl, va, vd, vk, h'⟩
theorem HLR.forget (h : HLR w W (l1 ++ (d, D) :: l2) r R post) : HLR w W (l1 ++ l2) r R post := by
  obtain ⟨vl, va, vd, vk, h⟩ := h
  exact ⟨vl, va, vd, vk, h.forget⟩
end
theorem and7 (n : Int) : bits .and .i64 n 7 = n % 8 := by
  have h3 : (BitVec.ofInt 64 7).toNat = 2 ^ 3 - 1 := by decide
  have key : (BitVec.ofInt 64 n &&& BitVec.ofInt 64 7).toNat = (n % ((2 ^ 64 : Nat) : Int)).toNat % 2 ^ 3 := by
    rw [BitVec.toNat_and, BitVec.toNat_ofInt, h3, Nat.and_two_pow_sub_one_eq_mod]
  show IntKind.i64.wrap ((BitVec.ofInt 64 n &&& BitVec.ofInt 64 7).toNat : Nat) = n % 8
  rw [key, IntKind.wrap_i64]
  omega
theorem mod8 (n : Int) : 1 ≤ 1 + n % 8 ∧ 1 + n % 8 ≤ 8 := by omega
theorem f50 {k : Nat} (h : k < 50) : decide ((k : Int) < 50) = true := decide_eq_true (by omega)
theorem fw50 {k : Nat} (h : k < 50) : wrap64 ((k : Int) + 1) = ((k + 1 : Nat) : Int) := by unfold wrap64; omega
theorem fn50 {n : Nat} (h : min 50 n < n) : decide (((min 50 n : Nat) : Int) < 50) = false := decide_eq_false (by omega)
theorem fsmall {k : Nat} (h : k < 50) (a b : Nat) (hb : b ≤ k + a) (ha : a ≤ 10) : b ≤ 1000000 := by omega
abbrev elder : ByteArray := ⟨#[101, 108, 100, 101, 114]⟩
set_option maxHeartbeats 8000000 in
set_option maxRecDepth 100000 in
theorem plays_calls {W : World} (n : Int) (A : Option Addr) (ca : Nat) (L : List TA) (hA : Kd.C kTA W A L.length L) (hca : L.length ≤ ca) :
    Calls Try.prog 6 #[.int .i64 n, .slice A L.length ca] W fun ex W' => ex = .returned (.bool true) ∧ Below W.heap.size W W' := by
  have HA := Aside0.mk hA
  clear hA
  go_enter Try.func6, Try.ntmps6
  go_upto_region 3 with (go_at_call 8; refine (speaks_calls W).mono ?_; rintro e w1 ⟨rfl, hb1⟩; have H0 := Aside0.mk (HL.start2 hb1); clear hb1)
  go_cut [21] (fun s21 wx => ∃ b : Bool, s21 = .bool b ∧ (b = false → n < 1 ∨ 4096 < n ∨ 1 ≤ n ∧ n ≤ 8) ∧ Aside0 (HL W wx [] []))
  case first =>
    by_cases h8 : 8 < n
    · by_cases h4 : n ≤ 4096
      · go_wp2_with fail
        go_meet
        case rel => exact ⟨_, rfl, (fun h => by cases h), H0⟩
      · go_wp2_with fail
        go_meet
        case rel => exact ⟨_, rfl, (fun _ => .inr (.inl (by omega))), H0⟩
    · go_wp2_with fail
      go_meet
      case rel => exact ⟨_, rfl, (fun _ => by omega), H0⟩
  case rest =>
    clear H0
    obtain ⟨b, rfl, hb, H0⟩ := hcut
    go_upto_if 21 with fail
    go_cut [0] (fun s0 wx => ∃ n' : Int, s0 = .int .i64 n' ∧ (n' < 1 ∨ 4096 < n' ∨ 1 ≤ n' ∧ n' ≤ 8) ∧ Aside0 (HL W wx [] []))
    case first =>
      have ha := and7 n
      have HM := Aside0.mk (mod8 n)
      cases b with
      | true =>
        clear hb
        go_wp2_with fail
        go_meet
        case rel => exact ⟨_, rfl, .inr (.inr HM.out), H0⟩
      | false =>
        have HB := Aside0.mk (hb rfl)
        clear hb
        go_wp2_with fail
        go_meet
        case rel => exact ⟨_, rfl, HB.out, H0⟩
    case rest =>
      obtain ⟨n', rfl, hn, HC⟩ := hcut
      clear hb
      clear H0
      by_cases hbad : n' < 1 ∨ 4096 < n'
      · have HN := Aside0.mk (fun W => @new_bad W n' hbad)
        by_cases h1 : n' < 1
        · go_wp2_with (go_at_call 9; refine (HN.out _).mono ?_; rintro e w3 ⟨rfl, h3⟩; rw [h3]; clear h3)
          go_ret
          exact ⟨rfl, HC.out.bel⟩
        · have h2 : 4096 < n' := hbad.resolve_left h1
          go_wp2_with (go_at_call 9; refine (HN.out _).mono ?_; rintro e w3 ⟨rfl, h3⟩; rw [h3]; clear h3)
          go_ret
          exact ⟨rfl, HC.out.bel⟩
      · obtain ⟨m, rfl, hm1, hm8⟩ : ∃ m : Nat, n' = (m : Int) ∧ 1 ≤ m ∧ m ≤ 8 := ⟨n'.toNat, by omega, by omega, by omega⟩
        have i1 : ¬ ((m : Int) < 1) := by omega
        have i2 : ¬ ((4096 : Int) < (m : Int)) := by omega
        clear hn hbad
        go_upto_region 9 with (first
          | (go_at_call 9; refine (new_HL HC.out m hm1 (Nat.le_trans hm8 (by decide))).mono ?_; rintro e w2 ⟨d, rfl, h1⟩; have H1 := Aside0.mk h1; clear h1 HC)
          | (go_at_call 19; refine (newR m (Nat.le_trans hm8 (by decide)) w2).mono ?_; rintro e w3 ⟨vl, rfl, h2⟩; obtain ⟨Al, nl, cl, rfl⟩ := h2.isSlice 0 rfl; have H2 := Aside0.mk ((((H1.out.nilrow (Kd.int .i64) 3).nilrow Kd.string 9).nilrow (Kd.int .i64) 3).add h2 |>.alloc (.cells (RNil (.slice none 0 0)) 46)); clear h2 H1)
          | (refine gate_ (.store 46 (.tmp 7) (.tmp 43)) rfl ?_; refine Aside0.out ?_))
        refine ⟨?_⟩
        obtain ⟨rs, q1, q2, hO⟩ := H2.out
        clear H2
        replace hO := hO.rot (a := rs.flatMap Raw.things) (c := []) (b := [_, _, _, _, _])
        refine Own.store_all hO 0 rfl rfl rfl 46 (.tmp 7) (.tmp 43) rfl (RNil (.slice Al nl cl)) rfl rfl size_RD rfl (by simp [Value.oneCell']) ?_
        intro w4 hz
        have H3 : Aside0 (HLR W w4 ([] ++ (d, Dev.new m) :: []) w3.heap.size (RD.new m) []) := ⟨.slice Al nl cl, _, _, _, rs, q1, q2, (Own.rot (a := [_, _, _, _, _]) hz)⟩
        clear hz hO q1 q2
        generalize w3.heap.size = r at H3 ⊢
        have HS := Aside0.mk (sim_new m)
        generalize hD0 : Dev.new m = D0 at H3 HS
        have HD0 : Aside0 (D0.size ≤ 8 ∧ D0.wait.length ≤ 0 ∧ D0.keep.length ≤ 9) := ⟨by rw [← hD0]; exact ⟨hm8, Nat.le_refl _, Nat.zero_le _⟩⟩
        generalize RD.new m = R0 at H3 HS
        clear hD0 i1 i2
        go_wp2_with fail
        go_loopg [5, 8] (min 50 L.length) (fun gg s5 s8 wr => ∃ k d : Nat, k ≤ min 50 L.length ∧ min 50 L.length - k ≤ gg ∧ s5 = .pointer (some ⟨d, 0, none⟩) ∧ s8 = .int .i64 k ∧ Aside0 (∃ D R, Sim D R ∧ D.size ≤ 8 ∧ D.wait.length ≤ k ∧ D.keep.length ≤ 9 ∧ HLR W wr ([] ++ (d, D) :: []) r R []))
        case atStart => exact ⟨0, d, Nat.zero_le _, Nat.le_refl _, rfl, rfl, ⟨D0, R0, HS.out, HD0.out.1, HD0.out.2.1, HD0.out.2.2, H3.out⟩⟩
        case round =>
          clear H3 HS HD0
          clear D0 R0
          obtain ⟨k, d, hk, hg, rfl, rfl, ⟨D, R, hS, hz, hw, hkp, hO⟩⟩ := hrel
          have HO := Aside0.mk hO
          have HS := Aside0.mk hS
          clear hO hS
          by_cases hlt : k < min 50 L.length
          · have hk1 : k < L.length := Nat.lt_of_lt_of_le hlt (Nat.min_le_right _ _)
            have hk2 : k < 50 := Nat.lt_of_lt_of_le hlt (Nat.min_le_left _ _)
            obtain ⟨ad, rfl, x0, x1, x2, B, cb, x3, hcb, hCB⟩ := at_TA HA.out k hk1 rfl
            have X0 := Aside0.mk x0
            have X1 := Aside0.mk x1
            have X2 := Aside0.mk x2
            have X3 := Aside0.mk x3
            have L1 := Aside0.mk (World.block_lt_of_cell? W _ x1)
            have HCB := Aside0.mk hCB
            have HCc := Aside0.mk hcb
            clear x0 x1 x2 x3 hCB hcb
            generalize L[k] = x at X0 X1 X2 X3 HCB HCc
            have d1 := fdlt hk1
            have d2 := f50 hk2
            have hw1 := fw50 hk2
            have hi1 := fltI hk1
            have hi0 := fgeI k
            have y0 := reread HO.out.bel X0.out L1.out
            have y1 := reread HO.out.bel X1.out L1.out
            have y2 := reread HO.out.bel X2.out L1.out
            have y3 := reread HO.out.bel X3.out L1.out
            have hup := Try.underlying36
            have hwl : D.wait.length ≤ 1000000 := fsmall hk2 0 _ hw (by decide)
            have hkl : D.keep.length ≤ 1000000 := Nat.le_trans hkp (by decide)
            have hzl : D.size ≤ 1000000 := Nat.le_trans hz (by decide)
            go_upto_block 1 with fail
            go_upto_if 59 with (go_at_call 17; refine (kind_calls x.1 x.2.1 x.2.2.1 B x.2.2.2.length cb).mono ?_; rintro e w11 ⟨rfl, hb11⟩; have HO2 := Aside0.mk (HO.out.below hb11); clear hb11 HO y0 y1 y2 y3)
            have hw2 : (D.write 0 elder).2.wait.length ≤ 1000000 := Nat.le_trans (Dev.write_len _ _ _) (fsmall hk2 1 _ (Nat.succ_le_succ hw) (by decide))
            generalize ((wrap64 (x.1.tmod 9 + 9)).tmod 9 == 8) = kb
            clear d1 d2 hi1 hi0 hup
            go_cut [5] (fun s5 wx => ∃ d' : Nat, s5 = .pointer (some ⟨d', 0, none⟩) ∧ Aside0 (HLR W wx ([] ++ (d', D) :: []) r R []))
            case first =>
              cases kb with
              | false =>
                go_wp2_with fail
                go_meet
                case rel => exact ⟨_, rfl, HO2⟩
              | true =>
                go_wp2_with (first
                  | (go_at_call 15; refine (copy_HLR HO2.out hwl hkl).mono ?_; rintro e w12 ⟨c, rfl, h3⟩; have H3 : Aside0 (HLR W w12 ([(d, D)] ++ (c, D) :: []) r R []) := ⟨h3⟩; clear h3 HO2)
                  | (go_at_call 10; refine (H3.out.dev (fun rest h' => write_HL h' hwl 0 elder)).mono ?_; rintro e w13 ⟨rfl, h4⟩; have H4 : Aside0 (HLR W w13 ([(d, D)] ++ (c, (D.write 0 elder).2) :: []) r R []) := ⟨h4⟩; clear h4 H3)
                  | (go_at_call 11; refine (H4.out.dev (fun rest h' => sync_HL h' hw2)).mono ?_; rintro e w14 ⟨rfl, h5⟩; have H5 : Aside0 (HLR W w14 ([] ++ (d, D) :: [(c, (D.write 0 elder).2.sync.2)]) r R []) := ⟨h5⟩; clear h5 H4)
                  | (go_at_call 15; refine (copy_HLR H5.out hwl hkl).mono ?_; rintro e w15 ⟨g, rfl, h6⟩; have H6 : Aside0 (HLR W w15 ([] ++ (d, D) :: [(g, D), (c, (D.write 0 elder).2.sync.2)]) r R []) := ⟨h6⟩; clear h6 H5)
                  | (go_at_call 10; refine (H6.out.dev (fun rest h' => write_HL h' hwl 0 elder)).mono ?_; rintro e w16 ⟨rfl, h7⟩; have H7 : Aside0 (HLR W w16 ([] ++ (d, (D.write 0 elder).2) :: [(g, D), (c, (D.write 0 elder).2.sync.2)]) r R []) := ⟨h7⟩; clear h7 H6)
                  | (go_at_call 12; refine ((H7.out.below (below_alloc (Below.refl _ _) _)).dev (fun rest h' => blow_HL h' hw2 _ 1 [1] (C_lit w16 3 [1] (by decide)))).mono ?_; rintro e w17 ⟨rfl, h8⟩; have H8 : Aside0 (HLR W w17 ([] ++ (d, (D.write 0 elder).2.blow [1]) :: [(g, D), (c, (D.write 0 elder).2.sync.2)]) r R []) := ⟨h8⟩; clear h8 H7))
                go_meet
                case rel => exact ⟨g, rfl, ⟨(show HLR W _ ([(g, D)] ++ (c, (D.write 0 elder).2.sync.2) :: []) r R [] from H8.out.forget).forget⟩⟩
            case rest =>
              obtain ⟨d', rfl, HC⟩ := hcut
              clear HO2 hw2
              have hi1 := fltI hk1
              have hi0 := fgeI k
              have y0 := reread HC.out.bel X0.out L1.out
              have y1 := reread HC.out.bel X1.out L1.out
              have y2 := reread HC.out.bel X2.out L1.out
              have y3 := reread HC.out.bel X3.out L1.out
              have hok : R.Ok := HS.out.ok hwl hzl
              have HDO := Aside0.mk (HC.out.dev (fun rest h' => do_HL h' hwl x B cb HCc.out (Kd.Heap.C (Kd.heap_int _) (fun k hk => HC.out.bel.block k hk) HCB.out)))
              have HACT := Aside0.mk (sim_act HS.out (kindOf x) x.2.1 (keepOf x) (dataOf x))
              have HDN := Aside0.mk (fun (w' : World) (h : HLR W w' ([] ++ (d', (doD D x).2) :: []) r R []) => h.ref (fun post' hp => done_R hp hok x B cb HCc.out (Kd.Heap.C (Kd.heap_int _) (fun k hk => h.bel.block k hk) HCB.out)))
              simp only [show (donD R x).1 = (doD D x).1 from HACT.out.1] at HDN
              have HS2 : Aside0 (Sim (doD D x).2 (donD R x).2) := ⟨HACT.out.2⟩
              have HZ2 : Aside0 ((doD D x).2.size ≤ 8) := ⟨by rw [show (doD D x).2.size = D.size from doK_size _ _ _ _ _]; exact hz⟩
              have HW2 : Aside0 ((doD D x).2.wait.length ≤ k + 1) := ⟨Nat.le_trans (doK_len _ _ _ _ _) (Nat.succ_le_succ hw)⟩
              have HK2 : Aside0 ((doD D x).2.keep.length ≤ 9) := ⟨doK_keep _ _ _ _ _ hkp (by unfold keepOf; rw [List.length_take]; omega)⟩
              have HSM := Aside0.mk (fun (w' : World) (h : HLR W w' ([] ++ (d', (doD D x).2) :: []) r (donD R x).2 []) => same_calls h HS2.out (fsmall hk2 1 _ HW2.out (by decide)) (Nat.le_trans HZ2.out (by decide)))
              clear HACT hok HS HC hwl hkl hzl
              generalize (doD D x).1.1 = sx at HDO HDN
              generalize (doD D x).1.2 = ex at HDO HDN
              generalize (doD D x).2 = D2 at HDO HDN HS2 HZ2 HW2 HK2 HSM
              generalize (donD R x).2 = R2 at HDN HS2 HSM
              clear hw hz hkp
              go_wp2_with (first
                | (go_at_call 20; refine HDO.out.mono ?_; rintro e w21 ⟨rfl, h1⟩; have H1 := Aside0.mk h1; clear h1 HDO; have y0 := reread H1.out.bel X0.out L1.out; have y1 := reread H1.out.bel X1.out L1.out; have y2 := reread H1.out.bel X2.out L1.out; have y3 := reread H1.out.bel X3.out L1.out)
                | (go_at_call 21; refine (HDN.out _ H1.out).mono ?_; rintro e w22 ⟨rfl, h2⟩; have H2 := Aside0.mk h2; clear h2 H1 HDN)
                | (go_at_call 22; refine (HSM.out _ H2.out).mono ?_; rintro e w23 ⟨rfl, h3⟩; have H3 := Aside0.mk h3; clear h3 H2 HSM))
              go_roundg (min 50 L.length - (k + 1))
              case measure => exact fmeas hlt hg
              case rel => exact ⟨k + 1, d', hlt, Nat.le_refl _, rfl, by first | rfl | rw [hw1], ⟨D2, R2, HS2.out, HZ2.out, HW2.out, HK2.out, H3.out⟩⟩
          · obtain rfl : k = min 50 L.length := Nat.le_antisymm hk (Nat.not_lt.mp hlt)
            by_cases h1 : min 50 L.length < L.length
            · have g2 : (50 : Int) ≤ ((min 50 L.length : Nat) : Int) := by omega
              generalize min 50 L.length = k at *
              clear hca hw hz hkp hg hk hlt
              go_wp2_with fail
              go_ret
              exact ⟨rfl, HO.out.bel⟩
            · generalize min 50 L.length = k at *
              clear hca hw hz hkp hg hk hlt
              go_wp2_with fail
              go_ret
              exact ⟨rfl, HO.out.bel⟩
end Go.Proofs.Ytjnbeijnlplclaa.Ownd
