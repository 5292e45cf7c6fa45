/- law03.DeviceFuses, walked: it says true. Condition: the acts and the keeps are read at the slices that are handed in. -/
import Derived.Test.YtjnbeijnlplclaaDFuseP
import Derived.Test.YtjnbeijnlplclaaWTab
namespace Go.Proofs.Ytjnbeijnlplclaa.Ownd
open Go.RowKit Go.Proofs.YtjnbeijnlplclaaW.PrintWords Go.Proofs.YtjnbeijnlplclaaW.PrintLast Go.Proofs.YtjnbeijnlplclaaW.PrintMore
set_option linter.unusedVariables false
set_option linter.unusedSimpArgs false
def fz_T : Bool × List (List Nat × List Nat) := (true, [([], []), ([], []), ([], []), ([1, 2], [1, 2]), ([3], [3]), ([4], [4]), ([5], [5]), ([], []), ([0, 6, 7], [0, 6, 7]), ([], []), ([], []), ([], []), ([10, 11], [10, 11]), ([12], [12]), ([13], [13]), ([14], [14]), ([], []), ([9, 15, 16, 8], [9, 15, 16]), ([8, 17, 0, 1, 2, 3, 4, 5, 6, 7, 8], [8]), ([17, 18, 0, 1, 2, 3, 4, 5, 6, 7, 8, 9, 10, 11, 12, 13, 14, 15, 16, 17, 18], [17])])
def fz_B : List Nat := [0, 0, 0, 6, 14, 30, 62, 0, 255, 0, 0, 0, 3072, 7168, 15360, 31744, 0, 131071, 262143, 524287]
theorem fz_tab : rtab .any (opsOf Try.f5 20) = fz_T := by kernel_rfl
theorem fz_bits : waitsOk fz_T.2 fz_B = true := by kernel_rfl
set_option maxHeartbeats 2000000 in
set_option maxRecDepth 100000 in
theorem kind_calls {W : World} (what at_ : Int) (dt : ByteArray) (B : Option Addr) (n c : Nat) : Calls Try.prog 17 #[.agg #[.int .i64 what, .int .i64 at_, .string dt, .slice B n c]] W fun ex W' => ex = .returned (.int .i64 ((wrap64 (what.tmod 9 + 9)).tmod 9)) ∧ Below W.heap.size W W' := by
  have hc : (W.alloc (.cells #[.int .i64 what, .int .i64 at_, .string dt, .slice B n c] 36)).cell? ⟨W.heap.size, 0, none⟩ = some (.int .i64 what) := (blk_cell (blk_new W _) 0).trans rfl
  go_enter Try.func17, Try.ntmps17
  go_wp2
  go_ret
  exact ⟨rfl, below_alloc (Below.refl _ _) _⟩
theorem reread {w1 : World} {W : World} {a : Addr} {v : Value} (h : Below W.heap.size W w1) (hv : W.cell? a = some v) (hl : a.block < W.heap.size) : w1.cell? a = some v := (h.cell hl).trans hv
theorem fmin (n : Nat) : min (n : Int) 256 = ((min n 256 : Nat) : Int) := by omega
theorem fle (n : Nat) : ((min n 256 : Nat) : Int) ≤ (n : Int) := by omega
theorem f9 (n : Nat) : min (n : Int) 9 = ((min n 9 : Nat) : Int) := by omega
theorem f9c {n c : Nat} (h : n ≤ c) : ((min n 9 : Nat) : Int) ≤ (c : Int) := by omega
theorem f9n {n c : Nat} (h : n ≤ c) : min n 9 ≤ c := by omega
theorem f9l (n : Nat) : ((min n 9 : Nat) : Int) ≤ (n : Int) := by omega
theorem fC_takes {W : World} {A : Option Addr} {xs : List Int} (h : Kd.C (Kd.int .i64) W A xs.length xs) : Kd.C (Kd.int .i64) W A (min xs.length 9) (xs.take (min xs.length 9)) := by
  obtain ⟨h1, h2, h3⟩ := h
  have hl : (xs.take (min xs.length 9)).length = min xs.length 9 := by rw [List.length_take]; omega
  refine ⟨hl, by omega, fun hp => ?_⟩
  obtain ⟨ad, e, h4⟩ := h3 (by omega)
  refine ⟨ad, e, fun j p hj => h4 j p ?_⟩
  rw [List.getElem?_take] at hj
  split at hj
  · exact hj
  · cases hj
theorem fbytes9 {q : Nat} (h : q ≤ 9) : (([] : List Int).length + q) * 8 ≤ 140737488355328 := by rw [List.length_nil]; omega
theorem fmod4n (n : Int) : ∃ m : Nat, n % 4 = (m : Int) ∧ m < 4 := ⟨(n % 4).toNat, by omega, by omega⟩
theorem f30 {k : Nat} (h : k < 30) : decide ((k : Int) < 30) = true := decide_eq_true (by omega)
theorem fw30 {k : Nat} (h : k < 30) : wrap64 ((k : Int) + 1) = ((k + 1 : Nat) : Int) := by unfold wrap64; omega
theorem fn30 {n : Nat} (h : min 30 n < n) : decide (((min 30 n : Nat) : Int) < 30) = false := decide_eq_false (by omega)
theorem fd4 {k : Nat} (h : k < 4) : decide ((k : Int) < 4) = true := decide_eq_true (by omega)
theorem fi4 {k : Nat} (h : k < 4) : (k : Int) < 4 := by omega
theorem fw4 {k : Nat} (h : k < 4) : wrap64 ((k : Int) + 1) = ((k + 1 : Nat) : Int) := by unfold wrap64; omega
theorem fz_start {m : Nat} (h1 : 1 ≤ m) (kp : List Int) : Rel m 0 kp ((Dev.new 4).setFuse (m : Int) kp) (Dev.new 4) := by
  have h : (Dev.new 4).setFuse (m : Int) kp = fzA (fun _ => none) [] ((m - 0 : Nat) : Int) kp 0 := by
    have : (if 1 < (m : Int) then (m : Int) else 1) = ((m - 0 : Nat) : Int) := by split <;> omega
    show ({ Dev.new 4 with fuse := if 1 < (m : Int) then (m : Int) else 1, keep := kp } : Dev) = _
    rw [this]; rfl
  rw [h]
  exact Rel.ahead _ [] 0 0 (by omega) (Nat.le_refl _)
set_option maxHeartbeats 8000000 in
set_option maxRecDepth 100000 in
theorem fuses_calls {W : World} (A : Option Addr) (ca : Nat) (L : List TA) (hA : Kd.C kTA W A L.length L) (hca : L.length ≤ ca) (n : Int) (K : Option Addr) (ck : Nat) (keep : List Int) (hK : Kd.C (Kd.int .i64) W K keep.length keep) (hck : keep.length ≤ ck) :
    Calls Try.prog 5 #[.slice A L.length ca, .int .i64 n, .slice K keep.length ck] W fun ex W' => ex = .returned (.bool true) ∧ Below W.heap.size W W' := by
  have HA := Aside0.mk hA
  have HK := Aside0.mk hK
  clear hA hK
  go_enter Try.func5, Try.ntmps5
  go_upto_region 6 with (first
    | (go_at_call 8; refine (speaks_calls W).mono ?_; rintro e w1 ⟨rfl, hb1⟩; have H0 := Aside0.mk (HL.start2 hb1); clear hb1)
    | (go_at_call 9; refine (new_HL H0.out 4 (by decide) (by decide)).mono ?_; rintro e w2 ⟨d, rfl, h1⟩; have H1 : Aside0 (HL W w2 ([] ++ (d, Dev.new 4) :: []) []) := ⟨h1⟩; clear h1 H0)
    | (go_at_call 15; refine (copy_HL H1.out (by decide) (by decide)).mono ?_; rintro e w8 ⟨c, rfl, h2⟩; have H8 : Aside0 (HL W w8 ([] ++ (d, Dev.new 4) :: [(c, Dev.new 4)]) []) := ⟨h2⟩; clear h2 H1))
  rw [and15]
  obtain ⟨m, hm1, hm16, hm⟩ := mod16 n
  rw [hm]
  clear hm
  have hk9 : min (keep.length : Int) 9 = ((min keep.length 9 : Nat) : Int) := f9 _
  have hk0 : (0 : Int) ≤ ((min keep.length 9 : Nat) : Int) := fgeI _
  have hk1 : ((min keep.length 9 : Nat) : Int) ≤ (ck : Int) := f9c hck
  have hk2 : ((min keep.length 9 : Nat) : Int) ≤ (keep.length : Int) := f9l _
  have hmx : min keep.length 9 ≤ ck := f9n hck
  have HK2 := Aside0.mk (fC_takes (Kd.Heap.C (Kd.heap_int _) (fun k hk => H8.out.bel.block k hk) HK.out))
  clear HK
  generalize hq : min keep.length 9 = q at hk9 hk0 hk1 hk2 hmx HK2
  have hq9 : q ≤ 9 := hq ▸ Nat.min_le_right _ _
  clear hq
  generalize keep.take q = kp at HK2
  have hkq : kp.length = q := HK2.out.1
  subst hkq
  have hR := Aside0.mk (Kd.F_alloc (Kd.C_F (Kd.heap_int _) HK2.out) (.cells #[] 3))
  go_upto_region 7 with (at_builtin; refine Kd.N_append_rows (Kd.int .i64) (w0 := w8) w8.heap.size rfl (.tmp 32) (.tmp 37) 34 3 (.int .i64 0) 8 rfl Try.underlying34 infoI rfl (by decide) (by decide) (.slice (some ⟨w8.heap.size, 0, none⟩) 0 0) [] kp K kp.length ck (fun k => w8.heap.size ≤ k ∨ k < w8.heap.size) (fun k => k < w8.heap.size) rfl rfl (N_empty (Kd.int .i64) 3 w8 (fun k => w8.heap.size ≤ k ∨ k < w8.heap.size) (Or.inl (Nat.le_refl _))) hR.out (fun k hk => ⟨Or.inr hk, fun he => by simp [Value.ownBlock] at he; omega⟩) (fun k hk => Or.inl (by simp at hk; omega)) (below_alloc (Below.refl _ _) _) (by simp) (fbytes9 hq9) ?_; intro v1 w9 hN1 hb1 hg1 hat1; have H9 := Aside0.mk (H8.out.row_new hb1 (N_flat flatI hN1 (fun k hk => Kd.N_base hN1 k hk))); obtain ⟨A1, c3, rfl, -, -⟩ := Kd.N_reads hN1; clear hN1 hb1 hg1 hat1 H8 hR HK2)
  rw [List.nil_append] at H9
  clear hk9 hk0 hk1 hk2 hmx hck
  have HRD := Aside0.mk (H9.out.reads 0 rfl)
  go_upto_block 0 with (go_at_call 16; refine (fuse_HL (l1 := []) (l2 := [(c, Dev.new 4)]) H9.out (m : Int) A1 c3 kp HRD.out.1 (Nat.le_trans hq9 (by decide)) HRD.out.2).mono ?_; rintro e w10 ⟨rfl, h10⟩; have H10 := Aside0.mk h10; clear h10 H9 HRD)
  have HS := Aside0.mk (fz_start hm1 kp)
  generalize (Dev.new 4).setFuse (m : Int) kp = D0 at H10 HS
  generalize Dev.new 4 = C0 at H10 HS
  go_cut [] (fun wx => Aside0 (∃ k D C, k ≤ 30 ∧ Rel m k kp D C ∧ HL W wx ([] ++ (d, D) :: [(c, C)]) [.row (Kd.int .i64) 3 (.slice A1 kp.length c3) kp]))
  case first =>
    go_wp2_with fail
    go_loopg [10, 11] (min 30 L.length) (fun gg s10 s11 wr => ∃ k : Nat, k ≤ min 30 L.length ∧ min 30 L.length - k ≤ gg ∧ s10 = .int .i64 k ∧ s11 = .int .i64 k ∧ Aside0 (∃ D C, Rel m k kp D C ∧ HL W wr ([] ++ (d, D) :: [(c, C)]) [.row (Kd.int .i64) 3 (.slice A1 kp.length c3) kp]))
    case atStart => exact ⟨0, Nat.zero_le _, Nat.le_refl _, rfl, rfl, ⟨D0, C0, HS.out, H10.out⟩⟩
    case round =>
      clear H10 HS
      obtain ⟨k, hk, hg, rfl, rfl, ⟨D, C, hR, hO⟩⟩ := hrel
      have HO := Aside0.mk hO
      have HR := Aside0.mk hR
      clear hO hR
      by_cases hlt : k < min 30 L.length
      · have hk1 : k < L.length := Nat.lt_of_lt_of_le hlt (Nat.min_le_right _ _)
        have hk2 : k < 30 := Nat.lt_of_lt_of_le hlt (Nat.min_le_left _ _)
        obtain ⟨ad, rfl, x0, x1, x2, B, cb, x3, -, -⟩ := at_TA HA.out k hk1 rfl
        have X0 := Aside0.mk x0
        have X1 := Aside0.mk x1
        have X2 := Aside0.mk x2
        have X3 := Aside0.mk x3
        have L1 := Aside0.mk (World.block_lt_of_cell? W _ x1)
        clear x0 x1 x2 x3
        generalize L[k].1 = what at X0
        generalize L[k].2.1 = at_ at X1
        generalize L[k].2.2.1 = dt at X2
        generalize L[k].2.2.2.length = nk at X3
        have d1 := fdlt hk1
        have d2 := f30 hk2
        have hw := fw30 hk2
        have hi1 := fltI hk1
        have hi0 := fgeI k
        have m1 := fmin dt.size
        have g1 := fgeI (min dt.size 256)
        have k1 := fle dt.size
        have y2 := reread HO.out.bel X2.out L1.out
        go_upto_region 12 with fail
        go_quiet (fail)
        have HO1 := Aside0.mk (HO.out.below (pw_below_drewN (Below.refl _ _) nq))
        have hdd := ext_size dt
        clear HO y2 hi1 hi0 m1 g1 k1 d1 d2
        generalize wr.drewN nq = wq at HO1 ⊢
        generalize dt.extract 0 (min dt.size 256) = dd at hdd
        have hi1 := fltI hk1
        have hi0 := fgeI k
        have y0 := reread HO1.out.bel X0.out L1.out
        have y1 := reread HO1.out.bel X1.out L1.out
        have y2 := reread HO1.out.bel X2.out L1.out
        have y3 := reread HO1.out.bel X3.out L1.out
        have hlen := HR.out.len
        have hD : D.wait.length ≤ 1000000 := Nat.le_trans hlen.1 (Nat.le_trans (Nat.le_of_lt hk2) (by decide))
        have hC : C.wait.length ≤ 1000000 := Nat.le_trans hlen.2 (Nat.le_trans (Nat.le_of_lt hk2) (by decide))
        clear hlen
        have hup := Try.underlying36
        go_upto_region 14 with (go_at_call 17; refine (kind_calls what at_ dt B nk cb).mono ?_; rintro e w11 ⟨rfl, hb11⟩; have HO2 := Aside0.mk (HO1.out.below hb11); clear hb11 HO1 y0 y1 y2 y3)
        generalize ((wrap64 (what.tmod 9 + 9)).tmod 9 == 4) = kb
        clear hi1 hi0 hup hca
        go_upto_if 76 with fail
        go_cut [] (fun wx => Aside0 (HL W wx ([] ++ (d, D) :: [(c, if k + 1 = m then C.blow kp else C)]) [.row (Kd.int .i64) 3 (.slice A1 kp.length c3) kp]))
        case first =>
          by_cases he : k + 1 = m
          · have hbe : (((k : Int) + 1) == (m : Int)) = true := by rw [beq_iff_eq]; omega
            have HRD := HO2.out.reads 0 rfl
            have HB := Aside0.mk (blow_HL (l1 := [(d, D)]) (l2 := []) HO2.out hC A1 c3 kp HRD.1)
            clear HRD
            go_wp2_with (go_at_call 12; refine HB.out.mono ?_; rintro e w12 ⟨rfl, h12⟩; have H12 := Aside0.mk h12; clear h12 HB)
            go_meet
            case rel => rw [if_pos he]; exact H12
          · have hbe : (((k : Int) + 1) == (m : Int)) = false := by rw [beq_eq_false_iff_ne]; omega
            go_wp2_with fail
            go_meet
            case rel => rw [if_neg he]; exact HO2
        case rest =>
          have HO3 := Aside0.mk hcut.out
          have ha := and3 at_
          obtain ⟨sn, hsn, hs4⟩ := fmod4n at_
          rw [hsn] at ha
          clear hsn
          have HSY := Aside0.mk (rel_step HR.out hm16 Doing.sync)
          have HSW := Aside0.mk (rel_step HR.out hm16 (Doing.write (sn : Int) dd (fgeI sn) (fi4 hs4) hdd))
          have hC1 : (if k + 1 = m then C.blow kp else C).wait.length ≤ 1000000 := by
            split
            · exact Nat.le_trans (Dev.blow_len _ _) hC
            · exact hC
          clear hcut HO2
          generalize (if k + 1 = m then C.blow kp else C) = C1 at HO3 HSY HSW hC1
          clear hC HR
          have hi1 := fltI hk1
          have hi0 := fgeI k
          go_upto_if 80 with fail
          go_cut [14, 15] (fun s14 s15 wx => ∃ e : Int, s14 = .int .i64 e ∧ s15 = .int .i64 e ∧ Aside0 (∃ D' C', D'.off = C'.off ∧ decide (m ≤ k + 1) = D'.off ∧ Rel m (k + 1) kp D' C' ∧ HL W wx ([] ++ (d, D') :: [(c, C')]) [.row (Kd.int .i64) 3 (.slice A1 kp.length c3) kp]))
          case first =>
            cases kb with
            | true =>
              clear HSW
              obtain ⟨q1, q2, q3, q4⟩ := HSY.out
              have HQ := Aside0.mk (And.intro q2 (And.intro q3 q4))
              have HA1 := Aside0.mk (sync_HL HO3.out hD)
              have HA2 := Aside0.mk (fun (w' : World) (h : HL W w' ([(d, D.sync.2)] ++ (c, C1) :: []) [.row (Kd.int .i64) 3 (.slice A1 kp.length c3) kp]) => sync_HL h hC1)
              simp only [← q1] at HA2
              clear HSY q1 q2 q3 q4
              generalize D.sync.1 = e0 at HA1 HA2
              clear hi1 hi0 ha
              go_wp2_with (first
                | (go_at_call 11; refine HA1.out.mono ?_; rintro e w13 ⟨rfl, h13⟩; have H13 := Aside0.mk h13; clear h13 HA1 HO3)
                | (go_at_call 11; refine (HA2.out _ H13.out).mono ?_; rintro e w14 ⟨rfl, h14⟩; have H14 := Aside0.mk h14; clear h14 HA2 H13))
              go_meet
              case rel => exact ⟨e0, rfl, rfl, ⟨_, _, HQ.out.1, HQ.out.2.1, HQ.out.2.2, H14.out⟩⟩
            | false =>
              clear HSY
              obtain ⟨q1, q2, q3, q4⟩ := HSW.out
              have HQ := Aside0.mk (And.intro q2 (And.intro q3 q4))
              have hC := hC1
              have HO := HO3
              have HE := Aside0.mk q1
              clear HSW q1 q2 q3 q4 HO3 hC1 hm1 hm16 hq9
              go_upto_region 20 with fail
              have HOd := Aside0.mk (HO.out.below (below_drew (Below.refl _ _)))
              clear HO
              have HO := HOd
              clear HOd
              refine start_ (n := 20) (S := fun w' => w'.cell? ⟨(ad.add (k * 4)).block, (ad.add (k * 4)).off + 1, none⟩ = some (.int .i64 at_) ∧ w'.cell? ⟨(ad.add (k * 4)).block, (ad.add (k * 4)).off + 1, none⟩ = some (.int .i64 at_)) (ds := []) #[false, false, false, false, false, false, false, false, false, false, false, false, false, false, false, false, false, false, false, false] (by kernel_rfl) rfl rfl ⟨reread HO.out.bel X1.out L1.out, reread HO.out.bel X1.out L1.out⟩ (fun hHeld => ?_)
              refine with_tabW fz_tab fz_bits (fun HT_ HW_ => ?_)
              generalize World.drew _ = W0 at HO hHeld ⊢
              refine pure_ (i := 0) (N := some 85) (v := ?_) (a' := ?_) #[true, false, false, false, false, false, false, false, false, false, false, false, false, false, false, false, false, false, false, false] rfl rfl (any_of HT_.out (by kernel_rfl)) (fun _ _ _ h => h) (Or.inl ⟨by rfl, ?_⟩) ?_ ?_
              rotate_left
              · intro w'
                go_simp
                with_reducible rfl
              rotate_left
              · simp only [Act.put, List.setIfInBounds_toArray, List.set_cons_zero, List.set_cons_succ, i64_w, i32_w]
                rfl
              refine pure_ (i := 1) (N := some 86) (v := ?_) (a' := ?_) #[true, true, false, false, false, false, false, false, false, false, false, false, false, false, false, false, false, false, false, false] rfl rfl (any_of HT_.out (by kernel_rfl)) (fun _ _ _ h => h) (Or.inl ⟨by rfl, ?_⟩) ?_ ?_
              rotate_left
              · intro w'
                go_simp
                with_reducible rfl
              rotate_left
              · simp only [Act.put, List.setIfInBounds_toArray, List.set_cons_zero, List.set_cons_succ, i64_w, i32_w]
                rfl
              refine pure_ (i := 2) (N := some 87) (v := ?_) (a' := ?_) #[true, true, true, false, false, false, false, false, false, false, false, false, false, false, false, false, false, false, false, false] rfl rfl (any_of HT_.out (by kernel_rfl)) (fun _ _ _ h => h) (Or.inl ⟨by rfl, ?_⟩) ?_ ?_
              rotate_left
              · intro w'
                go_simp
                with_reducible rfl
              rotate_left
              · simp only [Act.put, List.setIfInBounds_toArray, List.set_cons_zero, List.set_cons_succ, i64_w, i32_w]
                rfl
              refine pure_ (i := 3) (N := some 88) (v := ?_) (a' := ?_) #[true, true, true, true, false, false, false, false, false, false, false, false, false, false, false, false, false, false, false, false] rfl rfl (any_of HT_.out (by kernel_rfl)) (fun _ _ _ h => h) (Or.inl ⟨by rfl, ?_⟩) ?_ ?_
              rotate_left
              · intro w'
                go_simp
                with_reducible rfl
              rotate_left
              · simp only [Act.put, List.setIfInBounds_toArray, List.set_cons_zero, List.set_cons_succ, i64_w, i32_w]
                rfl
              refine pure_ (i := 4) (N := some 89) (v := ?_) (a' := ?_) #[true, true, true, true, true, false, false, false, false, false, false, false, false, false, false, false, false, false, false, false] rfl rfl (any_of HT_.out (by kernel_rfl)) (fun _ _ _ h => h) (Or.inl ⟨by rfl, ?_⟩) ?_ ?_
              rotate_left
              · intro w'
                go_simp
                with_reducible rfl
              rotate_left
              · simp only [Act.put, List.setIfInBounds_toArray, List.set_cons_zero, List.set_cons_succ, i64_w, i32_w]
                rfl
              refine take_ (i := 5) (N := some 90) (v := ?_) (a' := ?_) #[true, true, true, true, true, true, false, false, false, false, false, false, false, false, false, false, false, false, false, false] rfl rfl (take_ofW HT_.out HW_.out (by kernel_rfl)) (fun _ _ _ h => h) (Or.inl ⟨by rfl, ?_⟩) hHeld ?_ ?_
              rotate_left
              · rintro w' ⟨s0, s1⟩
                go_simp
                with_reducible rfl
              rotate_left
              · simp only [Act.put, List.setIfInBounds_toArray, List.set_cons_zero, List.set_cons_succ, i64_w, i32_w]
                rfl
              refine pure_ (i := 6) (N := some 91) (v := ?_) (a' := ?_) #[true, true, true, true, true, true, true, false, false, false, false, false, false, false, false, false, false, false, false, false] rfl rfl (any_of HT_.out (by kernel_rfl)) (fun _ _ _ h => h) (Or.inl ⟨by rfl, ?_⟩) ?_ ?_
              rotate_left
              · intro w'
                go_simp
                with_reducible rfl
              rotate_left
              · simp only [Act.put, List.setIfInBounds_toArray, List.set_cons_zero, List.set_cons_succ, i64_w, i32_w]
                rfl
              refine pure_ (i := 7) (N := some 92) (v := ?_) (a' := ?_) #[true, true, true, true, true, true, true, true, false, false, false, false, false, false, false, false, false, false, false, false] rfl rfl (any_of HT_.out (by kernel_rfl)) (fun _ _ _ h => h) (Or.inl ⟨by rfl, ?_⟩) ?_ ?_
              rotate_left
              · intro w'
                go_simp
                with_reducible rfl
              rotate_left
              · simp only [Act.put, List.setIfInBounds_toArray, List.set_cons_zero, List.set_cons_succ, i64_w, i32_w]
                rfl
              refine pure_ (i := 9) (N := some 94) (v := ?_) (a' := ?_) #[true, true, true, true, true, true, true, true, false, true, false, false, false, false, false, false, false, false, false, false] rfl rfl (any_of HT_.out (by kernel_rfl)) (fun _ _ _ h => h) (Or.inl ⟨by rfl, ?_⟩) ?_ ?_
              rotate_left
              · intro w'
                go_simp
                with_reducible rfl
              rotate_left
              · simp only [Act.put, List.setIfInBounds_toArray, List.set_cons_zero, List.set_cons_succ, i64_w, i32_w]
                rfl
              refine pure_ (i := 10) (N := some 95) (v := ?_) (a' := ?_) #[true, true, true, true, true, true, true, true, false, true, true, false, false, false, false, false, false, false, false, false] rfl rfl (any_of HT_.out (by kernel_rfl)) (fun _ _ _ h => h) (Or.inl ⟨by rfl, ?_⟩) ?_ ?_
              rotate_left
              · intro w'
                go_simp
                with_reducible rfl
              rotate_left
              · simp only [Act.put, List.setIfInBounds_toArray, List.set_cons_zero, List.set_cons_succ, i64_w, i32_w]
                rfl
              refine pure_ (i := 11) (N := some 96) (v := ?_) (a' := ?_) #[true, true, true, true, true, true, true, true, false, true, true, true, false, false, false, false, false, false, false, false] rfl rfl (any_of HT_.out (by kernel_rfl)) (fun _ _ _ h => h) (Or.inl ⟨by rfl, ?_⟩) ?_ ?_
              rotate_left
              · intro w'
                go_simp
                with_reducible rfl
              rotate_left
              · simp only [Act.put, List.setIfInBounds_toArray, List.set_cons_zero, List.set_cons_succ, i64_w, i32_w]
                rfl
              refine pure_ (i := 12) (N := some 97) (v := ?_) (a' := ?_) #[true, true, true, true, true, true, true, true, false, true, true, true, true, false, false, false, false, false, false, false] rfl rfl (any_of HT_.out (by kernel_rfl)) (fun _ _ _ h => h) (Or.inl ⟨by rfl, ?_⟩) ?_ ?_
              rotate_left
              · intro w'
                go_simp
                with_reducible rfl
              rotate_left
              · simp only [Act.put, List.setIfInBounds_toArray, List.set_cons_zero, List.set_cons_succ, i64_w, i32_w]
                rfl
              refine pure_ (i := 13) (N := some 98) (v := ?_) (a' := ?_) #[true, true, true, true, true, true, true, true, false, true, true, true, true, true, false, false, false, false, false, false] rfl rfl (any_of HT_.out (by kernel_rfl)) (fun _ _ _ h => h) (Or.inl ⟨by rfl, ?_⟩) ?_ ?_
              rotate_left
              · intro w'
                go_simp
                with_reducible rfl
              rotate_left
              · simp only [Act.put, List.setIfInBounds_toArray, List.set_cons_zero, List.set_cons_succ, i64_w, i32_w]
                rfl
              refine take_ (i := 14) (N := some 99) (v := ?_) (a' := ?_) #[true, true, true, true, true, true, true, true, false, true, true, true, true, true, true, false, false, false, false, false] rfl rfl (take_ofW HT_.out HW_.out (by kernel_rfl)) (fun _ _ _ h => h) (Or.inl ⟨by rfl, ?_⟩) hHeld ?_ ?_
              rotate_left
              · rintro w' ⟨s0, s1⟩
                go_simp
                with_reducible rfl
              rotate_left
              · simp only [Act.put, List.setIfInBounds_toArray, List.set_cons_zero, List.set_cons_succ, i64_w, i32_w]
                rfl
              refine pure_ (i := 15) (N := some 100) (v := ?_) (a' := ?_) #[true, true, true, true, true, true, true, true, false, true, true, true, true, true, true, true, false, false, false, false] rfl rfl (any_of HT_.out (by kernel_rfl)) (fun _ _ _ h => h) (Or.inl ⟨by rfl, ?_⟩) ?_ ?_
              rotate_left
              · intro w'
                go_simp
                with_reducible rfl
              rotate_left
              · simp only [Act.put, List.setIfInBounds_toArray, List.set_cons_zero, List.set_cons_succ, i64_w, i32_w]
                rfl
              refine pure_ (i := 16) (N := some 101) (v := ?_) (a' := ?_) #[true, true, true, true, true, true, true, true, false, true, true, true, true, true, true, true, true, false, false, false] rfl rfl (any_of HT_.out (by kernel_rfl)) (fun _ _ _ h => h) (Or.inl ⟨by rfl, ?_⟩) ?_ ?_
              rotate_left
              · intro w'
                go_simp
                with_reducible rfl
              rotate_left
              · simp only [Act.put, List.setIfInBounds_toArray, List.set_cons_zero, List.set_cons_succ, i64_w, i32_w]
                rfl
              refine one_ (i := 8) (N := some 93) #[true, true, true, true, true, true, true, true, true, true, true, true, true, true, true, true, true, false, false, false] rfl rfl (one_of HT_.out (by kernel_rfl)) (by decide) (fun K hK => ?_)
              refine goes_ Try.func10 (by kernel_rfl) rfl #[.pointer (some ⟨d, 0, none⟩), .int .i64 (sn : Int), .string dd] (by rfl) rfl rfl (by first | rfl | (simp [Act.eval]; done) | (go_simp; done) | decide) ?_
              refine (write_HL HO.out hD (sn : Int) dd).mono ?_
              rintro e wA ⟨rfl, h1⟩
              refine ⟨_, rfl, ?_⟩
              clear HO
              have HO : Aside0 (HL W wA ([(d, (D.write (sn : Int) dd).2)] ++ (c, C1) :: []) [.row (Kd.int .i64) 3 (.slice A1 kp.length c3) kp]) := ⟨h1⟩
              clear h1
              refine hK.out _ _ ⟨reread HO.out.bel X1.out L1.out, reread HO.out.bel X1.out L1.out⟩ (fun hHeld => ?_)
              clear hK K
              refine norm_ (a' := ?_) ?_ ?_
              rotate_left
              · show Act.put _ (some 93) _ = _
                simp only [Act.put, List.setIfInBounds_toArray, List.set_cons_zero, List.set_cons_succ, i64_w, i32_w]
                rfl
              refine one_ (i := 17) (N := some 102) #[true, true, true, true, true, true, true, true, true, true, true, true, true, true, true, true, true, true, false, false] rfl rfl (one_of HT_.out (by kernel_rfl)) (by decide) (fun K hK => ?_)
              refine goes_ Try.func10 (by kernel_rfl) rfl #[.pointer (some ⟨c, 0, none⟩), .int .i64 (sn : Int), .string dd] (by rfl) rfl rfl (by first | rfl | (simp [Act.eval]; done) | (go_simp; done) | decide) ?_
              refine (write_HL HO.out hC (sn : Int) dd).mono ?_
              rintro e wB ⟨rfl, h1⟩
              refine ⟨_, rfl, ?_⟩
              clear HO
              have HO : Aside0 (HL W wB ([] ++ (d, (D.write (sn : Int) dd).2) :: [(c, (C1.write (sn : Int) dd).2)]) [.row (Kd.int .i64) 3 (.slice A1 kp.length c3) kp]) := ⟨h1⟩
              clear h1
              refine hK.out _ _ ⟨reread HO.out.bel X1.out L1.out, reread HO.out.bel X1.out L1.out⟩ (fun hHeld => ?_)
              clear hK K
              refine norm_ (a' := ?_) ?_ ?_
              rotate_left
              · show Act.put _ (some 102) _ = _
                simp only [Act.put, List.setIfInBounds_toArray, List.set_cons_zero, List.set_cons_succ, i64_w, i32_w]
                rfl
              refine pure_ (i := 18) (N := some 14) (v := ?_) (a' := ?_) #[true, true, true, true, true, true, true, true, true, true, true, true, true, true, true, true, true, true, true, false] rfl rfl (any_of HT_.out (by kernel_rfl)) (fun _ _ _ h => h) (Or.inl ⟨by rfl, ?_⟩) ?_ ?_
              rotate_left
              · intro w'
                go_simp
                with_reducible rfl
              rotate_left
              · simp only [Act.put, List.setIfInBounds_toArray, List.set_cons_zero, List.set_cons_succ, i64_w, i32_w]
                rfl
              refine pure_ (i := 19) (N := some 15) (v := ?_) (a' := ?_) #[true, true, true, true, true, true, true, true, true, true, true, true, true, true, true, true, true, true, true, true] rfl rfl (any_of HT_.out (by kernel_rfl)) (fun _ _ _ h => h) (Or.inl ⟨by rfl, ?_⟩) ?_ ?_
              rotate_left
              · intro w'
                go_simp
                with_reducible rfl
              rotate_left
              · simp only [Act.put, List.setIfInBounds_toArray, List.set_cons_zero, List.set_cons_succ, i64_w, i32_w]
                rfl
              refine done_ (done_of HT_.out (by kernel_rfl)) ?_
              go_wp2_with fail
              go_meet
              case rel => exact ⟨_, rfl, by rw [HE.out], ⟨_, _, HQ.out.1, HQ.out.2.1, HQ.out.2.2, HO.out⟩⟩
          case rest =>
            obtain ⟨e0, rfl, rfl, ⟨D', C', q2, q3, q4, hO⟩⟩ := hcut
            have HO4 := Aside0.mk hO
            have HQ := Aside0.mk q4
            have HF1 := Aside0.mk (off_HL (l1 := []) HO4.out)
            have HF2 := Aside0.mk (off_HL (l1 := [(d, D')]) (l2 := []) HO4.out)
            rw [← q2] at HF2
            have hge : decide ((m : Int) ≤ (k : Int) + 1) = D'.off := by
              rw [← q3]
              by_cases hmk : m ≤ k + 1
              · rw [decide_eq_true hmk]; exact decide_eq_true (by omega)
              · rw [decide_eq_false hmk]; exact decide_eq_false (by omega)
            clear q2 q3 q4 hO HSY HSW HO3 hD hC1 hdd
            generalize D'.off = bo at HF1 HF2 hge
            clear hi1 hi0 ha hm1 hm16 hq9 hs4 hk1 hk2
            have HF3 := HF1
            go_upto_region 21 with fail
            go_cut [120] (fun s120 wx => s120 = .bool false ∧ wx = wc)
            case first =>
              cases bo with
              | true =>
                go_wp2_with (first
                  | (go_at_call 18; refine HF1.out.mono ?_; clear HF1; rintro e w15 ⟨rfl, hw15⟩; rw [hw15]; clear hw15)
                  | (go_at_call 18; refine HF2.out.mono ?_; clear HF2; rintro e w15 ⟨rfl, hw15⟩; rw [hw15]; clear hw15)
                  | (go_at_call 18; refine HF3.out.mono ?_; clear HF3; rintro e w15 ⟨rfl, hw15⟩; rw [hw15]; clear hw15))
                go_meet
                case rel => exact ⟨by first | rfl | simp, rfl⟩
              | false =>
                go_wp2_with (first
                  | (go_at_call 18; refine HF1.out.mono ?_; clear HF1; rintro e w15 ⟨rfl, hw15⟩; rw [hw15]; clear hw15)
                  | (go_at_call 18; refine HF2.out.mono ?_; clear HF2; rintro e w15 ⟨rfl, hw15⟩; rw [hw15]; clear hw15)
                  | (go_at_call 18; refine HF3.out.mono ?_; clear HF3; rintro e w15 ⟨rfl, hw15⟩; rw [hw15]; clear hw15))
                go_meet
                case rel => exact ⟨by first | rfl | simp, rfl⟩
            case rest =>
              obtain ⟨rfl, rfl⟩ := hcut
              clear HF1 HF2 HF3 hge
              go_wp2_with fail
              go_roundg (min 30 L.length - (k + 1))
              case measure => exact fmeas hlt hg
              case rel => exact ⟨k + 1, hlt, Nat.le_refl _, by first | rfl | rw [hw], by first | rfl | rw [hw], ⟨D', C', HQ.out, HO4.out⟩⟩
      · obtain rfl : k = min 30 L.length := Nat.le_antisymm hk (Nat.not_lt.mp hlt)
        have hle : min 30 L.length ≤ 30 := Nat.min_le_left _ _
        by_cases h1 : min 30 L.length < L.length
        · have d1 := fdlt h1
          have d2 : decide (((min 30 L.length : Nat) : Int) < 30) = false := fn30 h1
          generalize min 30 L.length = k at *
          clear hca hq9 hm1 hm16
          go_wp2_with fail
          go_meet
          case rel => exact ⟨⟨k, D, C, hle, HR.out, HO.out⟩⟩
        · have d1 : decide (((min 30 L.length : Nat) : Int) < (L.length : Int)) = false := fdno h1
          generalize min 30 L.length = k at *
          clear hca hq9 hm1 hm16
          go_wp2_with fail
          go_meet
          case rel => exact ⟨⟨k, D, C, hle, HR.out, HO.out⟩⟩
  case rest =>
    obtain ⟨k, D, C, hk, hR, hO⟩ := hcut.out
    have HO := Aside0.mk hO
    have hlen := hR.len
    have hl1 : D.on.wait.length ≤ 1000000 := Nat.le_trans hlen.1 (Nat.le_trans hk (by decide))
    have hl2 : C.on.wait.length ≤ 1000000 := Nat.le_trans hlen.2 (Nat.le_trans hk (by decide))
    have HRD := Aside0.mk (rel_read hR)
    clear hO hcut hR hlen H10 HS HA
    go_upto_block 2 with (first
      | (go_at_call 13; refine (on_HL HO.out).mono ?_; rintro e w11 ⟨rfl, h11⟩; have H11 : Aside0 (HL W w11 ([(d, D.on)] ++ (c, C) :: []) _) := ⟨h11⟩; clear h11 HO)
      | (go_at_call 13; refine (on_HL H11.out).mono ?_; rintro e w12 ⟨rfl, h12⟩; have H12 : Aside0 (HL W w12 ([] ++ (d, D.on) :: [(c, C.on)]) _) := ⟨h12⟩; clear h12 H11))
    generalize D.on = X at H12 HRD hl1
    generalize C.on = Y at H12 HRD hl2
    go_wp2_with fail
    go_loopg [16] 4 (fun gg s11 wr => ∃ k : Nat, k ≤ 4 ∧ 4 - k ≤ gg ∧ s11 = .int .i64 k ∧ Aside0 (HL W wr ([] ++ (d, X) :: [(c, Y)]) [.row (Kd.int .i64) 3 (.slice A1 kp.length c3) kp]))
    case atStart => exact ⟨0, Nat.zero_le _, Nat.le_refl _, rfl, H12⟩
    case round =>
      clear H12
      obtain ⟨k, hk, hg, rfl, HO⟩ := hrel
      by_cases hlt : k < 4
      · have d1 := fd4 hlt
        have hw := fw4 hlt
        have hr := HRD.out (k : Int)
        have HR1 := Aside0.mk (read_HL HO.out hl1 (k : Int))
        have HR2 := Aside0.mk (fun (w' : World) (h : HL W w' ([(d, X)] ++ (c, Y) :: []) [.row (Kd.int .i64) 3 (.slice A1 kp.length c3) kp]) => read_HL h hl2 (k : Int))
        simp only [← hr] at HR2
        generalize (X.read (k : Int)).1 = s at HR1 HR2 hr
        clear hr
        generalize (X.read (k : Int)).2 = e1 at HR1
        generalize (Y.read (k : Int)).2 = e2 at HR2
        go_wp2_with (first
          | (go_at_call 14; refine HR1.out.mono ?_; rintro e w13 ⟨rfl, h13⟩; have H13 : Aside0 (HL W w13 ([(d, X)] ++ (c, Y) :: []) _) := ⟨h13⟩; clear h13 HR1)
          | (go_at_call 14; refine (HR2.out _ H13.out).mono ?_; rintro e w14 ⟨rfl, h14⟩; have H14 : Aside0 (HL W w14 ([] ++ (d, X) :: [(c, Y)]) _) := ⟨h14⟩; clear h14 HR2 H13))
        go_roundg (4 - (k + 1))
        case measure => exact fmeas hlt hg
        case rel => exact ⟨k + 1, hlt, Nat.le_refl _, by first | rfl | rw [hw], H14⟩
      · obtain rfl : k = 4 := Nat.le_antisymm hk (Nat.not_lt.mp hlt)
        go_wp2
        go_ret
        exact ⟨rfl, HO.out.bel⟩
end Go.Proofs.Ytjnbeijnlplclaa.Ownd
