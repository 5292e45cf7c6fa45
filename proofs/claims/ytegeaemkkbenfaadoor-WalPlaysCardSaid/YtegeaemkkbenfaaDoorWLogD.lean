/- A log's Switch. Conditions: as write's. -/
import Derived.Test.YtegeaemkkbenfaaDoorWLogC
namespace Go.Proofs.YtegeaemkkbenfaaDoor.Ownd
open Go.RowKit Go.Proofs.YtegeaemkkbenfaaDoorW.PrintWords Go.Proofs.YtegeaemkkbenfaaDoorW.PrintLast Go.Proofs.YtegeaemkkbenfaaDoorW.PrintMore
set_option linter.unusedVariables false
set_option linter.unusedSimpArgs false
def sw_T : Bool × List (List Nat × List Nat) := (true, [([], []), ([0], [0]), ([1], [1]), ([2], [2]), ([3], [3]), ([], []), ([5], [5]), ([6], [6]), ([7], [7]), ([8], [8]), ([], []), ([10], [10]), ([11], [11]), ([12], [12]), ([13], [13]), ([9, 14], [9, 14]), ([], []), ([16], [16]), ([17], [17]), ([18], [18]), ([], []), ([19, 20], [19, 20]), ([4, 15, 21, 21], [4, 15, 21]), ([22, 22, 0, 1, 2, 3, 4, 5, 6, 7, 8, 9, 10, 11, 12, 13, 14, 15, 16, 17, 18, 19, 20, 21, 22], [22])])
def sw_B : List Nat := [0, 1, 3, 7, 15, 0, 32, 96, 224, 480, 0, 1024, 3072, 7168, 15360, 32736, 0, 65536, 196608, 458752, 0, 2031616, 4194303, 8388607]
theorem sw_tab : rtab .any (opsOf Tryd.f12 13) = sw_T := by kernel_rfl
theorem sw_bits : waitsOk sw_T.2 sw_B = true := by kernel_rfl
variable {w W : World} {l1 l2 : List (Nat × Dev)} {rest : List Thing} {g d : Nat} {T : TD} {L : LG}
/-- What Switch does to the device: the pieces, the master, Sync. -/
def swX (at_ half : Int) (b : ByteArray) (e wh : Int) (T : TD) : Int × TD := TD.wr at_ half b e wh 0 (secs b.size) T
def swY (at_ e wh : Int) (x : Int × TD) : Int × TD := if x.1 = 0 then x.2.write (at_ + e % 2) (.m e wh) else x
def swZ (y : Int × TD) : Int × TD := if y.1 = 0 then y.2.sync else y
def LG.sw (L : LG) (T : TD) (s : ByteArray) : Int × TD := swZ (swY L.at_ (L.greatest + 1) (1 - L.which) (swX L.at_ L.half (textB s) (L.greatest + 1) (1 - L.which) T))
def LG.sw1 (L : LG) (s : ByteArray) : LG := { L with greatest := L.greatest + 1, bytes := textB s }
def LG.sw2 (L : LG) (lsn : Int) (s : ByteArray) : LG := { L with greatest := L.greatest + 1, bytes := textB s, epoch := L.greatest + 1, which := 1 - L.which, awaits := false, lasting := (textB s).size, last := lsn, flushed := lsn }
def LG.switch (L : LG) (T : TD) (lsn : Int) (s : ByteArray) : Int × LG × TD :=
  if readyE L T false ≠ 0 then (readyE L T false, L, T) else if s.size = 0 ∨ 16384 < s.size then (6, L, T) else if (L.half : Int) * 242 < s.size + 2 then (9, L, T) else
    if (L.sw T s).1 = 0 then (0, L.sw2 lsn s, (L.sw T s).2) else ((L.sw T s).1, (L.sw1 s).failed (L.sw T s).1, (L.sw T s).2)
theorem wr_len (at_ half : Int) (b : ByteArray) (e wh : Int) : ∀ (r i : Nat) (T : TD), (TD.wr at_ half b e wh i r T).2.wait.length ≤ T.wait.length + r
  | 0, i, T => T.sync_len
  | r + 1, i, T => by
    unfold TD.wr
    have h := T.write_len (at_ + 2 + wh * half + i) (.p e i (partB b i))
    split
    · refine Nat.le_trans (wr_len at_ half b e wh r _ _) ?_
      omega
    · omega
theorem textB_size (s : ByteArray) : (textB s).size = s.size + 2 := by
  unfold textB
  rw [ByteArray.size_append, put2_size]; omega
theorem sw_n {z h : Nat} (hz : z + 2 ≤ h * 242) (hh : h ≤ 512) : secs (z + 2) ≤ 512 := by unfold secs; omega
theorem sw_l {l n k : Nat} (h : l ≤ k + n) (hn : n ≤ 512) (hk : k ≤ 100000) : l ≤ 1000000 := by omega
theorem sw_l1 {l k : Nat} (h : l ≤ k + 1) (hk : k ≤ 100000 + 512) : l ≤ 1000000 := by omega
theorem sw_l2 {l n k : Nat} (h : l ≤ k + n) (hn : n ≤ 512) (hk : k ≤ 100000) : l ≤ 100000 + 512 := by omega
theorem sw_rem {e : Int} (h : 0 ≤ e) : Int.tmod e 2 = e % 2 := Int.tmod_eq_emod_of_nonneg h
theorem sw_sec {a e : Int} (h : 0 ≤ a ∧ a ≤ 5000) : IntKind.i64.wrap (a + e % 2) = a + e % 2 := by rw [IntKind.wrap_i64]; omega
theorem sw_rw {e : Int} : IntKind.i64.wrap (e % 2) = e % 2 := by rw [IntKind.wrap_i64]; omega
theorem sw_sec2 {a e : Int} (h : 0 ≤ a ∧ a ≤ 5000) : wrap64 (a + e % 2) = a + e % 2 := by unfold wrap64; omega
theorem sw_rw2 {e : Int} : wrap64 (e % 2) = e % 2 := by unfold wrap64; omega
theorem sw_w1 {e : Int} (h : 0 ≤ e ∧ e < 281474976710655) : wrap64 (e + 1) = e + 1 := by unfold wrap64; omega
theorem sw_w2 {h : Int} (hh : 0 ≤ h ∧ h ≤ 1) : wrap64 (1 - h) = 1 - h := by unfold wrap64; omega
theorem sw_w3 {z : Nat} (h : z ≤ 16384) : wrap64 ((z : Int) + 2) = (z : Int) + 2 := by unfold wrap64; omega
theorem sw_w4 {h : Nat} (hh : h ≤ 512) : wrap64 ((h : Int) * 242) = (h : Int) * 242 := by unfold wrap64; omega
set_option maxHeartbeats 8000000 in
set_option maxRecDepth 100000 in
theorem switch_calls (h : HL w W (l1 ++ (d, T.dev) :: l2) (LT g d L :: rest)) (lsn : Int) (s : ByteArray) (he : 0 ≤ L.greatest ∧ L.greatest < 281474976710655) (hwh : 0 ≤ L.which ∧ L.which ≤ 1) (hat : 0 ≤ L.at_ ∧ L.at_ ≤ 5000) (hh : L.half ≤ 512) (hl : T.wait.length ≤ 100000) (hs : s.size ≤ 1000000) (hT : Tab w) :
    Calls Tryd.prog 12 #[.pointer (some ⟨g, 0, none⟩), .int .i64 lsn, .string s] W fun ex W' => ex = .returned (.int .i64 (L.switch T lsn s).1) ∧ HL w W' (l1 ++ (d, (L.switch T lsn s).2.2.dev) :: l2) (LT g d (L.switch T lsn s).2.1 :: rest) := by
  have HR := Aside0.mk (ready_calls h false)
  have H := Aside0.mk h
  have HT := Aside0.mk hT
  unfold LG.switch
  clear h hT
  by_cases hr : readyE L T false = 0
  · rw [if_neg (by simpa using hr)]
    rw [hr] at HR
    clear hr
    by_cases hz : s.size = 0
    · rw [if_pos (Or.inl hz)]
      obtain rfl : s = ⟨#[]⟩ := b_ext (List.eq_nil_of_length_eq_zero (by rw [b_len]; exact hz))
      go_enter Tryd.func12, Tryd.ntmps12
      go_wp2_with (go_at_call 34; refine HR.out.mono ?_; rintro e w1 ⟨rfl, h1⟩; rw [h1]; clear h1)
      go_ret
      exact ⟨rfl, H.out⟩
    · have hne := ne_nil_of hz
      by_cases hbig : 16384 < s.size
      · rw [if_pos (Or.inr hbig)]
        have hb2 : (16384 : Int) < (s.size : Int) := by omega
        go_enter Tryd.func12, Tryd.ntmps12
        go_wp2_with (go_at_call 34; refine HR.out.mono ?_; rintro e w1 ⟨rfl, h1⟩; rw [h1]; clear h1)
        go_ret
        exact ⟨rfl, H.out⟩
      · rw [if_neg (fun hc => hc.elim hz hbig)]
        have hb2 : ¬ ((16384 : Int) < (s.size : Int)) := by omega
        have v3 := sw_w3 (Nat.le_of_not_lt hbig)
        have v4 := sw_w4 hh
        have c2 : W.cell? ⟨g, 2, none⟩ = some (.int .i64 L.half) := H.out.cell 0 rfl 2
        by_cases hrm : (L.half : Int) * 242 < s.size + 2
        · rw [if_pos hrm]
          go_enter Tryd.func12, Tryd.ntmps12
          go_wp2_with (go_at_call 34; refine HR.out.mono ?_; rintro e w1 ⟨rfl, h1⟩; rw [h1]; clear h1)
          go_ret
          exact ⟨rfl, H.out⟩
        · rw [if_neg hrm]
          have hfit : s.size + 2 ≤ L.half * 242 := by omega
          have hn := sw_n hfit hh
          have HP := Aside0.mk (fun w => put2_calls (s.size : Int) (by omega) (by omega) w)
          have sl := put2_size (s.size : Int)
          have htz := textB_size s
          have htd : textB s = put2 s.size ++ s := rfl
          obtain ⟨ge, hge⟩ : ∃ e, L.greatest + 1 = e := ⟨_, rfl⟩
          obtain ⟨wh, hwe⟩ : ∃ e, 1 - L.which = e := ⟨_, rfl⟩
          have hge2 : 0 ≤ ge ∧ ge < 281474976710656 := by omega
          have hwh2 : 0 ≤ wh ∧ wh ≤ 1 := by omega
          have HS1 : Aside0 (L.sw1 s = { L with greatest := ge, bytes := textB s }) := ⟨by unfold LG.sw1; rw [hge]⟩
          have HS2 : Aside0 (L.sw2 lsn s = { L with greatest := ge, bytes := textB s, epoch := ge, which := wh, awaits := false, lasting := (textB s).size, last := lsn, flushed := lsn }) := ⟨by unfold LG.sw2; rw [hge, hwe]⟩
          have HWR := Aside0.mk (fun (W' : World) (h' : HL w W' (l1 ++ (d, T.dev) :: l2) (LT g d { L with greatest := ge, bytes := textB s } :: rest)) => write_calls (L := { L with greatest := ge, bytes := textB s }) h' ge wh 0 hge2 hwh2 hat hh (by show (textB s).size ≤ _; rw [htz]; exact hfit) (Nat.zero_le _) hl HT.out)
          replace HWR : Aside0 (∀ (W' : World) (h' : HL w W' (l1 ++ (d, T.dev) :: l2) (LT g d { L with greatest := ge, bytes := textB s } :: rest)), Calls Tryd.prog 36 #[.pointer (some ⟨g, 0, none⟩), .int .i64 ge, .int .i64 wh, .int .i64 0] W' fun ex W'' => ex = .returned (.int .i64 (swX L.at_ L.half (textB s) ge wh T).1) ∧ HL w W'' (l1 ++ (d, (swX L.at_ L.half (textB s) ge wh T).2.dev) :: l2) (LT g d { L with greatest := ge, bytes := textB s } :: rest)) := HWR
          have HXL : Aside0 ((swX L.at_ L.half (textB s) ge wh T).2.wait.length ≤ 100000 + 512) := ⟨sw_l2 (wr_len _ _ _ _ _ _ _ _) (by rw [htz]; exact hn) hl⟩
          have HSW : Aside0 (L.sw T s = swZ (swY L.at_ ge wh (swX L.at_ L.half (textB s) ge wh T))) := ⟨by unfold LG.sw; rw [hge, hwe]⟩
          have v1 : wrap64 (L.greatest + 1) = ge := (sw_w1 he).trans hge
          have v2 : wrap64 (1 - L.which) = wh := (sw_w2 hwh).trans hwe
          obtain ⟨z, hzz⟩ : ∃ z, swZ (swY L.at_ ge wh (swX L.at_ L.half (textB s) ge wh T)) = z := ⟨_, rfl⟩
          rw [show L.sw T s = z from HSW.out.trans hzz]
          obtain ⟨res, hres⟩ : ∃ r, (if z.1 = 0 then ((0 : Int), L.sw2 lsn s, z.2) else (z.1, (L.sw1 s).failed z.1, z.2)) = r := ⟨_, rfl⟩
          rw [hres]
          have HRES := Aside0.mk hres
          replace HSW := Aside0.mk hzz
          clear hres hzz
          generalize swX L.at_ L.half (textB s) ge wh T = x at HWR HXL HSW
          generalize put2 (s.size : Int) = p at HP sl htd
          have HTD := Aside0.mk htd
          have k1 : p.size + s.size < 4611686018427387904 := by omega
          clear htd
          have c5 : W.cell? ⟨g, 5, none⟩ = some (.int .i64 L.greatest) := H.out.cell 0 rfl 5
          have f5 : W.frozen? ⟨g, 5, none⟩ = false := H.out.frozen 0 rfl 5
          go_enter Tryd.func12, Tryd.ntmps12
          go_upto_region 9 with (go_at_call 34; refine HR.out.mono ?_; rintro e w1 ⟨rfl, h1⟩; rw [h1]; clear h1)
          have H1 : Aside0 (HL w (W.setCell ⟨g, 5, none⟩ (.int .i64 ge)) (l1 ++ (d, T.dev) :: l2) (LT g d { L with greatest := ge } :: rest)) := ⟨H.out.store 0 rfl 5 (.int .i64 ge) rfl⟩
          generalize W.setCell ⟨g, 5, none⟩ (.int .i64 ge) = w2 at H1 ⊢
          clear c5 f5 c2 HR H v1 v3 v4 hrm hb2
          go_upto_region 10 with (go_at_call 35; refine (HP.out _).mono ?_; rintro e w3 ⟨rfl, h3⟩; have H3 := Aside0.mk (H1.out.below h3); clear h3; have c6 : w3.cell? ⟨g, 6, none⟩ = some (.string L.bytes) := H3.out.cell 0 rfl 6; have f6 : w3.frozen? ⟨g, 6, none⟩ = false := H3.out.frozen 0 rfl 6)
          have HO : Aside0 (HL w (w3.setCell ⟨g, 6, none⟩ (.string (p ++ s))) (l1 ++ (d, T.dev) :: l2) (LT g d { L with greatest := ge, bytes := textB s } :: rest)) := ⟨by rw [HTD.out]; exact H3.out.store 0 rfl 6 (.string (p ++ s)) rfl⟩
          generalize w3.setCell ⟨g, 6, none⟩ (.string (p ++ s)) = w4 at HO ⊢
          clear c6 f6 H3 H1 HP HTD k1 sl
          have c4 : w4.cell? ⟨g, 4, none⟩ = some (.int .i64 L.which) := HO.out.cell 0 rfl 4
          have c5 : w4.cell? ⟨g, 5, none⟩ = some (.int .i64 ge) := HO.out.cell 0 rfl 5
          go_upto_if 62 with (go_at_call 36; refine (HWR.out _ HO.out).mono ?_; rintro e w5 ⟨rfl, h5⟩; have HO1 := Aside0.mk h5; clear h5)
          clear c4 c5 HO HWR v2
          obtain ⟨x1, x2⟩ := x
          dsimp only at HO1 HXL
          obtain ⟨y, hy⟩ : ∃ y, swY L.at_ ge wh (x1, x2) = y := ⟨_, rfl⟩
          rw [hy] at HSW
          have HYE := Aside0.mk hy
          have HYL : Aside0 (y.2.wait.length ≤ 1000000) := ⟨by
            rw [← hy]; unfold swY
            split
            · exact sw_l1 (TD.write_len _ _ _) HXL.out
            · exact Nat.le_trans HXL.out (by decide)⟩
          clear hy
          go_cut [9] (fun s9 wx => s9 = .int .i64 y.1 ∧ Aside0 (HL w wx (l1 ++ (d, y.2.dev) :: l2) (LT g d { L with greatest := ge, bytes := textB s } :: rest)))
          case first =>
            by_cases hx : x1 = 0
            · subst hx
              have hyy : y = x2.write (L.at_ + ge % 2) (.m ge wh) := HYE.out.symm.trans (if_pos rfl)
              have HMS := Aside0.mk (fun W' hT' => master_calls (W := W') ge wh hge2.1 hge2.2 hwh2.1 (by omega) hT')
              have HWT := Aside0.mk (fun (W' : World) (h' : HL w W' (l1 ++ (d, x2.dev) :: l2) (LT g d { L with greatest := ge, bytes := textB s } :: rest)) => twrite_HL h' (Nat.le_trans HXL.out (by decide)) (L.at_ + ge % 2) (.m ge wh) (masterB ge wh) (by rw [masterB_size]; decide) (master_pad ge wh))
              rw [← hyy] at HWT
              clear hyy
              have hrem := sw_rem hge2.1
              have hrw := @sw_rw ge
              have hsec := sw_sec (e := ge) hat
              have hrw2 := @sw_rw2 ge
              have hsec2 := sw_sec2 (e := ge) hat
              generalize masterB ge wh = mb at HMS HWT
              generalize ge % 2 = rm at hrem hrw hsec hrw2 hsec2 HWT
              obtain ⟨sc, hsc⟩ : ∃ sc, L.at_ + rm = sc := ⟨_, rfl⟩
              rw [hsc] at HWT
              replace hsec2 : wrap64 (L.at_ + rm) = sc := hsec2.trans hsc
              replace hsec : IntKind.i64.wrap (L.at_ + rm) = sc := hsec.trans hsc
              clear hsc
              have HO := HO1
              clear HO1
              go_upto_region 13 with fail
              have HOd := Aside0.mk (HO.out.below (below_drew (Below.refl _ _)))
              clear HO
              have HO := HOd
              clear HOd
              refine start_ (n := 24) (S := fun w' => w'.cell? ⟨g, 0, none⟩ = some (.pointer (some ⟨d, 0, none⟩)) ∧ w'.cell? ⟨g, 1, none⟩ = some (.int .i64 L.at_) ∧ w'.cell? ⟨g, 5, none⟩ = some (.int .i64 ge)) (ds := []) #[false, false, false, false, false, false, false, false, false, false, false, false, false, false, false, false, false, false, false, false, false, false, false, false] (by kernel_rfl) rfl rfl ⟨(HO.out.cell 0 rfl 0).trans rfl, (HO.out.cell 0 rfl 1).trans rfl, (HO.out.cell 0 rfl 5).trans rfl⟩ (fun hHeld => ?_)
              refine with_tabW sw_tab sw_bits (fun HT_ HW_ => ?_)
              generalize World.drew _ = W0 at HO hHeld ⊢
              refine pure_ (i := 0) (N := some 63) (v := ?_) (a' := ?_) #[true, false, false, false, false, false, false, false, false, false, false, false, false, false, false, false, false, false, false, false, false, false, false, false] rfl rfl (any_of HT_.out (by kernel_rfl)) (fun _ _ _ h => h) (Or.inl ⟨by rfl, ?_⟩) ?_ ?_
              rotate_left
              · intro w'
                go_simp
                with_reducible rfl
              rotate_left
              · simp only [Act.put, List.setIfInBounds_toArray, List.set_cons_zero, List.set_cons_succ, i64_w, i32_w]
                rfl
              refine pure_ (i := 1) (N := some 64) (v := ?_) (a' := ?_) #[true, true, false, false, false, false, false, false, false, false, false, false, false, false, false, false, false, false, false, false, false, false, false, false] rfl rfl (any_of HT_.out (by kernel_rfl)) (fun _ _ _ h => h) (Or.inl ⟨by rfl, ?_⟩) ?_ ?_
              rotate_left
              · intro w'
                go_simp
                with_reducible rfl
              rotate_left
              · simp only [Act.put, List.setIfInBounds_toArray, List.set_cons_zero, List.set_cons_succ, i64_w, i32_w]
                rfl
              refine pure_ (i := 2) (N := some 65) (v := ?_) (a' := ?_) #[true, true, true, false, false, false, false, false, false, false, false, false, false, false, false, false, false, false, false, false, false, false, false, false] rfl rfl (any_of HT_.out (by kernel_rfl)) (fun _ _ _ h => h) (Or.inl ⟨by rfl, ?_⟩) ?_ ?_
              rotate_left
              · intro w'
                go_simp
                with_reducible rfl
              rotate_left
              · simp only [Act.put, List.setIfInBounds_toArray, List.set_cons_zero, List.set_cons_succ, i64_w, i32_w]
                rfl
              refine pure_ (i := 3) (N := some 66) (v := ?_) (a' := ?_) #[true, true, true, true, false, false, false, false, false, false, false, false, false, false, false, false, false, false, false, false, false, false, false, false] rfl rfl (any_of HT_.out (by kernel_rfl)) (fun _ _ _ h => h) (Or.inl ⟨by rfl, ?_⟩) ?_ ?_
              rotate_left
              · intro w'
                go_simp
                with_reducible rfl
              rotate_left
              · simp only [Act.put, List.setIfInBounds_toArray, List.set_cons_zero, List.set_cons_succ, i64_w, i32_w]
                rfl
              refine take_ (i := 4) (N := some 67) (v := ?_) (a' := ?_) #[true, true, true, true, true, false, false, false, false, false, false, false, false, false, false, false, false, false, false, false, false, false, false, false] rfl rfl (take_ofW HT_.out HW_.out (by kernel_rfl)) (fun _ _ _ h => h) (Or.inl ⟨by rfl, ?_⟩) hHeld ?_ ?_
              rotate_left
              · rintro w' ⟨s0, s1, s2⟩
                go_simp
                with_reducible rfl
              rotate_left
              · simp only [Act.put, List.setIfInBounds_toArray, List.set_cons_zero, List.set_cons_succ, i64_w, i32_w]
                rfl
              refine pure_ (i := 5) (N := some 68) (v := ?_) (a' := ?_) #[true, true, true, true, true, true, false, false, false, false, false, false, false, false, false, false, false, false, false, false, false, false, false, false] rfl rfl (any_of HT_.out (by kernel_rfl)) (fun _ _ _ h => h) (Or.inl ⟨by rfl, ?_⟩) ?_ ?_
              rotate_left
              · intro w'
                go_simp
                with_reducible rfl
              rotate_left
              · simp only [Act.put, List.setIfInBounds_toArray, List.set_cons_zero, List.set_cons_succ, i64_w, i32_w]
                rfl
              refine pure_ (i := 6) (N := some 69) (v := ?_) (a' := ?_) #[true, true, true, true, true, true, true, false, false, false, false, false, false, false, false, false, false, false, false, false, false, false, false, false] rfl rfl (any_of HT_.out (by kernel_rfl)) (fun _ _ _ h => h) (Or.inl ⟨by rfl, ?_⟩) ?_ ?_
              rotate_left
              · intro w'
                go_simp
                with_reducible rfl
              rotate_left
              · simp only [Act.put, List.setIfInBounds_toArray, List.set_cons_zero, List.set_cons_succ, i64_w, i32_w]
                rfl
              refine pure_ (i := 7) (N := some 70) (v := ?_) (a' := ?_) #[true, true, true, true, true, true, true, true, false, false, false, false, false, false, false, false, false, false, false, false, false, false, false, false] rfl rfl (any_of HT_.out (by kernel_rfl)) (fun _ _ _ h => h) (Or.inl ⟨by rfl, ?_⟩) ?_ ?_
              rotate_left
              · intro w'
                go_simp
                with_reducible rfl
              rotate_left
              · simp only [Act.put, List.setIfInBounds_toArray, List.set_cons_zero, List.set_cons_succ, i64_w, i32_w]
                rfl
              refine pure_ (i := 8) (N := some 71) (v := ?_) (a' := ?_) #[true, true, true, true, true, true, true, true, true, false, false, false, false, false, false, false, false, false, false, false, false, false, false, false] rfl rfl (any_of HT_.out (by kernel_rfl)) (fun _ _ _ h => h) (Or.inl ⟨by rfl, ?_⟩) ?_ ?_
              rotate_left
              · intro w'
                go_simp
                with_reducible rfl
              rotate_left
              · simp only [Act.put, List.setIfInBounds_toArray, List.set_cons_zero, List.set_cons_succ, i64_w, i32_w]
                rfl
              refine take_ (i := 9) (N := some 72) (v := ?_) (a' := ?_) #[true, true, true, true, true, true, true, true, true, true, false, false, false, false, false, false, false, false, false, false, false, false, false, false] rfl rfl (take_ofW HT_.out HW_.out (by kernel_rfl)) (fun _ _ _ h => h) (Or.inl ⟨by rfl, ?_⟩) hHeld ?_ ?_
              rotate_left
              · rintro w' ⟨s0, s1, s2⟩
                go_simp
                with_reducible rfl
              rotate_left
              · simp only [Act.put, List.setIfInBounds_toArray, List.set_cons_zero, List.set_cons_succ, i64_w, i32_w]
                rfl
              refine pure_ (i := 10) (N := some 73) (v := ?_) (a' := ?_) #[true, true, true, true, true, true, true, true, true, true, true, false, false, false, false, false, false, false, false, false, false, false, false, false] rfl rfl (any_of HT_.out (by kernel_rfl)) (fun _ _ _ h => h) (Or.inl ⟨by rfl, ?_⟩) ?_ ?_
              rotate_left
              · intro w'
                go_simp
                with_reducible rfl
              rotate_left
              · simp only [Act.put, List.setIfInBounds_toArray, List.set_cons_zero, List.set_cons_succ, i64_w, i32_w]
                rfl
              refine pure_ (i := 11) (N := some 74) (v := ?_) (a' := ?_) #[true, true, true, true, true, true, true, true, true, true, true, true, false, false, false, false, false, false, false, false, false, false, false, false] rfl rfl (any_of HT_.out (by kernel_rfl)) (fun _ _ _ h => h) (Or.inl ⟨by rfl, ?_⟩) ?_ ?_
              rotate_left
              · intro w'
                go_simp
                with_reducible rfl
              rotate_left
              · simp only [Act.put, List.setIfInBounds_toArray, List.set_cons_zero, List.set_cons_succ, i64_w, i32_w]
                rfl
              refine pure_ (i := 12) (N := some 75) (v := ?_) (a' := ?_) #[true, true, true, true, true, true, true, true, true, true, true, true, true, false, false, false, false, false, false, false, false, false, false, false] rfl rfl (any_of HT_.out (by kernel_rfl)) (fun _ _ _ h => h) (Or.inl ⟨by rfl, ?_⟩) ?_ ?_
              rotate_left
              · intro w'
                go_simp
                with_reducible rfl
              rotate_left
              · simp only [Act.put, List.setIfInBounds_toArray, List.set_cons_zero, List.set_cons_succ, i64_w, i32_w]
                rfl
              refine take_ (i := 13) (N := some 76) (v := ?_) (a' := ?_) #[true, true, true, true, true, true, true, true, true, true, true, true, true, true, false, false, false, false, false, false, false, false, false, false] rfl rfl (take_ofW HT_.out HW_.out (by kernel_rfl)) (fun _ _ _ h => h) (Or.inl ⟨by rfl, ?_⟩) hHeld ?_ ?_
              rotate_left
              · rintro w' ⟨s0, s1, s2⟩
                go_simp
                with_reducible rfl
              rotate_left
              · simp only [Act.put, List.setIfInBounds_toArray, List.set_cons_zero, List.set_cons_succ, i64_w, i32_w]
                rfl
              refine pure_ (i := 14) (N := some 77) (v := ?_) (a' := ?_) #[true, true, true, true, true, true, true, true, true, true, true, true, true, true, true, false, false, false, false, false, false, false, false, false] rfl rfl (any_of HT_.out (by kernel_rfl)) (fun _ _ _ h => h) (Or.inl ⟨by rfl, ?_⟩) ?_ ?_
              rotate_left
              · intro w'
                go_simp
                with_reducible rfl
              rotate_left
              · simp only [Act.put, List.setIfInBounds_toArray, List.set_cons_zero, List.set_cons_succ, i64_w, i32_w]
                rfl
              refine pure_ (i := 15) (N := some 78) (v := ?_) (a' := ?_) #[true, true, true, true, true, true, true, true, true, true, true, true, true, true, true, true, false, false, false, false, false, false, false, false] rfl rfl (any_of HT_.out (by kernel_rfl)) (fun _ _ _ h => h) (Or.inl ⟨by rfl, ?_⟩) ?_ ?_
              rotate_left
              · intro w'
                go_simp
                with_reducible rfl
              rotate_left
              · simp only [Act.put, List.setIfInBounds_toArray, List.set_cons_zero, List.set_cons_succ, i64_w, i32_w]
                rfl
              refine pure_ (i := 16) (N := some 79) (v := ?_) (a' := ?_) #[true, true, true, true, true, true, true, true, true, true, true, true, true, true, true, true, true, false, false, false, false, false, false, false] rfl rfl (any_of HT_.out (by kernel_rfl)) (fun _ _ _ h => h) (Or.inl ⟨by rfl, ?_⟩) ?_ ?_
              rotate_left
              · intro w'
                go_simp
                with_reducible rfl
              rotate_left
              · simp only [Act.put, List.setIfInBounds_toArray, List.set_cons_zero, List.set_cons_succ, i64_w, i32_w]
                rfl
              refine pure_ (i := 17) (N := some 80) (v := ?_) (a' := ?_) #[true, true, true, true, true, true, true, true, true, true, true, true, true, true, true, true, true, true, false, false, false, false, false, false] rfl rfl (any_of HT_.out (by kernel_rfl)) (fun _ _ _ h => h) (Or.inl ⟨by rfl, ?_⟩) ?_ ?_
              rotate_left
              · intro w'
                go_simp
                with_reducible rfl
              rotate_left
              · simp only [Act.put, List.setIfInBounds_toArray, List.set_cons_zero, List.set_cons_succ, i64_w, i32_w]
                rfl
              refine pure_ (i := 18) (N := some 81) (v := ?_) (a' := ?_) #[true, true, true, true, true, true, true, true, true, true, true, true, true, true, true, true, true, true, true, false, false, false, false, false] rfl rfl (any_of HT_.out (by kernel_rfl)) (fun _ _ _ h => h) (Or.inl ⟨by rfl, ?_⟩) ?_ ?_
              rotate_left
              · intro w'
                go_simp
                with_reducible rfl
              rotate_left
              · simp only [Act.put, List.setIfInBounds_toArray, List.set_cons_zero, List.set_cons_succ, i64_w, i32_w]
                rfl
              refine take_ (i := 19) (N := some 82) (v := ?_) (a' := ?_) #[true, true, true, true, true, true, true, true, true, true, true, true, true, true, true, true, true, true, true, true, false, false, false, false] rfl rfl (take_ofW HT_.out HW_.out (by kernel_rfl)) (fun _ _ _ h => h) (Or.inl ⟨by rfl, ?_⟩) hHeld ?_ ?_
              rotate_left
              · rintro w' ⟨s0, s1, s2⟩
                go_simp
                with_reducible rfl
              rotate_left
              · simp only [Act.put, List.setIfInBounds_toArray, List.set_cons_zero, List.set_cons_succ, i64_w, i32_w]
                rfl
              refine pure_ (i := 20) (N := some 83) (v := ?_) (a' := ?_) #[true, true, true, true, true, true, true, true, true, true, true, true, true, true, true, true, true, true, true, true, true, false, false, false] rfl rfl (any_of HT_.out (by kernel_rfl)) (fun _ _ _ h => h) (Or.inl ⟨by rfl, ?_⟩) ?_ ?_
              rotate_left
              · intro w'
                go_simp
                with_reducible rfl
              rotate_left
              · simp only [Act.put, List.setIfInBounds_toArray, List.set_cons_zero, List.set_cons_succ, i64_w, i32_w]
                rfl
              refine one_ (i := 21) (N := some 84) #[true, true, true, true, true, true, true, true, true, true, true, true, true, true, true, true, true, true, true, true, true, true, false, false] rfl rfl (one_of HT_.out (by kernel_rfl)) (by decide) (fun K hK => ?_)
              refine goes_ Tryd.func38 (by kernel_rfl) rfl #[.int .i64 ge, .int .i64 wh] (by rfl) rfl rfl (by first | rfl | (simp [Act.eval]; done) | (go_simp; done) | decide) ?_
              refine (HMS.out _ (HT.out.below HO.out.bel)).mono ?_
              rintro e wA ⟨rfl, hb⟩
              refine ⟨_, rfl, ?_⟩
              have HO1 := Aside0.mk (HO.out.below hb)
              clear HO hb
              have HO := HO1
              clear HO1
              refine hK.out _ _ ⟨(HO.out.cell 0 rfl 0).trans rfl, (HO.out.cell 0 rfl 1).trans rfl, (HO.out.cell 0 rfl 5).trans rfl⟩ (fun hHeld => ?_)
              clear hK K
              refine norm_ (a' := ?_) ?_ ?_
              rotate_left
              · show Act.put _ (some 84) _ = _
                simp only [Act.put, List.setIfInBounds_toArray, List.set_cons_zero, List.set_cons_succ, i64_w, i32_w]
                rfl
              refine one_ (i := 22) (N := some 85) #[true, true, true, true, true, true, true, true, true, true, true, true, true, true, true, true, true, true, true, true, true, true, true, false] rfl rfl (one_of HT_.out (by kernel_rfl)) (by decide) (fun K hK => ?_)
              refine goes_ Tryd.func37 (by kernel_rfl) rfl #[.pointer (some ⟨d, 0, none⟩), .int .i64 sc, .string mb] (by rfl) rfl rfl (by first | rfl | (simp [Act.eval]; done) | (go_simp; done) | decide) ?_
              refine (HWT.out _ HO.out).mono ?_
              rintro e wA ⟨rfl, h5⟩
              refine ⟨_, rfl, ?_⟩
              have HO1 := Aside0.mk h5
              clear HO h5
              have HO := HO1
              clear HO1
              refine hK.out _ _ ⟨(HO.out.cell 0 rfl 0).trans rfl, (HO.out.cell 0 rfl 1).trans rfl, (HO.out.cell 0 rfl 5).trans rfl⟩ (fun hHeld => ?_)
              clear hK K
              refine norm_ (a' := ?_) ?_ ?_
              rotate_left
              · show Act.put _ (some 85) _ = _
                simp only [Act.put, List.setIfInBounds_toArray, List.set_cons_zero, List.set_cons_succ, i64_w, i32_w]
                rfl
              refine pure_ (i := 23) (N := some 9) (v := ?_) (a' := ?_) #[true, true, true, true, true, true, true, true, true, true, true, true, true, true, true, true, true, true, true, true, true, true, true, true] rfl rfl (any_of HT_.out (by kernel_rfl)) (fun _ _ _ h => h) (Or.inl ⟨by rfl, ?_⟩) ?_ ?_
              rotate_left
              · intro w'
                go_simp
                with_reducible rfl
              rotate_left
              · simp only [Act.put, List.setIfInBounds_toArray, List.set_cons_zero, List.set_cons_succ, i64_w, i32_w]
                rfl
              refine done_ (done_of HT_.out (by kernel_rfl)) ?_
              go_wp2_with fail
              go_meet
              case rel => exact ⟨rfl, HO⟩
            · have hyy : (x1, x2) = y := (if_neg hx).symm.trans HYE.out
              subst hyy
              have hx2 : (x1 == 0) = false := by simpa using hx
              go_wp2_with fail
              go_meet
              case rel => exact ⟨rfl, HO1⟩
          case rest =>
            clear HO1 HYE HXL
            obtain ⟨rfl, HO⟩ := hcut
            obtain ⟨y1, y2⟩ := y
            dsimp only at HO HYL
            have HZE := HSW
            clear HSW
            go_upto_if 87 with fail
            go_cut [9] (fun s9 wx => s9 = .int .i64 z.1 ∧ Aside0 (HL w wx (l1 ++ (d, z.2.dev) :: l2) (LT g d { L with greatest := ge, bytes := textB s } :: rest)))
            case first =>
              by_cases hx : y1 = 0
              · subst hx
                have hyy : y2.sync = z := (if_pos rfl).symm.trans HZE.out
                have HSY := Aside0.mk (tsync_HL HO.out HYL.out)
                rw [hyy] at HSY
                have c0 := HO.out.cell 0 rfl 0
                replace c0 : _ = some (Value.pointer (some ⟨d, 0, none⟩)) := c0
                go_wp2_with (go_at_call 39; refine HSY.out.mono ?_; rintro e5 w6 ⟨rfl, h5⟩; have H5 := Aside0.mk h5; clear h5)
                go_meet
                case rel => exact ⟨rfl, H5⟩
              · have hyy : (y1, y2) = z := (if_neg hx).symm.trans HZE.out
                subst hyy
                have hx2 : (y1 == 0) = false := by simpa using hx
                go_wp2_with fail
                go_meet
                case rel => exact ⟨rfl, HO⟩
            case rest =>
              clear HO HZE HYL
              obtain ⟨rfl, HO⟩ := hcut
              obtain ⟨z1, z2⟩ := z
              dsimp only at HO HRES
              by_cases hx : z1 = 0
              · subst hx
                have hE := HRES.out
                rw [if_pos rfl] at hE
                subst hE
                have HF := Aside0.mk (failed_calls HO.out 0)
                rw [LG.failed0] at HF
                go_upto_region 18 with (go_at_call 40; refine HF.out.mono ?_; rintro e7 w7 ⟨rfl, h7⟩; have H7 := Aside0.mk h7; clear h7)
                clear HF HO
                have c5 : w7.cell? ⟨g, 5, none⟩ = some (.int .i64 ge) := H7.out.cell 0 rfl 5
                have c3 : w7.cell? ⟨g, 3, none⟩ = some (.int .i64 L.epoch) := H7.out.cell 0 rfl 3
                have c4 : w7.cell? ⟨g, 4, none⟩ = some (.int .i64 L.which) := H7.out.cell 0 rfl 4
                have c10 : w7.cell? ⟨g, 10, none⟩ = some (.bool L.awaits) := H7.out.cell 0 rfl 10
                have f3 : w7.frozen? ⟨g, 3, none⟩ = false := H7.out.frozen 0 rfl 3
                have f4 : w7.frozen? ⟨g, 4, none⟩ = false := H7.out.frozen 0 rfl 4
                have f10 : w7.frozen? ⟨g, 10, none⟩ = false := H7.out.frozen 0 rfl 10
                have H8 : Aside0 (HL w (((w7.setCell ⟨g, 3, none⟩ (.int .i64 ge)).setCell ⟨g, 4, none⟩ (.int .i64 wh)).setCell ⟨g, 10, none⟩ (.bool false)) (l1 ++ (d, z2.dev) :: l2) (LT g d { L with greatest := ge, bytes := textB s, epoch := ge, which := wh, awaits := false } :: rest)) := ⟨((H7.out.store 0 rfl 3 (.int .i64 ge) rfl).store 0 rfl 4 (.int .i64 wh) rfl).store 0 rfl 10 (.bool false) rfl⟩
                go_upto_region 19 with fail
                generalize ((w7.setCell ⟨g, 3, none⟩ (.int .i64 ge)).setCell ⟨g, 4, none⟩ (.int .i64 wh)).setCell ⟨g, 10, none⟩ (.bool false) = w8 at H8 ⊢
                clear c5 c3 c4 c10 f3 f4 f10 H7
                have c6 : w8.cell? ⟨g, 6, none⟩ = some (.string (textB s)) := H8.out.cell 0 rfl 6
                have c7 : w8.cell? ⟨g, 7, none⟩ = some (.int .i64 L.lasting) := H8.out.cell 0 rfl 7
                have c8 : w8.cell? ⟨g, 8, none⟩ = some (.int .i64 L.last) := H8.out.cell 0 rfl 8
                have c9 : w8.cell? ⟨g, 9, none⟩ = some (.int .i64 L.flushed) := H8.out.cell 0 rfl 9
                have f7 : w8.frozen? ⟨g, 7, none⟩ = false := H8.out.frozen 0 rfl 7
                have f8 : w8.frozen? ⟨g, 8, none⟩ = false := H8.out.frozen 0 rfl 8
                have f9 : w8.frozen? ⟨g, 9, none⟩ = false := H8.out.frozen 0 rfl 9
                have H9 : Aside0 (HL w (((w8.setCell ⟨g, 7, none⟩ (.int .i64 (textB s).size)).setCell ⟨g, 8, none⟩ (.int .i64 lsn)).setCell ⟨g, 9, none⟩ (.int .i64 lsn)) (l1 ++ (d, z2.dev) :: l2) (LT g d (L.sw2 lsn s) :: rest)) := ⟨by rw [HS2.out]; exact ((H8.out.store 0 rfl 7 (.int .i64 (textB s).size) rfl).store 0 rfl 8 (.int .i64 lsn) rfl).store 0 rfl 9 (.int .i64 lsn) rfl⟩
                clear H8 HS2 HS1 htz
                generalize textB s = tb at *
                go_wp2_with fail
                go_ret
                exact ⟨rfl, H9.out⟩
              · have hE := HRES.out
                rw [if_neg hx] at hE
                subst hE
                have hx2 : (z1 != 0) = true := by simpa using hx
                have HF := Aside0.mk (failed_calls HO.out z1)
                go_wp2_with (go_at_call 40; refine HF.out.mono ?_; rintro e7 w7 ⟨rfl, h7⟩; have H7 := Aside0.mk h7; clear h7)
                go_ret
                exact ⟨rfl, by rw [HS1.out]; exact H7.out⟩
  · rw [if_pos (by simpa using hr)]
    have hne : (readyE L T false != 0) = true := by simpa using hr
    go_enter Tryd.func12, Tryd.ntmps12
    go_wp2_with (go_at_call 34; refine HR.out.mono ?_; rintro e w1 ⟨rfl, h1⟩; rw [h1]; clear h1)
    go_ret
    exact ⟨rfl, H.out⟩
set_option maxHeartbeats 4000000 in
set_option maxRecDepth 100000 in
theorem switch_nil (lsn : Int) (s : ByteArray) : Calls Tryd.prog 12 #[.pointer none, .int .i64 lsn, .string s] W fun ex W' => ex = .returned (.int .i64 1) ∧ W' = W := by
  go_enter Tryd.func12, Tryd.ntmps12
  go_wp2_with (go_at_call 34; refine (ready_nil false).mono ?_; rintro e w1 ⟨rfl, h1⟩; rw [h1]; clear h1)
  go_ret
  exact ⟨rfl, rfl⟩
end Go.Proofs.YtegeaemkkbenfaaDoor.Ownd
