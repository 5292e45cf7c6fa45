/- A log's write: the sectors of a half from a byte on, then Sync. Conditions: the table lies as the program lays it; the half's bytes fit. -/
import Derived.Test.YtegeaemkkbenfaaDoorWLogA
import Derived.Test.YtegeaemkkbenfaaDoorWTab
import Derived.Test.YtegeaemkkbenfaaDoorWRepsOne
namespace Go.Proofs.YtegeaemkkbenfaaDoor.Ownd
open Go.RowKit Go.Proofs.YtegeaemkkbenfaaDoorW.PrintWords Go.Proofs.YtegeaemkkbenfaaDoorW.PrintLast Go.Proofs.YtegeaemkkbenfaaDoorW.PrintMore
set_option linter.unusedVariables false
set_option linter.unusedSimpArgs false
variable {w W : World} {l1 l2 : List (Nat × Dev)} {rest : List Thing} {g d : Nat} {T : TD} {L : LG}
def wb_T : Bool × List (List Nat × List Nat) := (true, [([], []), ([0], [0]), ([1], [1]), ([2], [2]), ([3], [3]), ([], []), ([5], [5]), ([6], [6]), ([7], [7]), ([], []), ([], []), ([8, 9, 10], [8, 9, 10]), ([], []), ([], []), ([], []), ([12, 13, 14, 11], [12, 13, 14]), ([4, 11, 15, 15], [4, 11, 15]), ([16, 16, 0, 1, 2, 3, 4, 5, 6, 7, 8, 9, 10, 11, 12, 13, 14, 15, 16], [16])])
def wb_B : List Nat := [0, 1, 3, 7, 15, 0, 32, 96, 224, 0, 0, 2016, 0, 0, 0, 32736, 65535, 131071]
theorem wb_tab : rtab .any (opsOf Tryd.f36 5) = wb_T := by kernel_rfl
theorem wb_bits : waitsOk wb_T.2 wb_B = true := by kernel_rfl
def partB (b : ByteArray) (i : Nat) : ByteArray := b.extract (i * 242) (min (i * 242 + 242) b.size)
theorem partB_size (b : ByteArray) (i : Nat) : (partB b i).size ≤ 242 := by
  unfold partB
  rw [ByteArray.size_extract]
  omega
def TD.wr (at_ half : Int) (b : ByteArray) (e which : Int) : Nat → Nat → TD → Int × TD
  | _, 0, T => T.sync
  | i, r + 1, T => if (T.write (at_ + 2 + which * half + i) (.p e i (partB b i))).1 = 0 then TD.wr at_ half b e which (i + 1) r (T.write (at_ + 2 + which * half + i) (.p e i (partB b i))).2 else T.write (at_ + 2 + which * half + i) (.p e i (partB b i))
def secs (n : Nat) : Nat := (n + 241) / 242
theorem TD.command_len (T : TD) : T.command.2.wait.length ≤ T.wait.length := by
  unfold TD.command
  split
  · exact Nat.zero_le _
  · exact Nat.le_refl _
theorem TD.write_len (T : TD) (i : Int) (c : Ct) : (T.write i c).2.wait.length ≤ T.wait.length + 1 := by
  unfold TD.write
  have h := T.command_len
  split
  · exact Nat.le_succ _
  · split
    · exact Nat.le_succ _
    · split
      · show (_ ++ [_]).length ≤ _
        rw [List.length_append]
        exact Nat.succ_le_succ h
      · exact Nat.le_succ_of_le h
theorem TD.sync_len (T : TD) : T.sync.2.wait.length ≤ T.wait.length := by
  unfold TD.sync
  have h := T.command_len
  split
  · exact Nat.le_refl _
  · split
    · exact Nat.zero_le _
    · exact h
theorem lenD (T : TD) {n : Nat} (h : T.wait.length ≤ n) : T.dev.wait.length ≤ n := by
  show (T.wait.map encW).length ≤ n
  rw [List.length_map]; exact h
theorem twrite_HL (h : HL w W (l1 ++ (d, T.dev) :: l2) rest) (hl : T.wait.length ≤ 1000000) (i : Int) (c : Ct) (s : ByteArray) (hs : s.size ≤ 256) (hp : pad s = c.enc) : Calls Tryd.prog 37 #[.pointer (some ⟨d, 0, none⟩), .int .i64 i, .string s] W fun ex W' => ex = .returned (.int .i64 (T.write i c).1) ∧ HL w W' (l1 ++ (d, (T.write i c).2.dev) :: l2) rest := by
  have := write_HL h (lenD T hl) i s
  rwa [T.dev_write i c s hs hp] at this
theorem tsync_HL (h : HL w W (l1 ++ (d, T.dev) :: l2) rest) (hl : T.wait.length ≤ 1000000) : Calls Tryd.prog 39 #[.pointer (some ⟨d, 0, none⟩)] W fun ex W' => ex = .returned (.int .i64 T.sync.1) ∧ HL w W' (l1 ++ (d, T.sync.2.dev) :: l2) rest := by
  have := sync_HL h (lenD T hl)
  rwa [T.dev_sync] at this
theorem wb_n {z h n : Nat} (hb : z ≤ h * 242) (hh : h ≤ 512) (hn : secs z = n) : n ≤ 512 := by unfold secs at hn; omega
theorem wb_i0 {z f i0 n : Nat} (hf : f ≤ z) (hi : f / 242 = i0) (hn : secs z = n) : i0 ≤ n := by unfold secs at hn; omega
theorem wb_q1 {f i0 : Nat} (hi : f / 242 = i0) : (f : Int) / 242 = (i0 : Int) := by omega
theorem wb_q2 {f i0 : Nat} (hi : f / 242 = i0) : Int.tdiv (f : Int) 242 = (i0 : Int) := by rw [Int.tdiv_eq_ediv_of_nonneg (by omega)]; omega
theorem wb_q3 {i0 n : Nat} (h : i0 ≤ n) (hn : n ≤ 512) : wrap64 (i0 : Int) = (i0 : Int) := by unfold wrap64; omega
theorem wb_z {z n i : Nat} (hn : secs z = n) (hi : i < n) : i * 242 < z := by unfold secs at hn; omega
theorem wb_zn {z n i : Nat} (hn : secs z = n) (hi : ¬ i < n) : ¬ i * 242 < z := by unfold secs at hn; omega
theorem wb_round {z n i : Nat} (hz : i * 242 < z) (hi : i < n) (hn : n ≤ 512) : ∃ a b m : Nat, i * 242 = a ∧ a + 242 = b ∧ min b z = m ∧ wrap64 ((i : Int) * 242) = (a : Int) ∧ IntKind.i64.wrap ((i : Int) * 242) = (a : Int) ∧ IntKind.i64.wrap ((a : Int) + 242) = (b : Int) ∧ min (b : Int) (z : Int) = (m : Int) ∧ (a : Int) < (z : Int) ∧ (0 : Int) ≤ (a : Int) ∧ (a : Int) ≤ (m : Int) ∧ (m : Int) ≤ (z : Int) :=
  ⟨i * 242, i * 242 + 242, min (i * 242 + 242) z, rfl, rfl, rfl, by unfold wrap64; omega, by rw [IntKind.wrap_i64]; omega, by rw [IntKind.wrap_i64]; omega, by omega, by omega, by omega, by omega, by omega⟩
theorem wb_i6 {i n : Nat} (hi : i < n) (hn : n ≤ 512) : (0 : Int) ≤ (i : Int) ∧ (i : Int) < 65536 := by omega
theorem wb_i5 {i n : Nat} (hi : i < n) (hn : n ≤ 512) : (0 : Int) ≤ (i : Int) ∧ (i : Int) ≤ 5000 := by omega
theorem wb_h {h : Nat} (hn : h ≤ 512) : (0 : Int) ≤ (h : Int) ∧ (h : Int) ≤ 512 := by omega
theorem wb_r {i n : Nat} (hi : i < n) : ∃ r, n - i = r + 1 ∧ n - (i + 1) = r := ⟨n - i - 1, by omega, by omega⟩
theorem wb_l {l i n : Nat} (h : l ≤ 100000 + i) (hi : i < n) (hn : n ≤ 512) : l ≤ 1000000 := by omega
theorem wb_l2 {l l2 i : Nat} (h : l ≤ 100000 + i) (h2 : l2 ≤ l + 1) : l2 ≤ 100000 + (i + 1) := by omega
theorem wb_256 {z : Nat} (h : z = 256) : z ≤ 256 := by omega
theorem wb_v1 {i a : Nat} (h : i * 242 = a) (hn : i ≤ 512) : wrap64 ((i : Int) * 242) = (a : Int) := by unfold wrap64; omega
theorem wb_q5 {i z : Nat} (h : ¬ i * 242 < z) : ¬ (((i * 242 : Nat) : Int) < (z : Int)) := by omega
theorem wb_q6 {i z : Nat} (h : ¬ i * 242 < z) : ¬ ((i : Int) * 242 < (z : Int)) := by omega
theorem wb_l3 {l n : Nat} (h : l ≤ 100000 + n) (hn : n ≤ 512) : l ≤ 1000000 := by omega
theorem wb_w {i n : Nat} (hi : i < n) (hn : n ≤ 512) : wrap64 ((i : Int) + 1) = ((i + 1 : Nat) : Int) := by unfold wrap64; omega
set_option maxHeartbeats 8000000 in
set_option maxRecDepth 100000 in
theorem write_calls (h : HL w W (l1 ++ (d, T.dev) :: l2) (LT g d L :: rest)) (e which : Int) (frm : Nat) (he : 0 ≤ e ∧ e < 281474976710656) (hwh : 0 ≤ which ∧ which ≤ 1) (hat : 0 ≤ L.at_ ∧ L.at_ ≤ 5000) (hh : L.half ≤ 512) (hb : L.bytes.size ≤ L.half * 242) (hfr : frm ≤ L.bytes.size) (hl : T.wait.length ≤ 100000) (hT : Tab w) :
    Calls Tryd.prog 36 #[.pointer (some ⟨g, 0, none⟩), .int .i64 e, .int .i64 which, .int .i64 frm] W fun ex W' => ex = .returned (.int .i64 (TD.wr L.at_ L.half L.bytes e which (frm / 242) (secs L.bytes.size - frm / 242) T).1) ∧ HL w W' (l1 ++ (d, (TD.wr L.at_ L.half L.bytes e which (frm / 242) (secs L.bytes.size - frm / 242) T).2.dev) :: l2) (LT g d L :: rest) := by
  have HT := Aside0.mk hT
  have H := Aside0.mk h
  obtain ⟨n, hne⟩ : ∃ n, secs L.bytes.size = n := ⟨_, rfl⟩
  have HNE := Aside0.mk hne
  obtain ⟨i0, hie⟩ : ∃ i0, frm / 242 = i0 := ⟨_, rfl⟩
  have hi0n : i0 ≤ n := wb_i0 hfr hie hne
  have hn : n ≤ 512 := wb_n hb hh hne
  rw [hne, hie]
  have hq1 : (frm : Int) / 242 = (i0 : Int) := wb_q1 hie
  have hq2 : Int.tdiv (frm : Int) 242 = (i0 : Int) := wb_q2 hie
  have hq3 := wb_q3 hi0n hn
  obtain ⟨res, hres⟩ : ∃ r, TD.wr L.at_ L.half L.bytes e which i0 (n - i0) T = r := ⟨_, rfl⟩
  rw [hres]
  have HRES := Aside0.mk hres
  clear h hT hne hie hres
  go_enter Tryd.func36, Tryd.ntmps36
  go_wp2_with fail
  rw [hq3]
  go_loopg [9] n (fun gg s9 wr => ∃ i : Nat, i ≤ n ∧ n - i ≤ gg ∧ s9 = .int .i64 i ∧ Aside0 (∃ T1 : TD, T1.wait.length ≤ 100000 + i ∧ TD.wr L.at_ L.half L.bytes e which i (n - i) T1 = res ∧ HL w wr (l1 ++ (d, T1.dev) :: l2) (LT g d L :: rest)))
  case atStart => exact ⟨i0, hi0n, Nat.sub_le _ _, rfl, ⟨T, Nat.le_trans hl (Nat.le_add_right _ _), HRES.out, H.out⟩⟩
  case round =>
    clear H
    obtain ⟨i, hi, hg, rfl, ⟨T1, hl1, hr1, hO⟩⟩ := hrel
    have HO := Aside0.mk hO
    have HR1 := Aside0.mk hr1
    clear hO hr1
    have c6 : wr.cell? ⟨g, 6, none⟩ = some (.string L.bytes) := HO.out.cell 0 rfl 6
    by_cases hlt : i < n
    · have his := wb_z HNE.out hlt
      obtain ⟨a, b, m, ha, hbe, hm, v1, v2, v3, v4, q1, q2, q3, q4⟩ := wb_round his hlt hn
      have HP : Aside0 (L.bytes.extract a m = partB L.bytes i) := ⟨by unfold partB; rw [ha, hbe, hm]⟩
      clear ha hbe hm his
      go_upto_region 4 with fail
      go_quiet (fail)
      have HO1 := Aside0.mk (HO.out.below (pw_below_drewN (Below.refl _ _) nq))
      rw [HP.out]
      have hps := partB_size L.bytes i
      have HSE := Aside0.mk (fun W' : World => sector_calls (W := W') (.pointer (some ⟨d, 0, none⟩)) L.at_ L.half which i hat (wb_h hh) hwh (wb_i5 hlt hn) _ rfl)
      have hi6 := wb_i6 hlt hn
      have HPC := Aside0.mk (fun W' hT' => piece_calls (W := W') e i (partB L.bytes i) he.1 he.2 hi6.1 hi6.2 hps hT')
      obtain ⟨r, hr, hr2⟩ := wb_r hlt
      rw [hr] at HR1
      unfold TD.wr at HR1
      generalize L.at_ + 2 + which * (L.half : Int) + (i : Int) = sx at HSE HR1
      have hpz := pieceB_size e i hps
      have hpp := piece_pad (e := e) (i := (i : Int)) hps
      generalize pieceB e i (partB L.bytes i) = pb at HPC hpz hpp
      generalize Ct.p e i (partB L.bytes i) = c at HR1 hpp
      generalize partB L.bytes i = pt at HPC ⊢
      have hlw := T1.write_len sx c
      have HWR := Aside0.mk (fun (W' : World) (h' : HL w W' (l1 ++ (d, T1.dev) :: l2) (LT g d L :: rest)) => twrite_HL h' (wb_l hl1 hlt hn) sx c pb (wb_256 hpz) hpp)
      have HLW : Aside0 ((T1.write sx c).2.wait.length ≤ 100000 + (i + 1)) := ⟨wb_l2 hl1 hlw⟩
      clear hlw hl1 hpz hpp hps
      generalize wr.drewN nq = wq at HO1 ⊢
      have c0 : wq.cell? ⟨g, 0, none⟩ = some (.pointer (some ⟨d, 0, none⟩)) := HO1.out.cell 0 rfl 0
      have c1 : wq.cell? ⟨g, 1, none⟩ = some (.int .i64 L.at_) := HO1.out.cell 0 rfl 1
      have c2 : wq.cell? ⟨g, 2, none⟩ = some (.int .i64 L.half) := HO1.out.cell 0 rfl 2
      generalize T1.write sx c = x at HR1 HWR HLW
      obtain ⟨x1, x2⟩ := x
      dsimp only at HR1 HWR HLW
      clear v1 v2 v3 v4 q1 q2 q3 q4 HP c6 HO hq1 hq2 hi6 hr c0 c1 c2
      have HO := HO1
      clear HO1
      have hw1 := wb_w hlt hn
      go_upto_region 5 with fail
      have HOd := Aside0.mk (HO.out.below (below_drew (Below.refl _ _)))
      clear HO
      have HO := HOd
      clear HOd
      refine start_ (n := 18) (S := fun w' => w'.cell? ⟨g, 0, none⟩ = some (.pointer (some ⟨d, 0, none⟩)) ∧ w'.cell? ⟨g, 1, none⟩ = some (.int .i64 L.at_) ∧ w'.cell? ⟨g, 2, none⟩ = some (.int .i64 L.half)) (ds := []) #[false, false, false, false, false, false, false, false, false, false, false, false, false, false, false, false, false, false] (by kernel_rfl) rfl rfl ⟨(HO.out.cell 0 rfl 0).trans rfl, (HO.out.cell 0 rfl 1).trans rfl, (HO.out.cell 0 rfl 2).trans rfl⟩ (fun hHeld => ?_)
      refine with_tabW wb_tab wb_bits (fun HT_ HW_ => ?_)
      generalize World.drew _ = W0 at HO hHeld ⊢
      refine pure_ (i := 0) (N := some 40) (v := ?_) (a' := ?_) #[true, false, false, false, false, false, false, false, false, false, false, false, false, false, false, false, false, false] rfl rfl (any_of HT_.out (by kernel_rfl)) (fun _ _ _ h => h) (Or.inl ⟨by rfl, ?_⟩) ?_ ?_
      rotate_left
      · intro w'
        go_simp
        with_reducible rfl
      rotate_left
      · simp only [Act.put, List.setIfInBounds_toArray, List.set_cons_zero, List.set_cons_succ, i64_w, i32_w]
        rfl
      refine pure_ (i := 1) (N := some 41) (v := ?_) (a' := ?_) #[true, true, false, false, false, false, false, false, false, false, false, false, false, false, false, false, false, false] rfl rfl (any_of HT_.out (by kernel_rfl)) (fun _ _ _ h => h) (Or.inl ⟨by rfl, ?_⟩) ?_ ?_
      rotate_left
      · intro w'
        go_simp
        with_reducible rfl
      rotate_left
      · simp only [Act.put, List.setIfInBounds_toArray, List.set_cons_zero, List.set_cons_succ, i64_w, i32_w]
        rfl
      refine pure_ (i := 2) (N := some 42) (v := ?_) (a' := ?_) #[true, true, true, false, false, false, false, false, false, false, false, false, false, false, false, false, false, false] rfl rfl (any_of HT_.out (by kernel_rfl)) (fun _ _ _ h => h) (Or.inl ⟨by rfl, ?_⟩) ?_ ?_
      rotate_left
      · intro w'
        go_simp
        with_reducible rfl
      rotate_left
      · simp only [Act.put, List.setIfInBounds_toArray, List.set_cons_zero, List.set_cons_succ, i64_w, i32_w]
        rfl
      refine pure_ (i := 3) (N := some 43) (v := ?_) (a' := ?_) #[true, true, true, true, false, false, false, false, false, false, false, false, false, false, false, false, false, false] rfl rfl (any_of HT_.out (by kernel_rfl)) (fun _ _ _ h => h) (Or.inl ⟨by rfl, ?_⟩) ?_ ?_
      rotate_left
      · intro w'
        go_simp
        with_reducible rfl
      rotate_left
      · simp only [Act.put, List.setIfInBounds_toArray, List.set_cons_zero, List.set_cons_succ, i64_w, i32_w]
        rfl
      refine take_ (i := 4) (N := some 44) (v := ?_) (a' := ?_) #[true, true, true, true, true, false, false, false, false, false, false, false, false, false, false, false, false, false] rfl rfl (take_ofW HT_.out HW_.out (by kernel_rfl)) (fun _ _ _ h => h) (Or.inl ⟨by rfl, ?_⟩) hHeld ?_ ?_
      rotate_left
      · rintro w' ⟨s0, s1, s2⟩
        go_simp
        with_reducible rfl
      rotate_left
      · simp only [Act.put, List.setIfInBounds_toArray, List.set_cons_zero, List.set_cons_succ, i64_w, i32_w]
        rfl
      refine pure_ (i := 5) (N := some 45) (v := ?_) (a' := ?_) #[true, true, true, true, true, true, false, false, false, false, false, false, false, false, false, false, false, false] rfl rfl (any_of HT_.out (by kernel_rfl)) (fun _ _ _ h => h) (Or.inl ⟨by rfl, ?_⟩) ?_ ?_
      rotate_left
      · intro w'
        go_simp
        with_reducible rfl
      rotate_left
      · simp only [Act.put, List.setIfInBounds_toArray, List.set_cons_zero, List.set_cons_succ, i64_w, i32_w]
        rfl
      refine pure_ (i := 6) (N := some 46) (v := ?_) (a' := ?_) #[true, true, true, true, true, true, true, false, false, false, false, false, false, false, false, false, false, false] rfl rfl (any_of HT_.out (by kernel_rfl)) (fun _ _ _ h => h) (Or.inl ⟨by rfl, ?_⟩) ?_ ?_
      rotate_left
      · intro w'
        go_simp
        with_reducible rfl
      rotate_left
      · simp only [Act.put, List.setIfInBounds_toArray, List.set_cons_zero, List.set_cons_succ, i64_w, i32_w]
        rfl
      refine pure_ (i := 7) (N := some 47) (v := ?_) (a' := ?_) #[true, true, true, true, true, true, true, true, false, false, false, false, false, false, false, false, false, false] rfl rfl (any_of HT_.out (by kernel_rfl)) (fun _ _ _ h => h) (Or.inl ⟨by rfl, ?_⟩) ?_ ?_
      rotate_left
      · intro w'
        go_simp
        with_reducible rfl
      rotate_left
      · simp only [Act.put, List.setIfInBounds_toArray, List.set_cons_zero, List.set_cons_succ, i64_w, i32_w]
        rfl
      refine take_ (i := 8) (N := some 48) (v := ?_) (a' := ?_) #[true, true, true, true, true, true, true, true, true, false, false, false, false, false, false, false, false, false] rfl rfl (take_ofW HT_.out HW_.out (by kernel_rfl)) (fun _ _ _ h => h) (Or.inl ⟨by rfl, ?_⟩) hHeld ?_ ?_
      rotate_left
      · rintro w' ⟨s0, s1, s2⟩
        go_simp
        with_reducible rfl
      rotate_left
      · simp only [Act.put, List.setIfInBounds_toArray, List.set_cons_zero, List.set_cons_succ, i64_w, i32_w]
        rfl
      refine pure_ (i := 9) (N := some 49) (v := ?_) (a' := ?_) #[true, true, true, true, true, true, true, true, true, true, false, false, false, false, false, false, false, false] rfl rfl (any_of HT_.out (by kernel_rfl)) (fun _ _ _ h => h) (Or.inl ⟨by rfl, ?_⟩) ?_ ?_
      rotate_left
      · intro w'
        go_simp
        with_reducible rfl
      rotate_left
      · simp only [Act.put, List.setIfInBounds_toArray, List.set_cons_zero, List.set_cons_succ, i64_w, i32_w]
        rfl
      refine pure_ (i := 10) (N := some 50) (v := ?_) (a' := ?_) #[true, true, true, true, true, true, true, true, true, true, true, false, false, false, false, false, false, false] rfl rfl (any_of HT_.out (by kernel_rfl)) (fun _ _ _ h => h) (Or.inl ⟨by rfl, ?_⟩) ?_ ?_
      rotate_left
      · intro w'
        go_simp
        with_reducible rfl
      rotate_left
      · simp only [Act.put, List.setIfInBounds_toArray, List.set_cons_zero, List.set_cons_succ, i64_w, i32_w]
        rfl
      refine pure_ (i := 12) (N := some 52) (v := ?_) (a' := ?_) #[true, true, true, true, true, true, true, true, true, true, true, false, true, false, false, false, false, false] rfl rfl (any_of HT_.out (by kernel_rfl)) (fun _ _ _ h => h) (Or.inl ⟨by rfl, ?_⟩) ?_ ?_
      rotate_left
      · intro w'
        go_simp
        with_reducible rfl
      rotate_left
      · simp only [Act.put, List.setIfInBounds_toArray, List.set_cons_zero, List.set_cons_succ, i64_w, i32_w]
        rfl
      refine pure_ (i := 13) (N := some 53) (v := ?_) (a' := ?_) #[true, true, true, true, true, true, true, true, true, true, true, false, true, true, false, false, false, false] rfl rfl (any_of HT_.out (by kernel_rfl)) (fun _ _ _ h => h) (Or.inl ⟨by rfl, ?_⟩) ?_ ?_
      rotate_left
      · intro w'
        go_simp
        with_reducible rfl
      rotate_left
      · simp only [Act.put, List.setIfInBounds_toArray, List.set_cons_zero, List.set_cons_succ, i64_w, i32_w]
        rfl
      refine pure_ (i := 14) (N := some 54) (v := ?_) (a' := ?_) #[true, true, true, true, true, true, true, true, true, true, true, false, true, true, true, false, false, false] rfl rfl (any_of HT_.out (by kernel_rfl)) (fun _ _ _ h => h) (Or.inl ⟨by rfl, ?_⟩) ?_ ?_
      rotate_left
      · intro w'
        go_simp
        with_reducible rfl
      rotate_left
      · simp only [Act.put, List.setIfInBounds_toArray, List.set_cons_zero, List.set_cons_succ, i64_w, i32_w]
        rfl
      refine one_ (i := 11) (N := some 51) #[true, true, true, true, true, true, true, true, true, true, true, true, true, true, true, false, false, false] rfl rfl (one_of HT_.out (by kernel_rfl)) (by decide) (fun K hK => ?_)
      refine goes_ Tryd.func29 (by kernel_rfl) rfl #[.agg #[.pointer (some ⟨d, 0, none⟩), .int .i64 L.at_, .int .i64 L.half], .int .i64 which, .int .i64 (i : Int)] (by rfl) rfl rfl (by first | rfl | (simp [Act.eval]; done) | (go_simp; done) | decide) ?_
      refine (HSE.out _).mono ?_
      rintro e wA ⟨rfl, hb⟩
      refine ⟨_, rfl, ?_⟩
      have HO1 := Aside0.mk (HO.out.below hb)
      clear HO hb
      have HO := HO1
      clear HO1
      refine hK.out _ _ ⟨(HO.out.cell 0 rfl 0).trans rfl, (HO.out.cell 0 rfl 1).trans rfl, (HO.out.cell 0 rfl 2).trans rfl⟩ (fun hHeld => ?_)
      clear hK K
      refine norm_ (a' := ?_) ?_ ?_
      rotate_left
      · show Act.put _ (some 51) _ = _
        simp only [Act.put, List.setIfInBounds_toArray, List.set_cons_zero, List.set_cons_succ, i64_w, i32_w]
        rfl
      refine one_ (i := 15) (N := some 55) #[true, true, true, true, true, true, true, true, true, true, true, true, true, true, true, true, false, false] rfl rfl (one_of HT_.out (by kernel_rfl)) (by decide) (fun K hK => ?_)
      refine goes_ Tryd.func50 (by kernel_rfl) rfl #[.int .i64 e, .int .i64 (i : Int), .string pt] (by rfl) rfl rfl (by first | rfl | (simp [Act.eval]; done) | (go_simp; done) | decide) ?_
      refine (HPC.out _ (HT.out.below HO.out.bel)).mono ?_
      rintro e wA ⟨rfl, hb⟩
      refine ⟨_, rfl, ?_⟩
      have HO1 := Aside0.mk (HO.out.below hb)
      clear HO hb
      have HO := HO1
      clear HO1
      refine hK.out _ _ ⟨(HO.out.cell 0 rfl 0).trans rfl, (HO.out.cell 0 rfl 1).trans rfl, (HO.out.cell 0 rfl 2).trans rfl⟩ (fun hHeld => ?_)
      clear hK K
      refine norm_ (a' := ?_) ?_ ?_
      rotate_left
      · show Act.put _ (some 55) _ = _
        simp only [Act.put, List.setIfInBounds_toArray, List.set_cons_zero, List.set_cons_succ, i64_w, i32_w]
        rfl
      refine one_ (i := 16) (N := some 56) #[true, true, true, true, true, true, true, true, true, true, true, true, true, true, true, true, true, false] rfl rfl (one_of HT_.out (by kernel_rfl)) (by decide) (fun K hK => ?_)
      refine goes_ Tryd.func37 (by kernel_rfl) rfl #[.pointer (some ⟨d, 0, none⟩), .int .i64 sx, .string pb] (by rfl) rfl rfl (by first | rfl | (simp [Act.eval]; done) | (go_simp; done) | decide) ?_
      refine (HWR.out _ HO.out).mono ?_
      rintro e wA ⟨rfl, h5⟩
      refine ⟨_, rfl, ?_⟩
      have HO1 := Aside0.mk h5
      clear HO h5
      have HO := HO1
      clear HO1
      refine hK.out _ _ ⟨(HO.out.cell 0 rfl 0).trans rfl, (HO.out.cell 0 rfl 1).trans rfl, (HO.out.cell 0 rfl 2).trans rfl⟩ (fun hHeld => ?_)
      clear hK K
      refine norm_ (a' := ?_) ?_ ?_
      rotate_left
      · show Act.put _ (some 56) _ = _
        simp only [Act.put, List.setIfInBounds_toArray, List.set_cons_zero, List.set_cons_succ, i64_w, i32_w]
        rfl
      refine pure_ (i := 17) (N := some 11) (v := ?_) (a' := ?_) #[true, true, true, true, true, true, true, true, true, true, true, true, true, true, true, true, true, true] rfl rfl (any_of HT_.out (by kernel_rfl)) (fun _ _ _ h => h) (Or.inl ⟨by rfl, ?_⟩) ?_ ?_
      rotate_left
      · intro w'
        go_simp
        with_reducible rfl
      rotate_left
      · simp only [Act.put, List.setIfInBounds_toArray, List.set_cons_zero, List.set_cons_succ, i64_w, i32_w]
        rfl
      refine done_ (done_of HT_.out (by kernel_rfl)) ?_
      by_cases hx : x1 = 0
      · subst hx
        rw [if_pos rfl, ← hr2] at HR1
        go_wp2_with fail
        go_roundg (n - (i + 1))
        case measure => exact fmeas hlt hg
        case rel => exact ⟨i + 1, hlt, Nat.le_refl _, by first | rfl | rw [hw1], ⟨x2, HLW.out, HR1.out, HO.out⟩⟩
      · rw [if_neg hx] at HR1
        have hx2 : (x1 != 0) = true := by simpa using hx
        obtain rfl := HR1.out
        go_wp2_with fail
        go_ret
        exact ⟨rfl, HO.out⟩
    · obtain rfl : i = n := Nat.le_antisymm hi (Nat.not_lt.mp hlt)
      have hni := wb_zn HNE.out hlt
      obtain ⟨a, ha⟩ : ∃ a, i * 242 = a := ⟨_, rfl⟩
      have v1 : wrap64 ((i : Int) * 242) = (a : Int) := wb_v1 ha hn
      have q1 : ¬ ((a : Int) < (L.bytes.size : Int)) := by rw [← ha]; exact wb_q5 hni
      have q2 : ¬ ((i : Int) * 242 < (L.bytes.size : Int)) := wb_q6 hni
      rw [Nat.sub_self] at HR1
      have HSY := Aside0.mk (tsync_HL HO.out (wb_l3 hl1 hn))
      rw [show T1.sync = res from HR1.out] at HSY
      have c0 : wr.cell? ⟨g, 0, none⟩ = some (.pointer (some ⟨d, 0, none⟩)) := HO.out.cell 0 rfl 0
      clear ha hni
      go_wp2_with (go_at_call 39; refine HSY.out.mono ?_; rintro e5 w5 ⟨rfl, h5⟩; have H5 := Aside0.mk h5; clear h5)
      go_ret
      exact ⟨rfl, H5.out⟩
end Go.Proofs.YtegeaemkkbenfaaDoor.Ownd
