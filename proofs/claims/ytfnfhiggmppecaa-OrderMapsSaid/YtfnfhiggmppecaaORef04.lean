/- concordanceref04.Delete and Set: a map's keys and values without a key; with a key's value at the end. Conditions: as many keys as values, at most 1000. -/
import Derived.Test.YtfnfhiggmppecaaOTurnA
import Derived.Test.YtfnfhiggmppecaaOMIA
namespace Go.Proofs.Ytfnfhiggmppecaa.GO.Ref
open Go.RowKit Go.Proofs.Ytfnfhiggmppecaa.Ownd Go.Proofs.YtfnfhiggmppecaaW.PrintWords Go.Proofs.YtfnfhiggmppecaaW.PrintLast Go.Proofs.YtfnfhiggmppecaaW.PrintMore
set_option linter.unusedVariables false
set_option linter.unusedSimpArgs false
def refdel_T : Bool × List (List Nat × List Nat) := (true, [([], []), ([0], [0]), ([], []), ([2], [2]), ([], []), ([3, 4], [3, 4]), ([5], [5]), ([6], [6]), ([1, 7], [1, 7]), ([], []), ([9], [9]), ([], []), ([11], [11]), ([], []), ([12, 13], [12, 13]), ([14], [14]), ([15], [15]), ([10, 16, 8], [10, 16]), ([0, 1, 2, 3, 4, 5, 6, 7, 8, 9, 10], []), ([18, 8, 17, 0, 1, 2, 3, 4, 5, 6, 7, 8, 9, 10], [8, 18]), ([0, 1, 2, 3, 4, 5, 6, 7, 8, 9, 10, 11, 12, 13, 14, 15, 16, 17, 18, 19], []), ([20, 17, 19, 0, 1, 2, 3, 4, 5, 6, 7, 8, 9, 10, 11, 12, 13, 14, 15, 16, 17, 18, 19], [17, 20])])
def refdel_B : List Nat := [0, 1, 0, 4, 0, 28, 60, 124, 255, 0, 512, 0, 2048, 0, 14336, 30720, 63488, 131071, 2047, 524287, 1048575, 2097151]
def refset_T : Bool × List (List Nat × List Nat) := (true, [([], []), ([0], [0]), ([], []), ([2], [2]), ([1, 3], [1, 3]), ([], []), ([5], [5]), ([], []), ([7], [7]), ([6, 8, 4], [6, 8]), ([0, 1, 2, 3, 4, 5, 6], []), ([10, 4, 9, 0, 1, 2, 3, 4, 5, 6], [4, 10]), ([0, 1, 2, 3, 4, 5, 6, 7, 8, 9, 10, 11], []), ([12, 9, 11, 0, 1, 2, 3, 4, 5, 6, 7, 8, 9, 10, 11], [9, 12])])
def refset_B : List Nat := [0, 1, 0, 4, 15, 0, 32, 0, 128, 511, 127, 2047, 4095, 8191]
theorem refdel_tab : rtab .any (opsOf Try.f25 6) = refdel_T := by kernel_rfl
theorem refdel_bits : waitsOk refdel_T.2 refdel_B = true := by kernel_rfl
theorem refset_tab : rtab .any (opsOf Try.f26 2) = refset_T := by kernel_rfl
theorem refset_bits : waitsOk refset_T.2 refset_B = true := by kernel_rfl
theorem len16 {α : Type} {l : List α} {x : α} (h : l.length ≤ 1000) : (l.length + [x].length) * 16 ≤ 140737488355328 := by
  simp only [List.length_cons, List.length_nil]; omega
theorem len8 {α : Type} {l : List α} {x : α} (h : l.length ≤ 1000) : (l.length + [x].length) * 8 ≤ 140737488355328 := by
  simp only [List.length_cons, List.length_nil]; omega
/-- Two rows that a callee has made are the caller's, too. -/
theorem rows2 {α β : Type} {w W W1 : World} {l : List Thing} {d : Kd α} {d' : Kd β} {e e' : Nat} {v v' : Value} {xs : List α} {ys : List β} (h : Own w W l) (h2 : Own W W1 [.row d e v xs, .row d' e' v' ys]) (s1 s2 : Nat) (hs1 : l[s1]? = some .gone) (hs2 : l[s2]? = some .gone) (h12 : s1 ≠ s2) :
    Own w W1 ((l.set s1 (.row d e v xs)).set s2 (.row d' e' v' ys)) := by
  have hle := h.ge
  obtain ⟨hB, col, hc⟩ := h
  obtain ⟨hB2, col2, hc2⟩ := h2
  have r1 : Kd.N d e W1 W.heap.size (okc W.heap.size W1 col2 0) v xs := hc2 0 _ rfl
  have r2 : Kd.N d' e' W1 W.heap.size (okc W.heap.size W1 col2 1) v' ys := hc2 1 _ rfl
  refine ⟨below_step hB hB2, fun k => if k < W.heap.size then col k else if col2 k = 0 then s1 else s2, fun i it hi => ?_⟩
  rcases set_get (by rw [List.length_set]; exact lt_of_get hs2) hi with ⟨rfl, rfl⟩ | ⟨hne, hi⟩
  · refine Kd.N_mono (Kd.N_lower r2 hle) (fun k hk => ⟨Nat.le_trans hle hk.1, fun hlt => ?_⟩)
    simp only [if_neg (Nat.not_lt.mpr hk.1), hk.2 hlt]
    rfl
  · rcases set_get (lt_of_get hs1) hi with ⟨rfl, rfl⟩ | ⟨hne1, hi⟩
    · refine Kd.N_mono (Kd.N_lower r1 hle) (fun k hk => ⟨Nat.le_trans hle hk.1, fun hlt => ?_⟩)
      simp only [if_neg (Nat.not_lt.mpr hk.1), hk.2 hlt]
      rfl
    · exact (hc i it hi).keep (fun k _ hk he => ⟨hB2.block k hk, by simp only [if_pos hk, he]⟩)
theorem results_c1 {P : Program} {fn : Func} {p : Tmp} {ty : TypeId} (h : fn.results = #[.cell p ty]) (tmps : Array Value) (w : World) (g : Nat) (t : TypeId) (cs : Array Value) (fr : Nat × Nat) (d : TypeDesc)
    (hp : tmps.getD p undef = .pointer (some ⟨g, 0, none⟩)) (hg : w.heap[g]? = some (.cells cs t fr))
    (hu : P.underlying ty = some d) (hd : (match d with | .struct _ | .array _ _ => true | _ => false) = true) (hi : (P.info? ty).map (·.size) = some cs.size) :
    (results fn tmps).run P w = .ok (.agg cs) w := by
  have hp' : tmps[p]?.getD undef = .pointer (some ⟨g, 0, none⟩) := by simpa using hp
  simp [results, h, hp', asAddr, run_loadVar_row w g t ty cs fr d hg hu hd hi]
/-- Two rows alone. -/
theorem pick2 {α β : Type} {w W : World} {l : List Thing} {d : Kd α} {d' : Kd β} {e e' : Nat} {v v' : Value} {xs : List α} {ys : List β} (h : Own w W l) (i j : Nat) (hi : l[i]? = some (.row d e v xs)) (hj : l[j]? = some (.row d' e' v' ys)) (hne : i ≠ j) : Own w W [.row d e v xs, .row d' e' v' ys] := by
  obtain ⟨hB, col, hc⟩ := h
  have r1 : Kd.N d e W w.heap.size (okc w.heap.size W col i) v xs := hc i _ hi
  have r2 : Kd.N d' e' W w.heap.size (okc w.heap.size W col j) v' ys := hc j _ hj
  refine ⟨hB, fun k => if col k = i then 0 else 1, fun t it ht => ?_⟩
  match t, ht with
  | 0, ht =>
    obtain rfl := Option.some.inj ht
    exact Kd.N_mono r1 (fun k hk => ⟨hk.1, fun hlt => by simp only [hk.2 hlt, if_pos]⟩)
  | 1, ht =>
    obtain rfl := Option.some.inj ht
    exact Kd.N_mono r2 (fun k hk => ⟨hk.1, fun hlt => by simp only [hk.2 hlt]; rw [if_neg (Ne.symm hne)]⟩)
  | t + 2, ht => simp at ht
def keep (k : ByteArray) (p : MS.P2) : Bool := !(p.1.toList == k.toList)
theorem at_I {w : World} {A : Option Addr} {n : Nat} {xs : List Int} (h : Kd.C (Kd.int .i64) w A n xs) (i : Nat) (h1 : i < xs.length) (hn : n = xs.length) : ∃ ad : Addr, A = some ad ∧ w.cell? (ad.add i) = some (.int .i64 xs[i]) := by
  obtain ⟨ad, c, e, _, hK, hc0⟩ := Kd.C_get h xs[i] (i : Int) (by omega) (by omega)
  rw [Int.toNat_natCast] at hK hc0
  rw [List.getD_eq_getElem?_getD, List.getElem?_eq_getElem h1, Option.getD_some] at hK
  have hK' : c = [.int .i64 xs[i]] := hK
  refine ⟨ad, e, ?_⟩
  have h2 := hc0 0 (.int .i64 xs[i]) (by rw [hK']; rfl)
  rwa [show i * (Kd.int .i64).sz + 0 = i from Nat.mul_one i] at h2
def DL (gm gr go : Nat) (mk mv vk vv : Value) (ks : List ByteArray) (vs : List Int) : List Thing := [.box gm (.cells #[mk, mv] 56 (0, 0)), .box gr (.cells #[.slice none 0 0, .slice none 0 0] 56 (0, 0)), .box go (.cells #[vk, vv] 56 (0, 0)), .row Kd.string 9 vk ks, .row (Kd.int .i64) 3 vv vs, .gone, .gone]
theorem takeF {m : List MS.P2} {k : ByteArray} {i : Nat} (h : i < m.length) : (m.take (i + 1)).filter (keep k) = (m.take i).filter (keep k) ++ (if keep k m[i] = true then [m[i]] else []) := by
  rw [List.take_succ_eq_append_getElem h, List.filter_append]
  congr 1
  simp only [List.filter_cons, List.filter_nil]
theorem dlt {k n : Nat} (h : k < n) : decide ((k : Int) < (n : Int)) = true := decide_eq_true (by omega)
theorem dself (n : Nat) : decide ((n : Int) < (n : Int)) = false := decide_eq_false (by omega)
theorem ltI {k n : Nat} (h : k < n) : (k : Int) < (n : Int) := by omega
theorem geI (k : Nat) : (0 : Int) ≤ (k : Int) := by omega
theorem wrN {k n : Nat} (h : k < n) (hn : n ≤ 1000) : wrap64 ((k : Int) + 1) = (k : Int) + 1 := MS.wr1 _ (by omega) (by omega)
set_option maxHeartbeats 8000000 in
set_option maxRecDepth 100000 in
theorem del_calls (A0 A1 : Option Addr) (c0 c1 : Nat) (m : List MS.P2) (k : ByteArray) (W : World) (h0 : Kd.C Kd.string W A0 (m.map (·.1)).length (m.map (·.1))) (h1 : Kd.C (Kd.int .i64) W A1 (m.map (·.2)).length (m.map (·.2))) (hm : m.length ≤ 1000) :
    Calls Try.prog 25 #[.agg #[.slice A0 m.length c0, .slice A1 m.length c1], .string k] W fun ex W' => ∃ v1 v2, ex = .returned (.agg #[v1, v2]) ∧ Own W W' [.row Kd.string 9 v1 ((m.filter (keep k)).map (·.1)), .row (Kd.int .i64) 3 v2 ((m.filter (keep k)).map (·.2))] := by
  have hup := Try.underlying56
  have HK := Aside0.mk h0
  have HV := Aside0.mk h1
  have HM := Aside0.mk hm
  clear h0 h1 hm
  go_enter Try.func25, Try.ntmps25
  go_upto_block 0 with fail
  have H0 : Aside0 (Own W (((W.alloc (.cells #[.slice A0 m.length c0, .slice A1 m.length c1] 56)).alloc (.cells #[.slice none 0 0, .slice none 0 0] 56)).alloc (.cells #[.slice none 0 0, .slice none 0 0] 56)) (DL W.heap.size (W.heap.size + 1) (W.heap.size + 1 + 1) (.slice A0 m.length c0) (.slice A1 m.length c1) (.slice none 0 0) (.slice none 0 0) [] [])) := ⟨by
    have h := (((((Own.start W 7).alloc 0 rfl (.cells #[.slice A0 m.length c0, .slice A1 m.length c1] 56)).alloc 1 rfl (.cells #[.slice none 0 0, .slice none 0 0] 56)).alloc 2 rfl (.cells #[.slice none 0 0, .slice none 0 0] 56)).nil 3 Kd.string 9).nil 4 (Kd.int .i64) 3
    rw [show ((W.alloc (.cells #[.slice A0 m.length c0, .slice A1 m.length c1] 56)).alloc (.cells #[.slice none 0 0, .slice none 0 0] 56)).heap.size = W.heap.size + 1 + 1 by simp, show (W.alloc (.cells #[.slice A0 m.length c0, .slice A1 m.length c1] 56)).heap.size = W.heap.size + 1 by simp] at h
    exact h⟩
  generalize ((W.alloc (.cells #[.slice A0 m.length c0, .slice A1 m.length c1] 56)).alloc (.cells #[.slice none 0 0, .slice none 0 0] 56)).alloc (.cells #[.slice none 0 0, .slice none 0 0] 56) = W3 at H0 ⊢
  generalize W.heap.size + 1 + 1 = go at H0 ⊢
  generalize W.heap.size + 1 = gr at H0 ⊢
  generalize hgm : W.heap.size = gm at H0 ⊢
  clear hgm
  go_cut [] (fun w' => Aside0 (∃ vk vv, Own W w' (DL gm gr go (.slice A0 m.length c0) (.slice A1 m.length c1) vk vv ((m.filter (keep k)).map (·.1)) ((m.filter (keep k)).map (·.2)))))
  case first =>
    go_wp2_with fail
    go_loopg [6] m.length (fun gg s6 wr => ∃ i : Nat, i ≤ m.length ∧ m.length - i ≤ gg ∧ s6 = .int .i64 i ∧ Aside0 (∃ vk vv, Own W wr (DL gm gr go (.slice A0 m.length c0) (.slice A1 m.length c1) vk vv (((m.take i).filter (keep k)).map (·.1)) (((m.take i).filter (keep k)).map (·.2)))))
    case atStart => exact ⟨0, Nat.zero_le _, Nat.le_refl _, rfl, ⟨_, _, H0.out⟩⟩
    case round =>
      clear H0
      obtain ⟨i, hi, hg, rfl, ⟨vk, vv, hO⟩⟩ := hrel
      have HO := Aside0.mk hO
      clear hO
      have z0 : wr.cell? ⟨gm, 0, none⟩ = some (.slice A0 m.length c0) := HO.out.cell 0 rfl 0
      have z1 : wr.cell? ⟨gm, 1, none⟩ = some (.slice A1 m.length c1) := HO.out.cell 0 rfl 1
      by_cases hlt : i < m.length
      · have d1 := dlt hlt
        have hw := wrN hlt HM.out
        have hi1 := ltI hlt
        have hi0 := geI i
        have hlk : i < (m.map (·.1)).length := by rw [List.length_map]; exact hlt
        have hlv : i < (m.map (·.2)).length := by rw [List.length_map]; exact hlt
        obtain ⟨ad0, rfl, hx0⟩ := MS.at_S HK.out i hlk rfl
        obtain ⟨ad1, rfl, hy0⟩ := at_I HV.out i hlv rfl
        rw [List.getElem_map] at hx0 hy0
        have HF := Aside0.mk (takeF (k := k) hlt)
        have hkp : keep k m[i] = !(m[i].1.toList == k.toList) := rfl
        generalize m[i] = p at hx0 hy0 HF hkp
        have HX0 := Aside0.mk hx0
        have HX1 := Aside0.mk hy0
        have hx := (HO.out.1.cell (World.block_lt_of_cell? W _ HX0.out)).trans HX0.out
        clear hx0 hy0 hlk hlv
        have hks : (((m.take i).filter (keep k)).map (·.1)).length ≤ 1000 := by
          rw [List.length_map]
          exact Nat.le_trans (List.length_filter_le _ _) (Nat.le_trans (List.length_take_le _ _) (Nat.le_trans hi HM.out))
        have hvs : (((m.take i).filter (keep k)).map (·.2)).length ≤ 1000 := by
          rw [List.length_map]
          exact Nat.le_trans (List.length_filter_le _ _) (Nat.le_trans (List.length_take_le _ _) (Nat.le_trans hi HM.out))
        cases hb : (p.1.toList == k.toList) with
        | true =>
          rw [hb] at hkp
          have HF2 := HF.out
          rw [if_neg (by rw [hkp]; decide), List.append_nil] at HF2
          have HF3 := Aside0.mk HF2
          clear HF HF2 hkp z1
          go_wp2_with fail
          try rw [hw]
          go_roundg (m.length - (i + 1))
          case measure => exact MS.meas hlt hg
          case rel => exact ⟨i + 1, hlt, Nat.le_refl _, rfl, ⟨_, _, by rw [HF3.out]; exact HO.out⟩⟩
        | false =>
          rw [hb] at hkp
          have HF2 := HF.out
          rw [if_pos (by rw [hkp]; decide)] at HF2
          have HK3 := Aside0.mk (congrArg (List.map (·.1)) HF2)
          have HV3 := Aside0.mk (congrArg (List.map (·.2)) HF2)
          rw [List.map_append] at HK3 HV3
          clear HF HF2 hkp
          generalize ((m.take i).filter (keep k)).map (·.1) = ks at HO hks HK3
          generalize ((m.take i).filter (keep k)).map (·.2) = vs at HO hvs HV3
          obtain ⟨x, y⟩ := p
          obtain ⟨Ak, nk, ck, rfl⟩ := HO.out.isSlice 3 rfl
          obtain ⟨Av, nv, cv, rfl⟩ := HO.out.isSlice 4 rfl
          have HO2 := Aside0.mk HO.out
          unfold DL at HO2
          clear HO
          have HO := HO2
          clear HO2
          go_upto_region 6 with fail
          have HOd := Aside0.mk (HO.out.below (below_drew (Below.refl _ _)))
          clear HO
          have HO := HOd
          clear HOd
          refine start_ (n := 22) (S := fun w' => w'.cell? ⟨go, 0, none⟩ = some (.slice Ak nk ck) ∧ w'.cell? ⟨go, 1, none⟩ = some (.slice Av nv cv) ∧ w'.cell? ⟨gm, 0, none⟩ = some (.slice (some ad0) m.length c0) ∧ w'.cell? ⟨gm, 1, none⟩ = some (.slice (some ad1) m.length c1) ∧ w'.cell? (ad0.add i) = some (.string x) ∧ w'.cell? (ad1.add i) = some (.int .i64 y)) (ds := [19, 21]) #[false, false, false, false, false, false, false, false, false, false, false, false, false, false, false, false, false, false, false, false, false, false] (by kernel_rfl) rfl rfl ⟨(HO.out.cell 2 rfl 0).trans rfl, (HO.out.cell 2 rfl 1).trans rfl, (HO.out.cell 0 rfl 0).trans rfl, (HO.out.cell 0 rfl 1).trans rfl, (HO.out.1.cell (World.block_lt_of_cell? W _ HX0.out)).trans HX0.out, (HO.out.1.cell (World.block_lt_of_cell? W _ HX1.out)).trans HX1.out⟩ (fun hHeld => ?_)
          refine with_tabW refdel_tab refdel_bits (fun HT_ HW_ => ?_)
          generalize World.drew _ = W0 at HO hHeld ⊢
          refine pure_ (i := 0) (N := some 21) (v := ?_) (a' := ?_) #[true, false, false, false, false, false, false, false, false, false, false, false, false, false, false, false, false, false, false, false, false, false] rfl rfl (any_of HT_.out (by kernel_rfl)) (fun _ _ _ h => h) (Or.inl ⟨by rfl, ?_⟩) ?_ ?_
          rotate_left
          · intro w'
            go_simp
            with_reducible rfl
          rotate_left
          · simp only [Act.put, List.setIfInBounds_toArray, List.set_cons_zero, List.set_cons_succ, i64_w, i32_w]
            rfl
          refine take_ (i := 1) (N := some 22) (v := ?_) (a' := ?_) #[true, true, false, false, false, false, false, false, false, false, false, false, false, false, false, false, false, false, false, false, false, false] rfl rfl (take_ofW HT_.out HW_.out (by kernel_rfl)) (fun _ _ _ h => h) (Or.inl ⟨by rfl, ?_⟩) hHeld ?_ ?_
          rotate_left
          · rintro w' ⟨s0, s1, s2, s3, s4, s5⟩
            go_simp
            with_reducible rfl
          rotate_left
          · simp only [Act.put, List.setIfInBounds_toArray, List.set_cons_zero, List.set_cons_succ, i64_w, i32_w]
            rfl
          refine pure_ (i := 2) (N := some 23) (v := ?_) (a' := ?_) #[true, true, true, false, false, false, false, false, false, false, false, false, false, false, false, false, false, false, false, false, false, false] rfl rfl (any_of HT_.out (by kernel_rfl)) (fun _ _ _ h => h) (Or.inl ⟨by rfl, ?_⟩) ?_ ?_
          rotate_left
          · intro w'
            go_simp
            with_reducible rfl
          rotate_left
          · simp only [Act.put, List.setIfInBounds_toArray, List.set_cons_zero, List.set_cons_succ, i64_w, i32_w]
            rfl
          refine take_ (i := 3) (N := some 24) (v := ?_) (a' := ?_) #[true, true, true, true, false, false, false, false, false, false, false, false, false, false, false, false, false, false, false, false, false, false] rfl rfl (take_ofW HT_.out HW_.out (by kernel_rfl)) (fun _ _ _ h => h) (Or.inl ⟨by rfl, ?_⟩) hHeld ?_ ?_
          rotate_left
          · rintro w' ⟨s0, s1, s2, s3, s4, s5⟩
            go_simp
            with_reducible rfl
          rotate_left
          · simp only [Act.put, List.setIfInBounds_toArray, List.set_cons_zero, List.set_cons_succ, i64_w, i32_w]
            rfl
          refine pure_ (i := 4) (N := some 25) (v := ?_) (a' := ?_) #[true, true, true, true, true, false, false, false, false, false, false, false, false, false, false, false, false, false, false, false, false, false] rfl rfl (any_of HT_.out (by kernel_rfl)) (fun _ _ _ h => h) (Or.inl ⟨by rfl, ?_⟩) ?_ ?_
          rotate_left
          · intro w'
            go_simp
            with_reducible rfl
          rotate_left
          · simp only [Act.put, List.setIfInBounds_toArray, List.set_cons_zero, List.set_cons_succ, i64_w, i32_w]
            rfl
          refine pure_ (i := 5) (N := some 26) (v := ?_) (a' := ?_) #[true, true, true, true, true, true, false, false, false, false, false, false, false, false, false, false, false, false, false, false, false, false] rfl rfl (any_of HT_.out (by kernel_rfl)) (fun _ _ _ h => h) (Or.inl ⟨by rfl, ?_⟩) ?_ ?_
          rotate_left
          · intro w'
            go_simp
            with_reducible rfl
          rotate_left
          · simp only [Act.put, List.setIfInBounds_toArray, List.set_cons_zero, List.set_cons_succ, i64_w, i32_w]
            rfl
          refine take_ (i := 6) (N := some 27) (v := ?_) (a' := ?_) #[true, true, true, true, true, true, true, false, false, false, false, false, false, false, false, false, false, false, false, false, false, false] rfl rfl (take_ofW HT_.out HW_.out (by kernel_rfl)) (fun _ _ _ h => h) (Or.inl ⟨by rfl, ?_⟩) hHeld ?_ ?_
          rotate_left
          · rintro w' ⟨s0, s1, s2, s3, s4, s5⟩
            go_simp
            with_reducible rfl
          rotate_left
          · simp only [Act.put, List.setIfInBounds_toArray, List.set_cons_zero, List.set_cons_succ, i64_w, i32_w]
            rfl
          refine pure_ (i := 9) (N := some 30) (v := ?_) (a' := ?_) #[true, true, true, true, true, true, true, false, false, true, false, false, false, false, false, false, false, false, false, false, false, false] rfl rfl (any_of HT_.out (by kernel_rfl)) (fun _ _ _ h => h) (Or.inl ⟨by rfl, ?_⟩) ?_ ?_
          rotate_left
          · intro w'
            go_simp
            with_reducible rfl
          rotate_left
          · simp only [Act.put, List.setIfInBounds_toArray, List.set_cons_zero, List.set_cons_succ, i64_w, i32_w]
            rfl
          refine take_ (i := 10) (N := some 31) (v := ?_) (a' := ?_) #[true, true, true, true, true, true, true, false, false, true, true, false, false, false, false, false, false, false, false, false, false, false] rfl rfl (take_ofW HT_.out HW_.out (by kernel_rfl)) (fun _ _ _ h => h) (Or.inl ⟨by rfl, ?_⟩) hHeld ?_ ?_
          rotate_left
          · rintro w' ⟨s0, s1, s2, s3, s4, s5⟩
            go_simp
            with_reducible rfl
          rotate_left
          · simp only [Act.put, List.setIfInBounds_toArray, List.set_cons_zero, List.set_cons_succ, i64_w, i32_w]
            rfl
          refine pure_ (i := 11) (N := some 32) (v := ?_) (a' := ?_) #[true, true, true, true, true, true, true, false, false, true, true, true, false, false, false, false, false, false, false, false, false, false] rfl rfl (any_of HT_.out (by kernel_rfl)) (fun _ _ _ h => h) (Or.inl ⟨by rfl, ?_⟩) ?_ ?_
          rotate_left
          · intro w'
            go_simp
            with_reducible rfl
          rotate_left
          · simp only [Act.put, List.setIfInBounds_toArray, List.set_cons_zero, List.set_cons_succ, i64_w, i32_w]
            rfl
          refine take_ (i := 12) (N := some 33) (v := ?_) (a' := ?_) #[true, true, true, true, true, true, true, false, false, true, true, true, true, false, false, false, false, false, false, false, false, false] rfl rfl (take_ofW HT_.out HW_.out (by kernel_rfl)) (fun _ _ _ h => h) (Or.inl ⟨by rfl, ?_⟩) hHeld ?_ ?_
          rotate_left
          · rintro w' ⟨s0, s1, s2, s3, s4, s5⟩
            go_simp
            with_reducible rfl
          rotate_left
          · simp only [Act.put, List.setIfInBounds_toArray, List.set_cons_zero, List.set_cons_succ, i64_w, i32_w]
            rfl
          refine pure_ (i := 13) (N := some 34) (v := ?_) (a' := ?_) #[true, true, true, true, true, true, true, false, false, true, true, true, true, true, false, false, false, false, false, false, false, false] rfl rfl (any_of HT_.out (by kernel_rfl)) (fun _ _ _ h => h) (Or.inl ⟨by rfl, ?_⟩) ?_ ?_
          rotate_left
          · intro w'
            go_simp
            with_reducible rfl
          rotate_left
          · simp only [Act.put, List.setIfInBounds_toArray, List.set_cons_zero, List.set_cons_succ, i64_w, i32_w]
            rfl
          refine pure_ (i := 14) (N := some 35) (v := ?_) (a' := ?_) #[true, true, true, true, true, true, true, false, false, true, true, true, true, true, true, false, false, false, false, false, false, false] rfl rfl (any_of HT_.out (by kernel_rfl)) (fun _ _ _ h => h) (Or.inl ⟨by rfl, ?_⟩) ?_ ?_
          rotate_left
          · intro w'
            go_simp
            with_reducible rfl
          rotate_left
          · simp only [Act.put, List.setIfInBounds_toArray, List.set_cons_zero, List.set_cons_succ, i64_w, i32_w]
            rfl
          refine take_ (i := 15) (N := some 36) (v := ?_) (a' := ?_) #[true, true, true, true, true, true, true, false, false, true, true, true, true, true, true, true, false, false, false, false, false, false] rfl rfl (take_ofW HT_.out HW_.out (by kernel_rfl)) (fun _ _ _ h => h) (Or.inl ⟨by rfl, ?_⟩) hHeld ?_ ?_
          rotate_left
          · rintro w' ⟨s0, s1, s2, s3, s4, s5⟩
            go_simp
            with_reducible rfl
          rotate_left
          · simp only [Act.put, List.setIfInBounds_toArray, List.set_cons_zero, List.set_cons_succ, i64_w, i32_w]
            rfl
          refine join_ (σ := Value × Value × Value) 4 #[true, true, true, true, true, true, true, true, true, true, true, true, true, true, true, true, true, false, true, false, false, false] (fun s_ => [(28, s_.1), (29, s_.2.1), (37, s_.2.2), (39, .pointer (some ⟨go, 0, none⟩))]) (fun s_ w' => (w'.cell? ⟨go, 0, none⟩ = some (.slice Ak nk ck) ∧ w'.cell? ⟨go, 1, none⟩ = some (.slice Av nv cv) ∧ w'.cell? ⟨gm, 0, none⟩ = some (.slice (some ad0) m.length c0) ∧ w'.cell? ⟨gm, 1, none⟩ = some (.slice (some ad1) m.length c1) ∧ w'.cell? (ad0.add i) = some (.string x) ∧ w'.cell? (ad1.add i) = some (.int .i64 y)) ∧ Own W w' [.box gm (.cells #[.slice (some ad0) m.length c0, .slice (some ad1) m.length c1] 56 (0, 0)), .box gr (.cells #[.slice none 0 0, .slice none 0 0] 56 (0, 0)), .box go (.cells #[.slice Ak nk ck, .slice Av nv cv] 56 (0, 0)), .row Kd.string 9 s_.2.1 (ks ++ [x]), .row (Kd.int .i64) 3 (.slice Av nv cv) vs, .gone, .row (Kd.int .i64) 3 s_.2.2 [y]]) ?_ ?_
          rotate_left
          · intro hCont
            refine two_ (i := 7) (j := 16) (Ni := some 28) (Nj := some 37) #[true, true, true, true, true, true, true, true, false, true, true, true, true, true, true, true, false, false, false, false, false, false] #[true, true, true, true, true, true, true, false, false, true, true, true, true, true, true, true, true, false, false, false, false, false] rfl rfl rfl rfl (two_of HT_.out (by kernel_rfl)) (by decide) (by decide) (fun K hK => ?_) (fun K hK => ?_)
            · skip
              refine Own.lit_step Kd.string HO.out 5 rfl 9 ?hg (N := 28) ?hd (xs := [x]) (inner := [.string x]) ?hr ?hp (by simp) ?_; (case hd => rfl); (case hg => rfl); (case hr => first | (go_simp; done) | (go_simp; rfl)); (case hp => exact Reps.front (fun W2 _ => rfl) rfl (Reps.none _ _) rfl)
              intro vA wA HO'
              have HO1 := Aside0.mk HO'
              clear HO HO'
              have HO := HO1
              clear HO1
              obtain ⟨AvA_, cvA', evA⟩ := HO.out.row 5 rfl
              subst evA
              refine hK.out _ _ ⟨(HO.out.cell 2 rfl 0).trans rfl, (HO.out.cell 2 rfl 1).trans rfl, (HO.out.cell 0 rfl 0).trans rfl, (HO.out.cell 0 rfl 1).trans rfl, (HO.out.1.cell (World.block_lt_of_cell? W _ HX0.out)).trans HX0.out, (HO.out.1.cell (World.block_lt_of_cell? W _ HX1.out)).trans HX1.out⟩ (fun hHeld => ?_)
              clear hK K
              refine norm_ (a' := ?_) ?_ ?_
              rotate_left
              · show Act.put _ (some 28) _ = _
                simp only [Act.put, List.setIfInBounds_toArray, List.set_cons_zero, List.set_cons_succ, i64_w, i32_w]
                rfl
              refine two_ (i := 8) (j := 16) (Ni := some 29) (Nj := some 37) #[true, true, true, true, true, true, true, true, true, true, true, true, true, true, true, true, false, false, false, false, false, false] #[true, true, true, true, true, true, true, true, false, true, true, true, true, true, true, true, true, false, false, false, false, false] rfl rfl rfl rfl (two_of HT_.out (by kernel_rfl)) (by decide) (by decide) (fun K hK => ?_) (fun K hK => ?_)
              · skip
                refine Own.append_step Kd.string HO.out 3 5 (by decide) 9 rfl rfl (by rfl) (.tmp 22) (.tmp 28) 45 (.string ByteArray.empty) 16 rfl Try.underlying45 MS.infoS rfl (by decide) (by decide) rfl rfl (len16 hks) ?_
                intro vC wA HO'
                have HO1 := Aside0.mk HO'
                clear HO HO'
                have HO := HO1
                clear HO1
                refine hK.out _ _ ⟨(HO.out.cell 2 rfl 0).trans rfl, (HO.out.cell 2 rfl 1).trans rfl, (HO.out.cell 0 rfl 0).trans rfl, (HO.out.cell 0 rfl 1).trans rfl, (HO.out.1.cell (World.block_lt_of_cell? W _ HX0.out)).trans HX0.out, (HO.out.1.cell (World.block_lt_of_cell? W _ HX1.out)).trans HX1.out⟩ (fun hHeld => ?_)
                clear hK K
                refine norm_ (a' := ?_) ?_ ?_
                rotate_left
                · show Act.put _ (some 29) _ = _
                  simp only [Act.put, List.setIfInBounds_toArray, List.set_cons_zero, List.set_cons_succ, i64_w, i32_w]
                  rfl
                refine pure_ (i := 18) (N := some 39) (v := ?_) (a' := ?_) #[true, true, true, true, true, true, true, true, true, true, true, true, true, true, true, true, false, false, true, false, false, false] rfl rfl (any_of HT_.out (by kernel_rfl)) (fun _ _ _ h => h) (Or.inl ⟨by rfl, ?_⟩) ?_ ?_
                rotate_left
                · intro w'
                  go_simp
                  with_reducible rfl
                rotate_left
                · simp only [Act.put, List.setIfInBounds_toArray, List.set_cons_zero, List.set_cons_succ, i64_w, i32_w]
                  rfl
                refine one_ (i := 16) (N := some 37) #[true, true, true, true, true, true, true, true, true, true, true, true, true, true, true, true, true, false, true, false, false, false] rfl rfl (one_of HT_.out (by kernel_rfl)) (by decide) (fun K hK => ?_)
                refine Own.lit_step (Kd.int .i64) HO.out 6 rfl 3 ?hg (N := 37) ?hd (xs := [y]) (inner := [.int .i64 y]) ?hr ?hp (by simp) ?_; (case hd => rfl); (case hg => rfl); (case hr => first | (go_simp; done) | (go_simp; rfl)); (case hp => exact Reps.front (fun W2 _ => rfl) rfl (Reps.none _ _) rfl)
                intro vB wA HO'
                have HO1 := Aside0.mk HO'
                clear HO HO'
                have HO := HO1
                clear HO1
                obtain ⟨AvB_, cvB', evB⟩ := HO.out.row 6 rfl
                subst evB
                refine hK.out _ _ ⟨(HO.out.cell 2 rfl 0).trans rfl, (HO.out.cell 2 rfl 1).trans rfl, (HO.out.cell 0 rfl 0).trans rfl, (HO.out.cell 0 rfl 1).trans rfl, (HO.out.1.cell (World.block_lt_of_cell? W _ HX0.out)).trans HX0.out, (HO.out.1.cell (World.block_lt_of_cell? W _ HX1.out)).trans HX1.out⟩ (fun hHeld => ?_)
                clear hK K
                refine norm_ (a' := ?_) ?_ ?_
                rotate_left
                · show Act.put _ (some 37) _ = _
                  simp only [Act.put, List.setIfInBounds_toArray, List.set_cons_zero, List.set_cons_succ, i64_w, i32_w]
                  rfl
                exact norm_ (by simp only [putAll, Act.put, List.setIfInBounds_toArray, List.set_cons_zero, List.set_cons_succ]) (hCont (.slice AvA_ ([x] : List _).length cvA', vC, .slice AvB_ ([y] : List _).length cvB') _ ⟨hHeld, HO.out⟩)
              · skip
                refine Own.lit_step (Kd.int .i64) HO.out 6 rfl 3 ?hg (N := 37) ?hd (xs := [y]) (inner := [.int .i64 y]) ?hr ?hp (by simp) ?_; (case hd => rfl); (case hg => rfl); (case hr => first | (go_simp; done) | (go_simp; rfl)); (case hp => exact Reps.front (fun W2 _ => rfl) rfl (Reps.none _ _) rfl)
                intro vB wA HO'
                have HO1 := Aside0.mk HO'
                clear HO HO'
                have HO := HO1
                clear HO1
                obtain ⟨AvB_, cvB', evB⟩ := HO.out.row 6 rfl
                subst evB
                refine hK.out _ _ ⟨(HO.out.cell 2 rfl 0).trans rfl, (HO.out.cell 2 rfl 1).trans rfl, (HO.out.cell 0 rfl 0).trans rfl, (HO.out.cell 0 rfl 1).trans rfl, (HO.out.1.cell (World.block_lt_of_cell? W _ HX0.out)).trans HX0.out, (HO.out.1.cell (World.block_lt_of_cell? W _ HX1.out)).trans HX1.out⟩ (fun hHeld => ?_)
                clear hK K
                refine norm_ (a' := ?_) ?_ ?_
                rotate_left
                · show Act.put _ (some 37) _ = _
                  simp only [Act.put, List.setIfInBounds_toArray, List.set_cons_zero, List.set_cons_succ, i64_w, i32_w]
                  rfl
                refine one_ (i := 8) (N := some 29) #[true, true, true, true, true, true, true, true, true, true, true, true, true, true, true, true, true, false, false, false, false, false] rfl rfl (one_of HT_.out (by kernel_rfl)) (by decide) (fun K hK => ?_)
                refine Own.append_step Kd.string HO.out 3 5 (by decide) 9 rfl rfl (by rfl) (.tmp 22) (.tmp 28) 45 (.string ByteArray.empty) 16 rfl Try.underlying45 MS.infoS rfl (by decide) (by decide) rfl rfl (len16 hks) ?_
                intro vC wA HO'
                have HO1 := Aside0.mk HO'
                clear HO HO'
                have HO := HO1
                clear HO1
                refine hK.out _ _ ⟨(HO.out.cell 2 rfl 0).trans rfl, (HO.out.cell 2 rfl 1).trans rfl, (HO.out.cell 0 rfl 0).trans rfl, (HO.out.cell 0 rfl 1).trans rfl, (HO.out.1.cell (World.block_lt_of_cell? W _ HX0.out)).trans HX0.out, (HO.out.1.cell (World.block_lt_of_cell? W _ HX1.out)).trans HX1.out⟩ (fun hHeld => ?_)
                clear hK K
                refine norm_ (a' := ?_) ?_ ?_
                rotate_left
                · show Act.put _ (some 29) _ = _
                  simp only [Act.put, List.setIfInBounds_toArray, List.set_cons_zero, List.set_cons_succ, i64_w, i32_w]
                  rfl
                refine pure_ (i := 18) (N := some 39) (v := ?_) (a' := ?_) #[true, true, true, true, true, true, true, true, true, true, true, true, true, true, true, true, true, false, true, false, false, false] rfl rfl (any_of HT_.out (by kernel_rfl)) (fun _ _ _ h => h) (Or.inl ⟨by rfl, ?_⟩) ?_ ?_
                rotate_left
                · intro w'
                  go_simp
                  with_reducible rfl
                rotate_left
                · simp only [Act.put, List.setIfInBounds_toArray, List.set_cons_zero, List.set_cons_succ, i64_w, i32_w]
                  rfl
                exact norm_ (by simp only [putAll, Act.put, List.setIfInBounds_toArray, List.set_cons_zero, List.set_cons_succ]) (hCont (.slice AvA_ ([x] : List _).length cvA', vC, .slice AvB_ ([y] : List _).length cvB') _ ⟨hHeld, HO.out⟩)
            · skip
              refine Own.lit_step (Kd.int .i64) HO.out 6 rfl 3 ?hg (N := 37) ?hd (xs := [y]) (inner := [.int .i64 y]) ?hr ?hp (by simp) ?_; (case hd => rfl); (case hg => rfl); (case hr => first | (go_simp; done) | (go_simp; rfl)); (case hp => exact Reps.front (fun W2 _ => rfl) rfl (Reps.none _ _) rfl)
              intro vB wA HO'
              have HO1 := Aside0.mk HO'
              clear HO HO'
              have HO := HO1
              clear HO1
              obtain ⟨AvB_, cvB', evB⟩ := HO.out.row 6 rfl
              subst evB
              refine hK.out _ _ ⟨(HO.out.cell 2 rfl 0).trans rfl, (HO.out.cell 2 rfl 1).trans rfl, (HO.out.cell 0 rfl 0).trans rfl, (HO.out.cell 0 rfl 1).trans rfl, (HO.out.1.cell (World.block_lt_of_cell? W _ HX0.out)).trans HX0.out, (HO.out.1.cell (World.block_lt_of_cell? W _ HX1.out)).trans HX1.out⟩ (fun hHeld => ?_)
              clear hK K
              refine norm_ (a' := ?_) ?_ ?_
              rotate_left
              · show Act.put _ (some 37) _ = _
                simp only [Act.put, List.setIfInBounds_toArray, List.set_cons_zero, List.set_cons_succ, i64_w, i32_w]
                rfl
              refine one_ (i := 7) (N := some 28) #[true, true, true, true, true, true, true, true, false, true, true, true, true, true, true, true, true, false, false, false, false, false] rfl rfl (one_of HT_.out (by kernel_rfl)) (by decide) (fun K hK => ?_)
              refine Own.lit_step Kd.string HO.out 5 rfl 9 ?hg (N := 28) ?hd (xs := [x]) (inner := [.string x]) ?hr ?hp (by simp) ?_; (case hd => rfl); (case hg => rfl); (case hr => first | (go_simp; done) | (go_simp; rfl)); (case hp => exact Reps.front (fun W2 _ => rfl) rfl (Reps.none _ _) rfl)
              intro vA wA HO'
              have HO1 := Aside0.mk HO'
              clear HO HO'
              have HO := HO1
              clear HO1
              obtain ⟨AvA_, cvA', evA⟩ := HO.out.row 5 rfl
              subst evA
              refine hK.out _ _ ⟨(HO.out.cell 2 rfl 0).trans rfl, (HO.out.cell 2 rfl 1).trans rfl, (HO.out.cell 0 rfl 0).trans rfl, (HO.out.cell 0 rfl 1).trans rfl, (HO.out.1.cell (World.block_lt_of_cell? W _ HX0.out)).trans HX0.out, (HO.out.1.cell (World.block_lt_of_cell? W _ HX1.out)).trans HX1.out⟩ (fun hHeld => ?_)
              clear hK K
              refine norm_ (a' := ?_) ?_ ?_
              rotate_left
              · show Act.put _ (some 28) _ = _
                simp only [Act.put, List.setIfInBounds_toArray, List.set_cons_zero, List.set_cons_succ, i64_w, i32_w]
                rfl
              refine one_ (i := 8) (N := some 29) #[true, true, true, true, true, true, true, true, true, true, true, true, true, true, true, true, true, false, false, false, false, false] rfl rfl (one_of HT_.out (by kernel_rfl)) (by decide) (fun K hK => ?_)
              refine Own.append_step Kd.string HO.out 3 5 (by decide) 9 rfl rfl (by rfl) (.tmp 22) (.tmp 28) 45 (.string ByteArray.empty) 16 rfl Try.underlying45 MS.infoS rfl (by decide) (by decide) rfl rfl (len16 hks) ?_
              intro vC wA HO'
              have HO1 := Aside0.mk HO'
              clear HO HO'
              have HO := HO1
              clear HO1
              refine hK.out _ _ ⟨(HO.out.cell 2 rfl 0).trans rfl, (HO.out.cell 2 rfl 1).trans rfl, (HO.out.cell 0 rfl 0).trans rfl, (HO.out.cell 0 rfl 1).trans rfl, (HO.out.1.cell (World.block_lt_of_cell? W _ HX0.out)).trans HX0.out, (HO.out.1.cell (World.block_lt_of_cell? W _ HX1.out)).trans HX1.out⟩ (fun hHeld => ?_)
              clear hK K
              refine norm_ (a' := ?_) ?_ ?_
              rotate_left
              · show Act.put _ (some 29) _ = _
                simp only [Act.put, List.setIfInBounds_toArray, List.set_cons_zero, List.set_cons_succ, i64_w, i32_w]
                rfl
              refine pure_ (i := 18) (N := some 39) (v := ?_) (a' := ?_) #[true, true, true, true, true, true, true, true, true, true, true, true, true, true, true, true, true, false, true, false, false, false] rfl rfl (any_of HT_.out (by kernel_rfl)) (fun _ _ _ h => h) (Or.inl ⟨by rfl, ?_⟩) ?_ ?_
              rotate_left
              · intro w'
                go_simp
                with_reducible rfl
              rotate_left
              · simp only [Act.put, List.setIfInBounds_toArray, List.set_cons_zero, List.set_cons_succ, i64_w, i32_w]
                rfl
              exact norm_ (by simp only [putAll, Act.put, List.setIfInBounds_toArray, List.set_cons_zero, List.set_cons_succ]) (hCont (.slice AvA_ ([x] : List _).length cvA', vC, .slice AvB_ ([y] : List _).length cvB') _ ⟨hHeld, HO.out⟩)
          rintro ⟨vA, vC, vB⟩ W1 ⟨hHeld, hO⟩
          clear HO
          have HO := Aside0.mk hO
          clear hO
          obtain ⟨AB, cB, eB⟩ := HO.out.row 6 rfl
          simp only at eB
          subst eB
          refine norm_ (a' := ?_) ?_ ?_
          rotate_left
          · simp only [putAll, Act.put, List.setIfInBounds_toArray, List.set_cons_zero, List.set_cons_succ]
            rfl
          refine one_ (i := 17) (N := some 38) #[true, true, true, true, true, true, true, true, true, true, true, true, true, true, true, true, true, true, true, false, false, false] rfl rfl (one_of HT_.out (by kernel_rfl)) (by decide) (fun K hK => ?_)
          refine Own.append_step (Kd.int .i64) HO.out 4 6 (by decide) 3 rfl rfl (by rfl) (.tmp 31) (.tmp 37) 24 (.int .i64 0) 8 rfl Try.underlying24 infoI rfl (by decide) (by decide) rfl rfl (len8 hvs) ?_
          intro vD wA HO'
          have HO1 := Aside0.mk HO'
          clear HO HO'
          have HO := HO1
          clear HO1
          refine hK.out _ _ ⟨(HO.out.cell 2 rfl 0).trans rfl, (HO.out.cell 2 rfl 1).trans rfl, (HO.out.cell 0 rfl 0).trans rfl, (HO.out.cell 0 rfl 1).trans rfl, (HO.out.1.cell (World.block_lt_of_cell? W _ HX0.out)).trans HX0.out, (HO.out.1.cell (World.block_lt_of_cell? W _ HX1.out)).trans HX1.out⟩ (fun hHeld => ?_)
          clear hK K
          refine norm_ (a' := ?_) ?_ ?_
          rotate_left
          · show Act.put _ (some 38) _ = _
            simp only [Act.put, List.setIfInBounds_toArray, List.set_cons_zero, List.set_cons_succ, i64_w, i32_w]
            rfl
          obtain ⟨AC, cC, eC⟩ := HO.out.row 3 rfl
          replace eC : vC = _ := eC
          generalize List.length _ = nC at eC
          subst eC
          obtain ⟨AD, cD, eD⟩ := HO.out.row 4 rfl
          replace eD : vD = _ := eD
          generalize List.length _ = nD at eD
          subst eD
          refine last_ (i := 19) (N := none) #[true, true, true, true, true, true, true, true, true, true, true, true, true, true, true, true, true, true, true, true, false, false] rfl rfl (one_of HT_.out (by kernel_rfl)) (by decide) (fun K hK => ?_)
          have hs0 : wA.cell? ⟨go, 0, none⟩ = some (.slice Ak nk ck) := (HO.out.cell 2 rfl 0).trans rfl
          have hf0 := HO.out.frozen 2 rfl 0
          refine skip_ (w1 := ?_) (by rfl) rfl ?_ ?_
          rotate_left
          · go_simp
            rfl
          refine hK.out _ _ ?_
          clear hK K
          have HO1 := Aside0.mk (HO.out.store 2 rfl 0 (.slice AC nC cC) (cs' := #[.slice AC nC cC, .slice Av nv cv]) rfl)
          clear hs0 hf0 hHeld HO
          generalize wA.setCell ⟨go, 0, none⟩ (.slice AC nC cC) = W3 at HO1 ⊢
          have HO := HO1
          clear HO1
          refine pure_ (i := 20) (N := some 40) (v := ?_) (a' := ?_) #[true, true, true, true, true, true, true, true, true, true, true, true, true, true, true, true, true, true, true, true, true, false] rfl rfl (any_of HT_.out (by kernel_rfl)) (fun _ _ _ h => h) (Or.inl ⟨by rfl, ?_⟩) ?_ ?_
          rotate_left
          · intro w'
            go_simp
            with_reducible rfl
          rotate_left
          · simp only [Act.put, List.setIfInBounds_toArray, List.set_cons_zero, List.set_cons_succ, i64_w, i32_w]
            rfl
          refine last_ (i := 21) (N := none) #[true, true, true, true, true, true, true, true, true, true, true, true, true, true, true, true, true, true, true, true, true, true] rfl rfl (one_of HT_.out (by kernel_rfl)) (by decide) (fun K hK => ?_)
          have hs0 : W3.cell? ⟨go, 1, none⟩ = some (.slice Av nv cv) := (HO.out.cell 2 rfl 1).trans rfl
          have hf0 := HO.out.frozen 2 rfl 1
          refine skip_ (w1 := ?_) (by rfl) rfl ?_ ?_
          rotate_left
          · go_simp
            rfl
          refine hK.out _ _ ?_
          clear hK K
          have HO1 := Aside0.mk (HO.out.store 2 rfl 1 (.slice AD nD cD) (cs' := #[.slice AC nC cC, .slice AD nD cD]) rfl)
          clear hs0 hf0 HO
          generalize W3.setCell ⟨go, 1, none⟩ (.slice AD nD cD) = W4 at HO1 ⊢
          have HO := HO1
          clear HO1
          refine done_ (done_of HT_.out (by kernel_rfl)) ?_
          go_wp2_with fail
          try rw [hw]
          go_roundg (m.length - (i + 1))
          case measure => exact MS.meas hlt hg
          case rel => exact ⟨i + 1, hlt, Nat.le_refl _, rfl, ⟨_, _, by rw [HK3.out, HV3.out]; exact HO.out⟩⟩
      · obtain rfl : i = m.length := Nat.le_antisymm hi (Nat.not_lt.mp hlt)
        have d1 := dself m.length
        go_wp2_with fail
        go_meet
        case rel => rw [List.take_length] at HO; exact ⟨⟨vk, vv, HO.out⟩⟩
  case rest =>
    obtain ⟨vk, vv, hO⟩ := hcut.out
    obtain ⟨Ak, nk, ck, rfl⟩ := hO.isSlice 3 rfl
    obtain ⟨Av, nv, cv, rfl⟩ := hO.isSlice 4 rfl
    have HO := Aside0.mk hO
    clear hO hcut H0
    have z0 : wc.cell? ⟨go, 0, none⟩ = some (.slice Ak nk ck) := HO.out.cell 2 rfl 0
    have z1 : wc.cell? ⟨go, 1, none⟩ = some (.slice Av nv cv) := HO.out.cell 2 rfl 1
    have y0 : wc.cell? ⟨gr, 0, none⟩ = some (.slice none 0 0) := HO.out.cell 1 rfl 0
    have y1 : wc.cell? ⟨gr, 1, none⟩ = some (.slice none 0 0) := HO.out.cell 1 rfl 1
    have f0 : wc.frozen? ⟨gr, 0, none⟩ = false := HO.out.frozen 1 rfl 0
    have f1 : wc.frozen? ⟨gr, 1, none⟩ = false := HO.out.frozen 1 rfl 1
    have HO1 : Aside0 (Own W ((wc.setCell ⟨gr, 0, none⟩ (.slice Ak nk ck)).setCell ⟨gr, 1, none⟩ (.slice Av nv cv)) [.box gm (.cells #[.slice A0 m.length c0, .slice A1 m.length c1] 56 (0, 0)), .box gr (.cells #[.slice Ak nk ck, .slice Av nv cv] 56 (0, 0)), .box go (.cells #[.slice Ak nk ck, .slice Av nv cv] 56 (0, 0)), .row Kd.string 9 (.slice Ak nk ck) ((m.filter (keep k)).map (·.1)), .row (Kd.int .i64) 3 (.slice Av nv cv) ((m.filter (keep k)).map (·.2)), .gone, .gone]) :=
      ⟨(HO.out.store 1 rfl 0 (.slice Ak nk ck) (cs' := #[.slice Ak nk ck, .slice none 0 0]) rfl).store 1 rfl 1 (.slice Av nv cv) (cs' := #[.slice Ak nk ck, .slice Av nv cv]) rfl⟩
    go_upto_region 7 with fail
    go_cut [] (fun w' => Aside0 (Own W w' [.box gm (.cells #[.slice A0 m.length c0, .slice A1 m.length c1] 56 (0, 0)), .box gr (.cells #[.slice Ak nk ck, .slice Av nv cv] 56 (0, 0)), .box go (.cells #[.slice Ak nk ck, .slice Av nv cv] 56 (0, 0)), .row Kd.string 9 (.slice Ak nk ck) ((m.filter (keep k)).map (·.1)), .row (Kd.int .i64) 3 (.slice Av nv cv) ((m.filter (keep k)).map (·.2)), .gone, .gone]))
    case first =>
      go_wp2_with fail
      go_meet
      case rel => exact HO1
    case rest =>
      have HO2 := hcut
      clear hcut HO1 HO z0 z1 y0 y1 f0 f1
      refine ‹∀ (a : Act) (w : World), Code.wp Try.prog Code.ret _ a w → _› _ _ ?_
      refine wp_ret ?_
      refine bodyPost_ret (results_c1 rfl _ _ gr 56 #[.slice Ak nk ck, .slice Av nv cv] (0, 0) _ rfl (HO2.out.box 1 rfl) Try.underlying56 rfl (by kernel_rfl)) rfl ?_
      exact ⟨_, _, rfl, pick2 HO2.out 3 4 rfl rfl (by decide)⟩
set_option maxHeartbeats 8000000 in
set_option maxRecDepth 100000 in
theorem set_calls (A0 A1 : Option Addr) (c0 c1 : Nat) (m : List MS.P2) (x : ByteArray) (y : Int) (W : World) (h0 : Kd.C Kd.string W A0 (m.map (·.1)).length (m.map (·.1))) (h1 : Kd.C (Kd.int .i64) W A1 (m.map (·.2)).length (m.map (·.2))) (hm : m.length ≤ 1000) :
    Calls Try.prog 26 #[.agg #[.slice A0 m.length c0, .slice A1 m.length c1], .string x, .int .i64 y] W fun ex W' => ∃ v1 v2, ex = .returned (.agg #[v1, v2]) ∧ Own W W' [.row Kd.string 9 v1 ((m.filter (keep x) ++ [(x, y)]).map (·.1)), .row (Kd.int .i64) 3 v2 ((m.filter (keep x) ++ [(x, y)]).map (·.2))] := by
  have hup := Try.underlying56
  have HK := Aside0.mk h0
  have HV := Aside0.mk h1
  have HM := Aside0.mk hm
  have hks : ((m.filter (keep x)).map (·.1)).length ≤ 1000 := by
    rw [List.length_map]
    exact Nat.le_trans (List.length_filter_le _ _) hm
  have hvs : ((m.filter (keep x)).map (·.2)).length ≤ 1000 := by
    rw [List.length_map]
    exact Nat.le_trans (List.length_filter_le _ _) hm
  clear h0 h1 hm
  have H0 : Aside0 (Own W ((W.alloc (.cells #[.slice A0 m.length c0, .slice A1 m.length c1] 56)).alloc (.cells #[.slice none 0 0, .slice none 0 0] 56)) [.box W.heap.size (.cells #[.slice A0 m.length c0, .slice A1 m.length c1] 56 (0, 0)), .box (W.heap.size + 1) (.cells #[.slice none 0 0, .slice none 0 0] 56 (0, 0)), .gone, .gone, .gone, .gone, .gone]) := ⟨by
    have h := ((Own.start W 7).alloc 0 rfl (.cells #[.slice A0 m.length c0, .slice A1 m.length c1] 56)).alloc 1 rfl (.cells #[.slice none 0 0, .slice none 0 0] 56)
    rw [show (W.alloc (.cells #[.slice A0 m.length c0, .slice A1 m.length c1] 56)).heap.size = W.heap.size + 1 by simp] at h
    exact h⟩
  have hB := H0.out.1
  have HD := Aside0.mk (del_calls A0 A1 c0 c1 m x _ (Kd.Heap.C Kd.heap_string (fun k hk => hB.block k hk) HK.out) (Kd.Heap.C (Kd.heap_int _) (fun k hk => hB.block k hk) HV.out) HM.out)
  clear hB
  go_enter Try.func26, Try.ntmps26
  go_upto_region 2 with (go_at_call 25; refine HD.out.mono ?_; rintro e w1 ⟨v1, v2, rfl, hO⟩; have HO1 := Aside0.mk (rows2 H0.out hO 3 4 rfl rfl (by decide)); clear hO; obtain ⟨Ak, nk, ck, rfl⟩ := HO1.out.isSlice 3 rfl; obtain ⟨Av, nv, cv, rfl⟩ := HO1.out.isSlice 4 rfl)
  clear HD H0
  have HO := Aside0.mk (show Own W (w1.alloc (.cells #[.slice Ak nk ck, .slice Av nv cv] 56)) [.box W.heap.size (.cells #[.slice A0 m.length c0, .slice A1 m.length c1] 56 (0, 0)), .box (W.heap.size + 1) (.cells #[.slice none 0 0, .slice none 0 0] 56 (0, 0)), .box w1.heap.size (.cells #[.slice Ak nk ck, .slice Av nv cv] 56 (0, 0)), .row Kd.string 9 (.slice Ak nk ck) ((m.filter (keep x)).map (·.1)), .row (Kd.int .i64) 3 (.slice Av nv cv) ((m.filter (keep x)).map (·.2)), .gone, .gone] from HO1.out.alloc 2 rfl (.cells #[.slice Ak nk ck, .slice Av nv cv] 56))
  clear HO1
  have e1 : Aside0 ((m.filter (keep x) ++ [(x, y)]).map (·.1) = (m.filter (keep x)).map (·.1) ++ [x]) := ⟨List.map_append⟩
  have e2 : Aside0 ((m.filter (keep x) ++ [(x, y)]).map (·.2) = (m.filter (keep x)).map (·.2) ++ [y]) := ⟨List.map_append⟩
  generalize w1.alloc (.cells #[.slice Ak nk ck, .slice Av nv cv] 56) = wr at HO ⊢
  generalize w1.heap.size = go at HO ⊢
  generalize W.heap.size + 1 = gr at HO ⊢
  generalize hgm : W.heap.size = gm at HO ⊢
  clear hgm
  generalize (m.filter (keep x)).map (·.1) = ks at HO hks e1
  generalize (m.filter (keep x)).map (·.2) = vs at HO hvs e2
  go_cut [] (fun w' => Aside0 (∃ v1 v2, Own W w' [.box gm (.cells #[.slice A0 m.length c0, .slice A1 m.length c1] 56 (0, 0)), .box gr (.cells #[.slice none 0 0, .slice none 0 0] 56 (0, 0)), .box go (.cells #[v1, v2] 56 (0, 0)), .row Kd.string 9 v1 (ks ++ [x]), .row (Kd.int .i64) 3 v2 (vs ++ [y]), .gone, .gone]))
  case first =>
    have HOd := Aside0.mk (HO.out.below (below_drew (Below.refl _ _)))
    clear HO
    have HO := HOd
    clear HOd
    refine start_ (n := 14) (S := fun w' => w'.cell? ⟨go, 0, none⟩ = some (.slice Ak nk ck) ∧ w'.cell? ⟨go, 1, none⟩ = some (.slice Av nv cv)) (ds := [11, 13]) #[false, false, false, false, false, false, false, false, false, false, false, false, false, false] (by kernel_rfl) rfl rfl ⟨(HO.out.cell 2 rfl 0).trans rfl, (HO.out.cell 2 rfl 1).trans rfl⟩ (fun hHeld => ?_)
    refine with_tabW refset_tab refset_bits (fun HT_ HW_ => ?_)
    generalize World.drew _ = W0 at HO hHeld ⊢
    refine pure_ (i := 0) (N := some 11) (v := ?_) (a' := ?_) #[true, false, false, false, false, false, false, false, false, false, false, false, false, false] rfl rfl (any_of HT_.out (by kernel_rfl)) (fun _ _ _ h => h) (Or.inl ⟨by rfl, ?_⟩) ?_ ?_
    rotate_left
    · intro w'
      go_simp
      with_reducible rfl
    rotate_left
    · simp only [Act.put, List.setIfInBounds_toArray, List.set_cons_zero, List.set_cons_succ, i64_w, i32_w]
      rfl
    refine take_ (i := 1) (N := some 12) (v := ?_) (a' := ?_) #[true, true, false, false, false, false, false, false, false, false, false, false, false, false] rfl rfl (take_ofW HT_.out HW_.out (by kernel_rfl)) (fun _ _ _ h => h) (Or.inl ⟨by rfl, ?_⟩) hHeld ?_ ?_
    rotate_left
    · rintro w' ⟨s0, s1⟩
      go_simp
      with_reducible rfl
    rotate_left
    · simp only [Act.put, List.setIfInBounds_toArray, List.set_cons_zero, List.set_cons_succ, i64_w, i32_w]
      rfl
    refine pure_ (i := 2) (N := some 13) (v := ?_) (a' := ?_) #[true, true, true, false, false, false, false, false, false, false, false, false, false, false] rfl rfl (any_of HT_.out (by kernel_rfl)) (fun _ _ _ h => h) (Or.inl ⟨by rfl, ?_⟩) ?_ ?_
    rotate_left
    · intro w'
      go_simp
      with_reducible rfl
    rotate_left
    · simp only [Act.put, List.setIfInBounds_toArray, List.set_cons_zero, List.set_cons_succ, i64_w, i32_w]
      rfl
    refine pure_ (i := 5) (N := some 16) (v := ?_) (a' := ?_) #[true, true, true, false, false, true, false, false, false, false, false, false, false, false] rfl rfl (any_of HT_.out (by kernel_rfl)) (fun _ _ _ h => h) (Or.inl ⟨by rfl, ?_⟩) ?_ ?_
    rotate_left
    · intro w'
      go_simp
      with_reducible rfl
    rotate_left
    · simp only [Act.put, List.setIfInBounds_toArray, List.set_cons_zero, List.set_cons_succ, i64_w, i32_w]
      rfl
    refine take_ (i := 6) (N := some 17) (v := ?_) (a' := ?_) #[true, true, true, false, false, true, true, false, false, false, false, false, false, false] rfl rfl (take_ofW HT_.out HW_.out (by kernel_rfl)) (fun _ _ _ h => h) (Or.inl ⟨by rfl, ?_⟩) hHeld ?_ ?_
    rotate_left
    · rintro w' ⟨s0, s1⟩
      go_simp
      with_reducible rfl
    rotate_left
    · simp only [Act.put, List.setIfInBounds_toArray, List.set_cons_zero, List.set_cons_succ, i64_w, i32_w]
      rfl
    refine pure_ (i := 7) (N := some 18) (v := ?_) (a' := ?_) #[true, true, true, false, false, true, true, true, false, false, false, false, false, false] rfl rfl (any_of HT_.out (by kernel_rfl)) (fun _ _ _ h => h) (Or.inl ⟨by rfl, ?_⟩) ?_ ?_
    rotate_left
    · intro w'
      go_simp
      with_reducible rfl
    rotate_left
    · simp only [Act.put, List.setIfInBounds_toArray, List.set_cons_zero, List.set_cons_succ, i64_w, i32_w]
      rfl
    refine join_ (σ := Value × Value × Value) 4 #[true, true, true, true, true, true, true, true, true, false, true, false, false, false] (fun s_ => [(14, s_.1), (15, s_.2.1), (19, s_.2.2), (21, .pointer (some ⟨go, 0, none⟩))]) (fun s_ w' => (w'.cell? ⟨go, 0, none⟩ = some (.slice Ak nk ck) ∧ w'.cell? ⟨go, 1, none⟩ = some (.slice Av nv cv)) ∧ Own W w' [.box gm (.cells #[.slice A0 m.length c0, .slice A1 m.length c1] 56 (0, 0)), .box gr (.cells #[.slice none 0 0, .slice none 0 0] 56 (0, 0)), .box go (.cells #[.slice Ak nk ck, .slice Av nv cv] 56 (0, 0)), .row Kd.string 9 s_.2.1 (ks ++ [x]), .row (Kd.int .i64) 3 (.slice Av nv cv) vs, .gone, .row (Kd.int .i64) 3 s_.2.2 [y]]) ?_ ?_
    rotate_left
    · intro hCont
      refine two_ (i := 3) (j := 8) (Ni := some 14) (Nj := some 19) #[true, true, true, true, false, true, true, true, false, false, false, false, false, false] #[true, true, true, false, false, true, true, true, true, false, false, false, false, false] rfl rfl rfl rfl (two_of HT_.out (by kernel_rfl)) (by decide) (by decide) (fun K hK => ?_) (fun K hK => ?_)
      · skip
        refine Own.lit_step Kd.string HO.out 5 rfl 9 ?hg (N := 14) ?hd (xs := [x]) (inner := [.string x]) ?hr ?hp (by simp) ?_; (case hd => rfl); (case hg => rfl); (case hr => first | (go_simp; done) | (go_simp; rfl)); (case hp => exact Reps.front (fun W2 _ => rfl) rfl (Reps.none _ _) rfl)
        intro vA wA HO'
        have HO1 := Aside0.mk HO'
        clear HO HO'
        have HO := HO1
        clear HO1
        obtain ⟨AvA_, cvA', evA⟩ := HO.out.row 5 rfl
        subst evA
        refine hK.out _ _ ⟨(HO.out.cell 2 rfl 0).trans rfl, (HO.out.cell 2 rfl 1).trans rfl⟩ (fun hHeld => ?_)
        clear hK K
        refine norm_ (a' := ?_) ?_ ?_
        rotate_left
        · show Act.put _ (some 14) _ = _
          simp only [Act.put, List.setIfInBounds_toArray, List.set_cons_zero, List.set_cons_succ, i64_w, i32_w]
          rfl
        refine two_ (i := 4) (j := 8) (Ni := some 15) (Nj := some 19) #[true, true, true, true, true, true, true, true, false, false, false, false, false, false] #[true, true, true, true, false, true, true, true, true, false, false, false, false, false] rfl rfl rfl rfl (two_of HT_.out (by kernel_rfl)) (by decide) (by decide) (fun K hK => ?_) (fun K hK => ?_)
        · skip
          refine Own.append_step Kd.string HO.out 3 5 (by decide) 9 rfl rfl (by rfl) (.tmp 12) (.tmp 14) 45 (.string ByteArray.empty) 16 rfl Try.underlying45 MS.infoS rfl (by decide) (by decide) rfl rfl (len16 hks) ?_
          intro vC wA HO'
          have HO1 := Aside0.mk HO'
          clear HO HO'
          have HO := HO1
          clear HO1
          refine hK.out _ _ ⟨(HO.out.cell 2 rfl 0).trans rfl, (HO.out.cell 2 rfl 1).trans rfl⟩ (fun hHeld => ?_)
          clear hK K
          refine norm_ (a' := ?_) ?_ ?_
          rotate_left
          · show Act.put _ (some 15) _ = _
            simp only [Act.put, List.setIfInBounds_toArray, List.set_cons_zero, List.set_cons_succ, i64_w, i32_w]
            rfl
          refine pure_ (i := 10) (N := some 21) (v := ?_) (a' := ?_) #[true, true, true, true, true, true, true, true, false, false, true, false, false, false] rfl rfl (any_of HT_.out (by kernel_rfl)) (fun _ _ _ h => h) (Or.inl ⟨by rfl, ?_⟩) ?_ ?_
          rotate_left
          · intro w'
            go_simp
            with_reducible rfl
          rotate_left
          · simp only [Act.put, List.setIfInBounds_toArray, List.set_cons_zero, List.set_cons_succ, i64_w, i32_w]
            rfl
          refine one_ (i := 8) (N := some 19) #[true, true, true, true, true, true, true, true, true, false, true, false, false, false] rfl rfl (one_of HT_.out (by kernel_rfl)) (by decide) (fun K hK => ?_)
          refine Own.lit_step (Kd.int .i64) HO.out 6 rfl 3 ?hg (N := 19) ?hd (xs := [y]) (inner := [.int .i64 y]) ?hr ?hp (by simp) ?_; (case hd => rfl); (case hg => rfl); (case hr => first | (go_simp; done) | (go_simp; rfl)); (case hp => exact Reps.front (fun W2 _ => rfl) rfl (Reps.none _ _) rfl)
          intro vB wA HO'
          have HO1 := Aside0.mk HO'
          clear HO HO'
          have HO := HO1
          clear HO1
          obtain ⟨AvB_, cvB', evB⟩ := HO.out.row 6 rfl
          subst evB
          refine hK.out _ _ ⟨(HO.out.cell 2 rfl 0).trans rfl, (HO.out.cell 2 rfl 1).trans rfl⟩ (fun hHeld => ?_)
          clear hK K
          refine norm_ (a' := ?_) ?_ ?_
          rotate_left
          · show Act.put _ (some 19) _ = _
            simp only [Act.put, List.setIfInBounds_toArray, List.set_cons_zero, List.set_cons_succ, i64_w, i32_w]
            rfl
          exact norm_ (by simp only [putAll, Act.put, List.setIfInBounds_toArray, List.set_cons_zero, List.set_cons_succ]) (hCont (.slice AvA_ ([x] : List _).length cvA', vC, .slice AvB_ ([y] : List _).length cvB') _ ⟨hHeld, HO.out⟩)
        · skip
          refine Own.lit_step (Kd.int .i64) HO.out 6 rfl 3 ?hg (N := 19) ?hd (xs := [y]) (inner := [.int .i64 y]) ?hr ?hp (by simp) ?_; (case hd => rfl); (case hg => rfl); (case hr => first | (go_simp; done) | (go_simp; rfl)); (case hp => exact Reps.front (fun W2 _ => rfl) rfl (Reps.none _ _) rfl)
          intro vB wA HO'
          have HO1 := Aside0.mk HO'
          clear HO HO'
          have HO := HO1
          clear HO1
          obtain ⟨AvB_, cvB', evB⟩ := HO.out.row 6 rfl
          subst evB
          refine hK.out _ _ ⟨(HO.out.cell 2 rfl 0).trans rfl, (HO.out.cell 2 rfl 1).trans rfl⟩ (fun hHeld => ?_)
          clear hK K
          refine norm_ (a' := ?_) ?_ ?_
          rotate_left
          · show Act.put _ (some 19) _ = _
            simp only [Act.put, List.setIfInBounds_toArray, List.set_cons_zero, List.set_cons_succ, i64_w, i32_w]
            rfl
          refine one_ (i := 4) (N := some 15) #[true, true, true, true, true, true, true, true, true, false, false, false, false, false] rfl rfl (one_of HT_.out (by kernel_rfl)) (by decide) (fun K hK => ?_)
          refine Own.append_step Kd.string HO.out 3 5 (by decide) 9 rfl rfl (by rfl) (.tmp 12) (.tmp 14) 45 (.string ByteArray.empty) 16 rfl Try.underlying45 MS.infoS rfl (by decide) (by decide) rfl rfl (len16 hks) ?_
          intro vC wA HO'
          have HO1 := Aside0.mk HO'
          clear HO HO'
          have HO := HO1
          clear HO1
          refine hK.out _ _ ⟨(HO.out.cell 2 rfl 0).trans rfl, (HO.out.cell 2 rfl 1).trans rfl⟩ (fun hHeld => ?_)
          clear hK K
          refine norm_ (a' := ?_) ?_ ?_
          rotate_left
          · show Act.put _ (some 15) _ = _
            simp only [Act.put, List.setIfInBounds_toArray, List.set_cons_zero, List.set_cons_succ, i64_w, i32_w]
            rfl
          refine pure_ (i := 10) (N := some 21) (v := ?_) (a' := ?_) #[true, true, true, true, true, true, true, true, true, false, true, false, false, false] rfl rfl (any_of HT_.out (by kernel_rfl)) (fun _ _ _ h => h) (Or.inl ⟨by rfl, ?_⟩) ?_ ?_
          rotate_left
          · intro w'
            go_simp
            with_reducible rfl
          rotate_left
          · simp only [Act.put, List.setIfInBounds_toArray, List.set_cons_zero, List.set_cons_succ, i64_w, i32_w]
            rfl
          exact norm_ (by simp only [putAll, Act.put, List.setIfInBounds_toArray, List.set_cons_zero, List.set_cons_succ]) (hCont (.slice AvA_ ([x] : List _).length cvA', vC, .slice AvB_ ([y] : List _).length cvB') _ ⟨hHeld, HO.out⟩)
      · skip
        refine Own.lit_step (Kd.int .i64) HO.out 6 rfl 3 ?hg (N := 19) ?hd (xs := [y]) (inner := [.int .i64 y]) ?hr ?hp (by simp) ?_; (case hd => rfl); (case hg => rfl); (case hr => first | (go_simp; done) | (go_simp; rfl)); (case hp => exact Reps.front (fun W2 _ => rfl) rfl (Reps.none _ _) rfl)
        intro vB wA HO'
        have HO1 := Aside0.mk HO'
        clear HO HO'
        have HO := HO1
        clear HO1
        obtain ⟨AvB_, cvB', evB⟩ := HO.out.row 6 rfl
        subst evB
        refine hK.out _ _ ⟨(HO.out.cell 2 rfl 0).trans rfl, (HO.out.cell 2 rfl 1).trans rfl⟩ (fun hHeld => ?_)
        clear hK K
        refine norm_ (a' := ?_) ?_ ?_
        rotate_left
        · show Act.put _ (some 19) _ = _
          simp only [Act.put, List.setIfInBounds_toArray, List.set_cons_zero, List.set_cons_succ, i64_w, i32_w]
          rfl
        refine one_ (i := 3) (N := some 14) #[true, true, true, true, false, true, true, true, true, false, false, false, false, false] rfl rfl (one_of HT_.out (by kernel_rfl)) (by decide) (fun K hK => ?_)
        refine Own.lit_step Kd.string HO.out 5 rfl 9 ?hg (N := 14) ?hd (xs := [x]) (inner := [.string x]) ?hr ?hp (by simp) ?_; (case hd => rfl); (case hg => rfl); (case hr => first | (go_simp; done) | (go_simp; rfl)); (case hp => exact Reps.front (fun W2 _ => rfl) rfl (Reps.none _ _) rfl)
        intro vA wA HO'
        have HO1 := Aside0.mk HO'
        clear HO HO'
        have HO := HO1
        clear HO1
        obtain ⟨AvA_, cvA', evA⟩ := HO.out.row 5 rfl
        subst evA
        refine hK.out _ _ ⟨(HO.out.cell 2 rfl 0).trans rfl, (HO.out.cell 2 rfl 1).trans rfl⟩ (fun hHeld => ?_)
        clear hK K
        refine norm_ (a' := ?_) ?_ ?_
        rotate_left
        · show Act.put _ (some 14) _ = _
          simp only [Act.put, List.setIfInBounds_toArray, List.set_cons_zero, List.set_cons_succ, i64_w, i32_w]
          rfl
        refine one_ (i := 4) (N := some 15) #[true, true, true, true, true, true, true, true, true, false, false, false, false, false] rfl rfl (one_of HT_.out (by kernel_rfl)) (by decide) (fun K hK => ?_)
        refine Own.append_step Kd.string HO.out 3 5 (by decide) 9 rfl rfl (by rfl) (.tmp 12) (.tmp 14) 45 (.string ByteArray.empty) 16 rfl Try.underlying45 MS.infoS rfl (by decide) (by decide) rfl rfl (len16 hks) ?_
        intro vC wA HO'
        have HO1 := Aside0.mk HO'
        clear HO HO'
        have HO := HO1
        clear HO1
        refine hK.out _ _ ⟨(HO.out.cell 2 rfl 0).trans rfl, (HO.out.cell 2 rfl 1).trans rfl⟩ (fun hHeld => ?_)
        clear hK K
        refine norm_ (a' := ?_) ?_ ?_
        rotate_left
        · show Act.put _ (some 15) _ = _
          simp only [Act.put, List.setIfInBounds_toArray, List.set_cons_zero, List.set_cons_succ, i64_w, i32_w]
          rfl
        refine pure_ (i := 10) (N := some 21) (v := ?_) (a' := ?_) #[true, true, true, true, true, true, true, true, true, false, true, false, false, false] rfl rfl (any_of HT_.out (by kernel_rfl)) (fun _ _ _ h => h) (Or.inl ⟨by rfl, ?_⟩) ?_ ?_
        rotate_left
        · intro w'
          go_simp
          with_reducible rfl
        rotate_left
        · simp only [Act.put, List.setIfInBounds_toArray, List.set_cons_zero, List.set_cons_succ, i64_w, i32_w]
          rfl
        exact norm_ (by simp only [putAll, Act.put, List.setIfInBounds_toArray, List.set_cons_zero, List.set_cons_succ]) (hCont (.slice AvA_ ([x] : List _).length cvA', vC, .slice AvB_ ([y] : List _).length cvB') _ ⟨hHeld, HO.out⟩)
    rintro ⟨vA, vC, vB⟩ W1 ⟨hHeld, hO⟩
    clear HO
    have HO := Aside0.mk hO
    clear hO
    obtain ⟨AB, cB, eB⟩ := HO.out.row 6 rfl
    simp only at eB
    subst eB
    refine norm_ (a' := ?_) ?_ ?_
    rotate_left
    · simp only [putAll, Act.put, List.setIfInBounds_toArray, List.set_cons_zero, List.set_cons_succ]
      rfl
    refine one_ (i := 9) (N := some 20) #[true, true, true, true, true, true, true, true, true, true, true, false, false, false] rfl rfl (one_of HT_.out (by kernel_rfl)) (by decide) (fun K hK => ?_)
    refine Own.append_step (Kd.int .i64) HO.out 4 6 (by decide) 3 rfl rfl (by rfl) (.tmp 17) (.tmp 19) 24 (.int .i64 0) 8 rfl Try.underlying24 infoI rfl (by decide) (by decide) rfl rfl (len8 hvs) ?_
    intro vD wA HO'
    have HO1 := Aside0.mk HO'
    clear HO HO'
    have HO := HO1
    clear HO1
    refine hK.out _ _ ⟨(HO.out.cell 2 rfl 0).trans rfl, (HO.out.cell 2 rfl 1).trans rfl⟩ (fun hHeld => ?_)
    clear hK K
    refine norm_ (a' := ?_) ?_ ?_
    rotate_left
    · show Act.put _ (some 20) _ = _
      simp only [Act.put, List.setIfInBounds_toArray, List.set_cons_zero, List.set_cons_succ, i64_w, i32_w]
      rfl
    obtain ⟨AC, cC, eC⟩ := HO.out.row 3 rfl
    replace eC : vC = _ := eC
    generalize List.length _ = nC at eC
    subst eC
    obtain ⟨AD, cD, eD⟩ := HO.out.row 4 rfl
    replace eD : vD = _ := eD
    generalize List.length _ = nD at eD
    subst eD
    refine last_ (i := 11) (N := none) #[true, true, true, true, true, true, true, true, true, true, true, true, false, false] rfl rfl (one_of HT_.out (by kernel_rfl)) (by decide) (fun K hK => ?_)
    have hs0 : wA.cell? ⟨go, 0, none⟩ = some (.slice Ak nk ck) := (HO.out.cell 2 rfl 0).trans rfl
    have hf0 := HO.out.frozen 2 rfl 0
    refine skip_ (w1 := ?_) (by rfl) rfl ?_ ?_
    rotate_left
    · go_simp
      rfl
    refine hK.out _ _ ?_
    clear hK K
    have HO1 := Aside0.mk (HO.out.store 2 rfl 0 (.slice AC nC cC) (cs' := #[.slice AC nC cC, .slice Av nv cv]) rfl)
    clear hs0 hf0 hHeld HO
    generalize wA.setCell ⟨go, 0, none⟩ (.slice AC nC cC) = W3 at HO1 ⊢
    have HO := HO1
    clear HO1
    refine pure_ (i := 12) (N := some 22) (v := ?_) (a' := ?_) #[true, true, true, true, true, true, true, true, true, true, true, true, true, false] rfl rfl (any_of HT_.out (by kernel_rfl)) (fun _ _ _ h => h) (Or.inl ⟨by rfl, ?_⟩) ?_ ?_
    rotate_left
    · intro w'
      go_simp
      with_reducible rfl
    rotate_left
    · simp only [Act.put, List.setIfInBounds_toArray, List.set_cons_zero, List.set_cons_succ, i64_w, i32_w]
      rfl
    refine last_ (i := 13) (N := none) #[true, true, true, true, true, true, true, true, true, true, true, true, true, true] rfl rfl (one_of HT_.out (by kernel_rfl)) (by decide) (fun K hK => ?_)
    have hs0 : W3.cell? ⟨go, 1, none⟩ = some (.slice Av nv cv) := (HO.out.cell 2 rfl 1).trans rfl
    have hf0 := HO.out.frozen 2 rfl 1
    refine skip_ (w1 := ?_) (by rfl) rfl ?_ ?_
    rotate_left
    · go_simp
      rfl
    refine hK.out _ _ ?_
    clear hK K
    have HO1 := Aside0.mk (HO.out.store 2 rfl 1 (.slice AD nD cD) (cs' := #[.slice AC nC cC, .slice AD nD cD]) rfl)
    clear hs0 hf0 HO
    generalize W3.setCell ⟨go, 1, none⟩ (.slice AD nD cD) = W4 at HO1 ⊢
    have HO := HO1
    clear HO1
    refine done_ (done_of HT_.out (by kernel_rfl)) ?_
    go_wp2_with fail
    go_meet
    case rel => exact ⟨⟨_, _, HO.out⟩⟩
  case rest =>
    obtain ⟨v1, v2, hO⟩ := hcut.out
    obtain ⟨AC, nC, cC, rfl⟩ := hO.isSlice 3 rfl
    obtain ⟨AD, nD, cD, rfl⟩ := hO.isSlice 4 rfl
    have HO2 := Aside0.mk hO
    clear hO hcut HO
    have z0 : wc.cell? ⟨go, 0, none⟩ = some (.slice AC nC cC) := HO2.out.cell 2 rfl 0
    have z1 : wc.cell? ⟨go, 1, none⟩ = some (.slice AD nD cD) := HO2.out.cell 2 rfl 1
    have y0 : wc.cell? ⟨gr, 0, none⟩ = some (.slice none 0 0) := HO2.out.cell 1 rfl 0
    have y1 : wc.cell? ⟨gr, 1, none⟩ = some (.slice none 0 0) := HO2.out.cell 1 rfl 1
    have f0 : wc.frozen? ⟨gr, 0, none⟩ = false := HO2.out.frozen 1 rfl 0
    have f1 : wc.frozen? ⟨gr, 1, none⟩ = false := HO2.out.frozen 1 rfl 1
    have HO1 : Aside0 (Own W ((wc.setCell ⟨gr, 0, none⟩ (.slice AC nC cC)).setCell ⟨gr, 1, none⟩ (.slice AD nD cD)) [.box gm (.cells #[.slice A0 m.length c0, .slice A1 m.length c1] 56 (0, 0)), .box gr (.cells #[.slice AC nC cC, .slice AD nD cD] 56 (0, 0)), .box go (.cells #[.slice AC nC cC, .slice AD nD cD] 56 (0, 0)), .row Kd.string 9 (.slice AC nC cC) (ks ++ [x]), .row (Kd.int .i64) 3 (.slice AD nD cD) (vs ++ [y]), .gone, .gone]) :=
      ⟨(HO2.out.store 1 rfl 0 (.slice AC nC cC) (cs' := #[.slice AC nC cC, .slice none 0 0]) rfl).store 1 rfl 1 (.slice AD nD cD) (cs' := #[.slice AC nC cC, .slice AD nD cD]) rfl⟩
    go_upto_region 3 with fail
    go_cut [] (fun w' => Aside0 (Own W w' [.box gm (.cells #[.slice A0 m.length c0, .slice A1 m.length c1] 56 (0, 0)), .box gr (.cells #[.slice AC nC cC, .slice AD nD cD] 56 (0, 0)), .box go (.cells #[.slice AC nC cC, .slice AD nD cD] 56 (0, 0)), .row Kd.string 9 (.slice AC nC cC) (ks ++ [x]), .row (Kd.int .i64) 3 (.slice AD nD cD) (vs ++ [y]), .gone, .gone]))
    case first =>
      go_wp2_with fail
      go_meet
      case rel => exact HO1
    case rest =>
      have HO3 := hcut
      clear hcut HO1 HO2 z0 z1 y0 y1 f0 f1
      refine ‹∀ (a : Act) (w : World), Code.wp Try.prog Code.ret _ a w → _› _ _ ?_
      refine wp_ret ?_
      refine bodyPost_ret (results_c1 rfl _ _ gr 56 #[.slice AC nC cC, .slice AD nD cD] (0, 0) _ rfl (HO3.out.box 1 rfl) Try.underlying56 rfl (by kernel_rfl)) rfl ?_
      rw [e1.out, e2.out]
      exact ⟨_, _, rfl, pick2 HO3.out 3 4 rfl rfl (by decide)⟩
end Go.Proofs.Ytfnfhiggmppecaa.GO.Ref
