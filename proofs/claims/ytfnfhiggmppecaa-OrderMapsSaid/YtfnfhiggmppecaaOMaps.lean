/- law04.OrderMaps, walked (begun): the acts as they are read. Condition: the acts are read at the slice that is handed in. -/
import Derived.Test.YtfnfhiggmppecaaOToldC
import Derived.StillTailTactics
namespace Go.Proofs.Ytfnfhiggmppecaa.GO.Ref
open Go.RowKit Go.Proofs.Ytfnfhiggmppecaa.Ownd Go.Proofs.YtfnfhiggmppecaaW.PrintWords Go.Proofs.YtfnfhiggmppecaaW.PrintLast Go.Proofs.YtfnfhiggmppecaaW.PrintMore
set_option linter.unusedVariables false
set_option linter.unusedSimpArgs false
abbrev A3 := Int × (ByteArray × Int)
abbrev kA : Kd A3 := Kd.pair (Kd.int .i64) (Kd.pair Kd.string (Kd.int .i64))
theorem kA_is {W : World} {x : A3} {cs : List Value} (h : kA.K W x cs) : cs = [.int .i64 x.1, .string x.2.1, .int .i64 x.2.2] := by
  obtain ⟨c0, c1, rfl, h0, h1⟩ := h
  obtain ⟨c2, c3, rfl, h2, h3⟩ := h1
  have e0 : c0 = [.int .i64 x.1] := h0
  have e2 : c2 = [.string x.2.1] := h2
  have e3 : c3 = [.int .i64 x.2.2] := h3
  rw [e0, e2, e3]; rfl
theorem kA_mk (W : World) (x : A3) : kA.K W x [.int .i64 x.1, .string x.2.1, .int .i64 x.2.2] := ⟨[.int .i64 x.1], [.string x.2.1, .int .i64 x.2.2], rfl, rfl, ⟨[.string x.2.1], [.int .i64 x.2.2], rfl, rfl, rfl⟩⟩
theorem at_A {w : World} {A : Option Addr} {n : Nat} {xs : List A3} (h : Kd.C kA w A n xs) (i : Nat) (h1 : i < xs.length) (hn : n = xs.length) : ∃ ad : Addr, A = some ad ∧ w.cell? (ad.add (i * 3)) = some (.int .i64 xs[i].1) ∧ w.cell? ⟨(ad.add (i * 3)).block, (ad.add (i * 3)).off + 1, none⟩ = some (.string xs[i].2.1) ∧ w.cell? ⟨(ad.add (i * 3)).block, (ad.add (i * 3)).off + 2, none⟩ = some (.int .i64 xs[i].2.2) := by
  obtain ⟨ad, c, e, _, hK, hc0⟩ := Kd.C_get h xs[i] (i : Int) (by omega) (by omega)
  rw [Int.toNat_natCast] at hK hc0
  rw [List.getD_eq_getElem?_getD, List.getElem?_eq_getElem h1, Option.getD_some] at hK
  obtain rfl := kA_is hK
  have step : ∀ t, t ≠ 0 → ad.add (i * 3 + t) = ⟨(ad.add (i * 3)).block, (ad.add (i * 3)).off + t, none⟩ := fun t ht => by
    unfold Addr.add
    rw [if_neg (by omega)]
    split
    · rename_i h0; simp only [h0, Nat.zero_add]
    · simp only [Nat.add_assoc]
  refine ⟨ad, e, hc0 0 _ rfl, ?_, ?_⟩
  · have h2 : w.cell? (ad.add (i * 3 + 1)) = _ := hc0 1 _ rfl
    rwa [step 1 (by decide)] at h2
  · have h2 : w.cell? (ad.add (i * 3 + 2)) = _ := hc0 2 _ rfl
    rwa [step 2 (by decide)] at h2
theorem d40t {k : Nat} (h : k < 40) : decide ((k : Int) < 40) = true := decide_eq_true (by omega)
theorem leI {k n : Nat} (h : k ≤ n) : (k : Int) ≤ (n : Int) := by omega
theorem lenF {m : List MS.P2} {k : Nat} {q : ByteArray} (h : m.length ≤ k) : (m.filter (keep q)).length ≤ k + 1 := Nat.le_trans (List.length_filter_le _ _) (Nat.le_trans h (Nat.le_succ k))
theorem lenS {m : List MS.P2} {k : Nat} {q : ByteArray} {p : MS.P2} (h : m.length ≤ k) : (m.filter (keep q) ++ [p]).length ≤ k + 1 := by
  rw [List.length_append]
  exact Nat.succ_le_succ (Nat.le_trans (List.length_filter_le _ _) h)
theorem n40 {n : Nat} (h : min 40 n < n) : ¬ min 40 n < 40 := by omega
theorem d40 {n : Nat} (h : min 40 n < n) : decide (((min 40 n : Nat) : Int) < 40) = false := decide_eq_false (by omega)
theorem dno {k n : Nat} (h : ¬ k < n) : decide ((k : Int) < (n : Int)) = false := decide_eq_false (by omega)
/-- What the law owns between two acts: its map, the document's. -/
def ML (g gw : Nat) (v vk vv : Value) (xs m : List MS.P2) : List Thing :=
  [.box g (.cells #[v] 48 (0, 0)), .row MS.kP 79 v xs, .row Kd.string 9 vk (m.map (·.1)), .row (Kd.int .i64) 3 vv (m.map (·.2)), .gone, .gone, .gone, .gone, .gone, .gone, .gone, .gone, .box gw (.cells #[vk, vv] 56 (0, 0))]
theorem pos_empty (xs : List MS.P2) : MS.pos xs ⟨#[]⟩ = 0 := by
  rcases Nat.eq_zero_or_pos (MS.pos xs ⟨#[]⟩) with h | h
  · exact h
  · have h2 : Op.bytesLess _ _ = true := MS.pos_lt xs ⟨#[]⟩ 0 h
    rw [show (⟨#[]⟩ : ByteArray).toList = [] by unfold ByteArray.toList ByteArray.toList.loop; rfl] at h2
    revert h2
    generalize ByteArray.toList _ = l
    intro h2
    cases l <;> simp [Op.bytesLess] at h2
theorem all_BL {w W : World} {g gw b : Nat} {v vk vv v4 : Value} {xs m : List MS.P2} (h : Own w W (((ML g gw v vk vv xs m).set 4 (.row MS.kP 79 v4 xs)).set 5 (.box b (.cells #[v4] 46 (0, 0))))) :
    Own w W (BL g b v vk vv v4 xs (xs.drop (MS.pos xs ⟨#[]⟩)) m [.box gw (.cells #[vk, vv] 56 (0, 0))]) := by
  rw [pos_empty, List.drop_zero]
  exact h
set_option maxHeartbeats 8000000 in
set_option maxRecDepth 100000 in
theorem maps_calls (A : Option Addr) (c : Nat) (L : List A3) (from_ : ByteArray) (W : World) (hC : Kd.C kA W A L.length L) (hc : L.length ≤ c) :
    Calls Try.prog 6 #[.slice A L.length c, .string from_] W fun ex W' => ex = .returned (.bool true) ∧ Below W.heap.size W W' := by
  have HC := Aside0.mk hC
  have HCM := Aside0.mk hC.2.1
  clear hC
  go_enter Try.func6, Try.ntmps6
  go_upto_block 0 with (go_at_call 7; refine (speaks_calls W).mono ?_; rintro e w1 ⟨rfl, hb1⟩; have H1 := Aside0.mk ((Own.start W 13).below hb1); clear hb1)
  have H2 : Aside0 (Own W ((w1.alloc (.cells #[.slice none 0 0] 48)).alloc (.cells #[.slice none 0 0, .slice none 0 0] 56)) (ML w1.heap.size (w1.heap.size + 1) (.slice none 0 0) (.slice none 0 0) (.slice none 0 0) [] [])) := ⟨by
    have h := (((((H1.out.alloc 0 rfl (.cells #[.slice none 0 0] 48)).nil 1 MS.kP 79).nil 2 Kd.string 9).nil 3 (Kd.int .i64) 3).alloc 12 rfl (.cells #[.slice none 0 0, .slice none 0 0] 56))
    rw [show (w1.alloc (.cells #[.slice none 0 0] 48)).heap.size = w1.heap.size + 1 by simp] at h
    exact h⟩
  generalize (w1.alloc (.cells #[.slice none 0 0] 48)).alloc (.cells #[.slice none 0 0, .slice none 0 0] 56) = w2 at H2 ⊢
  generalize w1.heap.size + 1 = gw at H2 ⊢
  generalize w1.heap.size = g at H2 ⊢
  clear H1
  go_cut [] (fun w' => Aside0 (∃ v vk vv xs m, Own W w' (ML g gw v vk vv xs m) ∧ Alike xs m ∧ m.length ≤ 40))
  case first =>
    go_wp2_with fail
    go_loopg [7] (min 40 L.length) (fun gg s7 wr => ∃ k : Nat, k ≤ min 40 L.length ∧ min 40 L.length - k ≤ gg ∧ s7 = .int .i64 k ∧ Aside0 (∃ v vk vv xs m, Own W wr (ML g gw v vk vv xs m) ∧ Alike xs m ∧ m.length ≤ k))
    case atStart => exact ⟨0, Nat.zero_le _, Nat.le_refl _, rfl, ⟨_, _, _, _, _, H2.out, alike_nil, Nat.le_refl _⟩⟩
    case round =>
      clear H2
      obtain ⟨k, hk, hg, rfl, ⟨v, vk, vv, xs, m, hO, hA, hm⟩⟩ := hrel
      have HO := Aside0.mk hO
      have HA := Aside0.mk hA
      clear hO hA
      by_cases hlt : k < min 40 L.length
      · have hk1 : k < L.length := Nat.lt_of_lt_of_le hlt (Nat.min_le_right _ _)
        have hk2 : k < 40 := Nat.lt_of_lt_of_le hlt (Nat.min_le_left _ _)
        obtain ⟨ad, rfl, hx0, hx1, hx2⟩ := at_A HC.out k hk1 rfl
        have d1 := dlt hk1
        have d2 : decide ((k : Int) < 40) = true := d40t hk2
        have hw := wrN hk2 (by decide)
        have HBX := Aside0.mk (World.block_lt_of_cell? W _ hx0)
        have HBY := Aside0.mk (World.block_lt_of_cell? W _ hx1)
        have HBZ := Aside0.mk (World.block_lt_of_cell? W _ hx2)
        have H0 := Aside0.mk hx0
        have H1 := Aside0.mk hx1
        have H2 := Aside0.mk hx2
        clear hx0 hx1 hx2
        generalize L[k].1 = what at H0
        generalize L[k].2.1 = key at H1
        generalize L[k].2.2 = val at H2
        have hy1 : wr.cell? ⟨(ad.add (k * 3)).block, (ad.add (k * 3)).off + 1, none⟩ = some (.string key) := (HO.out.1.cell HBY.out).trans H1.out
        have hi1 : (k : Int) < (L.length : Int) := ltI hk1
        have hi0 : (0 : Int) ≤ (k : Int) := geI k
        have hms : min (key.size : Int) 20 = ((min key.size 20 : Nat) : Int) := MS.minI
        have hm0 : (0 : Int) ≤ ((min key.size 20 : Nat) : Int) := geI _
        have hm1 : ((min key.size 20 : Nat) : Int) ≤ (key.size : Int) := leI (Nat.min_le_left _ _)
        go_upto_region 8 with fail
        go_quiet (fail)
        have HO1 := Aside0.mk (HO.out.below (pw_below_drewN (Below.refl _ _) nq))
        clear HO hy1 hms hm0 hm1 H1 HBY
        generalize wr.drewN nq = wq at HO1 ⊢
        generalize key.extract 0 (min key.size 20) = kk
        have hml : m.length ≤ 40 := Nat.le_trans hm (Nat.le_of_lt hk2)
        have hml2 : m.length ≤ 1000 := Nat.le_trans hml (by decide)
        have hxl : xs.length ≤ 40 := (alike_len HA.out).symm ▸ hml
        obtain ⟨A0, c0, rfl, hc0, hC0⟩ := HO1.out.reads 2 rfl
        obtain ⟨A1, c1, rfl, hc1, hC1⟩ := HO1.out.reads 3 rfl
        have z0 : wq.cell? ⟨gw, 0, none⟩ = some (.slice A0 (m.map (·.1)).length c0) := HO1.out.cell 12 rfl 0
        have z1 : wq.cell? ⟨gw, 1, none⟩ = some (.slice A1 (m.map (·.2)).length c1) := HO1.out.cell 12 rfl 1
        have q0 : (m.map (·.1)).length = m.length := List.length_map ..
        have q1 : (m.map (·.2)).length = m.length := List.length_map ..
        have HG := concordanceref04_Get.calls 1002 A0 c0 (m.map (·.1)) A1 c1 (m.map (·.2)) kk (MS.valL xs kk) (MS.has xs kk) wq hC0 hc0 hC1 hc1 (by rw [get_f m _ hml2, alike_get HA.out])
        rw [q0, q1] at HG
        rw [q0] at z0 HO1
        rw [q1] at z1 HO1
        replace HG := Aside0.mk HG
        clear hC0 hC1 hc0 hc1 q0 q1
        go_upto_region 10 with (go_at_call 23; refine HG.out.mono ?_; rintro e w3 ⟨rfl, hb3⟩; have HO2 := Aside0.mk (HO1.out.below hb3); clear hb3)
        clear HO1 HG z0 z1
        have hy0 : w3.cell? (ad.add (k * 3)) = some (.int .i64 what) := (HO2.out.1.cell HBX.out).trans H0.out
        go_upto_if 54 with fail
        have hxl2 : xs.length ≤ 1000 := Nat.le_trans hxl (by decide)
        have hxl3 : xs.length ≤ 999999 := Nat.le_trans hxl (by decide)
        have hupR := Try.underlying56
        go_cut [] (fun w' => Aside0 (∃ v vk vv xs m, Own W w' (ML g gw v vk vv xs m) ∧ Alike xs m ∧ m.length ≤ k + 1))
        case first =>
          generalize ((wrap64 (what.tmod 3 + 3)).tmod 3 == 2) = bk
          clear hy0
          cases bk with
          | true =>
            go_upto_region 13 with (go_at_call 24; refine (MS.mdel_O HO2.out (i := 0) (j := 1) (g := g) (v := v) (xs := xs) ⟨rfl, rfl, by decide⟩ HA.out.rise hxl2 kk).mono ?_; rintro e w4 ⟨v4, rfl, hO4⟩; have HO4 := Aside0.mk (show Own W w4 (ML g gw v4 (.slice A0 m.length c0) (.slice A1 m.length c1) (MS.delL xs kk) m) from hO4); clear hO4)
            have z0 : w4.cell? ⟨gw, 0, none⟩ = some (.slice A0 m.length c0) := HO4.out.cell 12 rfl 0
            have z1 : w4.cell? ⟨gw, 1, none⟩ = some (.slice A1 m.length c1) := HO4.out.cell 12 rfl 1
            obtain ⟨_, _, e0, -, hC0⟩ := HO4.out.reads 2 rfl
            simp only [Value.slice.injEq] at e0
            obtain ⟨rfl, -, rfl⟩ := e0
            obtain ⟨_, _, e1, -, hC1⟩ := HO4.out.reads 3 rfl
            simp only [Value.slice.injEq] at e1
            obtain ⟨rfl, -, rfl⟩ := e1
            have HD := Aside0.mk (del_calls A0 A1 c0 c1 m kk w4 hC0 hC1 hml2)
            clear HO2 hC0 hC1
            go_wp2_with (go_at_call 25; refine HD.out.mono ?_; rintro e w5 ⟨v1, v2, rfl, hO5⟩; have HO5 := Aside0.mk (rows2 ((HO4.out.drop 2).drop 3) hO5 2 3 rfl rfl (by decide)); clear hO5; obtain ⟨Ak, nk, ck, rfl⟩ := HO5.out.isSlice 2 rfl; obtain ⟨Av, nv, cv, rfl⟩ := HO5.out.isSlice 3 rfl; have y0 : w5.cell? ⟨gw, 0, none⟩ = some (.slice A0 m.length c0) := HO5.out.cell 12 rfl 0; have y1 : w5.cell? ⟨gw, 1, none⟩ = some (.slice A1 m.length c1) := HO5.out.cell 12 rfl 1; have f0 : w5.frozen? ⟨gw, 0, none⟩ = false := HO5.out.frozen 12 rfl 0; have f1 : w5.frozen? ⟨gw, 1, none⟩ = false := HO5.out.frozen 12 rfl 1)
            go_meet
            case rel => exact ⟨⟨v4, _, _, _, _, (HO5.out.store 12 rfl 0 (.slice Ak nk ck) (cs' := #[.slice Ak nk ck, .slice A1 m.length c1]) rfl).store 12 rfl 1 (.slice Av nv cv) (cs' := #[.slice Ak nk ck, .slice Av nv cv]) rfl, alike_del HA.out kk, lenF hm⟩⟩
          | false =>
            have hy2 : w3.cell? ⟨(ad.add (k * 3)).block, (ad.add (k * 3)).off + 2, none⟩ = some (.int .i64 val) := by
              refine (HO2.out.1.cell ?_).trans H2.out
              exact HBZ.out
            go_upto_region 15 with (go_at_call 18; refine (MS.set_O HO2.out (i := 0) (j := 1) (g := g) (v := v) (xs := xs) ⟨rfl, rfl, by decide⟩ HA.out.rise hxl3 kk val).mono ?_; rintro e w4 ⟨v4, rfl, hO4⟩; have HO4 := Aside0.mk (show Own W w4 (ML g gw v4 (.slice A0 m.length c0) (.slice A1 m.length c1) (MS.setL xs kk val) m) from hO4); clear hO4)
            clear hy2 HO2
            have hy2 : w4.cell? ⟨(ad.add (k * 3)).block, (ad.add (k * 3)).off + 2, none⟩ = some (.int .i64 val) := by
              refine (HO4.out.1.cell ?_).trans H2.out
              exact HBZ.out
            have z0 : w4.cell? ⟨gw, 0, none⟩ = some (.slice A0 m.length c0) := HO4.out.cell 12 rfl 0
            have z1 : w4.cell? ⟨gw, 1, none⟩ = some (.slice A1 m.length c1) := HO4.out.cell 12 rfl 1
            go_still_tail 7, (by kernel_rfl)
            change wpList _ _ _ _ _ w4.drew
            have HO4' := Aside0.mk (HO4.out.below (below_drew (Below.refl _ _)))
            clear HO4 hy2 z0 z1
            generalize w4.drew = w6 at HO4' ⊢
            obtain ⟨_, _, e0, -, hC0⟩ := HO4'.out.reads 2 rfl
            simp only [Value.slice.injEq] at e0
            obtain ⟨rfl, -, rfl⟩ := e0
            obtain ⟨_, _, e1, -, hC1⟩ := HO4'.out.reads 3 rfl
            simp only [Value.slice.injEq] at e1
            obtain ⟨rfl, -, rfl⟩ := e1
            have HD := Aside0.mk (set_calls A0 A1 c0 c1 m kk val w6 hC0 hC1 hml2)
            clear hC0 hC1
            go_wp2_with (go_at_call 26; refine HD.out.mono ?_; rintro e w5 ⟨v1, v2, rfl, hO5⟩; have HO5 := Aside0.mk (rows2 ((HO4'.out.drop 2).drop 3) hO5 2 3 rfl rfl (by decide)); clear hO5; obtain ⟨Ak, nk, ck, rfl⟩ := HO5.out.isSlice 2 rfl; obtain ⟨Av, nv, cv, rfl⟩ := HO5.out.isSlice 3 rfl; have y0 : w5.cell? ⟨gw, 0, none⟩ = some (.slice A0 m.length c0) := HO5.out.cell 12 rfl 0; have y1 : w5.cell? ⟨gw, 1, none⟩ = some (.slice A1 m.length c1) := HO5.out.cell 12 rfl 1; have f0 : w5.frozen? ⟨gw, 0, none⟩ = false := HO5.out.frozen 12 rfl 0; have f1 : w5.frozen? ⟨gw, 1, none⟩ = false := HO5.out.frozen 12 rfl 1)
            go_meet
            case rel => exact ⟨⟨v4, _, _, _, _, (HO5.out.store 12 rfl 0 (.slice Ak nk ck) (cs' := #[.slice Ak nk ck, .slice A1 m.length c1]) rfl).store 12 rfl 1 (.slice Av nv cv) (cs' := #[.slice Ak nk ck, .slice Av nv cv]) rfl, alike_set HA.out kk val, lenS hm⟩⟩
        case rest =>
          clear HO2 hy0 HA hm hml hml2 hxl hxl2 hxl3 H0 H2 HBX HBZ hi1 hi0 hupR
          obtain ⟨v, vk, vv, xs, m, hO, hA, hm⟩ := hcut.out
          clear hcut
          have hml2 : m.length ≤ 1000 := Nat.le_trans hm (Nat.le_trans hk2 (by decide))
          have hxl : xs.length ≤ 1000000 := (alike_len hA).symm ▸ (Nat.le_trans hml2 (by decide))
          have hle := alike_len hA
          have HO := Aside0.mk hO
          have HA := Aside0.mk hA
          clear hO hA
          go_upto_region 17 with (go_at_call 27; refine (MS.get_O HO.out (i := 0) (j := 1) (g := g) (v := v) (xs := xs) ⟨rfl, rfl, by decide⟩ HA.out.rise hxl kk).mono ?_; rintro e w4 ⟨rfl, hb4⟩; have HO1 := Aside0.mk (HO.out.below hb4); clear hb4)
          clear HO
          obtain ⟨A0, c0, rfl, hc0, hC0⟩ := HO1.out.reads 2 rfl
          obtain ⟨A1, c1, rfl, hc1, hC1⟩ := HO1.out.reads 3 rfl
          have z0 : w4.cell? ⟨gw, 0, none⟩ = some (.slice A0 (m.map (·.1)).length c0) := HO1.out.cell 12 rfl 0
          have z1 : w4.cell? ⟨gw, 1, none⟩ = some (.slice A1 (m.map (·.2)).length c1) := HO1.out.cell 12 rfl 1
          have q0 : (m.map (·.1)).length = m.length := List.length_map ..
          have q1 : (m.map (·.2)).length = m.length := List.length_map ..
          have HG := concordanceref04_Get.calls 1002 A0 c0 (m.map (·.1)) A1 c1 (m.map (·.2)) kk (MS.valL xs kk) (MS.has xs kk) w4 hC0 hc0 hC1 hc1 (by rw [get_f m _ hml2, alike_get HA.out])
          rw [q0, q1] at HG
          rw [q0] at z0 HO1
          rw [q1] at z1 HO1
          replace HG := Aside0.mk HG
          clear hC0 hC1 hc0 hc1 q0 q1
          go_upto_region 18 with (go_at_call 23; refine HG.out.mono ?_; rintro e w5 ⟨rfl, hb5⟩; have HO2 := Aside0.mk (HO1.out.below hb5); clear hb5)
          clear HO1 HG z0 z1
          have z0 : w5.cell? ⟨gw, 0, none⟩ = some (.slice A0 m.length c0) := HO2.out.cell 12 rfl 0
          have HN := Aside0.mk (fun (w' : World) (h : Below w5.heap.size w5 w') => MS.len_O (HO2.out.below h) (i := 0) (j := 1) (g := g) (v := v) (xs := xs) ⟨rfl, rfl, by decide⟩)
          rw [hle] at HN
          go_quiet ((go_at_call 22; exact Calls.quiet_of_same (HN.out _ (pw_below_drewN (Below.refl _ _) _))))
          have HO3 := Aside0.mk (HO2.out.below (pw_below_drewN (Below.refl _ _) nq))
          clear HO2 z0 HN
          generalize w5.drewN nq = w7 at HO3 ⊢
          go_wp2_with fail
          try rw [hw]
          go_roundg (min 40 L.length - (k + 1))
          case measure => exact MS.meas hlt hg
          case rel => exact ⟨k + 1, hlt, Nat.le_refl _, rfl, ⟨v, _, _, xs, m, HO3.out, HA.out, hm⟩⟩
      · obtain rfl : k = min 40 L.length := Nat.le_antisymm hk (Nat.not_lt.mp hlt)
        have hm40 : m.length ≤ 40 := Nat.le_trans hm (Nat.min_le_left _ _)
        by_cases h1 : min 40 L.length < L.length
        · have d1 := dlt h1
          have d2 : decide (((min 40 L.length : Nat) : Int) < 40) = false := d40 h1
          have d3 : ¬ min 40 L.length < 40 := n40 h1
          generalize min 40 L.length = k at *
          go_wp2_with fail
          go_meet
          case rel => exact ⟨⟨v, vk, vv, xs, m, HO.out, HA.out, hm40⟩⟩
        · have d1 : decide (((min 40 L.length : Nat) : Int) < (L.length : Int)) = false := dno h1
          generalize min 40 L.length = k at *
          go_wp2_with fail
          go_meet
          case rel => exact ⟨⟨v, vk, vv, xs, m, HO.out, HA.out, hm40⟩⟩
  case rest =>
    obtain ⟨v, vk, vv, xs, m, hO, hA, hm⟩ := hcut.out
    have hle := alike_len hA
    have hxl : xs.length ≤ 900 := hle.symm ▸ Nat.le_trans hm (by decide)
    have hxl2 : xs.length ≤ 1000 := Nat.le_trans hxl (by decide)
    have hO1 := hO.below (below_drew (Below.refl _ _))
    obtain ⟨A0, c0, rfl, -, -⟩ := hO1.reads 2 rfl
    obtain ⟨A1, c1, rfl, -, -⟩ := hO1.reads 3 rfl
    rw [List.length_map] at hO1
    rw [List.length_map] at hO1
    have HO := Aside0.mk hO1
    have HA := Aside0.mk hA
    have z0 : wc.cell? ⟨gw, 0, none⟩ = some (.slice A0 m.length c0) := HO.out.cell 12 rfl 0
    have z1 : wc.cell? ⟨gw, 1, none⟩ = some (.slice A1 m.length c1) := HO.out.cell 12 rfl 1
    have hupR := Try.underlying56
    clear hO hA hO1 hcut H2 HC HCM
    go_upto_region 20 with fail
    go_region_with (first
      | (go_at_call 19; refine (MS.all_O HO.out (i := 0) (j := 1) (g := g) (v := v) (xs := xs) ⟨rfl, rfl, by decide⟩ hxl2 4 5 rfl rfl (by decide)).mono ?_; rintro e w4 ⟨b4, v4, rfl, hO4⟩; have HO4 := Aside0.mk (all_BL hO4); have y0 : w4.cell? ⟨gw, 0, none⟩ = some (.slice A0 m.length c0) := HO4.out.cell 12 rfl 0; have y1 : w4.cell? ⟨gw, 1, none⟩ = some (.slice A1 m.length c1) := HO4.out.cell 12 rfl 1; clear hO4)
      | (go_at_call 28; refine (told_O HO4.out HA.out hxl).mono ?_; rintro e w5 ⟨rfl, v5, hO5⟩; have HO5 := Aside0.mk (show Own W w5 (ML g gw v5 (.slice A0 m.length c0) (.slice A1 m.length c1) xs m) from (hO5.drop 4).drop 5); clear HO4 hO5; have x0 : w5.cell? ⟨gw, 0, none⟩ = some (.slice A0 m.length c0) := HO5.out.cell 12 rfl 0; have x1 : w5.cell? ⟨gw, 1, none⟩ = some (.slice A1 m.length c1) := HO5.out.cell 12 rfl 1)
      | (go_at_call 29; refine (MS.from_O HO5.out (i := 0) (j := 1) (g := g) (v := v5) (xs := xs) ⟨rfl, rfl, by decide⟩ HA.out.rise hxl2 from_ 4 5 rfl rfl (by decide)).mono ?_; rintro e w6 ⟨b6, v6, rfl, hO6⟩; have HO6 := Aside0.mk (show Own W w6 (BL g b6 v5 (.slice A0 m.length c0) (.slice A1 m.length c1) v6 xs (xs.drop (MS.pos xs from_)) m [.box gw (.cells #[.slice A0 m.length c0, .slice A1 m.length c1] 56 (0, 0))]) from hO6); have t0 : w6.cell? ⟨gw, 0, none⟩ = some (.slice A0 m.length c0) := HO6.out.cell 12 rfl 0; have t1 : w6.cell? ⟨gw, 1, none⟩ = some (.slice A1 m.length c1) := HO6.out.cell 12 rfl 1; clear hO6)
      | (go_at_call 28; refine (told_O HO6.out HA.out hxl).mono ?_; rintro e w7 ⟨rfl, v7, hO7⟩; have HO7 := Aside0.mk hO7; clear hO7))
    all_goals (go_wp2_with fail; go_ret; exact ⟨by first | rfl | simp, HO7.out.1⟩)
end Go.Proofs.Ytfnfhiggmppecaa.GO.Ref
