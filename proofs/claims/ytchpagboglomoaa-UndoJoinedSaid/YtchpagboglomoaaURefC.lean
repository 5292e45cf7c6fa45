/- The document's lists of entries: Add. Conditions: at most 90000 transactions, which rise; 900000 entries each. -/
import Derived.Test.YtchpagboglomoaaURefB
namespace Go.Proofs.Ytchpagboglomoaa.Ownd
open Go.RowKit Go.Proofs.Ytchpagboglomoaa.GP.MU Go.Proofs.Ytchpagboglomoaa.GP Go.Proofs.YtchpagboglomoaaW.PrintWords Go.Proofs.YtchpagboglomoaaW.PrintLast Go.Proofs.YtchpagboglomoaaW.PrintMore
set_option linter.unusedVariables false
set_option linter.unusedSimpArgs false
theorem infoRE : (Try.prog.info? 39).map (fun i => (i.zero, i.size, i.bytes)) = some (some zE, 3, 32) := by kernel_rfl
section
variable {P : Program} {ops : Array Oper} {o : Oper} {a : Act} {Q : Exit → Act → World → Prop} {Kc : Act → World → Prop} {α : Type} {w W : World} {l : List Thing}
/-- append(v, ys...), ys kept among the facts. -/
theorem Own.append_fact_step (d : Kd α) (hflat : ∀ (W W' : World) (x : α) (c : List Value), d.K W x c → d.K W' x c) (hO : Own w W l) (j f : Nat) (hne : f ≠ j) {F : World → Prop} {v : Value} {A : Option Addr} {m c : Nat} {xs ys : List α} (e : TypeId) (hj : l[j]? = some (.row d e v xs)) (hf : l[f]? = some (.fact F)) (hF : ∀ W' : World, F W' → d.C W' A m ys)
    (hw : Region.wanted o (yielded ops a.tmps) = true) (s x : Operand) (t : TypeId) (z : Value) (bytes : Nat)
    (ho : o.op = .call { callee := .builtin .append, args := #[s, x], argTypes := #[t, t] })
    (ht : P.underlying t = some (.slice e)) (hinfo : (P.info? e).map (fun i => (i.zero, i.size, i.bytes)) = some (some z, d.sz, bytes)) (hz : z.cells.size = d.sz) (hs0 : 0 < d.sz) (hb0 : 0 < bytes)
    (hs : a.eval s = v) (hx : a.eval x = .slice A m c) (hl : (xs.length + m) * bytes ≤ 140737488355328)
    (h : ∀ v1 w1, Own w w1 (l.set j (.row d e v1 (xs ++ ys))) → Kc (a.put o.dst v1) w1) : if Region.wanted o (yielded ops a.tmps) = true then Oper.wp P o a W Kc Q else Kc (a.put o.dst undef) W := by
  have hle := hO.ge
  obtain ⟨hB, col, hc⟩ := hO
  have hJ : Kd.N d e W w.heap.size (okc w.heap.size W col j) v xs := hc j _ hj
  have hFt : ∀ W' : World, (∀ k, okc w.heap.size W col f k → k < W.heap.size → W'.heap[k]? = W.heap[k]?) → F W' := hc f _ hf
  have hown : ∀ k, v.ownBlock = some k → k < W.heap.size ∧ col k = j := fun k hk => ⟨Kd.N_lt hJ k hk, (hJ.1 k hk).2 (Kd.N_lt hJ k hk)⟩
  refine Kd.N_append_rows_step d w.heap.size hw s x t e z bytes ho ht hinfo hz hs0 hb0 v xs ys A m c (fun k => w.heap.size ≤ k ∧ (k < W.heap.size → col k = j ∨ col k = f)) (fun k => okc w.heap.size W col f k ∧ k < W.heap.size) hs hx
    (Kd.N_mono hJ (fun k hk => ⟨hk.1, fun hlt => .inl (hk.2 hlt)⟩)) (fun W' hW => hF W' (hFt W' (fun k hk hlt => hW k ⟨hk, hlt⟩ hlt))) (fun k hk => ⟨⟨hk.1.1, fun hlt => .inr (hk.1.2 hlt)⟩, fun he => hne ((hk.1.2 hk.2).symm.trans (hown k he.symm).2)⟩) (fun k hk => ⟨Nat.le_trans hle hk, fun hlt => absurd hlt (Nat.not_lt.mpr hk)⟩) hB hle hl ?_
  intro v1 w1 hr hb hg hat
  refine h v1 w1 (own_row hB hc j hj hg (N_flat hflat hr (fun k hk => ?_)))
  rcases hat with hat | ⟨b, hb', hle'⟩
  · exact hJ.1 k (hat ▸ hk)
  · rw [hb'] at hk
    obtain rfl := Option.some.inj hk
    exact ⟨Nat.le_trans hle hle', fun hlt => absurd hlt (Nat.not_lt.mpr hle')⟩
/-- A literal of one element, ahead of all else. -/
theorem Own.lit_row (d : Kd α) (hflat : ∀ (W W' : World) (x : α) (c : List Value), d.K W x c → d.K W' x c) (hO : Own w W l) (e : TypeId) (x : α) (cs : List Value) (hK : d.K W x cs) :
    Own w (W.alloc (.cells cs.toArray e)) (.row d e (.slice (some ⟨W.heap.size, 0, none⟩) 1 1) [x] :: l) := by
  have hlen := d.K_len hK
  have h : (W.alloc (.cells cs.toArray e)).ownsRow W.heap.size e d.sz (.slice (some ⟨W.heap.size, 0, none⟩) 1 1) 1 cs :=
    ⟨by omega, .inr ⟨W.heap.size, 1, cs.toArray, rfl, Nat.le_refl _, blk_new W _, Nat.le_refl _, by unfold maxLen; omega, by simp [hlen], by simp [← hlen]⟩⟩
  have hN : Kd.N d e (W.alloc (.cells cs.toArray e)) W.heap.size (fun k => W.heap.size ≤ k) (.slice (some ⟨W.heap.size, 0, none⟩) 1 1) [x] := by
    refine own_N (inner := cs) hflat h rfl ⟨by simp [hlen], fun j p hj => ?_⟩ (fun k hk => ?_)
    · cases j with
      | zero =>
        obtain rfl : x = p := by simpa using hj
        rw [Nat.zero_mul, List.drop_zero, ← hlen, List.take_length]
        exact hflat _ _ _ _ hK
      | succ j => simp at hj
    · have : W.heap.size = k := by simpa [Value.ownBlock] using hk
      omega
  exact hO.room.row_new 0 rfl (below_alloc (Below.refl _ _) _) hN (fun k hk => hk)
end
/-! What Add does, step by step. -/
def raddGo (k : Int) (x : UE) : Opn → Bool → Opn
  | [], done => if done then [] else [(k, [x])]
  | m :: r, done => (if done = false ∧ k < m.1 then [(k, [x])] else []) ++ (if m.1 = k then (k, m.2 ++ [x]) else m) :: raddGo k x r (done || decide (k < m.1) || decide (m.1 = k))
theorem raddGo_done (k : Int) (x : UE) : ∀ M : Opn, (∀ m ∈ M, k < m.1) → raddGo k x M true = M
  | [], _ => rfl
  | m :: r, h => by
    have h1 := h m (List.mem_cons_self ..)
    show (if true = false ∧ k < m.1 then _ else _) ++ (if m.1 = k then _ else _) :: raddGo k x r (true || decide (k < m.1) || decide (m.1 = k)) = _
    rw [if_neg (by simp), if_neg (by omega), Bool.true_or, Bool.true_or, raddGo_done k x r (fun q hq => h q (List.mem_cons_of_mem _ hq))]
    rfl
theorem raddGo_is (k : Int) (x : UE) : ∀ M : Opn, RiseM M → raddGo k x M false = addM M k x
  | [], _ => rfl
  | m :: r, hr => by
    have hr' := List.pairwise_cons.mp hr
    show (if false = false ∧ k < m.1 then _ else _) ++ (if m.1 = k then _ else _) :: raddGo k x r (false || decide (k < m.1) || decide (m.1 = k)) = setM (m :: r) k (ent (m :: r) k ++ [x])
    show _ = if k < m.1 then _ else _
    unfold ent
    rw [getM_cons]
    by_cases h1 : k < m.1
    · rw [if_pos ⟨rfl, h1⟩, if_pos h1, if_pos h1, if_neg (show ¬ m.1 = k by omega), decide_eq_true h1, Bool.false_or, Bool.true_or, raddGo_done k x r (fun q hq => Int.lt_trans h1 (hr'.1 q hq))]
      rfl
    · rw [if_neg (fun h => h1 h.2), if_neg h1, if_neg h1, decide_eq_false h1, Bool.false_or, Bool.false_or]
      by_cases h2 : m.1 = k
      · rw [if_pos h2, if_pos h2, if_pos h2, decide_eq_true h2, raddGo_done k x r (fun q hq => by have := hr'.1 q hq; omega)]
        rfl
      · rw [if_neg h2, if_neg h2, if_neg h2, decide_eq_false h2, raddGo_is k x r hr'.2]
        rfl
theorem raddGo_step (k : Int) (x : UE) (M : Opn) (i : Nat) (h : i < M.length) (done : Bool) : raddGo k x (M.drop i) done = (if done = false ∧ k < M[i].1 then [(k, [x])] else []) ++ (if M[i].1 = k then (k, M[i].2 ++ [x]) else M[i]) :: raddGo k x (M.drop (i + 1)) (done || decide (k < M[i].1) || decide (M[i].1 = k)) := by
  rw [List.drop_eq_getElem_cons h]
  rfl
def ra_T : Bool × List (List Nat × List Nat) := (true, [([], []), ([], []), ([1], [1]), ([0, 2], [0, 2]), ([], []), ([4], [4]), ([3, 5, 3], [3, 5]), ([0, 1, 2, 3, 4, 5, 6], []), ([7, 6, 6, 0, 1, 2, 3, 4, 5, 6], [6, 7])])
def ra_B : List Nat := [0, 0, 2, 7, 0, 16, 63, 127, 255]
theorem ra_tab : rtab .any (opsOf Try.f15 11) = ra_T := by kernel_rfl
theorem ra_bits : waitsOk ra_T.2 ra_B = true := by kernel_rfl
set_option maxHeartbeats 8000000 in
set_option maxRecDepth 100000 in
theorem radd_O {w W : World} {v : Value} {M : Opn} {rest : List Thing} (h : ListOwn w W v M rest) (hr : RiseM M) (hl : M.length ≤ 90000) (k : Int) (a b : Int) (s : ByteArray) (he : ∀ m ∈ M, m.2.length ≤ 900000) :
    Calls Try.prog 15 #[v, .int .i64 k, .agg #[.int .i64 a, .int .i64 b, .string s]] W fun ex W' => ∃ v', ex = .returned v' ∧ ListOwn w W' v' (addM M k (a, b, s)) rest := by
  obtain ⟨A, c, xs, G, rfl, hO, hH⟩ := h
  have hxl : xs.length = M.length := (hH W (hO.now 1 rfl)).length
  have HO : Aside0 (Own w (W.alloc (.cells #[.int .i64 a, .int .i64 b, .string s] 39)) (rL (.slice none 0 0) [] :: .box W.heap.size (.cells #[.int .i64 a, .int .i64 b, .string s] 39 (0, 0)) :: rL (.slice A M.length c) xs :: .fact G :: rest)) := ⟨(hO.room.alloc 0 rfl (.cells #[.int .i64 a, .int .i64 b, .string s] 39)).room.nil 0 kP 80⟩
  have HH := Aside0.mk hH
  have HX := Aside0.mk hxl
  have HE := Aside0.mk he
  obtain ⟨R, hR⟩ : ∃ R, addM M k (a, b, s) = R := ⟨_, rfl⟩
  have hRl : R.length ≤ 90001 := by rw [← hR]; exact Nat.le_trans (setM_len _ _ _) (by omega)
  have HRg : Aside0 (raddGo k (a, b, s) M false = R) := ⟨(raddGo_is k (a, b, s) M hr).trans hR⟩
  rw [hR]
  clear hO hH hxl he hR hr
  go_enter Try.func15, Try.ntmps15
  go_upto_region 1 with fail
  generalize W.alloc (.cells #[.int .i64 a, .int .i64 b, .string s] 39) = w0 at *
  generalize W.heap.size = gx at *
  go_wp2_with fail
  go_loopg [7, 8, 9] M.length (fun gg s7 s8 s9 wr => ∃ (i : Nat) (done : Bool) (ys : List P2) (G1 : World → Prop) (acc : Opn), i ≤ M.length ∧ M.length - i ≤ gg ∧ s8 = .bool done ∧ s9 = .int .i64 i ∧ Aside0 (Own w wr (rL s7 ys :: .box gx (.cells #[.int .i64 a, .int .i64 b, .string s] 39 (0, 0)) :: rL (.slice A M.length c) xs :: .fact G1 :: rest)) ∧ Aside0 (∀ W' : World, G1 W' → G W' ∧ Heads W' ys acc) ∧ Aside0 (acc ++ raddGo k (a, b, s) (M.drop i) done = R))
  case atStart => exact ⟨0, false, [], G, [], Nat.zero_le _, by omega, rfl, rfl, ⟨HO.out⟩, ⟨fun W' hG => ⟨hG, .nil⟩⟩, ⟨HRg.out⟩⟩
  case round =>
    obtain ⟨i, done, ys, G1, acc, hi, hg, rfl, rfl, HO2, HY, HAcc⟩ := hrel
    clear HO HRg
    by_cases hlt : i < M.length
    · have hlx : i < xs.length := by rw [HX.out]; exact hlt
      obtain ⟨g1, c1, e1, -, hx0, hx1⟩ := HO2.out.pair_at 2 rfl i hlx
      obtain rfl := (Value.slice.inj e1).1
      have HK : Aside0 (∀ W' : World, G W' → HdK W' xs[i] M[i]) := ⟨fun W' hG => (head_at (HH.out W' hG) i hlt).2⟩
      have hk0 := (HK.out wr (HY.out wr (HO2.out.now 3 rfl)).1).1
      have hn0 := (HK.out wr (HY.out wr (HO2.out.now 3 rfl)).1).2.1
      have hstep := raddGo_step k (a, b, s) M i hlt done
      have hmes : M[i].2.length ≤ 900000 := HE.out _ (List.getElem_mem hlt)
      have HL := Aside0.mk hlt
      have dlt := decLt hlt
      have z0 := geZ i
      have z1 := ltZ hlt
      have hw := wrS hlt (by omega)
      obtain ⟨x, hxe⟩ : ∃ x, xs[i] = x := ⟨_, rfl⟩
      rw [hxe] at hx0 hx1 hk0 hn0 HK
      generalize M[i] = m at *
      obtain ⟨x1, xA, xn, xc⟩ := x
      obtain ⟨m1, mes⟩ := m
      simp only [] at hx0 hx1 hk0 hn0 hmes hstep
      subst hk0 hn0
      have HXE := Aside0.mk hxe
      clear hxe
      obtain ⟨d1, hd1⟩ : ∃ d1, (done || decide (k < x1)) = d1 := ⟨_, rfl⟩
      obtain ⟨d2, hd2⟩ : ∃ d2, (d1 || decide (x1 = k)) = d2 := ⟨_, rfl⟩
      obtain ⟨b27, hb27⟩ : ∃ b27, (!done && decide (k < x1)) = b27 := ⟨_, rfl⟩
      obtain ⟨acc1, hacc1⟩ : ∃ acc1, acc ++ (if done = false ∧ k < x1 then [(k, [((a, b, s) : UE)])] else []) = acc1 := ⟨_, rfl⟩
      obtain ⟨mes2, hmes2⟩ : ∃ mes2, (if x1 = k then mes ++ [((a, b, s) : UE)] else mes) = mes2 := ⟨_, rfl⟩
      have HAcc2 : Aside0 ((acc1 ++ [(x1, mes2)]) ++ raddGo k (a, b, s) (M.drop (i + 1)) d2 = R) := ⟨by
        rw [← HAcc.out, hstep, ← hacc1, ← hmes2, ← hd2, ← hd1]
        by_cases hx : x1 = k
        · rw [if_pos hx, if_pos hx, hx]; simp only [List.append_assoc, List.cons_append, List.nil_append]
        · rw [if_neg hx, if_neg hx]; simp only [List.append_assoc, List.cons_append, List.nil_append]⟩
      have hal : acc1.length ≤ 90001 := by
        have h1 := congrArg List.length HAcc2.out
        simp only [List.length_append] at h1
        omega
      have hyl : ys.length ≤ 90001 := by
        rw [(HY.out wr (HO2.out.now 3 rfl)).2.length]
        have h1 := congrArg List.length hacc1
        rw [List.length_append] at h1
        omega
      have HYL : Aside0 ((ys.length + 1) * 32 ≤ 140737488355328) := ⟨by omega⟩
      have HAL := Aside0.mk hal
      have HAC := Aside0.mk hacc1
      have HD1 := Aside0.mk hd1
      have HD2 := Aside0.mk hd2
      have HB := Aside0.mk hb27
      have HM2 := Aside0.mk hmes2
      have HMes := Aside0.mk hmes
      clear hstep hacc1 hd1 hd2 hb27 hmes2 hal hyl hmes e1 hlt
      go_upto_region 6 with fail
      go_cut [27] (fun s27 wx => s27 = .bool b27 ∧ wx = wr)
      case first =>
        have hb := HB.out
        cases done
        · by_cases hkm : k < x1
          · rw [decide_eq_true hkm] at hb
            obtain rfl : true = b27 := hb
            go_wp2_with fail
            go_meet
            case rel => exact ⟨rfl, rfl⟩
          · rw [decide_eq_false hkm] at hb
            obtain rfl : false = b27 := hb
            go_wp2_with fail
            go_meet
            case rel => exact ⟨rfl, rfl⟩
        · obtain rfl : false = b27 := hb
          go_wp2_with fail
          go_meet
          case rel => exact ⟨rfl, rfl⟩
      case rest =>
        obtain ⟨rfl, hwc⟩ := hcut
        rw [hwc]
        clear hwc
        go_upto_if 27 with fail
        go_cut [7, 8] (fun s7 s8 wx => ∃ (ys1 : List P2) (G2 : World → Prop), s8 = .bool d1 ∧ Aside0 (Own w wx (rL s7 ys1 :: .box gx (.cells #[.int .i64 a, .int .i64 b, .string s] 39 (0, 0)) :: rL (.slice (some ⟨g1, 0, none⟩) M.length c) xs :: .fact G2 :: rest)) ∧ Aside0 (∀ W' : World, G2 W' → G1 W' ∧ Heads W' ys1 acc1))
        case first =>
          have hb := HB.out
          cases b27 with
          | false =>
            have hno : ¬ (done = false ∧ k < x1) := fun h => by rw [h.1, decide_eq_true h.2] at hb; cases hb
            have hda : done = d1 := by
              rw [← HD1.out]
              cases done with
              | true => rfl
              | false => rw [decide_eq_false (fun h => hno ⟨rfl, h⟩)]; rfl
            have hac : acc = acc1 := by rw [← HAC.out, if_neg hno, List.append_nil]
            subst hac hda
            clear hno hb
            go_wp2_with fail
            go_meet
            case rel => exact ⟨ys, G1, rfl, HO2, ⟨fun W' hG => ⟨hG, (HY.out W' hG).2⟩⟩⟩
          | true =>
            have hyes : done = false ∧ k < x1 := by
              cases done with
              | true => cases hb
              | false => exact ⟨rfl, of_decide_eq_true hb⟩
            obtain ⟨rfl, hkm⟩ := hyes
            have hda : true = d1 := by rw [← HD1.out, decide_eq_true hkm]; rfl
            have hac : acc ++ [(k, [((a, b, s) : UE)])] = acc1 := by rw [← HAC.out, if_pos ⟨rfl, hkm⟩]
            subst hda
            have HAc := Aside0.mk hac
            have HO3 := Aside0.mk (HO2.out.lit_row kE flatE 39 (a, b, s) [.int .i64 a, .int .i64 b, .string s] (kE_mk wr (a, b, s)))
            have y0 : wr.cell? ⟨gx, 0, none⟩ = some (.int .i64 a) := HO2.out.cell 1 rfl 0
            have y1 : wr.cell? ⟨gx, 1, none⟩ = some (.int .i64 b) := HO2.out.cell 1 rfl 1
            have y2 : wr.cell? ⟨gx, 2, none⟩ = some (.string s) := HO2.out.cell 1 rfl 2
            clear hb hkm hac
            go_upto_region 8 with (at_builtin; refine Own.append kP HO3.out 1 rfl rfl (.tmp 28) (.tmp 33) 30 zP 32 rfl Try.underlying30 infoL rfl (by decide) (by decide) (k, some ⟨wr.heap.size, 0, none⟩, 1, 1) [.int .i64 k, .slice (some ⟨wr.heap.size, 0, none⟩) 1 1] rfl (by simp [Act.eval, Act.put]) (fun W' _ => kP_mk W' (k, some ⟨wr.heap.size, 0, none⟩, 1, 1)) HYL.out ?_; intro v9 w9 hO9; have HO9 := Aside0.mk (Own.tail (hO9.merge 4 0 (by decide) rfl rfl)); clear hO9)
            clear y0 y1 y2
            go_wp2_with fail
            go_meet
            case rel => exact ⟨_, _, rfl, ⟨HO9.out⟩, ⟨fun W' hG => ⟨hG.1, by rw [← HAc.out]; exact two_snoc (HY.out W' hG.1).2 ⟨rfl, rfl, hG.2.2.1, hG.2.2.2⟩⟩⟩⟩
        case rest =>
          obtain ⟨ys1, G2, rfl, HO3, HY1⟩ := hcut
          clear HO2 hx0 hx1 HB HYL
          obtain ⟨g3, c3, e3, -, hx0, hx1⟩ := HO3.out.pair_at 2 rfl i hlx
          obtain rfl : g1 = g3 := by have := (Value.slice.inj e3).1; simpa using this
          have hxe : xs[i] = (x1, xA, mes.length, xc) := HXE.out
          rw [hxe] at hx0 hx1
          clear hxe e3
          replace hx0 : wc.cell? ⟨g1, i * 2, none⟩ = some (.int .i64 x1) := hx0
          replace hx1 : wc.cell? ⟨g1, i * 2 + 1, none⟩ = some (.slice xA mes.length xc) := hx1
          go_upto_if 42 with fail
          have HO4 := Aside0.mk (HO3.out.room.alloc 0 rfl (.cells #[.int .i64 x1, .slice xA mes.length xc] 80))
          clear hx0 hx1 HO3
          generalize wc.alloc (.cells #[.int .i64 x1, .slice xA mes.length xc] 80) = w4 at HO4 ⊢
          generalize wc.heap.size = gl at HO4 ⊢
          go_cut [8] (fun s8 wx => ∃ (A2 : Option Addr) (n2 c2 : Nat) (G3 : World → Prop), s8 = .bool d2 ∧ Aside0 (Own w wx (.box gl (.cells #[.int .i64 x1, .slice A2 n2 c2] 80 (0, 0)) :: rL u7 ys1 :: .box gx (.cells #[.int .i64 a, .int .i64 b, .string s] 39 (0, 0)) :: rL (.slice (some ⟨g1, 0, none⟩) M.length c) xs :: .fact G3 :: rest)) ∧ Aside0 (∀ W' : World, G3 W' → G2 W' ∧ Hd W' (A2, n2, c2) mes2))
          case first =>
            by_cases hx : x1 = k
            · have hda : true = d2 := by rw [← HD2.out, decide_eq_true hx, Bool.or_true]
              have hme : mes ++ [((a, b, s) : UE)] = mes2 := by rw [← HM2.out, if_pos hx]
              subst hda
              have HM := Aside0.mk hme
              have HF : Aside0 (∀ W' : World, G2 W' → Kd.C kE W' xA mes.length mes) := ⟨fun W' hG => (HK.out W' (HY.out W' (HY1.out W' hG).1).1).2.2.2⟩
              have b42 : (x1 == k) = true := by rw [beq_iff_eq]; exact hx
              have y0 : w4.cell? ⟨gl, 0, none⟩ = some (.int .i64 x1) := HO4.out.cell 0 rfl 0
              clear hme hx
              go_upto_region 11 with fail
              clear y0 b42
              have HO := Aside0.mk (HO4.out.room.room.below (below_drew (Below.refl _ _)))
              clear HO4
              refine start_ (n := 9) (S := fun w' => w'.cell? ⟨gl, 1, none⟩ = some (.slice xA mes.length xc) ∧ w'.cell? ⟨gx, 0, none⟩ = some (.int .i64 a) ∧ w'.cell? ⟨gx, 1, none⟩ = some (.int .i64 b) ∧ w'.cell? ⟨gx, 2, none⟩ = some (.string s)) (ds := [8]) #[false, false, false, false, false, false, false, false, false] (by kernel_rfl) rfl rfl ⟨(HO.out.cell 2 rfl 1).trans rfl, (HO.out.cell 4 rfl 0).trans rfl, (HO.out.cell 4 rfl 1).trans rfl, (HO.out.cell 4 rfl 2).trans rfl⟩ (fun hHeld => ?_)
              refine with_tabW ra_tab ra_bits (fun HT_ HW_ => ?_)
              generalize World.drew _ = W0 at HO hHeld ⊢
              refine pure_ (i := 1) (N := some 44) (v := ?_) (a' := ?_) #[false, true, false, false, false, false, false, false, false] rfl rfl (any_of HT_.out (by kernel_rfl)) (fun _ _ _ h => h) (Or.inl ⟨by rfl, ?_⟩) ?_ ?_
              rotate_left
              · intro w'
                go_simp
                with_reducible rfl
              rotate_left
              · simp only [Act.put, List.setIfInBounds_toArray, List.set_cons_zero, List.set_cons_succ, i64_w, i32_w]
                rfl
              refine take_ (i := 2) (N := some 45) (v := ?_) (a' := ?_) #[false, true, true, false, false, false, false, false, false] rfl rfl (take_ofW HT_.out HW_.out (by kernel_rfl)) (fun _ _ _ h => h) (Or.inl ⟨by rfl, ?_⟩) hHeld ?_ ?_
              rotate_left
              · rintro w' ⟨s0, s1, s2, s3⟩
                go_simp
                with_reducible rfl
              rotate_left
              · simp only [Act.put, List.setIfInBounds_toArray, List.set_cons_zero, List.set_cons_succ, i64_w, i32_w]
                rfl
              refine take_ (i := 4) (N := some 47) (v := ?_) (a' := ?_) #[false, true, true, false, true, false, false, false, false] rfl rfl (take_ofW HT_.out HW_.out (by kernel_rfl)) (fun _ _ _ h => h) (Or.inl ⟨by rfl, ?_⟩) hHeld ?_ ?_
              rotate_left
              · rintro w' ⟨s0, s1, s2, s3⟩
                go_simp
                with_reducible rfl
              rotate_left
              · simp only [Act.put, List.setIfInBounds_toArray, List.set_cons_zero, List.set_cons_succ, i64_w, i32_w]
                rfl
              refine two_ (i := 0) (j := 5) (Ni := some 43) (Nj := some 48) #[true, true, true, false, true, false, false, false, false] #[false, true, true, false, true, true, false, false, false] rfl rfl rfl rfl (two_of HT_.out (by kernel_rfl)) (by decide) (by decide) (fun K hK => ?_) (fun K hK => ?_)
              · skip
                refine Own.lit_step kE HO.out 0 rfl 39 ?hg (N := 43) ?hd (xs := ([] : List UE)) (inner := []) ?hr ?hp (by simp) ?_; (case hd => rfl); (case hg => rfl); (case hr => first | (go_simp; done) | (go_simp; rfl)); (case hp => exact Reps.none _ _)
                intro v0 wA HO'
                have HO2 := Aside0.mk HO'
                clear HO HO'
                have HO := HO2
                clear HO2
                obtain ⟨A0, c0, e0⟩ := HO.out.row 0 rfl
                subst e0
                refine hK.out _ _ ⟨(HO.out.cell 2 rfl 1).trans rfl, (HO.out.cell 4 rfl 0).trans rfl, (HO.out.cell 4 rfl 1).trans rfl, (HO.out.cell 4 rfl 2).trans rfl⟩ (fun hHeld => ?_)
                clear hK K
                refine norm_ (a' := ?_) ?_ ?_
                rotate_left
                · show Act.put _ (some 43) _ = _
                  simp only [Act.put, List.setIfInBounds_toArray, List.set_cons_zero, List.set_cons_succ, i64_w, i32_w]
                  rfl
                refine two_ (i := 3) (j := 5) (Ni := some 46) (Nj := some 48) #[true, true, true, true, true, false, false, false, false] #[true, true, true, false, true, true, false, false, false] rfl rfl rfl rfl (two_of HT_.out (by kernel_rfl)) (by decide) (by decide) (fun K hK => ?_) (fun K hK => ?_)
                · skip
                  refine Own.append_fact_step kE flatE HO.out 0 6 (by decide) 39 rfl rfl HF.out (by rfl) (.tmp 43) (.tmp 45) 78 zE 32 rfl Try.underlying78 infoRE rfl (by decide) (by decide) rfl rfl (by have := HMes.out; simp only [List.length_nil]; omega) ?_
                  intro v3 wA HO'
                  rw [List.nil_append] at HO'
                  have HO2 := Aside0.mk HO'
                  clear HO HO'
                  have HO := HO2
                  clear HO2
                  obtain ⟨A3, c3', e3⟩ := HO.out.row 0 rfl
                  subst e3
                  refine hK.out _ _ ⟨(HO.out.cell 2 rfl 1).trans rfl, (HO.out.cell 4 rfl 0).trans rfl, (HO.out.cell 4 rfl 1).trans rfl, (HO.out.cell 4 rfl 2).trans rfl⟩ (fun hHeld => ?_)
                  clear hK K
                  refine norm_ (a' := ?_) ?_ ?_
                  rotate_left
                  · show Act.put _ (some 46) _ = _
                    simp only [Act.put, List.setIfInBounds_toArray, List.set_cons_zero, List.set_cons_succ, i64_w, i32_w]
                    rfl
                  refine one_ (i := 5) (N := some 48) #[true, true, true, true, true, true, false, false, false] rfl rfl (one_of HT_.out (by kernel_rfl)) (by decide) (fun K hK => ?_)
                  refine Own.lit_step kE HO.out 1 rfl 39 ?hg (N := 48) ?hd (xs := [((a, b, s) : UE)]) (inner := [.int .i64 a, .int .i64 b, .string s]) ?hr ?hp (by simp) ?_; (case hd => rfl); (case hg => rfl); (case hr => first | (go_simp; done) | (go_simp; rfl)); (case hp => exact repsE _ _ _ _)
                  intro v5 wA HO'
                  have HO2 := Aside0.mk HO'
                  clear HO HO'
                  have HO := HO2
                  clear HO2
                  obtain ⟨A5, c5, e5⟩ := HO.out.row 1 rfl
                  subst e5
                  refine hK.out _ _ ⟨(HO.out.cell 2 rfl 1).trans rfl, (HO.out.cell 4 rfl 0).trans rfl, (HO.out.cell 4 rfl 1).trans rfl, (HO.out.cell 4 rfl 2).trans rfl⟩ (fun hHeld => ?_)
                  clear hK K
                  refine norm_ (a' := ?_) ?_ ?_
                  rotate_left
                  · show Act.put _ (some 48) _ = _
                    simp only [Act.put, List.setIfInBounds_toArray, List.set_cons_zero, List.set_cons_succ, i64_w, i32_w]
                    rfl
                  refine one_ (i := 6) (N := some 49) #[true, true, true, true, true, true, true, false, false] rfl rfl (one_of HT_.out (by kernel_rfl)) (by decide) (fun K hK => ?_)
                  refine Own.append_step kE HO.out 0 1 (by decide) 39 rfl rfl (by rfl) (.tmp 46) (.tmp 48) 78 zE 32 rfl Try.underlying78 infoRE rfl (by decide) (by decide) rfl rfl (by have := HMes.out; simp only [List.length_singleton, List.length_cons, List.length_nil]; omega) ?_
                  intro v6 wA HO'
                  rw [HM.out] at HO'
                  have HO2 := Aside0.mk HO'
                  clear HO HO'
                  have HO := HO2
                  clear HO2
                  obtain ⟨A6, c6, e6⟩ := HO.out.row 0 rfl
                  replace e6 : v6 = _ := e6
                  generalize hn6 : List.length _ = n6 at e6
                  subst e6
                  refine hK.out _ _ ⟨(HO.out.cell 2 rfl 1).trans rfl, (HO.out.cell 4 rfl 0).trans rfl, (HO.out.cell 4 rfl 1).trans rfl, (HO.out.cell 4 rfl 2).trans rfl⟩ (fun hHeld => ?_)
                  clear hK K
                  refine norm_ (a' := ?_) ?_ ?_
                  rotate_left
                  · show Act.put _ (some 49) _ = _
                    simp only [Act.put, List.setIfInBounds_toArray, List.set_cons_zero, List.set_cons_succ, i64_w, i32_w]
                    rfl
                  refine pure_ (i := 7) (N := some 50) (v := ?_) (a' := ?_) #[true, true, true, true, true, true, true, true, false] rfl rfl (any_of HT_.out (by kernel_rfl)) (fun _ _ _ h => h) (Or.inl ⟨by rfl, ?_⟩) ?_ ?_
                  rotate_left
                  · intro w'
                    go_simp
                    with_reducible rfl
                  rotate_left
                  · simp only [Act.put, List.setIfInBounds_toArray, List.set_cons_zero, List.set_cons_succ, i64_w, i32_w]
                    rfl
                  refine last_ (i := 8) (N := none) #[true, true, true, true, true, true, true, true, true] rfl rfl (one_of HT_.out (by kernel_rfl)) (by decide) (fun K hK => ?_)
                  have hs1 : wA.cell? ⟨gl, 1, none⟩ = some (.slice xA mes.length xc) := (HO.out.cell 2 rfl 1).trans rfl
                  have hf1 := HO.out.frozen 2 rfl 1
                  refine skip_ (w1 := ?_) (by rfl) rfl ?_ ?_
                  rotate_left
                  · go_simp
                    rfl
                  refine hK.out _ _ ?_
                  clear hK K
                  have HO1 := Aside0.mk (HO.out.store 2 rfl 1 (.slice A6 n6 c6) (cs' := #[.int .i64 x1, .slice A6 n6 c6]) rfl)
                  clear hs1 hf1 HO hHeld
                  generalize wA.setCell ⟨gl, 1, none⟩ (.slice A6 n6 c6) = w6 at HO1 ⊢
                  refine done_ (done_of HT_.out (by kernel_rfl)) ?_
                  go_wp2_with fail
                  go_meet
                  case rel => exact ⟨A6, n6, c6, _, rfl, ⟨Own.tail (Own.tail (HO1.out.merge 6 0 (by decide) rfl rfl))⟩, ⟨fun W' hG => ⟨hG.1, hG.2.1, by rw [← hG.2.1]; exact hG.2.2.1, hG.2.2.2⟩⟩⟩
                · skip
                  refine Own.lit_step kE HO.out 1 rfl 39 ?hg (N := 48) ?hd (xs := [((a, b, s) : UE)]) (inner := [.int .i64 a, .int .i64 b, .string s]) ?hr ?hp (by simp) ?_; (case hd => rfl); (case hg => rfl); (case hr => first | (go_simp; done) | (go_simp; rfl)); (case hp => exact repsE _ _ _ _)
                  intro v5 wA HO'
                  have HO2 := Aside0.mk HO'
                  clear HO HO'
                  have HO := HO2
                  clear HO2
                  obtain ⟨A5, c5, e5⟩ := HO.out.row 1 rfl
                  subst e5
                  refine hK.out _ _ ⟨(HO.out.cell 2 rfl 1).trans rfl, (HO.out.cell 4 rfl 0).trans rfl, (HO.out.cell 4 rfl 1).trans rfl, (HO.out.cell 4 rfl 2).trans rfl⟩ (fun hHeld => ?_)
                  clear hK K
                  refine norm_ (a' := ?_) ?_ ?_
                  rotate_left
                  · show Act.put _ (some 48) _ = _
                    simp only [Act.put, List.setIfInBounds_toArray, List.set_cons_zero, List.set_cons_succ, i64_w, i32_w]
                    rfl
                  refine one_ (i := 3) (N := some 46) #[true, true, true, true, true, true, false, false, false] rfl rfl (one_of HT_.out (by kernel_rfl)) (by decide) (fun K hK => ?_)
                  refine Own.append_fact_step kE flatE HO.out 0 6 (by decide) 39 rfl rfl HF.out (by rfl) (.tmp 43) (.tmp 45) 78 zE 32 rfl Try.underlying78 infoRE rfl (by decide) (by decide) rfl rfl (by have := HMes.out; simp only [List.length_nil]; omega) ?_
                  intro v3 wA HO'
                  rw [List.nil_append] at HO'
                  have HO2 := Aside0.mk HO'
                  clear HO HO'
                  have HO := HO2
                  clear HO2
                  obtain ⟨A3, c3', e3⟩ := HO.out.row 0 rfl
                  subst e3
                  refine hK.out _ _ ⟨(HO.out.cell 2 rfl 1).trans rfl, (HO.out.cell 4 rfl 0).trans rfl, (HO.out.cell 4 rfl 1).trans rfl, (HO.out.cell 4 rfl 2).trans rfl⟩ (fun hHeld => ?_)
                  clear hK K
                  refine norm_ (a' := ?_) ?_ ?_
                  rotate_left
                  · show Act.put _ (some 46) _ = _
                    simp only [Act.put, List.setIfInBounds_toArray, List.set_cons_zero, List.set_cons_succ, i64_w, i32_w]
                    rfl
                  refine one_ (i := 6) (N := some 49) #[true, true, true, true, true, true, true, false, false] rfl rfl (one_of HT_.out (by kernel_rfl)) (by decide) (fun K hK => ?_)
                  refine Own.append_step kE HO.out 0 1 (by decide) 39 rfl rfl (by rfl) (.tmp 46) (.tmp 48) 78 zE 32 rfl Try.underlying78 infoRE rfl (by decide) (by decide) rfl rfl (by have := HMes.out; simp only [List.length_singleton, List.length_cons, List.length_nil]; omega) ?_
                  intro v6 wA HO'
                  rw [HM.out] at HO'
                  have HO2 := Aside0.mk HO'
                  clear HO HO'
                  have HO := HO2
                  clear HO2
                  obtain ⟨A6, c6, e6⟩ := HO.out.row 0 rfl
                  replace e6 : v6 = _ := e6
                  generalize hn6 : List.length _ = n6 at e6
                  subst e6
                  refine hK.out _ _ ⟨(HO.out.cell 2 rfl 1).trans rfl, (HO.out.cell 4 rfl 0).trans rfl, (HO.out.cell 4 rfl 1).trans rfl, (HO.out.cell 4 rfl 2).trans rfl⟩ (fun hHeld => ?_)
                  clear hK K
                  refine norm_ (a' := ?_) ?_ ?_
                  rotate_left
                  · show Act.put _ (some 49) _ = _
                    simp only [Act.put, List.setIfInBounds_toArray, List.set_cons_zero, List.set_cons_succ, i64_w, i32_w]
                    rfl
                  refine pure_ (i := 7) (N := some 50) (v := ?_) (a' := ?_) #[true, true, true, true, true, true, true, true, false] rfl rfl (any_of HT_.out (by kernel_rfl)) (fun _ _ _ h => h) (Or.inl ⟨by rfl, ?_⟩) ?_ ?_
                  rotate_left
                  · intro w'
                    go_simp
                    with_reducible rfl
                  rotate_left
                  · simp only [Act.put, List.setIfInBounds_toArray, List.set_cons_zero, List.set_cons_succ, i64_w, i32_w]
                    rfl
                  refine last_ (i := 8) (N := none) #[true, true, true, true, true, true, true, true, true] rfl rfl (one_of HT_.out (by kernel_rfl)) (by decide) (fun K hK => ?_)
                  have hs1 : wA.cell? ⟨gl, 1, none⟩ = some (.slice xA mes.length xc) := (HO.out.cell 2 rfl 1).trans rfl
                  have hf1 := HO.out.frozen 2 rfl 1
                  refine skip_ (w1 := ?_) (by rfl) rfl ?_ ?_
                  rotate_left
                  · go_simp
                    rfl
                  refine hK.out _ _ ?_
                  clear hK K
                  have HO1 := Aside0.mk (HO.out.store 2 rfl 1 (.slice A6 n6 c6) (cs' := #[.int .i64 x1, .slice A6 n6 c6]) rfl)
                  clear hs1 hf1 HO hHeld
                  generalize wA.setCell ⟨gl, 1, none⟩ (.slice A6 n6 c6) = w6 at HO1 ⊢
                  refine done_ (done_of HT_.out (by kernel_rfl)) ?_
                  go_wp2_with fail
                  go_meet
                  case rel => exact ⟨A6, n6, c6, _, rfl, ⟨Own.tail (Own.tail (HO1.out.merge 6 0 (by decide) rfl rfl))⟩, ⟨fun W' hG => ⟨hG.1, hG.2.1, by rw [← hG.2.1]; exact hG.2.2.1, hG.2.2.2⟩⟩⟩
              · skip
                refine Own.lit_step kE HO.out 1 rfl 39 ?hg (N := 48) ?hd (xs := [((a, b, s) : UE)]) (inner := [.int .i64 a, .int .i64 b, .string s]) ?hr ?hp (by simp) ?_; (case hd => rfl); (case hg => rfl); (case hr => first | (go_simp; done) | (go_simp; rfl)); (case hp => exact repsE _ _ _ _)
                intro v5 wA HO'
                have HO2 := Aside0.mk HO'
                clear HO HO'
                have HO := HO2
                clear HO2
                obtain ⟨A5, c5, e5⟩ := HO.out.row 1 rfl
                subst e5
                refine hK.out _ _ ⟨(HO.out.cell 2 rfl 1).trans rfl, (HO.out.cell 4 rfl 0).trans rfl, (HO.out.cell 4 rfl 1).trans rfl, (HO.out.cell 4 rfl 2).trans rfl⟩ (fun hHeld => ?_)
                clear hK K
                refine norm_ (a' := ?_) ?_ ?_
                rotate_left
                · show Act.put _ (some 48) _ = _
                  simp only [Act.put, List.setIfInBounds_toArray, List.set_cons_zero, List.set_cons_succ, i64_w, i32_w]
                  rfl
                refine one_ (i := 0) (N := some 43) #[true, true, true, false, true, true, false, false, false] rfl rfl (one_of HT_.out (by kernel_rfl)) (by decide) (fun K hK => ?_)
                refine Own.lit_step kE HO.out 0 rfl 39 ?hg (N := 43) ?hd (xs := ([] : List UE)) (inner := []) ?hr ?hp (by simp) ?_; (case hd => rfl); (case hg => rfl); (case hr => first | (go_simp; done) | (go_simp; rfl)); (case hp => exact Reps.none _ _)
                intro v0 wA HO'
                have HO2 := Aside0.mk HO'
                clear HO HO'
                have HO := HO2
                clear HO2
                obtain ⟨A0, c0, e0⟩ := HO.out.row 0 rfl
                subst e0
                refine hK.out _ _ ⟨(HO.out.cell 2 rfl 1).trans rfl, (HO.out.cell 4 rfl 0).trans rfl, (HO.out.cell 4 rfl 1).trans rfl, (HO.out.cell 4 rfl 2).trans rfl⟩ (fun hHeld => ?_)
                clear hK K
                refine norm_ (a' := ?_) ?_ ?_
                rotate_left
                · show Act.put _ (some 43) _ = _
                  simp only [Act.put, List.setIfInBounds_toArray, List.set_cons_zero, List.set_cons_succ, i64_w, i32_w]
                  rfl
                refine one_ (i := 3) (N := some 46) #[true, true, true, true, true, true, false, false, false] rfl rfl (one_of HT_.out (by kernel_rfl)) (by decide) (fun K hK => ?_)
                refine Own.append_fact_step kE flatE HO.out 0 6 (by decide) 39 rfl rfl HF.out (by rfl) (.tmp 43) (.tmp 45) 78 zE 32 rfl Try.underlying78 infoRE rfl (by decide) (by decide) rfl rfl (by have := HMes.out; simp only [List.length_nil]; omega) ?_
                intro v3 wA HO'
                rw [List.nil_append] at HO'
                have HO2 := Aside0.mk HO'
                clear HO HO'
                have HO := HO2
                clear HO2
                obtain ⟨A3, c3', e3⟩ := HO.out.row 0 rfl
                subst e3
                refine hK.out _ _ ⟨(HO.out.cell 2 rfl 1).trans rfl, (HO.out.cell 4 rfl 0).trans rfl, (HO.out.cell 4 rfl 1).trans rfl, (HO.out.cell 4 rfl 2).trans rfl⟩ (fun hHeld => ?_)
                clear hK K
                refine norm_ (a' := ?_) ?_ ?_
                rotate_left
                · show Act.put _ (some 46) _ = _
                  simp only [Act.put, List.setIfInBounds_toArray, List.set_cons_zero, List.set_cons_succ, i64_w, i32_w]
                  rfl
                refine one_ (i := 6) (N := some 49) #[true, true, true, true, true, true, true, false, false] rfl rfl (one_of HT_.out (by kernel_rfl)) (by decide) (fun K hK => ?_)
                refine Own.append_step kE HO.out 0 1 (by decide) 39 rfl rfl (by rfl) (.tmp 46) (.tmp 48) 78 zE 32 rfl Try.underlying78 infoRE rfl (by decide) (by decide) rfl rfl (by have := HMes.out; simp only [List.length_singleton, List.length_cons, List.length_nil]; omega) ?_
                intro v6 wA HO'
                rw [HM.out] at HO'
                have HO2 := Aside0.mk HO'
                clear HO HO'
                have HO := HO2
                clear HO2
                obtain ⟨A6, c6, e6⟩ := HO.out.row 0 rfl
                replace e6 : v6 = _ := e6
                generalize hn6 : List.length _ = n6 at e6
                subst e6
                refine hK.out _ _ ⟨(HO.out.cell 2 rfl 1).trans rfl, (HO.out.cell 4 rfl 0).trans rfl, (HO.out.cell 4 rfl 1).trans rfl, (HO.out.cell 4 rfl 2).trans rfl⟩ (fun hHeld => ?_)
                clear hK K
                refine norm_ (a' := ?_) ?_ ?_
                rotate_left
                · show Act.put _ (some 49) _ = _
                  simp only [Act.put, List.setIfInBounds_toArray, List.set_cons_zero, List.set_cons_succ, i64_w, i32_w]
                  rfl
                refine pure_ (i := 7) (N := some 50) (v := ?_) (a' := ?_) #[true, true, true, true, true, true, true, true, false] rfl rfl (any_of HT_.out (by kernel_rfl)) (fun _ _ _ h => h) (Or.inl ⟨by rfl, ?_⟩) ?_ ?_
                rotate_left
                · intro w'
                  go_simp
                  with_reducible rfl
                rotate_left
                · simp only [Act.put, List.setIfInBounds_toArray, List.set_cons_zero, List.set_cons_succ, i64_w, i32_w]
                  rfl
                refine last_ (i := 8) (N := none) #[true, true, true, true, true, true, true, true, true] rfl rfl (one_of HT_.out (by kernel_rfl)) (by decide) (fun K hK => ?_)
                have hs1 : wA.cell? ⟨gl, 1, none⟩ = some (.slice xA mes.length xc) := (HO.out.cell 2 rfl 1).trans rfl
                have hf1 := HO.out.frozen 2 rfl 1
                refine skip_ (w1 := ?_) (by rfl) rfl ?_ ?_
                rotate_left
                · go_simp
                  rfl
                refine hK.out _ _ ?_
                clear hK K
                have HO1 := Aside0.mk (HO.out.store 2 rfl 1 (.slice A6 n6 c6) (cs' := #[.int .i64 x1, .slice A6 n6 c6]) rfl)
                clear hs1 hf1 HO hHeld
                generalize wA.setCell ⟨gl, 1, none⟩ (.slice A6 n6 c6) = w6 at HO1 ⊢
                refine done_ (done_of HT_.out (by kernel_rfl)) ?_
                go_wp2_with fail
                go_meet
                case rel => exact ⟨A6, n6, c6, _, rfl, ⟨Own.tail (Own.tail (HO1.out.merge 6 0 (by decide) rfl rfl))⟩, ⟨fun W' hG => ⟨hG.1, hG.2.1, by rw [← hG.2.1]; exact hG.2.2.1, hG.2.2.2⟩⟩⟩
            · have hda : d1 = d2 := by rw [← HD2.out, decide_eq_false hx, Bool.or_false]
              have hme : mes = mes2 := by rw [← HM2.out, if_neg hx]
              subst hda hme
              have b42 : (x1 == k) = false := by rw [beq_eq_false_iff_ne]; exact hx
              have y0 : w4.cell? ⟨gl, 0, none⟩ = some (.int .i64 x1) := HO4.out.cell 0 rfl 0
              clear hx
              go_wp2_with fail
              go_meet
              case rel => exact ⟨xA, mes.length, xc, G2, rfl, HO4, ⟨fun W' hG => ⟨hG, (HK.out W' (HY.out W' (HY1.out W' hG).1).1).2⟩⟩⟩
          case rest =>
            obtain ⟨A2, n2, c2, G3, rfl, HO5, HY2⟩ := hcut
            clear HO4
            have y0 : wc.cell? ⟨gl, 0, none⟩ = some (.int .i64 x1) := HO5.out.cell 0 rfl 0
            have y1 : wc.cell? ⟨gl, 1, none⟩ = some (.slice A2 n2 c2) := HO5.out.cell 0 rfl 1
            have hy1 : ys1.length ≤ 90001 := by
              rw [(HY1.out wc (HY2.out wc (HO5.out.now 4 rfl)).1).2.length]
              exact HAL.out
            have HYL1 : Aside0 ((ys1.length + 1) * 32 ≤ 140737488355328) := ⟨by omega⟩
            clear hy1
            go_upto_region 5 with (at_builtin; refine Own.append kP HO5.out 1 rfl rfl (.tmp 51) (.tmp 53) 30 zP 32 rfl Try.underlying30 infoL rfl (by decide) (by decide) (x1, A2, n2, c2) [.int .i64 x1, .slice A2 n2 c2] rfl rfl (fun W' _ => kP_mk W' (x1, A2, n2, c2)) HYL1.out ?_; intro v9 w9 hO9; have HO9 := Aside0.mk (Own.tail hO9); clear hO9)
            clear y0 y1 HO5
            go_wp2_with fail
            try rw [hw]
            go_roundg (M.length - (i + 1))
            case measure => have := HL.out; omega
            case rel => exact ⟨i + 1, d2, _, G3, acc1 ++ [(x1, mes2)], HL.out, Nat.le_refl _, rfl, rfl, ⟨HO9.out⟩, ⟨fun W' hG => ⟨(HY.out W' (HY1.out W' (HY2.out W' hG).1).1).1, two_snoc (HY1.out W' (HY2.out W' hG).1).2 ⟨rfl, (HY2.out W' hG).2⟩⟩⟩, HAcc2⟩
    · obtain rfl : i = M.length := by omega
      have dlt := decNo M.length
      have hac := HAcc.out
      rw [List.drop_length] at hac
      have hyl : ys.length = acc.length := (HY.out wr (HO2.out.now 3 rfl)).2.length
      cases done with
      | true =>
        have hac2 : acc = R := by
          have : acc ++ (if true = true then [] else [(k, [((a, b, s) : UE)])]) = R := hac
          rw [if_pos rfl, List.append_nil] at this
          exact this
        subst hac2
        obtain ⟨A5, c5, rfl⟩ := HO2.out.row 0 rfl
        rw [hyl] at HO2
        rw [hyl]
        clear hac hyl hlt
        go_wp2_with fail
        go_ret
        refine ⟨_, rfl, A5, c5, ys, G1, rfl, ?_, fun W' hG => (HY.out W' hG).2⟩
        exact Own.tail (Own.swap2 (Own.tail (Own.swap2 HO2.out)))
      | false =>
        have hac2 : acc ++ [(k, [((a, b, s) : UE)])] = R := hac
        have hle : ys.length ≤ 90001 := by
          have h1 := congrArg List.length hac2
          rw [List.length_append] at h1
          omega
        have HYL : Aside0 ((ys.length + 1) * 32 ≤ 140737488355328) := ⟨by omega⟩
        have HAc := Aside0.mk hac2
        have HO3 := Aside0.mk (HO2.out.lit_row kE flatE 39 (a, b, s) [.int .i64 a, .int .i64 b, .string s] (kE_mk wr (a, b, s)))
        have y0 : wr.cell? ⟨gx, 0, none⟩ = some (.int .i64 a) := HO2.out.cell 1 rfl 0
        have y1 : wr.cell? ⟨gx, 1, none⟩ = some (.int .i64 b) := HO2.out.cell 1 rfl 1
        have y2 : wr.cell? ⟨gx, 2, none⟩ = some (.string s) := HO2.out.cell 1 rfl 2
        clear hac hac2 hle hyl hlt
        go_upto_region 16 with (at_builtin; refine Own.append kP HO3.out 1 rfl rfl (.tmp 57) (.tmp 62) 30 zP 32 rfl Try.underlying30 infoL rfl (by decide) (by decide) (k, some ⟨wr.heap.size, 0, none⟩, 1, 1) [.int .i64 k, .slice (some ⟨wr.heap.size, 0, none⟩) 1 1] rfl (by simp [Act.eval, Act.put]) (fun W' _ => kP_mk W' (k, some ⟨wr.heap.size, 0, none⟩, 1, 1)) HYL.out ?_; intro v9 w9 hO9; have HO9 := Aside0.mk (Own.tail (hO9.merge 4 0 (by decide) rfl rfl)); clear hO9)
        clear y0 y1 y2 HO2 HO3
        obtain ⟨A9, c9, e9⟩ := HO9.out.row 0 rfl
        have hl9 : (ys ++ [(k, (some (⟨wr.heap.size, 0, none⟩ : Addr), 1, 1))]).length = R.length := by
          have h1 := (HO9.out.now 3 rfl).1
          rw [List.length_append, (HY.out _ h1).2.length, ← HAc.out, List.length_append]; rfl
        rw [hl9] at e9
        subst e9
        go_wp2_with fail
        go_ret
        refine ⟨_, rfl, A9, c9, _, _, rfl, Own.tail (Own.swap2 (Own.tail (Own.swap2 HO9.out))), fun W' hG => ?_⟩
        rw [← HAc.out]
        exact two_snoc (HY.out W' hG.1).2 ⟨rfl, rfl, hG.2.2.1, hG.2.2.2⟩
end Go.Proofs.Ytchpagboglomoaa.Ownd
