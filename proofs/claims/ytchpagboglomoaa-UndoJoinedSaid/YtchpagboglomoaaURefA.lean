/- The document's lists of entries: Find, End. Conditions: at most 100000 transactions. -/
import Derived.Test.YtchpagboglomoaaUState
import Derived.Test.YtchpagboglomoaaURGet
namespace Go.Proofs.Ytchpagboglomoaa.Ownd
open Go.RowKit Go.Proofs.Ytchpagboglomoaa.GP.MU Go.Proofs.Ytchpagboglomoaa.GP Go.Proofs.YtchpagboglomoaaW.PrintWords Go.Proofs.YtchpagboglomoaaW.PrintLast Go.Proofs.YtchpagboglomoaaW.PrintMore
set_option linter.unusedVariables false
set_option linter.unusedSimpArgs false
abbrev rL (v : Value) (xs : List P2) : Thing := .row kP 80 v xs
/-- The document's lists: a row of headers, and what they lead to. -/
abbrev ListOwn (w W : World) (v : Value) (M : Opn) (rest : List Thing) : Prop := ∃ A c xs G, v = .slice A M.length c ∧ Own w W (rL v xs :: .fact G :: rest) ∧ ∀ W' : World, G W' → Heads W' xs M
theorem infoL : (Try.prog.info? 80).map (fun i => (i.zero, i.size, i.bytes)) = some (some zP, 2, 32) := by kernel_rfl
theorem Own.pair_at {w W : World} {l : List Thing} {e : Nat} {v : Value} {xs : List P2} (h : Own w W l) (j : Nat) (hj : l[j]? = some (.row kP e v xs)) (i : Nat) (hi : i < xs.length) : ∃ g c, v = .slice (some ⟨g, 0, none⟩) xs.length c ∧ xs.length ≤ c ∧ W.cell? ⟨g, i * 2, none⟩ = some (.int .i64 xs[i].1) ∧ W.cell? ⟨g, i * 2 + 1, none⟩ = some (.slice xs[i].2.1 xs[i].2.2.1 xs[i].2.2.2) := by
  obtain ⟨g, c, cs, h1, h2, _, hK, hcell, _⟩ := h.elem j hj i hi
  obtain rfl := kP_is hK
  exact ⟨g, c, h1, h2, hcell 0 _ rfl, hcell 1 _ rfl⟩
theorem head_at {W : World} {xs : List P2} {M : Opn} (h : Heads W xs M) (i : Nat) (hi : i < M.length) : ∃ hx : i < xs.length, xs[i].1 = M[i].1 ∧ Hd W xs[i].2 M[i].2 := by
  have hx : i < xs.length := by rw [h.length]; exact hi
  exact ⟨hx, h.get i hx hi⟩
/-- Where a transaction stands. -/
def findM (M : Opn) (k : Int) : Int := match M.findIdx? (fun m => decide (m.1 = k)) with | some i => (i : Nat) | none => -1
theorem findM_yes {M : Opn} {k : Int} (i : Nat) (hi : i < M.length) (h : M[i].1 = k) (hno : ∀ t (ht : t < M.length), t < i → ¬ M[t].1 = k) : findM M k = (i : Nat) := by
  unfold findM
  have : M.findIdx? (fun m => decide (m.1 = k)) = some i := by
    rw [List.findIdx?_eq_some_iff_getElem]
    exact ⟨hi, decide_eq_true h, fun t ht => by simpa using hno t (by omega) ht⟩
  rw [this]
theorem findM_no {M : Opn} {k : Int} (hno : ∀ t (ht : t < M.length), ¬ M[t].1 = k) : findM M k = -1 := by
  unfold findM
  have : M.findIdx? (fun m => decide (m.1 = k)) = none := by
    rw [List.findIdx?_eq_none_iff]
    intro m hm
    obtain ⟨t, ht, rfl⟩ := List.getElem_of_mem hm
    simpa using hno t ht
  rw [this]
set_option maxHeartbeats 2000000 in
set_option maxRecDepth 100000 in
theorem find_C {W : World} {A : Option Addr} {c : Nat} {xs : List P2} {M : Opn} (hC : Kd.C kP W A M.length xs) (hk : xs.map (·.1) = M.map (·.1)) (hl : M.length ≤ 1000000) (k : Int) :
    Calls Try.prog 12 #[.slice A M.length c, .int .i64 k] W fun ex W' => ex = .returned (.int .i64 (findM M k)) ∧ W' = W := by
  have hxl : xs.length = M.length := by have := congrArg List.length hk; simpa using this
  obtain ⟨r, hr⟩ : ∃ r, findM M k = r := ⟨_, rfl⟩
  rw [hr]
  have HR := Aside0.mk hr
  have HC := Aside0.mk hC
  have HK := Aside0.mk hk
  have HX := Aside0.mk hxl
  clear hC hk hr hxl
  go_enter Try.func12, Try.ntmps12
  go_wp2
  go_loopg [5] M.length (fun gg s5 wr => ∃ i : Nat, i ≤ M.length ∧ M.length - i ≤ gg ∧ s5 = .int .i64 i ∧ Aside0 (∀ t (ht : t < M.length), t < i → ¬ M[t].1 = k) ∧ wr = W)
  case atStart => exact ⟨0, Nat.zero_le _, by omega, rfl, ⟨fun t _ h => absurd h (Nat.not_lt_zero _)⟩, rfl⟩
  case round =>
    obtain ⟨i, hi, hg, rfl, HN, rfl⟩ := hrel
    by_cases hlt : i < M.length
    · have hlx : i < xs.length := by rw [HX.out]; exact hlt
      obtain ⟨ad, rfl, hx0, -⟩ := at_P HC.out i hlx HX.out.symm
      have hxk : xs[i].1 = M[i].1 := by
        have h1 : (xs.map (·.1))[i]? = (M.map (·.1))[i]? := by rw [HK.out]
        rw [List.getElem?_map, List.getElem?_map, List.getElem?_eq_getElem hlx, List.getElem?_eq_getElem hlt] at h1
        exact Option.some.inj h1
      rw [hxk] at hx0
      have HL := Aside0.mk hlt
      have d1 := decLt hlt
      have z0 := geZ i
      have z1 := ltZ hlt
      have hw := wrS hlt hl
      generalize hmi : M[i].1 = mi at hx0
      have HMi := Aside0.mk hmi
      clear hlx hxk hmi
      by_cases he : mi = k
      · subst he
        obtain rfl : (i : Int) = r := (findM_yes i HL.out HMi.out HN.out).symm.trans HR.out
        have b1 : (mi == mi) = true := beq_self_eq_true mi
        go_wp2_with fail
        go_ret
        exact ⟨rfl, rfl⟩
      · have b1 : (mi == k) = false := by rw [beq_eq_false_iff_ne]; exact he
        have HE := Aside0.mk he
        clear he
        go_wp2_with fail
        try rw [hw]
        go_roundg (M.length - (i + 1))
        case measure => have := HL.out; omega
        case rel => exact ⟨i + 1, HL.out, Nat.le_refl _, rfl, ⟨fun t ht hti => by
          rcases Nat.lt_or_ge t i with h | h
          · exact HN.out t ht h
          · obtain rfl : t = i := by omega
            rw [HMi.out]; exact HE.out⟩, rfl⟩
    · obtain rfl : i = M.length := by omega
      obtain rfl : -1 = r := (findM_no (fun t ht => HN.out t ht ht)).symm.trans HR.out
      have d1 := decNo M.length
      go_wp2_with fail
      go_ret
      exact ⟨rfl, rfl⟩
theorem flatH (W W' : World) (x : P2) (c : List Value) (h : kP.K W x c) : kP.K W' x c := flatP W W' x c h
/-- Without a transaction. -/
def dropM (M : Opn) (k : Int) : Opn := M.filter fun m => !decide (m.1 = k)
theorem drop_snoc_keep (M : Opn) (k : Int) (i : Nat) (h : i < M.length) (hk : ¬ M[i].1 = k) : dropM (M.take (i + 1)) k = dropM (M.take i) k ++ [M[i]] := by
  rw [List.take_succ_eq_append_getElem h]
  unfold dropM
  rw [List.filter_append, List.filter_cons_of_pos (by simp [hk]), List.filter_nil]
theorem drop_snoc_skip (M : Opn) (k : Int) (i : Nat) (h : i < M.length) (hk : M[i].1 = k) : dropM (M.take (i + 1)) k = dropM (M.take i) k := by
  rw [List.take_succ_eq_append_getElem h]
  unfold dropM
  rw [List.filter_append, List.filter_cons_of_neg (by simp [hk]), List.filter_nil, List.append_nil]
theorem two_snoc {α β : Type} {R : α → β → Prop} {l : List α} {r : List β} {a : α} {b : β} (h : Two R l r) (hab : R a b) : Two R (l ++ [a]) (r ++ [b]) := by
  induction h with
  | nil => exact .cons hab .nil
  | cons h1 _ ih => exact .cons h1 ih
theorem dropM_len (M : Opn) (k : Int) : (dropM M k).length ≤ M.length := List.length_filter_le _ _
set_option maxHeartbeats 4000000 in
set_option maxRecDepth 100000 in
theorem rend_O {w W : World} {v : Value} {M : Opn} {rest : List Thing} (h : ListOwn w W v M rest) (hl : M.length ≤ 100000) (k : Int) :
    Calls Try.prog 13 #[v, .int .i64 k] W fun ex W' => ∃ v', ex = .returned v' ∧ ListOwn w W' v' (dropM M k) rest := by
  obtain ⟨A, c, xs, G, rfl, hO, hH⟩ := h
  have hxl : xs.length = M.length := (hH W (hO.now 1 rfl)).length
  have HO := Aside0.mk (hO.room.nil 0 kP 80)
  have HH := Aside0.mk hH
  have HX := Aside0.mk hxl
  have hl' : M.length ≤ 1000000 := by omega
  clear hO hH hxl
  go_enter Try.func13, Try.ntmps13
  go_wp2
  go_loopg [5, 6] M.length (fun gg s5 s6 wr => ∃ (i : Nat) (ys : List P2), i ≤ M.length ∧ M.length - i ≤ gg ∧ s6 = .int .i64 i ∧ Aside0 (Own w wr (rL s5 ys :: rL (.slice A M.length c) xs :: .fact G :: rest)) ∧ Aside0 (∀ W' : World, G W' → Heads W' ys (dropM (M.take i) k)))
  case atStart => exact ⟨0, [], Nat.zero_le _, by omega, rfl, ⟨HO.out⟩, ⟨fun _ _ => .nil⟩⟩
  case round =>
    obtain ⟨i, ys, hi, hg, rfl, HO2, HY⟩ := hrel
    clear HO
    by_cases hlt : i < M.length
    · obtain ⟨g1, c1, e1, -, hx0, hx1⟩ := HO2.out.pair_at 1 rfl i (by rw [HX.out]; exact hlt)
      obtain rfl := (Value.slice.inj e1).1
      have hlx : i < xs.length := by rw [HX.out]; exact hlt
      have HK : Aside0 (∀ W' : World, G W' → HdK W' xs[i] M[i]) := ⟨fun W' hG => (head_at (HH.out W' hG) i hlt).2⟩
      have hk0 := (HK.out wr (HO2.out.now 2 rfl)).1
      have HL := Aside0.mk hlt
      have d1 := decLt hlt
      have z0 := geZ i
      have z1 := ltZ hlt
      have hw := wrS hlt hl'
      have hdk := drop_snoc_keep M k i hlt
      have hds := drop_snoc_skip M k i hlt
      have hyl : ys.length ≤ 100000 := by
        have h1 := (HY.out wr (HO2.out.now 2 rfl)).length
        have h2 := dropM_len (M.take i) k
        rw [List.length_take] at h2
        omega
      have HDK := Aside0.mk hdk
      have HDS := Aside0.mk hds
      have HYL : Aside0 ((ys.length + 1) * 32 ≤ 140737488355328) := ⟨by omega⟩
      have HLX := Aside0.mk hlx
      clear hdk hds e1
      have HP := Aside0.mk (fun (W' : World) => kP_mk W' xs[i])
      generalize M[i] = m at *
      generalize xs[i] = x at *
      obtain ⟨x1, xA, xn, xc⟩ := x
      obtain ⟨m1, mes⟩ := m
      simp only [] at hx0 hx1 hk0 HDK HDS
      subst hk0
      clear hyl
      by_cases he : x1 = k
      · have b1 : (x1 != k) = false := by simp [he]
        have HE := Aside0.mk (HDS.out he)
        clear he hlt
        go_wp2_with fail
        try rw [hw]
        go_roundg (M.length - (i + 1))
        case measure => have := HL.out; omega
        case rel => exact ⟨i + 1, ys, HL.out, Nat.le_refl _, rfl, HO2, ⟨fun W' hG => by rw [HE.out]; exact HY.out W' hG⟩⟩
      · have b1 : (x1 != k) = true := by simp [he]
        have HE := Aside0.mk (HDK.out he)
        clear he hlt
        go_upto_region 4 with (at_builtin; refine Own.append kP HO2.out 0 rfl rfl (.tmp 20) (.tmp 25) 30 zP 32 rfl Try.underlying30 infoL rfl (by decide) (by decide) (x1, xA, xn, xc) [.int .i64 x1, .slice xA xn xc] rfl rfl (fun W' _ => HP.out W') HYL.out ?_; intro v9 w9 hO9; have HO9 := Aside0.mk hO9; clear hO9)
        go_wp2_with fail
        try rw [hw]
        go_roundg (M.length - (i + 1))
        case measure => have := HL.out; omega
        case rel => exact ⟨i + 1, ys ++ [(x1, xA, xn, xc)], HL.out, Nat.le_refl _, rfl, ⟨HO9.out⟩, ⟨fun W' hG => by rw [HE.out]; exact two_snoc (HY.out W' hG) (HK.out W' hG)⟩⟩
    · obtain rfl : i = M.length := by omega
      have d1 := decNo M.length
      have hY := HY.out
      rw [List.take_length] at hY
      have hyl := (hY wr (HO2.out.now 2 rfl)).length
      obtain ⟨A5, c5, rfl⟩ := HO2.out.row 0 rfl
      rw [hyl] at HO2
      have HY2 := Aside0.mk hY
      rw [hyl]
      clear hyl hY HY
      go_wp2_with fail
      go_ret
      exact ⟨_, rfl, A5, c5, ys, G, rfl, (Own.swap2 HO2.out).tail, HY2.out⟩
end Go.Proofs.Ytchpagboglomoaa.Ownd
