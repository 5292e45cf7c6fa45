/- The document's lists of entries: Pop. Conditions: at most 100000 transactions, which rise; 1000000 entries each. -/
import Derived.Test.YtchpagboglomoaaURefA
import Derived.StillTailTactics
namespace Go.Proofs.Ytchpagboglomoaa.Ownd
open Go.RowKit Go.Proofs.Ytchpagboglomoaa.GP.MU Go.Proofs.Ytchpagboglomoaa.GP Go.Proofs.YtchpagboglomoaaW.PrintWords Go.Proofs.YtchpagboglomoaaW.PrintLast Go.Proofs.YtchpagboglomoaaW.PrintMore
set_option linter.unusedVariables false
set_option linter.unusedSimpArgs false
section
variable {P : Program} {ops : Array Oper} {rest : List Oper} {o : Oper} {a : Act} {Q : Exit → Act → World → Prop} {α : Type} {w W : World} {l : List Thing}
/-- append([]T{}, x...): a new row, ahead of all else. -/
theorem fresh_O (hO : Own w W l) (d : Kd α) (hheap : Kd.Heap d) (hflat : ∀ (W W' : World) (x : α) (c : List Value), d.K W x c → d.K W' x c) {A : Option Addr} {m c : Nat} {xs : List α} {e : TypeId} (hC : Kd.C d W A m xs) (hgd : o.guard = none) (s x : Operand) (t : TypeId) (z : Value) (bytes : Nat)
    (ho : o.op = .call { callee := .builtin .append, args := #[s, x], argTypes := #[t, t] })
    (ht : P.underlying t = some (.slice e)) (hinfo : (P.info? e).map (fun i => (i.zero, i.size, i.bytes)) = some (some z, d.sz, bytes)) (hz : z.cells.size = d.sz) (hsz : 0 < d.sz) (hb0 : 0 < bytes)
    (hs : a.eval s = .slice (some ⟨W.heap.size, 0, none⟩) 0 0) (hx : a.eval x = .slice A m c) (hl : m * bytes ≤ 140737488355328)
    (h : ∀ A1 c1 w1, Own w w1 (.row d e (.slice A1 xs.length c1) xs :: l) → wpList P ops Q rest (a.put o.dst (.slice A1 xs.length c1)) w1) :
    wpList P ops Q (o :: rest) a (W.alloc (.cells #[] e)) := by
  refine Kd.N_append_rows d (w0 := W) W.heap.size hgd s x t e z bytes ho ht hinfo hz hsz hb0 (.slice (some ⟨W.heap.size, 0, none⟩) 0 0) [] xs A m c (fun k => W.heap.size ≤ k ∨ k < W.heap.size) (fun k => k < W.heap.size) hs hx (N_empty d e W _ (Or.inl (Nat.le_refl _))) (Kd.F_alloc (Kd.C_F hheap hC) _) (fun k hk => ⟨Or.inr hk, fun he => by simp [Value.ownBlock] at he; omega⟩) (fun k hk => Or.inl (by simp at hk; omega)) (below_alloc (Below.refl _ _) _) (by simp) (by simpa using hl) ?_
  intro v1 w1 hN1 hb1 _ _
  rw [List.nil_append] at hN1
  have hO' : Own w w1 (.row d e v1 xs :: l) := hO.room.row_new 0 rfl hb1 (N_flat hflat hN1 (fun k hk => Kd.N_base hN1 k hk)) (fun k hk => hk)
  obtain ⟨A1, c1, rfl⟩ := hO'.row 0 rfl
  exact h A1 c1 w1 hO'
end
/-- A pair's value is written. -/
theorem put_valE {w W : World} {l : List Thing} (h : Own w W l) (j : Nat) {e g n c : Nat} {xs : List P2} (hj : l[j]? = some (.row kP e (.slice (some ⟨g, 0, none⟩) n c) xs)) (i : Nat) (hi : i < xs.length) (x : Hdr) :
    Own w (W.setCell ⟨g, i * 2 + 1, none⟩ (.slice x.1 x.2.1 x.2.2)) (l.set j (.row kP e (.slice (some ⟨g, 0, none⟩) n c) (xs.set i (xs[i].1, x)))) := by
  obtain ⟨hB, col, hc⟩ := h
  have hJ : Kd.N kP e W w.heap.size (okc w.heap.size W col j) (.slice (some ⟨g, 0, none⟩) n c) xs := hc j _ hj
  have hn := (Kd.N_reads' hJ).1
  obtain ⟨cs, h1, h2, h3, h4⟩ := Kd.N_elem hJ xs[i] (i : Int) (by omega) (by omega)
  rw [Int.toNat_natCast] at h2 h3 h4
  rw [List.getD_eq_getElem?_getD, List.getElem?_eq_getElem hi, Option.getD_some] at h2
  have hcs := kP_is (Kd.FK_now h2)
  have hs := Kd.N_seg hJ (i : Int) (by omega) (by omega) (c := cs) (seg := [.slice x.1 x.2.1 x.2.2]) (j := 1) h1 (by rw [Int.toNat_natCast]; exact h3) (by show 1 + 1 ≤ 2; omega) (x' := (xs[i].1, x)) (okp := fun _ => False) (by
    rw [hcs]
    exact fun W' _ => kP_mk W' (xs[i].1, x)) (fun _ hk => hk.elim)
  rw [Int.toNat_natCast] at hs
  exact own_row hB hc j hj (show W.grownBy (W.setCells g (i * kP.sz + 1) [.slice x.1 x.2.1 x.2.2]) (some g) from hs.2) hs.1
theorem two_set {α β : Type} {R : α → β → Prop} {l : List α} {r : List β} (h : Two R l r) : ∀ (i : Nat) {a : α} {b : β}, R a b → Two R (l.set i a) (r.set i b) := by
  induction h with
  | nil => intro i a b _; exact .nil
  | cons h1 h2 ih =>
    intro i a b hab
    cases i with
    | zero => exact .cons hab h2
    | succ i => exact .cons h1 (ih i hab)
/-! Where a transaction stands among those that rise. -/
theorem rise_at {M : Opn} (hr : RiseM M) {k : Int} (i : Nat) (hi : i < M.length) (h : M[i].1 = k) : getM M k = some M[i].2 := by
  refine getM_of hr ?_
  have h1 : (M[i].1, M[i].2) ∈ M := List.getElem_mem hi
  rwa [h] at h1
theorem rise_no {M : Opn} {k : Int} (h : ∀ t (ht : t < M.length), ¬ M[t].1 = k) : getM M k = none := by
  cases hg : getM M k with
  | none => rfl
  | some es =>
    obtain ⟨t, ht, he⟩ := List.getElem_of_mem (getM_mem hg)
    exact absurd (by rw [he]) (h t ht)
theorem setM_at {M : Opn} (hr : RiseM M) {k : Int} (e : List UE) : ∀ (i : Nat) (hi : i < M.length) (h : M[i].1 = k), setM M k e = M.set i (k, e) := by
  induction M with
  | nil => intro i hi; simp at hi
  | cons a r ih =>
    have hr' := List.pairwise_cons.mp hr
    intro i hi h
    cases i with
    | zero =>
      have h : a.1 = k := h
      show (if k < a.1 then _ else _) = _
      rw [if_neg (show ¬ k < a.1 by omega), if_pos h, List.set_cons_zero]
    | succ i =>
      have hi' : i < r.length := by simpa using hi
      have h : r[i].1 = k := h
      have h3 : a.1 < k := by rw [← h]; exact hr'.1 _ (List.getElem_mem hi')
      show (if k < a.1 then _ else _) = _
      rw [if_neg (show ¬ k < a.1 by omega), if_neg (show ¬ a.1 = k by omega), List.set_cons_succ, ih hr'.2 i hi' h]
theorem findM_cases (M : Opn) (k : Int) : (findM M k = -1 ∧ ∀ t (ht : t < M.length), ¬ M[t].1 = k) ∨ ∃ i, ∃ hi : i < M.length, findM M k = (i : Nat) ∧ M[i].1 = k := by
  unfold findM
  cases h : M.findIdx? (fun m => decide (m.1 = k)) with
  | none =>
    rw [List.findIdx?_eq_none_iff] at h
    exact .inl ⟨rfl, fun t ht => by simpa using h M[t] (List.getElem_mem ht)⟩
  | some i =>
    rw [List.findIdx?_eq_some_iff_getElem] at h
    obtain ⟨hi, h1, _⟩ := h
    exact .inr ⟨i, hi, rfl, by simpa using h1⟩
theorem findM_isM {M : Opn} (hr : RiseM M) (k : Int) : isM M k = decide (0 ≤ findM M k) := by
  rcases findM_cases M k with ⟨h1, h2⟩ | ⟨i, hi, h1, h2⟩
  · unfold isM; rw [rise_no h2, h1]; rfl
  · unfold isM; rw [rise_at hr i hi h2, h1]
    exact (decide_eq_true (by omega)).symm
theorem results_tct {P : Program} {fn : Func} {p u v : Tmp} {ty : TypeId} (h : fn.results = #[.tmp u, .cell p ty, .tmp v]) (tmps : Array Value) (w : World) (g : Nat) (t : TypeId) (cs : Array Value) (fr : Nat × Nat) (d : TypeDesc)
    (hp : tmps.getD p undef = .pointer (some ⟨g, 0, none⟩)) (hg : w.heap[g]? = some (.cells cs t fr))
    (hu : P.underlying ty = some d) (hd : (match d with | .struct _ | .array _ _ => true | _ => false) = true) (hi : (P.info? ty).map (·.size) = some cs.size) :
    (results fn tmps).run P w = .ok (.tuple #[tmps.getD u undef, .agg cs, tmps.getD v undef]) w := by
  have hp' : tmps[p]?.getD undef = .pointer (some ⟨g, 0, none⟩) := by simpa using hp
  simp [results, h, hp', asAddr, run_loadVar_row w g t ty cs fr d hg hu hd hi]
theorem size_RE : (Try.prog.info? 39).map (·.size) = some 3 := by kernel_rfl
set_option maxHeartbeats 8000000 in
set_option maxRecDepth 100000 in
theorem rpop_O {w W : World} {v : Value} {M : Opn} {rest : List Thing} (h : ListOwn w W v M rest) (hr : RiseM M) (hl : M.length ≤ 100000) (k : Int) (he : (ent M k).length ≤ 1000000) :
    Calls Try.prog 10 #[v, .int .i64 k] W fun ex W' => ∃ v', ex = .returned (.tuple #[v', .agg #[.int .i64 (lastE (ent M k)).1, .int .i64 (lastE (ent M k)).2.1, .string (lastE (ent M k)).2.2], .bool (!(ent M k).isEmpty)]) ∧ ListOwn w W' v' (popM M k) rest := by
  obtain ⟨A, c, xs, G, rfl, hO, hH⟩ := h
  have hxl : xs.length = M.length := (hH W (hO.now 1 rfl)).length
  have HO : Aside0 (Own w (W.alloc (.cells #[.int .i64 0, .int .i64 0, .string ⟨#[]⟩] 39)) (.box W.heap.size (.cells #[.int .i64 0, .int .i64 0, .string ⟨#[]⟩] 39 (0, 0)) :: rL (.slice A M.length c) xs :: .fact G :: rest)) := ⟨hO.room.alloc 0 rfl (.cells #[.int .i64 0, .int .i64 0, .string ⟨#[]⟩] 39)⟩
  have HH := Aside0.mk hH
  have HX := Aside0.mk hxl
  have HF : Aside0 (Calls Try.prog 12 #[.slice A M.length c, .int .i64 k] (W.alloc (.cells #[.int .i64 0, .int .i64 0, .string ⟨#[]⟩] 39)) fun ex W' => ex = .returned (.int .i64 (findM M k)) ∧ W' = (W.alloc (.cells #[.int .i64 0, .int .i64 0, .string ⟨#[]⟩] 39))) := by
    obtain ⟨A', c', e, -, hC⟩ := HO.out.reads 1 rfl
    obtain rfl := (Value.slice.inj e).1
    rw [hxl] at hC
    exact ⟨find_C hC ((hH W (hO.now 1 rfl)).keys) (by omega) k⟩
  have hcase := findM_cases M k
  obtain ⟨es, hes⟩ : ∃ es, ent M k = es := ⟨_, rfl⟩
  obtain ⟨M', hM'⟩ : ∃ M', popM M k = M' := ⟨_, rfl⟩
  rw [hes] at he ⊢
  rw [hM']
  obtain ⟨q, hq⟩ : ∃ q, lastE es = q := ⟨_, rfl⟩
  obtain ⟨b, hb⟩ : ∃ b, (!es.isEmpty) = b := ⟨_, rfl⟩
  rw [hq, hb]
  have HES := Aside0.mk hes
  have HM' := Aside0.mk hM'
  have HQ := Aside0.mk hq
  have HBo := Aside0.mk hb
  have HLe := Aside0.mk he
  have HR := Aside0.mk hr
  have HCase := Aside0.mk hcase
  clear hO hH hxl hcase hes hM' hq hb he hr
  go_enter Try.func10, Try.ntmps10
  go_upto_region 2 with (go_at_call 12; refine HF.out.mono ?_; rintro e w1 ⟨rfl, hw1⟩; rw [hw1]; clear hw1)
  generalize W.alloc (.cells #[.int .i64 0, .int .i64 0, .string ⟨#[]⟩] 39) = w0 at *
  generalize W.heap.size = gx at *
  clear HF
  rcases HCase.out with ⟨h1, h2⟩ | ⟨i, hi, h1, h2⟩
  · rw [h1]
    have he0 : es = [] := by rw [← HES.out]; unfold ent; rw [rise_no h2]; rfl
    obtain rfl : M = M' := by rw [← HM'.out]; unfold popM; rw [if_pos (HES.out.trans he0)]
    subst he0
    obtain rfl : (0, 0, ⟨#[]⟩) = q := HQ.out
    obtain rfl : false = b := HBo.out
    clear h1 h2 HCase
    go_wp2_with (refine gate_ (.store 39 (.tmp 5) (.tmp 25)) rfl ?_; refine Aside0.out ?_)
    refine ⟨?_⟩
    refine Own.store_all HO.out 0 rfl rfl rfl 39 (.tmp 5) (.tmp 25) rfl #[.int .i64 0, .int .i64 0, .string ⟨#[]⟩] rfl rfl size_RE rfl (by simp [Value.oneCell']) ?_
    intro wz hz
    have HZ := Aside0.mk hz
    clear hz
    go_wp2_with fail
    (try simp only [Exit.inBlock, Exit.then])
    refine bodyPost_ret (results_tct rfl _ _ gx 39 #[.int .i64 0, .int .i64 0, .string ⟨#[]⟩] (0, 0) _ rfl (HZ.out.box 0 rfl) Try.underlying39 rfl size_RE) rfl ?_
    exact ⟨_, rfl, _, c, xs, G, rfl, Own.tail HZ.out, HH.out⟩
  · rw [h1]
    have hes : M[i].2 = es := by rw [← HES.out]; unfold ent; rw [rise_at HR.out i hi h2]; rfl
    have hlx : i < xs.length := by rw [HX.out]; exact hi
    obtain ⟨g1, c1, e1, -, -, hx1⟩ := HO.out.pair_at 1 rfl i hlx
    obtain rfl := (Value.slice.inj e1).1
    have HK : Aside0 (∀ W' : World, G W' → HdK W' xs[i] M[i]) := ⟨fun W' hG => (head_at (HH.out W' hG) i hi).2⟩
    have hk0 := HK.out w0 (HO.out.now 2 rfl)
    have hxk : xs[i].1 = k := hk0.1.trans h2
    have hxn : xs[i].2.2.1 = es.length := by rw [← hes]; exact hk0.2.1
    have HHd : Aside0 (∀ W' : World, G W' → Hd W' xs[i].2 es) := ⟨fun W' hG => by rw [← hes]; exact (HK.out W' hG).2⟩
    have HI := Aside0.mk hi
    have HLX := Aside0.mk hlx
    have HSet := Aside0.mk (fun e => setM_at HR.out (k := k) e i hi h2)
    have HXE : Aside0 (xs[i] = (k, xs[i].2)) := ⟨Prod.ext hxk rfl⟩
    rw [hxn] at hx1
    have d1 : decide ((i : Int) < 0) = false := decide_eq_false (by omega)
    have z0 := geZ i
    have z1 := ltZ hi
    generalize hxx : xs[i].2 = x at *
    obtain ⟨xA, xn, xc⟩ := x
    simp only [] at hx1 hxn
    subst hxn
    clear HK hk0 hxk hes h1 h2 HCase e1 hxx
    rcases es with _ | ⟨e0, er⟩
    · obtain rfl : M = M' := by rw [← HM'.out]; unfold popM; rw [if_pos HES.out]
      obtain rfl : (0, 0, ⟨#[]⟩) = q := HQ.out
      obtain rfl : false = b := HBo.out
      go_wp2_with (refine gate_ (.store 39 (.tmp 5) (.tmp 25)) rfl ?_; refine Aside0.out ?_)
      refine ⟨?_⟩
      refine Own.store_all HO.out 0 rfl rfl rfl 39 (.tmp 5) (.tmp 25) rfl #[.int .i64 0, .int .i64 0, .string ⟨#[]⟩] rfl rfl size_RE rfl (by simp [Value.oneCell']) ?_
      intro wz hz
      have HZ := Aside0.mk hz
      clear hz
      go_wp2_with fail
      (try simp only [Exit.inBlock, Exit.then])
      refine bodyPost_ret (results_tct rfl _ _ gx 39 #[.int .i64 0, .int .i64 0, .string ⟨#[]⟩] (0, 0) _ rfl (HZ.out.box 0 rfl) Try.underlying39 rfl size_RE) rfl ?_
      exact ⟨_, rfl, _, c, xs, G, rfl, Own.tail HZ.out, HH.out⟩
    · obtain ⟨m, hm⟩ : ∃ m, er.length = m := ⟨_, rfl⟩
      have hM2 : setM M k (e0 :: er).dropLast = M' := by rw [← HM'.out]; unfold popM; rw [HES.out, if_neg (by simp)]
      have hlast : lastE (e0 :: er) = (e0 :: er)[m]'(by simp [hm]) := by
        subst hm
        unfold lastE
        rw [List.getLastD_eq_getLast?, List.getLast?_eq_getElem?, show (e0 :: er).length - 1 = er.length from rfl, List.getElem?_eq_getElem (by simp)]
        rfl
      have hdl : (e0 :: er).dropLast = (e0 :: er).take m := by rw [List.dropLast_eq_take, List.length_cons, hm, Nat.add_sub_cancel]
      have hn : (e0 :: er).length = m + 1 := by rw [List.length_cons, hm]
      rw [hdl, HSet.out] at hM2
      obtain rfl : true = b := HBo.out
      have hmE : m < (e0 :: er).length := by omega
      have hy : (e0 :: er)[m]'hmE = q := hlast.symm.trans HQ.out
      have hmb : m ≤ 1000000 := by have := HLe.out; omega
      rw [hn] at hx1
      clear hlast hdl hm HQ HBo HM' HES HSet
      generalize e0 :: er = es at *
      have HN := Aside0.mk hn
      have HY := Aside0.mk hy
      have HM2 := Aside0.mk hM2
      have HME := Aside0.mk hmE
      have hcm : m + 1 ≤ xc := by have := (HHd.out w0 (HO.out.now 2 rfl)).2.1; rw [hn] at this; exact this
      have hcm2 : m ≤ xc := by omega
      clear hy hn hM2
      have hw1 : wrap64 ((m : Int) + 1 - 1) = (m : Int) := by rw [show ((m : Int) + 1 - 1) = (m : Int) by omega]; unfold wrap64; omega
      have hw2 : wrap64 (((m + 1 : Nat) : Int) - 1) = (m : Int) := by rw [show (((m + 1 : Nat) : Int) - 1) = (m : Int) by omega]; unfold wrap64; omega
      have hms : (m : Int) ≤ (m : Int) + 1 := by omega
      have hmt : (m : Int) < (m : Int) + 1 := by omega
      have hmz2 : 0 ≤ (m : Int) := by omega
      have hmm : m ≤ m + 1 := Nat.le_succ m
      have hb0 : ((m : Int) + 1 == 0) = false := by rw [beq_eq_false_iff_ne]; omega
      have hb1 : (((m + 1 : Nat) : Int) == 0) = false := by rw [beq_eq_false_iff_ne]; omega
      have HC : Aside0 (Kd.C kP w0 (some ⟨g1, 0, none⟩) M.length xs) := ⟨by
        obtain ⟨A', c', e, -, hC⟩ := HO.out.reads 1 rfl
        obtain rfl := (Value.slice.inj e).1
        rw [HX.out] at hC
        exact hC⟩
      go_upto_region 4 with fail
      go_upto_region 5 with (at_builtin; refine fresh_O HO.out kP (Kd.heap_pair (Kd.heap_int _) heap_H) flatP HC.out rfl (.tmp 26) (.tmp 27) 30 zP 32 rfl Try.underlying30 infoL rfl (by decide) (by decide) rfl rfl (by omega) ?_; intro A1 c1 w1 hO1; rw [HX.out] at hO1 ⊢; have HO1 := Aside0.mk hO1; clear hO1)
      have hG1 := HO1.out.now 3 rfl
      obtain ⟨g3, c3, e3, -, -, y1⟩ := HO1.out.pair_at 2 rfl i hlx
      obtain rfl : g1 = g3 := by have := (Value.slice.inj e3).1; simpa using this
      rw [HXE.out] at y1
      obtain ⟨g2, c4, cs, e4, -, -, hK4, hcell4, hfz4⟩ := HO1.out.elem 0 rfl i hlx
      obtain rfl := (Value.slice.inj e4).1
      rw [HXE.out] at hK4
      obtain rfl := kP_is hK4
      have y2 : w1.cell? ⟨g2, i * 2 + 1, none⟩ = some (.slice xA es.length xc) := hcell4 1 _ rfl
      have f2 : w1.frozen? ⟨g2, i * 2 + 1, none⟩ = false := hfz4 1
      rw [HN.out] at y2
      replace y1 : w1.cell? ⟨g1, i * 2 + 1, none⟩ = some (.slice xA (m + 1) xc) := by rw [← HN.out]; exact y1
      have hgg : g2 ≠ g1 := by
        obtain ⟨_, col, hc⟩ := HO1.out
        have n0 : Kd.N kP 80 w1 w.heap.size (okc w.heap.size w1 col 0) (.slice (some ⟨g2, 0, none⟩) M.length c1) xs := hc 0 _ rfl
        have n2 : Kd.N kP 80 w1 w.heap.size (okc w.heap.size w1 col 2) (.slice (some ⟨g1, 0, none⟩) M.length c) xs := hc 2 _ rfl
        rintro rfl
        have a0 := (n0.1 g2 (by simp [Value.ownBlock])).2 (Kd.N_lt n0 g2 (by simp [Value.ownBlock]))
        have a2 := (n2.1 g2 (by simp [Value.ownBlock])).2 (Kd.N_lt n2 g2 (by simp [Value.ownBlock]))
        omega
      have HO2 := Aside0.mk (put_valE HO1.out 0 rfl i hlx (xA, m, xc))
      clear hcell4 hfz4 hK4 e3 e4 hG1 hx1
      go_upto_region 7 with fail
      have hO2 : Own w (w1.setCell ⟨g2, i * 2 + 1, none⟩ (.slice xA m xc)) (.row kP 80 (.slice (some ⟨g2, 0, none⟩) M.length c1) (xs.set i (xs[i].1, (xA, m, xc))) :: .box gx (.cells #[.int .i64 0, .int .i64 0, .string ⟨#[]⟩] 39 (0, 0)) :: rL (.slice (some ⟨g1, 0, none⟩) M.length c) xs :: .fact G :: rest) := HO2.out
      clear y1 y2 f2 HO1 HO2
      generalize w1.setCell ⟨g2, i * 2 + 1, none⟩ (.slice xA m xc) = w2 at hO2 ⊢
      obtain ⟨g3, c3, e3, -, -, y1⟩ := hO2.pair_at 2 rfl i hlx
      obtain rfl : g1 = g3 := by have := (Value.slice.inj e3).1; simpa using this
      rw [HXE.out] at y1
      replace y1 : w2.cell? ⟨g1, i * 2 + 1, none⟩ = some (.slice xA (m + 1) xc) := by rw [← HN.out]; exact y1
      obtain ⟨ad, hxA, x0, x1, x2⟩ := at_E (HHd.out w2 (hO2.now 3 rfl)).2.2 m hmE rfl
      obtain rfl : xA = some ad := hxA
      rw [HY.out] at x0 x1 x2
      obtain ⟨qa, qb, qc⟩ := q
      simp only [] at x0 x1 x2
      have HO2 := Aside0.mk hO2
      clear hO2 e3 HY
      go_still_tail 10, (by kernel_rfl)
      change wpList _ _ _ _ _ w2.drew
      have HO3 := Aside0.mk (HO2.out.below (below_drew (Below.refl _ _)))
      clear HO2 y1 x0 x1 x2
      generalize w2.drew = w3 at HO3 ⊢
      go_wp2_with (refine gate_ (.store 39 (.tmp 5) (.tmp 55)) rfl ?_; refine Aside0.out ?_)
      refine ⟨?_⟩
      refine Own.store_all HO3.out 1 rfl rfl rfl 39 (.tmp 5) (.tmp 55) rfl #[.int .i64 qa, .int .i64 qb, .string qc] rfl rfl size_RE rfl (by simp [Value.oneCell']) ?_
      intro wz hz
      have hz1 : Own w wz (.row kP 80 (.slice (some ⟨g2, 0, none⟩) M.length c1) (xs.set i (xs[i].1, (some ad, m, xc))) :: .box gx (.cells #[.int .i64 qa, .int .i64 qb, .string qc] 39 (0, 0)) :: rL (.slice (some ⟨g1, 0, none⟩) M.length c) xs :: .fact G :: rest) := hz
      have HZ := Aside0.mk hz1
      clear hz hz1
      go_wp2_with fail
      (try simp only [Exit.inBlock, Exit.then])
      refine bodyPost_ret (results_tct rfl _ _ gx 39 #[.int .i64 qa, .int .i64 qb, .string qc] (0, 0) _ rfl (HZ.out.box 1 rfl) Try.underlying39 rfl size_RE) rfl ?_
      have hlen : M'.length = M.length := by rw [← HM2.out, List.length_set]
      refine ⟨_, rfl, some ⟨g2, 0, none⟩, c1, xs.set i (xs[i].1, (some ad, m, xc)), G, by rw [hlen]; rfl, ?_, fun W' hG => ?_⟩
      · have h9 := Own.tail (Own.swap2 (Own.tail (Own.swap2 HZ.out)))
        exact h9
      · rw [← HM2.out]
        refine two_set (HH.out W' hG) i ⟨?_, Hd.cut (HHd.out W' hG) m (Nat.le_of_lt hmE)⟩
        rw [HXE.out]
end Go.Proofs.Ytchpagboglomoaa.Ownd
