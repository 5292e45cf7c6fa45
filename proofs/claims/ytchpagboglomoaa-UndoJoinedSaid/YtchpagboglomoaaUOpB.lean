/- Open: slices.Clone at entries, Entries, End, Pop, each with no Open too. Conditions: at most 100000 transactions, 1000000 entries each. -/
import Derived.Test.YtchpagboglomoaaUOpA
import Derived.Test.YtchpagboglomoaaUGet
import Derived.StillTailTactics
namespace Go.Proofs.Ytchpagboglomoaa.GP.MU
open Go.RowKit Go.Proofs.Ytchpagboglomoaa.Ownd Go.Proofs.YtchpagboglomoaaW.PrintWords Go.Proofs.YtchpagboglomoaaW.PrintLast Go.Proofs.YtchpagboglomoaaW.PrintMore
set_option linter.unusedVariables false
set_option linter.unusedSimpArgs false
theorem infoE : (Try.prog.info? 36).map (fun i => (i.zero, i.size, i.bytes)) = some (some zE, 3, 32) := by kernel_rfl
set_option maxHeartbeats 2000000 in
set_option maxRecDepth 100000 in
theorem cloneE_N {W : World} {A : Option Addr} {n c : Nat} {xs : List UE} (hC : Kd.C kE W A n xs) (hl : n * 32 ≤ 140737488355328) (hnil : A = none → n = 0) :
    Calls Try.prog 31 #[.slice A n c] W fun ex W' => ∃ v', ex = .returned v' ∧ Kd.N kE 36 W' W.heap.size (fun k => W.heap.size ≤ k) v' xs ∧ Below W.heap.size W W' := by
  have q22 : ∀ (w : World) (a : Option Addr) (n c n' c' : Nat), (binOp .eql 71 (.slice a n c) (.slice none n' c')).run Try.prog w = .ok (.bool a.isNone) w := fun w a n c n' c' => Lib.run_eql_slice_nil w _ _ a n c n' c' Try.underlying71
  have HC := Aside0.mk hC
  have HL := Aside0.mk hl
  clear hC hl
  rcases A with _ | A
  · have hn := hnil rfl
    subst hn
    have hxs : xs = [] := List.eq_nil_of_length_eq_zero HC.out.1
    subst hxs
    go_enter Try.func31, Try.ntmps31
    go_wp2
    go_ret
    exact ⟨_, rfl, Kd.N_nil _ _ _ _ _, Below.refl _ _⟩
  · clear hnil
    go_enter Try.func31, Try.ntmps31
    have HR := Aside0.mk (Kd.F_alloc (Kd.C_F heap_E HC.out) (.cells #[] 36))
    go_wp2_with (at_builtin; refine Kd.N_append_rows kE (w0 := W) W.heap.size rfl (.tmp 5) (.tmp 6) 71 36 zE 32 rfl Try.underlying71 infoE rfl (by decide) (by decide) (.slice (some ⟨W.heap.size, 0, none⟩) 0 0) [] xs (some A) n c (fun k => W.heap.size ≤ k ∨ k < W.heap.size) (fun k => k < W.heap.size) rfl rfl (N_empty kE 36 W (fun k => W.heap.size ≤ k ∨ k < W.heap.size) (Or.inl (Nat.le_refl _))) HR.out (fun k hk => ⟨Or.inr hk, fun he => by simp [Value.ownBlock] at he; omega⟩) (fun k hk => Or.inl (by simp at hk; omega)) (below_alloc (Below.refl _ _) _) (by simp) (by have := HL.out; simpa using this) ?_; intro v1 w1 hN1 hb1 hg1 hat1; have HN1 := Aside0.mk hN1; have HB1 := Aside0.mk hb1; clear hN1 hb1 hg1 hat1)
    go_ret
    exact ⟨v1, rfl, N_flat flatE HN1.out (fun k hk => Kd.N_base HN1.out k hk), HB1.out⟩
theorem C_none {α : Type} {d : Kd α} {W : World} {n : Nat} {xs : List α} (h : Kd.C d W none n xs) : n = 0 := by
  rcases Nat.eq_zero_or_pos n with hz | hp
  · exact hz
  · obtain ⟨ad, e, _⟩ := h.2.2 hp
    cases e
/-- A copy of what a header leads to, as a row of its own, ahead of all else. -/
theorem cloneE_O {w W : World} {l : List Thing} (h : Own w W l) {x : Hdr} {es : List UE} (hx : Hd W x es) (hl : es.length ≤ 1000000) :
    Calls Try.prog 31 #[.slice x.1 x.2.1 x.2.2] W fun ex W' => ∃ A c, ex = .returned (.slice A es.length c) ∧ Own w W' (.row kE 36 (.slice A es.length c) es :: l) := by
  obtain ⟨h1, h2, h3⟩ := hx
  rw [← h1] at h3
  refine (cloneE_N (c := x.2.2) h3 (by rw [h1]; omega) (fun e => C_none (by rw [← e]; exact h3))).mono ?_
  rintro ex W' ⟨v', rfl, hN, hb⟩
  have hO : Own w W' (.row kE 36 v' es :: l) := h.room.row_new 0 rfl hb hN (fun k hk => hk)
  obtain ⟨A, c, rfl⟩ := hO.row 0 rfl
  exact ⟨A, c, rfl, hO⟩
set_option maxHeartbeats 2000000 in
set_option maxRecDepth 100000 in
theorem entries_O {w W : World} {rest : List Thing} {g : Nat} {v : Value} {xs : List P2} {F : World → Prop} {M : Opn} (h : Own w W (oB g v :: oR v xs :: .fact F :: rest)) (hi : IsOpen xs F M) (hl : M.length ≤ 100000) (k : Int) (he : (ent M k).length ≤ 1000000) :
    Calls Try.prog 26 #[.pointer (some ⟨g, 0, none⟩), .int .i64 k] W fun ex W' => ∃ A c, ex = .returned (.slice A (ent M k).length c) ∧ Own w W' (.row kE 36 (.slice A (ent M k).length c) (ent M k) :: oB g v :: oR v xs :: .fact F :: rest) := by
  have hlen := OpenOwn.len h hi
  have HG := Aside0.mk (get_O (i := 0) (j := 1) h ⟨rfl, rfl, by decide⟩ hi.rise (by omega) k)
  have HC : Aside0 (∀ W' : World, Below W.heap.size W W' → Calls Try.prog 31 #[.slice (valL xs k).1 (valL xs k).2.1 (valL xs k).2.2] W' fun ex W' => ∃ A c, ex = .returned (.slice A (ent M k).length c) ∧ Own w W' (.row kE 36 (.slice A (ent M k).length c) (ent M k) :: oB g v :: oR v xs :: .fact F :: rest)) :=
    ⟨fun W' hb => cloneE_O (h.below hb) ((hi.heads W' ((h.below hb).now 2 rfl)).val k) he⟩
  clear h hi hlen hl he
  generalize valL xs k = y at HG HC
  generalize has xs k = b at HG
  obtain ⟨yA, yn, yc⟩ := y
  go_enter Try.func26, Try.ntmps26
  go_wp2_with (first
    | (go_at_call 30; refine HG.out.mono ?_; rintro e w' ⟨rfl, hb'⟩; have HB := Aside0.mk hb'; clear hb')
    | (go_at_call 31; refine (HC.out _ HB.out).mono ?_; rintro e w' ⟨A, c, rfl, hO⟩; have HO := Aside0.mk hO; clear hO))
  go_ret
  exact ⟨A, c, rfl, HO.out⟩
theorem entries_nil (W : World) (k : Int) : Calls Try.prog 26 #[.pointer none, .int .i64 k] W fun ex W' => ex = .returned (.slice none 0 0) ∧ W' = W := by
  go_enter Try.func26, Try.ntmps26
  go_wp2
  go_ret
  exact ⟨rfl, rfl⟩
set_option maxHeartbeats 2000000 in
set_option maxRecDepth 100000 in
theorem end_O {w W : World} {rest : List Thing} {g : Nat} {v : Value} {xs : List P2} {F : World → Prop} {M : Opn} (h : Own w W (oB g v :: oR v xs :: .fact F :: rest)) (hi : IsOpen xs F M) (hl : M.length ≤ 100000) (k : Int) :
    Calls Try.prog 11 #[.pointer (some ⟨g, 0, none⟩), .int .i64 k] W fun ex W' => ex = .returned (.bool (isM M k)) ∧ OpenOwn w W' g (delM M k) rest := by
  have hlen := OpenOwn.len h hi
  have HD := Aside0.mk (mdel_O (i := 0) (j := 1) h ⟨rfl, rfl, by decide⟩ hi.rise (by omega) k)
  have hh := (hi.heads W (h.now 2 rfl)).has k
  rw [hh] at HD
  have HI : Aside0 (IsOpen (delL xs k) F (delM M k)) := ⟨⟨delL_rise hi.rise k, fun W' hF => (hi.heads W' hF).del k⟩⟩
  clear h hi hlen hl hh
  generalize isM M k = b at HD ⊢
  go_enter Try.func11, Try.ntmps11
  go_wp2_with (go_at_call 29; refine HD.out.mono ?_; rintro e w' ⟨v', rfl, hO⟩; have HO := Aside0.mk hO; clear hO)
  go_ret
  exact ⟨rfl, v', _, F, HO.out, HI.out⟩
theorem end_nil (W : World) (k : Int) : Calls Try.prog 11 #[.pointer none, .int .i64 k] W fun ex W' => ex = .returned (.bool false) ∧ W' = W := by
  go_enter Try.func11, Try.ntmps11
  go_wp2
  go_ret
  exact ⟨rfl, rfl⟩
/-- An entry of a row of entries. -/
theorem addr_off {ad : Addr} (k t : Nat) (ht : 0 < t) : ad.add (k + t) = ⟨(ad.add k).block, (ad.add k).off + t, none⟩ := by
  unfold Addr.add
  rw [if_neg (by omega)]
  split
  · rename_i h0; simp only [h0, Nat.zero_add]
  · simp only [Nat.add_assoc]
theorem at_E {w : World} {A : Option Addr} {n : Nat} {xs : List UE} (h : Kd.C kE w A n xs) (i : Nat) (h1 : i < xs.length) (hn : n = xs.length) : ∃ ad : Addr, A = some ad ∧ w.cell? (ad.add (i * 3)) = some (.int .i64 xs[i].1) ∧ w.cell? ⟨(ad.add (i * 3)).block, (ad.add (i * 3)).off + 1, none⟩ = some (.int .i64 xs[i].2.1) ∧ w.cell? ⟨(ad.add (i * 3)).block, (ad.add (i * 3)).off + 2, none⟩ = some (.string xs[i].2.2) := by
  obtain ⟨ad, c, e, _, hK, hc0⟩ := Kd.C_get h xs[i] (i : Int) (by omega) (by omega)
  rw [Int.toNat_natCast] at hK hc0
  rw [List.getD_eq_getElem?_getD, List.getElem?_eq_getElem h1, Option.getD_some] at hK
  obtain rfl := kE_is hK
  refine ⟨ad, e, hc0 0 _ rfl, ?_, ?_⟩
  · rw [← addr_off _ 1 (by decide)]; exact hc0 1 _ rfl
  · rw [← addr_off _ 2 (by decide)]; exact hc0 2 _ rfl
/-- The last entry of a transaction is gone; what it was. -/
def popM (M : Opn) (k : Int) : Opn := if ent M k = [] then M else setM M k (ent M k).dropLast
def lastE (l : List UE) : UE := l.getLastD (0, 0, ⟨#[]⟩)
set_option maxHeartbeats 4000000 in
set_option maxRecDepth 100000 in
theorem pop_O {w W : World} {rest : List Thing} {g : Nat} {v : Value} {xs : List P2} {F : World → Prop} {M : Opn} (h : Own w W (oB g v :: oR v xs :: .fact F :: rest)) (hi : IsOpen xs F M) (hl : M.length ≤ 99999) (k : Int) (he : (ent M k).length ≤ 1000000) :
    Calls Try.prog 9 #[.pointer (some ⟨g, 0, none⟩), .int .i64 k] W fun ex W' => ex = .returned (.tuple #[.agg #[.int .i64 (lastE (ent M k)).1, .int .i64 (lastE (ent M k)).2.1, .string (lastE (ent M k)).2.2], .bool (!(ent M k).isEmpty)]) ∧ OpenOwn w W' g (popM M k) rest := by
  have hlen := OpenOwn.len h hi
  have HO1 : Aside0 (Own w (W.alloc (.cells #[.int .i64 0, .int .i64 0, .string ⟨#[]⟩] 36)) (oB g v :: oR v xs :: .fact F :: .box W.heap.size (.cells #[.int .i64 0, .int .i64 0, .string ⟨#[]⟩] 36 (0, 0)) :: rest)) := ⟨Own.down3 (h.room.alloc 0 rfl (.cells #[.int .i64 0, .int .i64 0, .string ⟨#[]⟩] 36))⟩
  have HI := Aside0.mk hi
  have HL := Aside0.mk hlen
  have HE := Aside0.mk (entries_O HO1.out hi (by omega) k he)
  have HLe := Aside0.mk he
  clear h hi hlen he
  obtain ⟨es, hes⟩ : ∃ es, ent M k = es := ⟨_, rfl⟩
  obtain ⟨M', hM'⟩ : ∃ M', popM M k = M' := ⟨_, rfl⟩
  have HES := Aside0.mk hes
  have HM' := Aside0.mk hM'
  rw [hes] at HE HLe ⊢
  rw [hM']
  clear hes hM'
  obtain ⟨q, hq⟩ : ∃ q, lastE es = q := ⟨_, rfl⟩
  obtain ⟨b, hb⟩ : ∃ b, (!es.isEmpty) = b := ⟨_, rfl⟩
  rw [hq, hb]
  have HQ := Aside0.mk hq
  have HBo := Aside0.mk hb
  clear hq hb
  go_enter Try.func9, Try.ntmps9
  go_upto_region 1 with fail
  generalize W.alloc (.cells #[.int .i64 0, .int .i64 0, .string ⟨#[]⟩] 36) = w0 at *
  generalize W.heap.size = gx at *
  rcases es with _ | ⟨e0, er⟩
  · obtain rfl : M = M' := by rw [← HM'.out]; unfold popM; rw [if_pos HES.out]
    obtain rfl : (0, 0, ⟨#[]⟩) = q := HQ.out
    obtain rfl : false = b := HBo.out
    go_wp2_with (first
      | (go_at_call 26; refine HE.out.mono ?_; rintro e w1 ⟨A, c, rfl, hO⟩; have HO2 := Aside0.mk (Own.up3 hO.tail); clear hO)
      | (refine gate_ (.store 36 (.tmp 4) (.tmp 13)) rfl ?_; refine Aside0.out ?_))
    refine ⟨?_⟩
    refine Own.store_all HO2.out 0 rfl rfl rfl 36 (.tmp 4) (.tmp 13) rfl #[.int .i64 0, .int .i64 0, .string ⟨#[]⟩] rfl rfl size_UE rfl (by simp [Value.oneCell']) ?_
    intro wz hz
    have HZ := Aside0.mk hz
    clear hz
    go_wp2_with fail
    (try simp only [Exit.inBlock, Exit.then])
    refine bodyPost_ret (results_ct rfl _ _ gx 36 #[.int .i64 0, .int .i64 0, .string ⟨#[]⟩] (0, 0) _ rfl (HZ.out.box 0 rfl) Try.underlying36 rfl size_UE) rfl ?_
    exact ⟨rfl, v, xs, F, Own.tail HZ.out, HI.out⟩
  · obtain ⟨m, hm⟩ : ∃ m, er.length = m := ⟨_, rfl⟩
    have hM2 : setM M k (e0 :: er).dropLast = M' := by rw [← HM'.out]; unfold popM; rw [HES.out, if_neg (by simp)]
    have hlast : lastE (e0 :: er) = (e0 :: er)[m]'(by simp [hm]) := by
      subst hm
      unfold lastE
      rw [List.getLastD_eq_getLast?, List.getLast?_eq_getElem?, show (e0 :: er).length - 1 = er.length from rfl, List.getElem?_eq_getElem (by simp)]
      rfl
    have hdl : (e0 :: er).dropLast = (e0 :: er).take m := by rw [List.dropLast_eq_take, List.length_cons, hm, Nat.add_sub_cancel]
    have hn : (e0 :: er).length = m + 1 := by rw [List.length_cons, hm]
    rw [hdl] at hM2
    obtain rfl : true = b := HBo.out
    rw [hn] at HE
    have hmE : m < (e0 :: er).length := by omega
    have hy : (e0 :: er)[m]'hmE = q := hlast.symm.trans HQ.out
    clear hlast hdl hm HQ HBo
    generalize e0 :: er = es at *
    have HN := Aside0.mk hn
    have HY := Aside0.mk hy
    have HM2 := Aside0.mk hM2
    clear hy hn hM2 HES HM'
    have HME := Aside0.mk hmE
    have hmb : m ≤ 1000000 := by have := HN.out; have := HLe.out; omega
    have hmb2 : m < 9223372036854775807 := by omega
    have hmm : m ≤ m + 1 := Nat.le_succ m
    have hmz : (m : Int) ≤ ((m + 1 : Nat) : Int) := by omega
    have hmz2 : 0 ≤ (m : Int) := by omega
    have hw1 : wrap64 ((m : Int) + 1 - 1) = (m : Int) := by rw [show ((m : Int) + 1 - 1) = (m : Int) by omega]; unfold wrap64; omega
    have hwz : IntKind.i64.wrap (m : Int) = (m : Int) := by rw [IntKind.wrap_i64]; omega
    have hms : (m : Int) ≤ (m : Int) + 1 := by omega
    have hmt : (m : Int) < (m : Int) + 1 := by omega
    have hl1 := HL.out
    go_upto_region 4 with (go_at_call 26; refine HE.out.mono ?_; rintro e w1 ⟨A, c, rfl, hO⟩; obtain ⟨g2, c2, cs, e2, hcc, -, -, -, -⟩ := hO.elem 0 rfl m HME.out; obtain rfl := (Value.slice.inj e2).1; obtain rfl := (Value.slice.inj e2).2.2; clear e2; have HO2 := Aside0.mk hO; clear hO)
    have hcm : m ≤ c := by have := HN.out; omega
    go_upto_region 4 with fail
    go_still_tail 9, (by kernel_rfl)
    change wpList _ _ _ _ _ w1.drew
    have HO3 := Aside0.mk (HO2.out.below (below_drew (Below.refl _ _)))
    clear HO2
    generalize w1.drew = w1 at HO3 ⊢
    have HO2 := HO3
    clear HO3
    go_upto_region 5 with (go_at_call 28; refine (set_O (i := 1) (j := 2) HO2.out ⟨rfl, rfl, by decide⟩ HI.out.rise (by omega) k (some ⟨g2, 0, none⟩, m, c)).mono ?_; rintro e w2 ⟨v', rfl, hO⟩; have HO3 := Aside0.mk hO; clear hO)
    have hO3 : Own w w2 (.row kE 36 (.slice (some ⟨g2, 0, none⟩) (m + 1) c) es :: oB g v' :: oR v' (setL xs k (some ⟨g2, 0, none⟩, m, c)) :: .fact F :: .box gx (.cells #[.int .i64 0, .int .i64 0, .string ⟨#[]⟩] 36 (0, 0)) :: rest) := HO3.out
    obtain ⟨g3, c3, cs, e3, -, -, hK, hcell, -⟩ := hO3.elem 0 rfl m HME.out
    obtain rfl : g2 = g3 := by have := (Value.slice.inj e3).1; simpa using this
    rw [HY.out] at hK
    obtain rfl := kE_is hK
    have x0 : w2.cell? ⟨g2, m * 3, none⟩ = some (.int .i64 q.1) := hcell 0 _ rfl
    have x1 : w2.cell? ⟨g2, m * 3 + 1, none⟩ = some (.int .i64 q.2.1) := hcell 1 _ rfl
    have x2 : w2.cell? ⟨g2, m * 3 + 2, none⟩ = some (.string q.2.2) := hcell 2 _ rfl
    clear hcell hK e3 HO3 HY
    have HO3 := Aside0.mk hO3
    clear hO3
    have hmlt : (m : Int) < ((m + 1 : Nat) : Int) := by omega
    have hmlt' : m < m + 1 := Nat.lt_succ_self m
    obtain ⟨qa, qb, qc⟩ := q
    replace x0 : w2.cell? ⟨g2, m * 3, none⟩ = some (.int .i64 qa) := x0
    replace x1 : w2.cell? ⟨g2, m * 3 + 1, none⟩ = some (.int .i64 qb) := x1
    replace x2 : w2.cell? ⟨g2, m * 3 + 2, none⟩ = some (.string qc) := x2
    go_wp2_with (refine gate_ (.store 36 (.tmp 4) (.tmp 29)) rfl ?_; refine Aside0.out ?_)
    refine ⟨?_⟩
    refine Own.store_all HO3.out 4 rfl rfl rfl 36 (.tmp 4) (.tmp 29) rfl #[.int .i64 qa, .int .i64 qb, .string qc] rfl rfl size_UE rfl (by simp [Value.oneCell']) ?_
    intro wz hz
    have hz1 : Own w wz (.row kE 36 (.slice (some ⟨g2, 0, none⟩) (m + 1) c) es :: oB g v' :: oR v' (setL xs k (some ⟨g2, 0, none⟩, m, c)) :: .fact F :: .box gx (.cells #[.int .i64 qa, .int .i64 qb, .string qc] 36 (0, 0)) :: rest) := hz
    have HZ := Aside0.mk hz1
    clear hz hz1 x0 x1 x2
    go_wp2_with fail
    (try simp only [Exit.inBlock, Exit.then])
    refine bodyPost_ret (results_ct rfl _ _ gx 36 #[.int .i64 qa, .int .i64 qb, .string qc] (0, 0) _ rfl (HZ.out.box 4 rfl) Try.underlying36 rfl size_UE) rfl ?_
    have hme := HZ.out.merge 3 0 (by decide) rfl rfl
    refine ⟨rfl, v', _, _, Own.tail (Own.up3 (Own.tail hme)), ⟨setL_rise HI.out.rise k _, fun W' hF => ?_⟩⟩
    rw [← HM2.out]
    exact (HI.out.heads W' hF.1).set k (Hd.cut ⟨hF.2.1, by rw [← hF.2.1]; exact hF.2.2.1, hF.2.2.2⟩ m (Nat.le_of_lt HME.out))
theorem pop_nil (W : World) (k : Int) : Calls Try.prog 9 #[.pointer none, .int .i64 k] W fun ex W' => ex = .returned (.tuple #[.agg #[.int .i64 0, .int .i64 0, .string ⟨#[]⟩], .bool false]) ∧ Below W.heap.size W W' := by
  have HO : Aside0 (Own W (W.alloc (.cells #[.int .i64 0, .int .i64 0, .string ⟨#[]⟩] 36)) [.box W.heap.size (.cells #[.int .i64 0, .int .i64 0, .string ⟨#[]⟩] 36 (0, 0))]) := ⟨(Own.start W 1).alloc 0 rfl (.cells #[.int .i64 0, .int .i64 0, .string ⟨#[]⟩] 36)⟩
  go_enter Try.func9, Try.ntmps9
  go_upto_region 1 with fail
  generalize W.alloc (.cells #[.int .i64 0, .int .i64 0, .string ⟨#[]⟩] 36) = w0 at *
  generalize W.heap.size = gx at *
  go_wp2_with (first
    | (go_at_call 26; refine (entries_nil _ _).mono ?_; rintro e w1 ⟨rfl, rfl⟩)
    | (refine gate_ (.store 36 (.tmp 4) (.tmp 13)) rfl ?_; refine Aside0.out ?_))
  refine ⟨?_⟩
  refine Own.store_all HO.out 0 rfl rfl rfl 36 (.tmp 4) (.tmp 13) rfl #[.int .i64 0, .int .i64 0, .string ⟨#[]⟩] rfl rfl size_UE rfl (by simp [Value.oneCell']) ?_
  intro wz hz
  have HZ := Aside0.mk hz
  clear hz
  go_wp2_with fail
  (try simp only [Exit.inBlock, Exit.then])
  refine bodyPost_ret (results_ct rfl _ _ gx 36 #[.int .i64 0, .int .i64 0, .string ⟨#[]⟩] (0, 0) _ rfl (HZ.out.box 0 rfl) Try.underlying36 rfl size_UE) rfl ?_
  exact ⟨rfl, HZ.out.1⟩
end Go.Proofs.Ytchpagboglomoaa.GP.MU
