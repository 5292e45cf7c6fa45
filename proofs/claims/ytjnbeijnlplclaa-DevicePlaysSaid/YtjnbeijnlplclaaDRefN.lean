/- concordanceref03.New. Conditions: at most 1000 sectors. -/
import Derived.Test.YtjnbeijnlplclaaDRefE
import Derived.Test.YtjnbeijnlplclaaWTab
import Derived.Test.YtjnbeijnlplclaaWRepsOne
namespace Go.Proofs.Ytjnbeijnlplclaa.Ownd
open Go.RowKit Go.Proofs.YtjnbeijnlplclaaW.PrintWords Go.Proofs.YtjnbeijnlplclaaW.PrintLast Go.Proofs.YtjnbeijnlplclaaW.PrintMore
set_option linter.unusedVariables false
set_option linter.unusedSimpArgs false
def rn_T : Bool × List (List Nat × List Nat) := (true, [([], []), ([0], [0]), ([], []), ([2], [2]), ([1, 3, 2], [1, 3]), ([0, 1, 2, 3, 4], []), ([5, 4, 4, 0, 1, 2, 3, 4], [4, 5])])
def rn_B : List Nat := [0, 1, 0, 4, 15, 31, 63]
theorem rn_tab : rtab .any (opsOf Try.f19 5) = rn_T := by kernel_rfl
theorem rn_bits : waitsOk rn_T.2 rn_B = true := by kernel_rfl
theorem results_c1 {P : Program} {fn : Func} {p : Tmp} {ty : TypeId} (h : fn.results = #[.cell p ty]) (tmps : Array Value) (w : World) (g : Nat) (t : TypeId) (cs : Array Value) (fr : Nat × Nat) (d : TypeDesc)
    (hp : tmps.getD p undef = .pointer (some ⟨g, 0, none⟩)) (hg : w.heap[g]? = some (.cells cs t fr))
    (hu : P.underlying ty = some d) (hd : (match d with | .struct _ | .array _ _ => true | _ => false) = true) (hi : (P.info? ty).map (·.size) = some cs.size) :
    (results fn tmps).run P w = .ok (.agg cs) w := by
  have hp' : tmps[p]?.getD undef = .pointer (some ⟨g, 0, none⟩) := by simpa using hp
  simp [results, h, hp', asAddr, run_loadVar_row w g t ty cs fr d hg hu hd hi]
def RD.new (n : Nat) : RD := ⟨List.replicate n (pad ⟨#[]⟩), [], false, 0, [], 0⟩
abbrev RNil (v : Value) : Array Value := #[v, .slice none 0 0, .slice none 0 0, .bool false, .int .i64 0, .slice none 0 0, .int .i64 0]
def NewT (r d : Nat) (v : Value) (k : Nat) : List Thing := [.box d (.cells (RNil v) 46 (0, 0)), .row Kd.string 9 v (List.replicate k (pad ⟨#[]⟩)), .box r (.cells (RNil (.slice none 0 0)) 46 (0, 0)), .gone]
theorem rlenT {n : Nat} (h : n ≤ 1000) : n * 16 ≤ 140737488355328 := by omega
theorem Own.pick1 {α : Type} {w W : World} {l : List Thing} {d : Kd α} {e : Nat} {v : Value} {xs : List α} (h : Own w W l) (i : Nat) (hi : l[i]? = some (.row d e v xs)) : Own w W [.row d e v xs] := by
  obtain ⟨hB, col, hc⟩ := h
  have r1 : Kd.N d e W w.heap.size (okc w.heap.size W col i) v xs := hc i _ hi
  refine ⟨hB, fun k => if col k = i then 0 else 1, fun t it ht => ?_⟩
  match t, ht with
  | 0, ht =>
    obtain rfl := Option.some.inj ht
    exact Kd.N_mono r1 (fun k hk => ⟨hk.1, fun hlt => by simp only [hk.2 hlt, if_pos]⟩)
  | t + 1, ht => simp at ht
theorem Own.newT {w W : World} {r d k : Nat} {v : Value} {l : List Thing} (h : Own w W l) (hl : l = [.box d (.cells (RNil v) 46 (0, 0)), .row Kd.string 9 v (List.replicate k (pad ⟨#[]⟩) ++ [pad ⟨#[]⟩]), .box r (.cells (RNil (.slice none 0 0)) 46 (0, 0)), .gone] := by rfl) : Own w W (NewT r d v (k + 1)) := by
  subst hl
  unfold NewT
  rw [List.replicate_succ']
  exact h
theorem Own.endT {w W : World} {a b : Thing} {x y : Thing} (h : Own w W [a, b, x, y]) : Own w W [x, b] :=
  own_same (fun i => if i = 2 then 0 else 1) (fun i it hi => by
    match i, hi with
    | 0, hi => exact .inr ⟨2, hi, rfl⟩
    | 1, hi => exact .inr ⟨1, hi, rfl⟩
    | i + 2, hi => simp at hi) h
theorem rlen {k : Nat} (h : k ≤ 1000) : (List.replicate k (pad ⟨#[]⟩)).length * 16 ≤ 140737488355328 := by rw [List.length_replicate]; omega
set_option maxHeartbeats 8000000 in
set_option maxRecDepth 100000 in
theorem newR (n : Nat) (hn : n ≤ 1000) (W : World) : Calls Try.prog 19 #[.int .i64 n] W fun ex W' => ∃ vl, ex = .returned (.agg (RNil vl)) ∧ Own W W' [.row Kd.string 9 vl (List.replicate n (pad ⟨#[]⟩))] := by
  go_enter Try.func19, Try.ntmps19
  go_upto_block 0 with fail
  have H0 : Aside0 (Own W ((W.alloc (.cells (RNil (.slice none 0 0)) 46)).alloc (.cells (RNil (.slice none 0 0)) 46)) (NewT W.heap.size (W.heap.size + 1) (.slice none 0 0) 0)) := ⟨by
    have h := (((Own.start W 4).alloc 2 rfl (.cells (RNil (.slice none 0 0)) 46)).alloc 0 rfl (.cells (RNil (.slice none 0 0)) 46)).nil 1 Kd.string 9
    rw [show (W.alloc (.cells (RNil (.slice none 0 0)) 46)).heap.size = W.heap.size + 1 by simp] at h
    exact h⟩
  change Code.wp _ _ _ _ ((W.alloc (.cells (RNil (.slice none 0 0)) 46)).alloc (.cells (RNil (.slice none 0 0)) 46))
  generalize (W.alloc (.cells (RNil (.slice none 0 0)) 46)).alloc (.cells (RNil (.slice none 0 0)) 46) = W3 at H0 ⊢
  generalize W.heap.size + 1 = d at H0 ⊢
  generalize hgr : W.heap.size = r at H0 ⊢
  clear hgr
  go_cut [] (fun wx => Aside0 (∃ v, Own W wx (NewT r d v n)))
  case first =>
    go_wp2_with fail
    go_loopg [4] n (fun gg s4 wr => ∃ k : Nat, k ≤ n ∧ n - k ≤ gg ∧ s4 = .int .i64 k ∧ Aside0 (∃ v, Own W wr (NewT r d v k)))
    case atStart => exact ⟨0, Nat.zero_le _, Nat.le_refl _, rfl, ⟨_, H0.out⟩⟩
    case round =>
      clear H0
      obtain ⟨k, hk, hg, rfl, ⟨v, hO⟩⟩ := hrel
      by_cases hlt : k < n
      · have d1 := fdlt hlt
        have hw := fwr hlt (Nat.le_trans hn (by decide))
        obtain ⟨A, c, ev⟩ := hO.row 1 rfl
        rw [List.length_replicate] at ev
        subst ev
        have HLN := Aside0.mk (rlenT (n := k + 1) (by omega))
        have HO := Aside0.mk hO
        clear hO
        go_upto_region 5 with fail
        have HOd := Aside0.mk (HO.out.below (below_drew (Below.refl _ _)))
        clear HO
        have HO := HOd
        clear HOd
        refine start_ (n := 7) (S := fun w' => w'.cell? ⟨d, 0, none⟩ = some (.slice A k c) ∧ w'.cell? ⟨d, 1, none⟩ = some (.slice none 0 0)) (ds := [6]) #[false, false, false, false, false, false, false] (by kernel_rfl) rfl rfl ⟨(HO.out.cell 0 rfl 0).trans rfl, (HO.out.cell 0 rfl 1).trans rfl⟩ (fun hHeld => ?_)
        refine with_tabW rn_tab rn_bits (fun HT_ HW_ => ?_)
        generalize World.drew _ = W0 at HO hHeld ⊢
        refine pure_ (i := 0) (N := some 11) (v := ?_) (a' := ?_) #[true, false, false, false, false, false, false] rfl rfl (any_of HT_.out (by kernel_rfl)) (fun _ _ _ h => h) (Or.inl ⟨by rfl, ?_⟩) ?_ ?_
        rotate_left
        · intro w'
          go_simp
          with_reducible rfl
        rotate_left
        · simp only [Act.put, List.setIfInBounds_toArray, List.set_cons_zero, List.set_cons_succ, i64_w, i32_w]
          rfl
        refine take_ (i := 1) (N := some 12) (v := ?_) (a' := ?_) #[true, true, false, false, false, false, false] rfl rfl (take_ofW HT_.out HW_.out (by kernel_rfl)) (fun _ _ _ h => h) (Or.inl ⟨by rfl, ?_⟩) hHeld ?_ ?_
        rotate_left
        · rintro w' ⟨s0, s1⟩
          go_simp
          with_reducible rfl
        rotate_left
        · simp only [Act.put, List.setIfInBounds_toArray, List.set_cons_zero, List.set_cons_succ, i64_w, i32_w]
          rfl
        refine one_ (i := 2) (N := some 13) #[true, true, true, false, false, false, false] rfl rfl (one_of HT_.out (by kernel_rfl)) (by decide) (fun K hK => ?_)
        refine goes_ Try.func32 (by kernel_rfl) rfl #[.string ⟨#[]⟩] (by rfl) rfl rfl (by first | rfl | (simp [Act.eval]; done) | (go_simp; done) | decide) ?_
        refine (full_calls ⟨#[]⟩ (by decide) _).mono ?_
        rintro e wA ⟨rfl, hb⟩
        refine ⟨_, rfl, ?_⟩
        have HO1 := Aside0.mk (HO.out.below hb)
        clear HO hb
        have HO := HO1
        clear HO1
        refine hK.out _ _ ⟨(HO.out.cell 0 rfl 0).trans rfl, (HO.out.cell 0 rfl 1).trans rfl⟩ (fun hHeld => ?_)
        clear hK K
        refine norm_ (a' := ?_) ?_ ?_
        rotate_left
        · show Act.put _ (some 13) _ = _
          simp only [Act.put, List.setIfInBounds_toArray, List.set_cons_zero, List.set_cons_succ, i64_w, i32_w]
          rfl
        refine one_ (i := 3) (N := some 14) #[true, true, true, true, false, false, false] rfl rfl (one_of HT_.out (by kernel_rfl)) (by decide) (fun K hK => ?_)
        refine Own.lit_step Kd.string HO.out 3 rfl 9 ?hg (N := 14) ?hd (xs := [pad ⟨#[]⟩]) (inner := [.string (pad ⟨#[]⟩)]) ?hr ?hp (by simp) ?_; (case hd => rfl); (case hg => rfl); (case hr => first | (go_simp; done) | (go_simp; rfl)); (case hp => exact Reps.front (fun W2 _ => rfl) rfl (Reps.none _ _) rfl)
        intro vA wA HO'
        have HO1 := Aside0.mk HO'
        clear HO HO'
        have HO := HO1
        clear HO1
        obtain ⟨AvA_, cvA', evA⟩ := HO.out.row 3 rfl
        subst evA
        refine hK.out _ _ ⟨(HO.out.cell 0 rfl 0).trans rfl, (HO.out.cell 0 rfl 1).trans rfl⟩ (fun hHeld => ?_)
        clear hK K
        refine norm_ (a' := ?_) ?_ ?_
        rotate_left
        · show Act.put _ (some 14) _ = _
          simp only [Act.put, List.setIfInBounds_toArray, List.set_cons_zero, List.set_cons_succ, i64_w, i32_w]
          rfl
        refine one_ (i := 4) (N := some 15) #[true, true, true, true, true, false, false] rfl rfl (one_of HT_.out (by kernel_rfl)) (by decide) (fun K hK => ?_)
        refine Own.append_step Kd.string HO.out 1 3 (by decide) 9 rfl rfl (by rfl) (.tmp 12) (.tmp 14) 44 (.string ⟨#[]⟩) 16 rfl Try.underlying44 infoS rfl (by decide) (by decide) rfl rfl (by rw [List.length_replicate]; exact HLN.out) ?_
        intro vC wA HO'
        have HO1 := Aside0.mk HO'
        clear HO HO'
        have HO := HO1
        clear HO1
        obtain ⟨AC, cC, eC⟩ := HO.out.row 1 rfl
        replace eC : vC = _ := eC
        generalize hnC : List.length _ = nC at eC
        subst eC
        refine hK.out _ _ ⟨(HO.out.cell 0 rfl 0).trans rfl, (HO.out.cell 0 rfl 1).trans rfl⟩ (fun hHeld => ?_)
        clear hK K
        refine norm_ (a' := ?_) ?_ ?_
        rotate_left
        · show Act.put _ (some 15) _ = _
          simp only [Act.put, List.setIfInBounds_toArray, List.set_cons_zero, List.set_cons_succ, i64_w, i32_w]
          rfl
        refine pure_ (i := 5) (N := some 16) (v := ?_) (a' := ?_) #[true, true, true, true, true, true, false] rfl rfl (any_of HT_.out (by kernel_rfl)) (fun _ _ _ h => h) (Or.inl ⟨by rfl, ?_⟩) ?_ ?_
        rotate_left
        · intro w'
          go_simp
          with_reducible rfl
        rotate_left
        · simp only [Act.put, List.setIfInBounds_toArray, List.set_cons_zero, List.set_cons_succ, i64_w, i32_w]
          rfl
        refine last_ (i := 6) (N := none) #[true, true, true, true, true, true, true] rfl rfl (one_of HT_.out (by kernel_rfl)) (by decide) (fun K hK => ?_)
        have hs0 : wA.cell? ⟨d, 0, none⟩ = some (.slice A k c) := (HO.out.cell 0 rfl 0).trans rfl
        have hf0 := HO.out.frozen 0 rfl 0
        refine skip_ (w1 := ?_) (by rfl) rfl ?_ ?_
        rotate_left
        · go_simp
          rfl
        refine hK.out _ _ ?_
        clear hK K
        have HO1 := Aside0.mk (HO.out.store 0 rfl 0 (.slice AC nC cC) (cs' := RNil (.slice AC nC cC)) rfl)
        clear hs0 hf0 HO
        generalize wA.setCell ⟨d, 0, none⟩ (.slice AC nC cC) = W3 at HO1 ⊢
        have HO := HO1
        clear HO1
        refine done_ (done_of HT_.out (by kernel_rfl)) ?_
        go_wp2_with fail
        go_roundg (n - (k + 1))
        case measure => exact fmeas hlt hg
        case rel => exact ⟨k + 1, hlt, Nat.le_refl _, by first | rfl | rw [hw], ⟨_, HO.out.newT⟩⟩
      · obtain rfl : k = n := Nat.le_antisymm hk (Nat.not_lt.mp hlt)
        have d1 := fdno hlt
        have HO := Aside0.mk hO
        clear hO
        go_wp2
        go_meet
        case rel => exact ⟨⟨v, HO.out⟩⟩
  case rest =>
    obtain ⟨v, hO⟩ := hcut.out
    obtain ⟨A, c, ev⟩ := hO.row 1 rfl
    rw [List.length_replicate] at ev
    subst ev
    have z0 : wc.cell? ⟨d, 0, none⟩ = some (.slice A n c) := hO.cell 0 rfl 0
    have z1 : wc.cell? ⟨d, 1, none⟩ = some (.slice none 0 0) := hO.cell 0 rfl 1
    have z2 : wc.cell? ⟨d, 2, none⟩ = some (.slice none 0 0) := hO.cell 0 rfl 2
    have z3 : wc.cell? ⟨d, 3, none⟩ = some (.bool false) := hO.cell 0 rfl 3
    have z4 : wc.cell? ⟨d, 4, none⟩ = some (.int .i64 0) := hO.cell 0 rfl 4
    have z5 : wc.cell? ⟨d, 5, none⟩ = some (.slice none 0 0) := hO.cell 0 rfl 5
    have z6 : wc.cell? ⟨d, 6, none⟩ = some (.int .i64 0) := hO.cell 0 rfl 6
    have HO := Aside0.mk hO
    clear hO hcut H0
    go_upto_region 6 with fail
    go_cut [] (fun wx => Aside0 (Own W wx [.box r (.cells (RNil (.slice A n c)) 46 (0, 0)), .row Kd.string 9 (.slice A n c) (List.replicate n (pad ⟨#[]⟩))]))
    case first =>
      go_wp2_with (refine gate_ (.store 46 (.tmp 2) (.tmp 17)) rfl ?_; refine Aside0.out ?_)
      refine ⟨?_⟩
      refine Own.store_all HO.out 2 rfl rfl rfl 46 (.tmp 2) (.tmp 17) rfl (RNil (.slice A n c)) rfl rfl size_RD rfl (by simp [Value.oneCell']) ?_
      intro wz hz
      have HZ := Aside0.mk (Own.endT hz)
      clear hz
      go_wp2_with fail
      go_meet
      case rel => exact HZ
    case rest =>
      have HZ := hcut
      refine ‹∀ (a : Act) (w : World), Code.wp Try.prog Code.ret _ a w → _› _ _ ?_
      refine wp_ret ?_
      refine bodyPost_ret (results_c1 rfl _ _ r 46 (RNil (.slice A n c)) (0, 0) _ rfl (HZ.out.box 0 rfl) Try.underlying46 rfl size_RD) rfl ?_
      exact ⟨_, rfl, Own.pick1 HZ.out 1 rfl⟩
end Go.Proofs.Ytjnbeijnlplclaa.Ownd
