/- wal.Format; Open of a device without a log. Conditions: as find's. -/
import Derived.Test.YtegeaemkkbenfaaDoorWOpen
namespace Go.Proofs.YtegeaemkkbenfaaDoor.Ownd
open Go.Shelf Go.RowKit Go.Proofs.YtegeaemkkbenfaaDoorW.PrintWords Go.Proofs.YtegeaemkkbenfaaDoorW.PrintLast Go.Proofs.YtegeaemkkbenfaaDoorW.PrintMore
set_option linter.unusedVariables false
set_option linter.unusedSimpArgs false
variable {w W : World} {l1 l2 : List (Nat × Dev)} {rest : List Thing} {d : Nat} {T : TD} {D : Dev}
theorem right_true {T : TD} {at_ : Int} {half : Nat} (h0 : 0 ≤ at_ ∧ at_ ≤ 5000) (hf : 1 ≤ half ∧ half ≤ 512) (hz : at_ + 2 + 2 * (half : Int) ≤ (T.size : Int)) : rightB T.dev.size at_ half = true := by
  unfold rightB
  rw [decide_eq_true h0.1, decide_eq_true (show (1 : Int) ≤ half by omega), decide_eq_true (show (half : Int) ≤ 512 by omega), decide_eq_true (show at_ ≤ (T.dev.size : Int) - 2 - 2 * half by show at_ ≤ (T.size : Int) - 2 - 2 * half; omega)]
  rfl
/-- The log that Format makes. -/
def LG.fresh (T : TD) (at_ : Int) (half : Nat) : LG := ⟨at_, half, 0, 1, T.gk at_ (2 * half), ⟨#[]⟩, 0, 0, 0, true, false⟩
set_option maxHeartbeats 8000000 in
set_option maxRecDepth 100000 in
theorem format_calls (h : HL w W (l1 ++ (d, T.dev) :: l2) rest) {at_ G : Int} {half : Nat} (hA : T.All (Where at_ half G)) (ho : T.off = false) (h0 : 0 ≤ at_ ∧ at_ ≤ 5000) (hf : 1 ≤ half ∧ half ≤ 512) (hz : at_ + 2 + 2 * (half : Int) ≤ (T.size : Int)) (hz5 : T.size ≤ 5000) (hl : T.wait.length ≤ 100000) (hT : Tab w)
    (s : ByteArray) (hs0 : s.size ≠ 0) (hs1 : s.size ≤ 16384) (hs2 : s.size + 2 ≤ half * 242) (hg : 0 ≤ T.gk at_ (2 * half) ∧ T.gk at_ (2 * half) < 281474976710655) :
    Calls Tryd.prog 10 #[.pointer (some ⟨d, 0, none⟩), .int .i64 at_, .int .i64 half, .string s] W fun ex W' => ex = .returned (.int .i64 ((LG.fresh T at_ half).switch T 0 s).1) ∧ HL w W' (l1 ++ (d, ((LG.fresh T at_ half).switch T 0 s).2.2.dev) :: l2) rest := by
  have HSW := Aside0.mk (fun (W' : World) (gl : Nat) (rest' : List Thing) (h' : HL w W' (l1 ++ (d, T.dev) :: l2) (LT gl d (LG.fresh T at_ half) :: rest')) => switch_calls h' 0 s hg (show (0 : Int) ≤ 1 ∧ (1 : Int) ≤ 1 by decide) h0 hf.2 hl (Nat.le_trans hs1 (by decide)) hT)
  obtain ⟨x, hx⟩ : ∃ x, (LG.fresh T at_ half).switch T 0 s = x := ⟨_, rfl⟩
  rw [hx] at HSW ⊢
  clear hx
  have hlt : ∀ gl, LT gl d (LG.fresh T at_ half) = .box gl (.cells #[.pointer (some ⟨d, 0, none⟩), .int .i64 at_, .int .i64 half, .int .i64 0, .int .i64 1, .int .i64 (T.gk at_ (2 * half)), .string ⟨#[]⟩, .int .i64 0, .int .i64 0, .int .i64 0, .bool true, .bool false] 67 (0, 0)) := fun _ => rfl
  generalize LG.fresh T at_ half = L0 at HSW hlt
  obtain ⟨gr, hgr⟩ : ∃ x, T.gk at_ (2 * half) = x := ⟨_, rfl⟩
  rw [hgr] at hlt
  have HLT := Aside0.mk hlt
  have HGR := Aside0.mk hgr
  clear hgr hlt
  have H1 := Aside0.mk (h.alloc (.cells #[.pointer none, .int .i64 0, .int .i64 0] 61))
  have HT := Aside0.mk hT
  have HA := Aside0.mk hA
  clear h hT hA
  have hne := ne_nil_of hs0
  have hi1 : ¬ ((16384 : Int) < (s.size : Int)) := by omega
  have v3 : wrap64 ((s.size : Int) + 2) = (s.size : Int) + 2 := sw_w3 hs1
  have v4 : wrap64 ((half : Int) * 242) = (half : Int) * 242 := sw_w4 hf.2
  have hi2 : ¬ ((half : Int) * 242 < (s.size : Int) + 2) := by omega
  go_enter Tryd.func10, Tryd.ntmps10
  go_upto_region 2 with (refine gate_ (.store 61 (.tmp 9) (.tmp 16)) rfl ?_; refine Aside0.out ?_)
  refine ⟨?_⟩
  refine H1.out.store_all 0 rfl rfl rfl 61 (.tmp 9) (.tmp 16) rfl #[.pointer (some ⟨d, 0, none⟩), .int .i64 at_, .int .i64 half] rfl rfl size_place rfl (by simp [Value.oneCell']) ?_
  intro w2 h2
  generalize W.heap.size = gp at *
  have H2 : Aside0 (HL w w2 (l1 ++ (d, T.dev) :: l2) (.box gp (.cells #[.pointer (some ⟨d, 0, none⟩), .int .i64 at_, .int .i64 half] 61 (0, 0)) :: rest)) := ⟨h2⟩
  clear h2 H1
  have HR := Aside0.mk (right_calls H2.out at_ half (show T.dev.size ≤ 5000 from hz5))
  rw [right_true h0 hf hz] at HR
  have c0 : w2.cell? ⟨gp, 0, none⟩ = some (.pointer (some ⟨d, 0, none⟩)) := H2.out.cell 0 rfl 0
  have c1 : w2.cell? ⟨gp, 1, none⟩ = some (.int .i64 at_) := H2.out.cell 0 rfl 1
  have c2 : w2.cell? ⟨gp, 2, none⟩ = some (.int .i64 half) := H2.out.cell 0 rfl 2
  go_upto_region 4 with (go_at_call 26; refine HR.out.mono ?_; rintro e w3 ⟨rfl, h3⟩; have H3 := Aside0.mk h3; clear h3)
  clear HR H2 c0 c1 c2 hne hi1 hi2 v3 v4
  have c0 : w3.cell? ⟨gp, 0, none⟩ = some (.pointer (some ⟨d, 0, none⟩)) := H3.out.cell 0 rfl 0
  have c1 : w3.cell? ⟨gp, 1, none⟩ = some (.int .i64 at_) := H3.out.cell 0 rfl 1
  have c2 : w3.cell? ⟨gp, 2, none⟩ = some (.int .i64 half) := H3.out.cell 0 rfl 2
  have HF := Aside0.mk (find_calls H3.out HA.out ho h0 hf hz (Nat.le_trans hl (by decide)) HT.out)
  rw [HGR.out] at HF
  go_upto_region 5 with (first
    | (go_at_call 27; refine HF.out.mono ?_; rintro e4 w4 ⟨rfl, h4⟩; have H4 := Aside0.mk h4; clear h4)
    | (refine gate_ (.store 63 (.tmp 10) (.tmp 40)) rfl ?_; refine Aside0.out ?_))
  refine ⟨?_⟩
  have h5 := H4.out.alloc (.cells #[.int .i64 0, .int .i64 0, .int .i64 0] 63)
  refine h5.store_all 0 rfl rfl rfl 63 (.tmp 10) (.tmp 40) rfl #[.int .i64 (T.fk at_ 2).1, .int .i64 (T.fk at_ 2).2, .int .i64 gr] rfl rfl size_found rfl (by simp [Value.oneCell']) ?_
  intro w6 h6
  clear h5 HF H3 c0 c1 c2
  generalize w4.heap.size = gf at *
  have H6 : Aside0 (HL w w6 (l1 ++ (d, T.dev) :: l2) (.box gf (.cells #[.int .i64 (T.fk at_ 2).1, .int .i64 (T.fk at_ 2).2, .int .i64 gr] 63 (0, 0)) :: .box gp (.cells #[.pointer (some ⟨d, 0, none⟩), .int .i64 at_, .int .i64 half] 61 (0, 0)) :: rest)) := ⟨h6⟩
  clear h6 H4
  have x2 : w6.cell? ⟨gf, 2, none⟩ = some (.int .i64 gr) := H6.out.cell 0 rfl 2
  have p0 : w6.cell? ⟨gp, 0, none⟩ = some (.pointer (some ⟨d, 0, none⟩)) := H6.out.cell 1 rfl 0
  have p1 : w6.cell? ⟨gp, 1, none⟩ = some (.int .i64 at_) := H6.out.cell 1 rfl 1
  have p2 : w6.cell? ⟨gp, 2, none⟩ = some (.int .i64 half) := H6.out.cell 1 rfl 2
  have H7 : Aside0 (HL w (w6.alloc (.cells #[.pointer (some ⟨d, 0, none⟩), .int .i64 at_, .int .i64 half, .int .i64 0, .int .i64 1, .int .i64 gr, .string ⟨#[]⟩, .int .i64 0, .int .i64 0, .int .i64 0, .bool true, .bool false] 67)) (l1 ++ (d, T.dev) :: l2) (LT w6.heap.size d L0 :: .box gf (.cells #[.int .i64 (T.fk at_ 2).1, .int .i64 (T.fk at_ 2).2, .int .i64 gr] 63 (0, 0)) :: .box gp (.cells #[.pointer (some ⟨d, 0, none⟩), .int .i64 at_, .int .i64 half] 61 (0, 0)) :: rest)) := ⟨by rw [HLT.out]; exact H6.out.alloc _⟩
  go_wp2_with (go_at_call 12; refine (HSW.out _ _ _ H7.out).mono ?_; rintro e8 w8 ⟨rfl, h8⟩; have H8 := Aside0.mk h8; clear h8)
  go_ret
  exact ⟨rfl, H8.out.drop1.drop1.drop1⟩
set_option maxHeartbeats 8000000 in
set_option maxRecDepth 100000 in
theorem format_bad (h : HL w W (l1 ++ (d, D) :: l2) rest) (at_ half : Int) (hz : D.size ≤ 5000) (s : ByteArray) (hs1 : s.size ≤ 16384) (hbad : rightB D.size at_ half = false ∨ s.size = 0 ∨ half * 242 < s.size + 2) :
    Calls Tryd.prog 10 #[.pointer (some ⟨d, 0, none⟩), .int .i64 at_, .int .i64 half, .string s] W fun ex W' => ex = .returned (.int .i64 1) ∧ HL w W' (l1 ++ (d, D) :: l2) rest := by
  have H1 := Aside0.mk (h.alloc (.cells #[.pointer none, .int .i64 0, .int .i64 0] 61))
  clear h
  go_enter Tryd.func10, Tryd.ntmps10
  go_upto_region 2 with (refine gate_ (.store 61 (.tmp 9) (.tmp 16)) rfl ?_; refine Aside0.out ?_)
  refine ⟨?_⟩
  refine H1.out.store_all 0 rfl rfl rfl 61 (.tmp 9) (.tmp 16) rfl #[.pointer (some ⟨d, 0, none⟩), .int .i64 at_, .int .i64 half] rfl rfl size_place rfl (by simp [Value.oneCell']) ?_
  intro w2 h2
  generalize W.heap.size = gp at *
  have H2 : Aside0 (HL w w2 (l1 ++ (d, D) :: l2) (.box gp (.cells #[.pointer (some ⟨d, 0, none⟩), .int .i64 at_, .int .i64 half] 61 (0, 0)) :: rest)) := ⟨h2⟩
  clear h2 H1
  have c0 : w2.cell? ⟨gp, 0, none⟩ = some (.pointer (some ⟨d, 0, none⟩)) := H2.out.cell 0 rfl 0
  have c1 : w2.cell? ⟨gp, 1, none⟩ = some (.int .i64 at_) := H2.out.cell 0 rfl 1
  have c2 : w2.cell? ⟨gp, 2, none⟩ = some (.int .i64 half) := H2.out.cell 0 rfl 2
  have HR := Aside0.mk (right_calls H2.out at_ half hz)
  cases hr : rightB D.size at_ half with
  | false =>
    rw [hr] at HR
    clear hbad
    go_wp2_with (go_at_call 26; refine HR.out.mono ?_; rintro e w3 ⟨rfl, h3⟩; have H3 := Aside0.mk h3; clear h3)
    go_ret
    exact ⟨rfl, H3.out.drop1⟩
  | true =>
    rw [hr] at HR hbad
    have hb2 := hbad.resolve_left (by simp)
    have hh : 1 ≤ half ∧ half ≤ 512 := by
      unfold rightB at hr
      simp only [Bool.and_eq_true, decide_eq_true_eq] at hr
      omega
    clear hbad hr
    by_cases h0 : s.size = 0
    · obtain rfl : s = ⟨#[]⟩ := b_ext (List.eq_nil_of_length_eq_zero (by rw [b_len]; exact h0))
      go_wp2_with (go_at_call 26; refine HR.out.mono ?_; rintro e w3 ⟨rfl, h3⟩; have H3 := Aside0.mk h3; clear h3)
      go_ret
      exact ⟨rfl, H3.out.drop1⟩
    · have hne := ne_nil_of h0
      have hi1 : ¬ ((16384 : Int) < (s.size : Int)) := by omega
      have v3 : wrap64 ((s.size : Int) + 2) = (s.size : Int) + 2 := sw_w3 hs1
      have v4 : wrap64 (half * 242) = half * 242 := by unfold wrap64; omega
      have hi2 : half * 242 < (s.size : Int) + 2 := hb2.resolve_left h0
      clear hb2 h0 hh
      go_wp2_with (go_at_call 26; refine HR.out.mono ?_; rintro e w3 ⟨rfl, h3⟩; have H3 := Aside0.mk h3; clear h3)
      go_ret
      exact ⟨rfl, H3.out.drop1⟩
set_option maxHeartbeats 8000000 in
set_option maxRecDepth 100000 in
theorem open_form (h : HL w W (l1 ++ (d, T.dev) :: l2) rest) {at_ G : Int} {half : Nat} (hA : T.All (Where at_ half G)) (ho : T.off = false) (h0 : 0 ≤ at_ ∧ at_ ≤ 5000) (hf : 1 ≤ half ∧ half ≤ 512) (hz : at_ + 2 + 2 * (half : Int) ≤ (T.size : Int)) (hz5 : T.size ≤ 5000) (hl : T.wait.length ≤ 1000000) (hT : Tab w) (hfk : (T.fk at_ 2).1 = 0) :
    Calls Tryd.prog 11 #[.pointer (some ⟨d, 0, none⟩), .int .i64 at_, .int .i64 half] W fun ex W' => ex = .returned (.tuple #[.pointer none, .slice none 0 0, .int .i64 2]) ∧ HL w W' (l1 ++ (d, T.dev) :: l2) rest := by
  have HT := Aside0.mk hT
  have HA := Aside0.mk hA
  clear hT hA
  have H1 := Aside0.mk (h.alloc (.cells #[.pointer none, .int .i64 0, .int .i64 0] 61))
  clear h
  go_enter Tryd.func11, Tryd.ntmps11
  go_upto_region 2 with (refine gate_ (.store 61 (.tmp 9) (.tmp 24)) rfl ?_; refine Aside0.out ?_)
  refine ⟨?_⟩
  refine H1.out.store_all 0 rfl rfl rfl 61 (.tmp 9) (.tmp 24) rfl #[.pointer (some ⟨d, 0, none⟩), .int .i64 at_, .int .i64 half] rfl rfl size_place rfl (by simp [Value.oneCell']) ?_
  intro w2 h2
  generalize W.heap.size = gp at *
  have H2 : Aside0 (HL w w2 (l1 ++ (d, T.dev) :: l2) (.box gp (.cells #[.pointer (some ⟨d, 0, none⟩), .int .i64 at_, .int .i64 half] 61 (0, 0)) :: rest)) := ⟨h2⟩
  clear h2 H1
  have c0 : w2.cell? ⟨gp, 0, none⟩ = some (.pointer (some ⟨d, 0, none⟩)) := H2.out.cell 0 rfl 0
  have c1 : w2.cell? ⟨gp, 1, none⟩ = some (.int .i64 at_) := H2.out.cell 0 rfl 1
  have c2 : w2.cell? ⟨gp, 2, none⟩ = some (.int .i64 half) := H2.out.cell 0 rfl 2
  have HR := Aside0.mk (right_calls H2.out at_ half (show T.dev.size ≤ 5000 from hz5))
  rw [right_true h0 hf hz] at HR
  go_upto_region 4 with (go_at_call 26; refine HR.out.mono ?_; rintro e w3 ⟨rfl, h3⟩; have H3 := Aside0.mk h3; clear h3)
  clear HR H2 c0 c1 c2
  have c0 : w3.cell? ⟨gp, 0, none⟩ = some (.pointer (some ⟨d, 0, none⟩)) := H3.out.cell 0 rfl 0
  have c1 : w3.cell? ⟨gp, 1, none⟩ = some (.int .i64 at_) := H3.out.cell 0 rfl 1
  have c2 : w3.cell? ⟨gp, 2, none⟩ = some (.int .i64 half) := H3.out.cell 0 rfl 2
  have HF := Aside0.mk (find_calls H3.out HA.out ho h0 hf hz hl HT.out)
  rw [hfk] at HF
  generalize (T.fk at_ 2).2 = wh at HF
  generalize T.gk at_ (2 * half) = gr at HF
  go_upto_block 0 with (first
    | (go_at_call 27; refine HF.out.mono ?_; rintro e4 w4 ⟨rfl, h4⟩; have H4 := Aside0.mk h4; clear h4)
    | (refine gate_ (.store 63 (.tmp 10) (.tmp 31)) rfl ?_; refine Aside0.out ?_))
  refine ⟨?_⟩
  have h5 := H4.out.alloc (.cells #[.int .i64 0, .int .i64 0, .int .i64 0] 63)
  refine h5.store_all 0 rfl rfl rfl 63 (.tmp 10) (.tmp 31) rfl #[.int .i64 0, .int .i64 wh, .int .i64 gr] rfl rfl size_found rfl (by simp [Value.oneCell']) ?_
  intro w6 h6
  clear h5 HF H3 c0 c1 c2
  generalize w4.heap.size = gf at *
  have H6 : Aside0 (HL w w6 (l1 ++ (d, T.dev) :: l2) (.box gf (.cells #[.int .i64 0, .int .i64 wh, .int .i64 gr] 63 (0, 0)) :: .box gp (.cells #[.pointer (some ⟨d, 0, none⟩), .int .i64 at_, .int .i64 half] 61 (0, 0)) :: rest)) := ⟨h6⟩
  clear h6 H4
  have c3 : w6.cell? ⟨gf, 0, none⟩ = some (.int .i64 0) := H6.out.cell 0 rfl 0
  go_wp2_with fail
  (try simp only [Exit.inBlock, Exit.then])
  refine bodyPost_ret (results_tmp3 rfl _ _ _) rfl ?_
  exact ⟨rfl, H6.out.drop1.drop1⟩
end Go.Proofs.YtegeaemkkbenfaaDoor.Ownd
