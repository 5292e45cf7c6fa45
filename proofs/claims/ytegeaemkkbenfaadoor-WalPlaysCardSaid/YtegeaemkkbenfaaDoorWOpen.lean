/- wal.Open. Conditions: as find's; the half's bytes hold a text. -/
import Derived.Test.YtegeaemkkbenfaaDoorWTexts
import Derived.Shelf.Strings.MapGrows
namespace Go.Proofs.YtegeaemkkbenfaaDoor.Ownd
open Go.Shelf Go.RowKit Go.Proofs.YtegeaemkkbenfaaDoorW.PrintWords Go.Proofs.YtegeaemkkbenfaaDoorW.PrintLast Go.Proofs.YtegeaemkkbenfaaDoorW.PrintMore
set_option linter.unusedVariables false
set_option linter.unusedSimpArgs false
variable {w W : World} {l1 l2 : List (Nat × Dev)} {rest : List Thing} {d : Nat} {T : TD} {D : Dev}
theorem size_place : (Tryd.prog.info? 61).map (·.size) = some 3 := by kernel_rfl
/-- What a half holds: its pieces' bytes, as far as they go on. -/
def TD.rd (T : TD) (at_ half e which : Int) : Nat → Nat → ByteArray
  | _, 0 => ⟨#[]⟩
  | i, r + 1 => match T.get (at_ + 2 + which * half + i) with
    | .p e' k s => if e' = e ∧ k = i then (if s.size < 242 then s else s ++ T.rd at_ half e which (i + 1) r) else ⟨#[]⟩
    | _ => ⟨#[]⟩
theorem read_below (h : HL w W (l1 ++ (d, D) :: l2) rest) (hl : D.wait.length ≤ 1000000) (i : Int) : Calls Tryd.prog 28 #[.pointer (some ⟨d, 0, none⟩), .int .i64 i] W fun ex W' => ex = .returned (.tuple #[.string (D.read i).1, .int .i64 (D.read i).2]) ∧ Below W.heap.size W W' := by
  obtain ⟨post, h1, _⟩ := h.open
  exact read_D h1 hl i
theorem op_len {a b s : Nat} (h : a ≤ b) (hb : b ≤ 1000000) (hs : s ≤ 242) : a + s ≤ 140737488355328 := by omega
theorem b_nil_app (s : ByteArray) : (⟨#[]⟩ : ByteArray) ++ s = s := by
  apply b_ext
  rw [b_append]
  rfl
theorem b_app_nil (s : ByteArray) : s ++ (⟨#[]⟩ : ByteArray) = s := by
  apply b_ext
  rw [b_append]
  exact List.append_nil _
theorem bld_string (b : Nat) (bs : ByteArray) (w : World) (h : Lib.IsBuilderF 70 5 b b (Lib.byteCells bs.data.toList) w) (hBw : b ≤ w.heap.size) : Calls Tryd.prog 33 #[.pointer (some ⟨b, 0, none⟩)] w fun e w' => e = .returned (.string bs) ∧ Below b w w' :=
  (Any.Builder_String_any_f Bld.laysStr Bld.extra b b bs.data.toList w h hBw).mono fun e w' ⟨he, _, hb⟩ => ⟨he, hb⟩
/-- A row that was made since is the call's own, too; in place of thing s. -/
theorem Own.add {α : Type} {w W W1 : World} {l : List Thing} (h : Own w W l) {d : Kd α} {e : Nat} {v : Value} {xs : List α} (h2 : Own W W1 [.row d e v xs]) (s : Nat) (hs : s < l.length) : Own w W1 (l.set s (.row d e v xs)) := by
  obtain ⟨hB2, col2, hc2⟩ := h2
  have hN : Kd.N d e W1 W.heap.size (okc W.heap.size W1 col2 0) v xs := hc2 0 _ rfl
  have h3 := (h.drop s).row_new s (by simp [hs]) hB2 hN (fun k hk => hk.1)
  rwa [List.set_set] at h3
theorem HL.add {w W W1 : World} {ds : List (Nat × Dev)} {rest : List Thing} (h : HL w W ds rest) {α : Type} {k : Kd α} {e : Nat} {v : Value} {xs : List α} (h2 : Own W W1 [.row k e v xs]) : HL w W1 ds (.row k e v xs :: rest) := by
  obtain ⟨rs, h1, h2', hO⟩ := h
  refine ⟨rs, h1, h2', ?_⟩
  have h3 := hO.room.add h2 (rs.flatMap Raw.things).length (by simp)
  rw [List.set_append_right _ _ (Nat.le_refl _), Nat.sub_self] at h3
  exact h3
theorem HL.dropAt {w W : World} {ds : List (Nat × Dev)} {a b x : Thing} {rest : List Thing} (h : HL w W ds (a :: b :: x :: rest)) : HL w W ds (a :: b :: rest) := by
  obtain ⟨rs, h1, h2, hO⟩ := h
  refine ⟨rs, h1, h2, ?_⟩
  have h3 : Own w W ((rs.flatMap Raw.things ++ [a, b]) ++ (x :: rest)) := by rw [List.append_assoc]; exact hO
  have h4 := h3.shut
  rw [List.append_assoc] at h4
  exact h4
def openR (v : Value) (e : Int) : Ending := .returned (.tuple #[v, .slice none 0 0, .int .i64 e])
set_option maxHeartbeats 8000000 in
set_option maxRecDepth 100000 in
theorem open_bad' (h : HL w W (l1 ++ (d, D) :: l2) rest) (at_ half : Int) (hz : D.size ≤ 5000) (hr : rightB D.size at_ half = false) :
    Calls Tryd.prog 11 #[.pointer (some ⟨d, 0, none⟩), .int .i64 at_, .int .i64 half] W fun ex W' => ex = .returned (.tuple #[.pointer none, .slice none 0 0, .int .i64 1]) ∧ HL w W' (l1 ++ (d, D) :: l2) rest := by
  have H1 := Aside0.mk (h.alloc (.cells #[.pointer none, .int .i64 0, .int .i64 0] 61))
  clear h
  go_enter Tryd.func11, Tryd.ntmps11
  go_upto_region 2 with (refine gate_ (.store 61 (.tmp 9) (.tmp 24)) rfl ?_; refine Aside0.out ?_)
  refine ⟨?_⟩
  refine H1.out.store_all 0 rfl rfl rfl 61 (.tmp 9) (.tmp 24) rfl #[.pointer (some ⟨d, 0, none⟩), .int .i64 at_, .int .i64 half] rfl rfl size_place rfl (by simp [Value.oneCell']) ?_
  intro w2 h2
  have H2 := Aside0.mk h2
  clear h2 H1
  have HR := Aside0.mk (right_calls H2.out at_ half hz)
  rw [hr] at HR
  generalize W.heap.size = gp at *
  have c0 : w2.cell? ⟨gp, 0, none⟩ = some (.pointer (some ⟨d, 0, none⟩)) := H2.out.cell 0 rfl 0
  have c1 : w2.cell? ⟨gp, 1, none⟩ = some (.int .i64 at_) := H2.out.cell 0 rfl 1
  have c2 : w2.cell? ⟨gp, 2, none⟩ = some (.int .i64 half) := H2.out.cell 0 rfl 2
  go_wp2_with (go_at_call 26; refine HR.out.mono ?_; rintro e w3 ⟨rfl, h3⟩; have H3 := Aside0.mk h3; clear h3)
  (try simp only [Exit.inBlock, Exit.then])
  refine bodyPost_ret (results_tmp3 rfl _ _ _) rfl ?_
  exact ⟨rfl, H3.out.drop1⟩
set_option maxHeartbeats 8000000 in
set_option maxRecDepth 100000 in
theorem open_calls (h : HL w W (l1 ++ (d, T.dev) :: l2) rest) {at_ G : Int} {half : Nat} (hA : T.All (Where at_ half G)) (ho : T.off = false) (h0 : 0 ≤ at_ ∧ at_ ≤ 5000) (hf : 1 ≤ half ∧ half ≤ 512) (hz : at_ + 2 + 2 * (half : Int) ≤ (T.size : Int)) (hz5 : T.size ≤ 5000) (hl : T.wait.length ≤ 1000000) (hT : Tab w)
    (e which : Int) (hfk : T.fk at_ 2 = (e, which)) (he : e ≠ 0) (hw : 0 ≤ which ∧ which ≤ 1) (bs : ByteArray) (hbs : T.rd at_ half e which 0 half = bs) (hbz : bs.size ≤ 1000000) (hne : textsB bs ≠ []) :
    Calls Tryd.prog 11 #[.pointer (some ⟨d, 0, none⟩), .int .i64 at_, .int .i64 half] W fun ex W' => ∃ g A c, ex = .returned (.tuple #[.pointer (some ⟨g, 0, none⟩), .slice A (textsB bs).length c, .int .i64 0]) ∧
      HL w W' (l1 ++ (d, T.dev) :: l2) (LT g d ⟨at_, half, e, which, T.gk at_ (2 * half), ⟨#[]⟩, 0, 0, 0, true, false⟩ :: .row Kd.string 9 (.slice A (textsB bs).length c) (textsB bs) :: rest) := by
  obtain ⟨gr, hgr⟩ : ∃ x, T.gk at_ (2 * half) = x := ⟨_, rfl⟩
  obtain ⟨tx, htx⟩ : ∃ x, textsB bs = x := ⟨_, rfl⟩
  rw [hgr]
  rw [htx] at hne ⊢
  have HGR := Aside0.mk hgr
  have HTE := Aside0.mk htx
  clear hgr htx
  have H1 := Aside0.mk (h.alloc (.cells #[.pointer none, .int .i64 0, .int .i64 0] 61))
  have HT := Aside0.mk hT
  have HA := Aside0.mk hA
  have HLW := Aside0.mk (lenD T hl)
  have HB := Aside0.mk hbs
  clear h hT hA hbs
  go_enter Tryd.func11, Tryd.ntmps11
  go_upto_region 2 with (refine gate_ (.store 61 (.tmp 9) (.tmp 24)) rfl ?_; refine Aside0.out ?_)
  refine ⟨?_⟩
  refine H1.out.store_all 0 rfl rfl rfl 61 (.tmp 9) (.tmp 24) rfl #[.pointer (some ⟨d, 0, none⟩), .int .i64 at_, .int .i64 half] rfl rfl size_place rfl (by simp [Value.oneCell']) ?_
  intro w2 h2
  have H2 := Aside0.mk h2
  clear h2 H1
  have HR := Aside0.mk (right_calls H2.out at_ half (show T.dev.size ≤ 5000 from hz5))
  rw [show rightB T.dev.size at_ half = true from by
    unfold rightB
    rw [decide_eq_true h0.1, decide_eq_true (show (1 : Int) ≤ half by omega), decide_eq_true (show (half : Int) ≤ 512 by omega), decide_eq_true (show at_ ≤ (T.dev.size : Int) - 2 - 2 * half by show at_ ≤ (T.size : Int) - 2 - 2 * half; omega)]
    rfl] at HR
  generalize W.heap.size = gp at *
  have c0 : w2.cell? ⟨gp, 0, none⟩ = some (.pointer (some ⟨d, 0, none⟩)) := H2.out.cell 0 rfl 0
  have c1 : w2.cell? ⟨gp, 1, none⟩ = some (.int .i64 at_) := H2.out.cell 0 rfl 1
  have c2 : w2.cell? ⟨gp, 2, none⟩ = some (.int .i64 half) := H2.out.cell 0 rfl 2
  go_upto_region 4 with (go_at_call 26; refine HR.out.mono ?_; rintro e w3 ⟨rfl, h3⟩; have H3 := Aside0.mk h3; clear h3)
  clear HR H2 c0 c1 c2
  have c0 : w3.cell? ⟨gp, 0, none⟩ = some (.pointer (some ⟨d, 0, none⟩)) := H3.out.cell 0 rfl 0
  have c1 : w3.cell? ⟨gp, 1, none⟩ = some (.int .i64 at_) := H3.out.cell 0 rfl 1
  have c2 : w3.cell? ⟨gp, 2, none⟩ = some (.int .i64 half) := H3.out.cell 0 rfl 2
  have HF := Aside0.mk (find_calls H3.out HA.out ho h0 hf hz hl HT.out)
  rw [hfk] at HF
  dsimp only at HF
  rw [HGR.out] at HF
  go_upto_block 0 with (first
    | (go_at_call 27; refine HF.out.mono ?_; rintro e4 w4 ⟨rfl, h4⟩; have H4 := Aside0.mk h4; clear h4)
    | (refine gate_ (.store 63 (.tmp 10) (.tmp 31)) rfl ?_; refine Aside0.out ?_))
  refine ⟨?_⟩
  have h5 := H4.out.alloc (.cells #[.int .i64 0, .int .i64 0, .int .i64 0] 63)
  refine h5.store_all 0 rfl rfl rfl 63 (.tmp 10) (.tmp 31) rfl #[.int .i64 e, .int .i64 which, .int .i64 gr] rfl rfl size_found rfl (by simp [Value.oneCell']) ?_
  intro w6 h6
  clear h5 HF H3 c0 c1 c2
  generalize w4.heap.size = gf at *
  have H6 : Aside0 (HL w w6 (l1 ++ (d, T.dev) :: l2) (.box gf (.cells #[.int .i64 e, .int .i64 which, .int .i64 gr] 63 (0, 0)) :: .box gp (.cells #[.pointer (some ⟨d, 0, none⟩), .int .i64 at_, .int .i64 half] 61 (0, 0)) :: rest)) := ⟨h6⟩
  clear h6 H4
  have c3 : w6.cell? ⟨gf, 0, none⟩ = some (.int .i64 e) := H6.out.cell 0 rfl 0
  have hee : (e == 0) = false := by simpa using he
  have hfresh : Lib.IsBuilderF 70 5 w6.heap.size w6.heap.size (Lib.byteCells (⟨#[]⟩ : ByteArray).data.toList) (w6.alloc (.cells #[.pointer none, .slice none 0 0] 70)) := .inl ⟨Nat.le_refl _, .slice none 0 0, heap_alloc_new _ _, World.ownsRowF_nil _ _ _ _, by simp [Value.ownBlock]⟩
  have HFR := Aside0.mk hfresh
  have hba : Below w6.heap.size w6 (w6.alloc (.cells #[.pointer none, .slice none 0 0] 70)) := below_alloc (Below.refl _ _) _
  have HBA := Aside0.mk hba
  clear hfresh hba
  go_upto_block 1 with fail
  clear c3 hee
  generalize hw7 : w6.alloc (.cells #[.pointer none, .slice none 0 0] 70) = w7 at HFR HBA ⊢
  clear hw7
  generalize hbb : w6.heap.size = b at HFR HBA ⊢
  have HBB := Aside0.mk hbb
  clear hbb
  go_cut [] (fun wx => Aside0 (Below b w6 wx ∧ Lib.IsBuilderF 70 5 b b (Lib.byteCells bs.data.toList) wx))
  case first =>
    go_wp2_with fail
    go_loopg [42] half (fun gg s42 wr => ∃ i : Nat, i ≤ half ∧ half - i ≤ gg ∧ s42 = .int .i64 i ∧ Aside0 (∃ acc : ByteArray, acc ++ T.rd at_ half e which i (half - i) = bs ∧ Below b w6 wr ∧ Lib.IsBuilderF 70 5 b b (Lib.byteCells acc.data.toList) wr))
    case atStart => exact ⟨0, Nat.zero_le _, Nat.le_refl _, rfl, ⟨⟨#[]⟩, by rw [b_nil_app]; exact HB.out, HBA.out, HFR.out⟩⟩
    case round =>
      clear HFR HBA
      obtain ⟨i, hi, hg, rfl, ⟨acc, hacc, hbw, hbd⟩⟩ := hrel
      have HBW := Aside0.mk hbw
      have HBD := Aside0.mk hbd
      have HAC := Aside0.mk hacc
      clear hbw hbd hacc
      have HO := Aside0.mk (H6.out.below (by rw [HBB.out]; exact HBW.out))
      by_cases hlt : i < half
      · have d1 := fdlt hlt
        have hwi := fwr hlt (Nat.le_trans hf.2 (by decide))
        obtain ⟨r, hr1, hr2⟩ := wb_r hlt
        rw [hr1] at HAC
        unfold TD.rd at HAC
        have hwq : 0 ≤ which * (half : Int) ∧ which * (half : Int) ≤ half := by
          rcases (show which = 0 ∨ which = 1 by omega) with rfl | rfl <;> omega
        have HSE := Aside0.mk (fun W' : World => sector_calls (W := W') (.pointer (some ⟨d, 0, none⟩)) at_ half which i h0 (by omega) hw (by omega) _ rfl)
        have hWh := HA.out.get (i := at_ + 2 + which * (half : Int) + i) Where.z
        have hcok := hWh.ok
        have hcp := hWh.isP (by omega)
        clear hWh
        have hdr := T.dev_read ho (show 0 ≤ at_ + 2 + which * (half : Int) + (i : Int) by omega) (show at_ + 2 + which * (half : Int) + (i : Int) < (T.size : Int) by omega)
        have HRD := Aside0.mk (fun (W' : World) (hb' : Below wr.heap.size wr W') => read_below (HO.out.below hb') HLW.out (at_ + 2 + which * (half : Int) + (i : Int)))
        rw [hdr] at HRD
        dsimp only at HRD
        have HRP := Aside0.mk (fun W' hT' => rp_calls (W := W') hcok hcp hT')
        generalize at_ + 2 + which * (half : Int) + (i : Int) = sx at HSE HRD HRP HAC hcp hcok
        obtain ⟨c, hc⟩ : ∃ c, T.get sx = c := ⟨_, rfl⟩
        rw [hc] at HRD HRP HAC hcp hcok
        clear hc hdr hwq
        have HBS : Aside0 (b ≤ wr.heap.size) := ⟨by rw [← HBB.out]; exact (show w6.heap.size ≤ wr.heap.size from (by rw [HBB.out]; exact HBW.out : Below w6.heap.size w6 wr).size)⟩
        have p0 : wr.cell? ⟨gp, 0, none⟩ = some (.pointer (some ⟨d, 0, none⟩)) := HO.out.cell 1 rfl 0
        have p1 : wr.cell? ⟨gp, 1, none⟩ = some (.int .i64 at_) := HO.out.cell 1 rfl 1
        have p2 : wr.cell? ⟨gp, 2, none⟩ = some (.int .i64 half) := HO.out.cell 1 rfl 2
        have q1 : wr.cell? ⟨gf, 1, none⟩ = some (.int .i64 which) := HO.out.cell 0 rfl 1
        cases c with
        | m e' h' => exact hcp.elim
        | z =>
          unfold Ct.rpV at HRP
          have HEQ : Aside0 (acc = bs) := ⟨by rw [← HAC.out]; exact (b_app_nil acc).symm⟩
          · go_wp2_with (first
              | (go_at_call 29; refine (HSE.out _).mono ?_; rintro e8 w8 ⟨rfl, h8⟩; have H8 := Aside0.mk h8; clear h8)
              | (go_at_call 28; refine (HRD.out _ H8.out).mono ?_; rintro e9 w9 ⟨rfl, h9⟩; have H9 := Aside0.mk (H8.out.trans (h9.mono H8.out.size)); clear h9 H8)
              | (go_at_call 30; refine (HRP.out _ (HT.out.below (HO.out.below H9.out).bel)).mono ?_; rintro e10 w10 ⟨rfl, h10⟩; have H10 := Aside0.mk (H9.out.trans (h10.mono H9.out.size)); clear h10 H9; have x0 : w10.cell? ⟨gf, 0, none⟩ = some (.int .i64 e) := (HO.out.below H10.out).cell 0 rfl 0))
            go_meet
            case rel => exact ⟨HBW.out.trans (H10.out.mono HBS.out), by rw [← HEQ.out]; exact HBD.out.below H10.out⟩
        | p e' k s =>
          unfold Ct.rpV at HRP
          dsimp only at HAC
          by_cases hek : e' = e ∧ k = i
          · obtain ⟨he1, rfl⟩ := hek
            obtain rfl := he1.symm
            rw [if_pos ⟨rfl, rfl⟩] at HAC
            have hs242 : s.size ≤ 242 := hcok.2.2.2.2
            have haz : acc.size ≤ bs.size := by rw [← HAC.out, ByteArray.size_append]; omega
            have HLN : Aside0 ((Lib.byteCells acc.data.toList).length + s.size ≤ 140737488355328) := ⟨by rw [Lib.byteCells_length, b_len]; exact op_len haz hbz hs242⟩
            clear haz hs242 hcok hcp
            by_cases hsz : s.size < 242
            · rw [if_pos hsz] at HAC
              have hsi : (s.size : Int) < 242 := by omega
              have HEQ : Aside0 (Lib.byteCells acc.data.toList ++ Lib.strCells s = Lib.byteCells bs.data.toList) := ⟨by rw [Lib.strCells_eq, ← Lib.byteCells_append, ← b_append, HAC.out]⟩
              clear hsz
              go_wp2_with (first
              | (go_at_call 29; refine (HSE.out _).mono ?_; rintro e8 w8 ⟨rfl, h8⟩; have H8 := Aside0.mk h8; clear h8)
              | (go_at_call 28; refine (HRD.out _ H8.out).mono ?_; rintro e9 w9 ⟨rfl, h9⟩; have H9 := Aside0.mk (H8.out.trans (h9.mono H8.out.size)); clear h9 H8)
              | (go_at_call 30; refine (HRP.out _ (HT.out.below (HO.out.below H9.out).bel)).mono ?_; rintro e10 w10 ⟨rfl, h10⟩; have H10 := Aside0.mk (H9.out.trans (h10.mono H9.out.size)); clear h10 H9; have x0 : w10.cell? ⟨gf, 0, none⟩ = some (.int .i64 e) := (HO.out.below H10.out).cell 0 rfl 0)
              | (go_at_call 31; refine (Bld.wstr_calls b b (Lib.byteCells acc.data.toList) s w10 (HBD.out.below H10.out) HLN.out (Nat.le_trans HBS.out H10.out.size)).mono ?_; rintro e11 w11 ⟨rfl, h11, h12⟩; have H11 := Aside0.mk (And.intro h11 h12); clear h11 h12))
              go_meet
              case rel => exact ⟨(HBW.out.trans (H10.out.mono HBS.out)).trans H11.out.2, .inr (by rw [← HEQ.out]; exact H11.out.1)⟩
            · rw [if_neg hsz] at HAC
              have hsi : ¬ ((s.size : Int) < 242) := by omega
              have HEQ : Aside0 (Lib.byteCells acc.data.toList ++ Lib.strCells s = Lib.byteCells (acc ++ s).data.toList) := ⟨by rw [Lib.strCells_eq, ← Lib.byteCells_append, ← b_append]⟩
              have HAC2 : Aside0 ((acc ++ s) ++ T.rd at_ half e which (i + 1) r = bs) := ⟨by rw [ByteArray.append_assoc]; exact HAC.out⟩
              clear hsz
              rw [← hr2] at HAC2
              go_wp2_with (first
              | (go_at_call 29; refine (HSE.out _).mono ?_; rintro e8 w8 ⟨rfl, h8⟩; have H8 := Aside0.mk h8; clear h8)
              | (go_at_call 28; refine (HRD.out _ H8.out).mono ?_; rintro e9 w9 ⟨rfl, h9⟩; have H9 := Aside0.mk (H8.out.trans (h9.mono H8.out.size)); clear h9 H8)
              | (go_at_call 30; refine (HRP.out _ (HT.out.below (HO.out.below H9.out).bel)).mono ?_; rintro e10 w10 ⟨rfl, h10⟩; have H10 := Aside0.mk (H9.out.trans (h10.mono H9.out.size)); clear h10 H9; have x0 : w10.cell? ⟨gf, 0, none⟩ = some (.int .i64 e) := (HO.out.below H10.out).cell 0 rfl 0)
              | (go_at_call 31; refine (Bld.wstr_calls b b (Lib.byteCells acc.data.toList) s w10 (HBD.out.below H10.out) HLN.out (Nat.le_trans HBS.out H10.out.size)).mono ?_; rintro e11 w11 ⟨rfl, h11, h12⟩; have H11 := Aside0.mk (And.intro h11 h12); clear h11 h12))
              go_roundg (half - (i + 1))
              case measure => exact fmeas hlt hg
              case rel => exact ⟨i + 1, hlt, Nat.le_refl _, by first | rfl | rw [hwi], ⟨acc ++ s, HAC2.out, (HBW.out.trans (H10.out.mono HBS.out)).trans H11.out.2, .inr (by rw [← HEQ.out]; exact H11.out.1)⟩⟩
          · rw [if_neg hek] at HAC
            have HEQ : Aside0 (acc = bs) := ⟨by rw [← HAC.out]; exact (b_app_nil acc).symm⟩
            by_cases hee : e' = e
            · obtain rfl := hee.symm
              have hki : (k == (i : Int)) = false := by rw [beq_eq_false_iff_ne]; exact fun hc => hek ⟨rfl, hc⟩
              go_wp2_with (first
                | (go_at_call 29; refine (HSE.out _).mono ?_; rintro e8 w8 ⟨rfl, h8⟩; have H8 := Aside0.mk h8; clear h8)
                | (go_at_call 28; refine (HRD.out _ H8.out).mono ?_; rintro e9 w9 ⟨rfl, h9⟩; have H9 := Aside0.mk (H8.out.trans (h9.mono H8.out.size)); clear h9 H8)
                | (go_at_call 30; refine (HRP.out _ (HT.out.below (HO.out.below H9.out).bel)).mono ?_; rintro e10 w10 ⟨rfl, h10⟩; have H10 := Aside0.mk (H9.out.trans (h10.mono H9.out.size)); clear h10 H9; have x0 : w10.cell? ⟨gf, 0, none⟩ = some (.int .i64 e) := (HO.out.below H10.out).cell 0 rfl 0))
              go_meet
              case rel => exact ⟨HBW.out.trans (H10.out.mono HBS.out), by rw [← HEQ.out]; exact HBD.out.below H10.out⟩
            · have hee2 : (e' == e) = false := by rw [beq_eq_false_iff_ne]; exact hee
              go_wp2_with (first
                | (go_at_call 29; refine (HSE.out _).mono ?_; rintro e8 w8 ⟨rfl, h8⟩; have H8 := Aside0.mk h8; clear h8)
                | (go_at_call 28; refine (HRD.out _ H8.out).mono ?_; rintro e9 w9 ⟨rfl, h9⟩; have H9 := Aside0.mk (H8.out.trans (h9.mono H8.out.size)); clear h9 H8)
                | (go_at_call 30; refine (HRP.out _ (HT.out.below (HO.out.below H9.out).bel)).mono ?_; rintro e10 w10 ⟨rfl, h10⟩; have H10 := Aside0.mk (H9.out.trans (h10.mono H9.out.size)); clear h10 H9; have x0 : w10.cell? ⟨gf, 0, none⟩ = some (.int .i64 e) := (HO.out.below H10.out).cell 0 rfl 0))
              go_meet
              case rel => exact ⟨HBW.out.trans (H10.out.mono HBS.out), by rw [← HEQ.out]; exact HBD.out.below H10.out⟩
      · obtain rfl : i = half := Nat.le_antisymm hi (Nat.not_lt.mp hlt)
        have d1 := fdno hlt
        rw [Nat.sub_self] at HAC
        have HEQ : Aside0 (acc = bs) := ⟨by rw [← HAC.out]; exact (b_app_nil acc).symm⟩
        go_wp2_with fail
        go_meet
        case rel => exact ⟨HBW.out, by rw [← HEQ.out]; exact HBD.out⟩
  case rest =>
    clear HFR HBA HB HLW HA
    have HO := Aside0.mk (H6.out.below (by rw [HBB.out]; exact hcut.out.1))
    have HST := Aside0.mk (bld_string b bs wc hcut.out.2 (show b ≤ wc.heap.size by rw [← HBB.out]; exact (by rw [HBB.out]; exact hcut.out.1 : Below w6.heap.size w6 wc).size))
    have HB0 := Aside0.mk hcut.out.1
    clear hcut
    have HTX := Aside0.mk (fun W' : World => texts_calls (W := W') bs hbz)
    have hln : (tx.length : Int) ≠ 0 := by
      intro hc
      exact hne (List.eq_nil_of_length_eq_zero (by omega))
    have hln2 : ((tx.length : Int) == 0) = false := by rw [beq_eq_false_iff_ne]; exact hln
    clear hne hln
    rw [HTE.out] at HTX
    go_upto_region 24 with (first
      | (go_at_call 33; refine HST.out.mono ?_; rintro e1 w8 ⟨rfl, h8⟩; have H8 := Aside0.mk (H6.out.below (by rw [HBB.out]; exact HB0.out.trans h8)); clear h8 HST)
      | (go_at_call 32; refine (HTX.out _).mono ?_; rintro e1 w9 ⟨A, c, rfl, h9⟩; have H9 := Aside0.mk (H8.out.add h9); clear h9 HTX H8))
    clear HO H6 HB0
    have x0 : w9.cell? ⟨gf, 0, none⟩ = some (.int .i64 e) := H9.out.cell 1 rfl 0
    have x1 : w9.cell? ⟨gf, 1, none⟩ = some (.int .i64 which) := H9.out.cell 1 rfl 1
    have x2 : w9.cell? ⟨gf, 2, none⟩ = some (.int .i64 gr) := H9.out.cell 1 rfl 2
    have p0 : w9.cell? ⟨gp, 0, none⟩ = some (.pointer (some ⟨d, 0, none⟩)) := H9.out.cell 2 rfl 0
    have p1 : w9.cell? ⟨gp, 1, none⟩ = some (.int .i64 at_) := H9.out.cell 2 rfl 1
    have p2 : w9.cell? ⟨gp, 2, none⟩ = some (.int .i64 half) := H9.out.cell 2 rfl 2
    go_wp2_with fail
    (try simp only [Exit.inBlock, Exit.then])
    refine bodyPost_ret (results_tmp3 rfl _ _ _) rfl ?_
    exact ⟨w9.heap.size, A, c, rfl, (H9.out.alloc (.cells #[.pointer (some ⟨d, 0, none⟩), .int .i64 at_, .int .i64 half, .int .i64 e, .int .i64 which, .int .i64 gr, .string ⟨#[]⟩, .int .i64 0, .int .i64 0, .int .i64 0, .bool true, .bool false] 67)).dropAt.dropAt⟩
end Go.Proofs.YtegeaemkkbenfaaDoor.Ownd
