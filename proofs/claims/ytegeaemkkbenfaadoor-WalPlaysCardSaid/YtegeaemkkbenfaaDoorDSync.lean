/- (*Device).Sync, and Write and Sync of no device. Condition: at most 1000000 writes wait. -/
import Derived.Test.YtegeaemkkbenfaaDoorDWrite
namespace Go.Proofs.YtegeaemkkbenfaaDoor.Ownd
open Go.RowKit Go.Proofs.YtegeaemkkbenfaaDoorW.PrintWords Go.Proofs.YtegeaemkkbenfaaDoorW.PrintLast Go.Proofs.YtegeaemkkbenfaaDoorW.PrintMore
set_option linter.unusedVariables false
set_option linter.unusedSimpArgs false
variable {w W : World} {post : List Thing} {d : Nat} {D : Dev}
def syncF (l : List PW) (f : Int → Option ByteArray) : Int → Option ByteArray := l.foldl (fun f p => upd f p.1 p.2) f
theorem take_sync (f : Int → Option ByteArray) {l : List PW} {k : Nat} (h : k < l.length) : syncF (l.take (k + 1)) f = upd (syncF (l.take k) f) l[k].1 l[k].2 := by
  rw [List.take_succ_eq_append_getElem h]
  unfold syncF
  rw [List.foldl_append]
  rfl
def Dev.sync (D : Dev) : Int × Dev :=
  if D.off = true then (7, D) else if D.command.1 = true then (0, { D.command.2 with last := syncF D.command.2.wait D.command.2.last, wait := [] }) else (7, D.command.2)
set_option maxHeartbeats 2000000 in
set_option maxRecDepth 100000 in
theorem write_nil (i : Int) (s : ByteArray) : Calls Tryd.prog 37 #[.pointer none, .int .i64 i, .string s] W fun ex W' => ex = .returned (.int .i64 1) ∧ W' = W := by
  go_enter Tryd.func37, Tryd.ntmps37
  go_wp2
  go_ret
  exact ⟨rfl, rfl⟩
set_option maxHeartbeats 2000000 in
set_option maxRecDepth 100000 in
theorem sync_nil : Calls Tryd.prog 39 #[.pointer none] W fun ex W' => ex = .returned (.int .i64 1) ∧ W' = W := by
  go_enter Tryd.func39, Tryd.ntmps39
  go_wp2
  go_ret
  exact ⟨rfl, rfl⟩
set_option maxHeartbeats 8000000 in
set_option maxRecDepth 100000 in
theorem sync_D (h : HasD w W post d D) (hl : D.wait.length ≤ 1000000) : Calls Tryd.prog 39 #[.pointer (some ⟨d, 0, none⟩)] W fun ex W' => ex = .returned (.int .i64 D.sync.1) ∧ HasD w W' post d D.sync.2 := by
  have HD := Aside0.mk h
  obtain ⟨r, vw, vk, es, clk, hm, hO⟩ := h
  have c3 : W.cell? ⟨d, 3, none⟩ = some (.bool D.off) := hO.cell 0 rfl 3
  clear hO hm
  unfold Dev.sync
  cases hoff : D.off with
  | true =>
    rw [hoff] at c3
    rw [if_pos rfl]
    go_enter Tryd.func39, Tryd.ntmps39
    go_wp2
    go_ret
    exact ⟨rfl, HD.out⟩
  | false =>
    rw [hoff] at c3
    rw [if_neg (by simp)]
    have HC := Aside0.mk (cmd_D HD.out hl)
    have HW := Aside0.mk (D.command_wait)
    cases hc : D.command.1 with
    | false =>
      rw [if_neg (by simp)]
      rw [hc] at HC
      go_enter Tryd.func39, Tryd.ntmps39
      go_wp2_with (go_at_call 51; refine HC.out.mono ?_; rintro e w1 ⟨rfl, h5⟩; have H5 := Aside0.mk h5; clear h5)
      go_ret
      exact ⟨rfl, H5.out⟩
    | true =>
      rw [if_pos rfl]
      rw [hc] at HC
      replace HW := HW.out hc
      go_enter Tryd.func39, Tryd.ntmps39
      go_upto_region 6 with (go_at_call 51; refine HC.out.mono ?_; rintro e w1 ⟨rfl, h5⟩; have H5 := Aside0.mk h5; clear h5)
      clear HC HD c3
      have hl1 : D.command.2.wait.length ≤ 1000000 := by rw [HW]; exact hl
      clear HW
      generalize hD1 : D.command.2 = D1 at H5 hl1
      have HDE := Aside0.mk hD1
      clear hD1 hl hc
      obtain ⟨r, vw, vk, es, clk, hm, hO⟩ := H5.out
      obtain ⟨Aw, cw, rfl, -, -⟩ := hO.reads 2 rfl
      have c2 : w1.cell? ⟨d, 2, none⟩ = some (.slice Aw D1.wait.length cw) := hO.cell 0 rfl 2
      have HM := Aside0.mk hm
      have HO := Aside0.mk hO
      clear H5 hm hO
      go_upto_block 1 with fail
      go_cut [] (fun wx => Aside0 (∃ es clk, MapIs es (syncF D1.wait D1.last) ∧ Own w wx (DV d r (.slice Aw D1.wait.length cw) vk es clk { D1 with last := syncF D1.wait D1.last } ++ post)))
      case first =>
        clear c2
        go_wp2_with fail
        go_loopg [21] D1.wait.length (fun gg s11 wr => ∃ k : Nat, k ≤ D1.wait.length ∧ D1.wait.length - k ≤ gg ∧ s11 = .int .i64 k ∧ Aside0 (∃ es clk, MapIs es (syncF (D1.wait.take k) D1.last) ∧ Own w wr (DV d r (.slice Aw D1.wait.length cw) vk es clk { D1 with last := syncF (D1.wait.take k) D1.last } ++ post)))
        case atStart => exact ⟨0, Nat.zero_le _, Nat.le_refl _, rfl, ⟨es, clk, by rw [List.take_zero]; exact HM.out, by rw [List.take_zero]; exact HO.out⟩⟩
        case round =>
          clear HO HM
          obtain ⟨k, hk, hg, rfl, ⟨es1, clk1, hm1, hO1⟩⟩ := hrel
          by_cases hlt : k < D1.wait.length
          · have d1 := fdlt hlt
            have hw := fwr hlt hl1
            have hi1 := fltI hlt
            have hi0 := fgeI k
            obtain ⟨gw, cw', e, x0, x1⟩ := write_at hO1 2 rfl k hlt
            simp only [Value.slice.injEq] at e
            obtain ⟨rfl, -, -⟩ := e
            have HT := Aside0.mk (take_sync D1.last hlt)
            generalize (D1.wait[k]).1 = sec at x0 HT
            generalize (D1.wait[k]).2 = data at x1 HT
            have HO1 := Aside0.mk hO1
            have HM1 := Aside0.mk hm1
            clear hO1 hm1
            go_upto_region 9 with fail
            have HO2 := Aside0.mk (HO1.out.below (below_alloc (Below.refl _ _) (.cells #[.int .i64 sec, .string data] 94)))
            have y0 : (wr.alloc (.cells #[.int .i64 sec, .string data] 94)).cell? ⟨wr.heap.size, 0, none⟩ = some (.int .i64 sec) := (blk_cell (blk_new wr _) 0).trans rfl
            have y1 : (wr.alloc (.cells #[.int .i64 sec, .string data] 94)).cell? ⟨wr.heap.size, 1, none⟩ = some (.string data) := (blk_cell (blk_new wr _) 1).trans rfl
            clear HO1 x0 x1 hi1 hi0 d1
            generalize wr.alloc (.cells #[.int .i64 sec, .string data] 94) = wa at HO2 y0 y1 ⊢
            generalize wr.heap.size = bw at y0 y1 ⊢
            have c1 : wa.cell? ⟨d, 1, none⟩ = some (.map (some r)) := HO2.out.cell 0 rfl 1
            go_still_tail 8, (by kernel_rfl)
            change wpList _ _ _ _ _ wa.drew
            have HO3 := Aside0.mk (HO2.out.below (below_drew (Below.refl _ _)))
            clear HO2 c1 y0 y1
            generalize wa.drew = wd at HO3 ⊢
            obtain ⟨es2, clk2, hrun, hm2⟩ := HM1.out.put Tryd.underlying56 Tryd.underlying3 (HO3.out.box 1 rfl) sec data
            have HM2 := Aside0.mk hm2
            clear hm2
            go_wp2_with fail
            go_roundg (D1.wait.length - (k + 1))
            case measure => exact fmeas hlt hg
            case rel => exact ⟨k + 1, hlt, Nat.le_refl _, by first | rfl | rw [hw], ⟨es2, clk2, by rw [HT.out]; exact HM2.out, by rw [HT.out]; exact HO3.out.put 1 rfl (.map es2 clk2)⟩⟩
          · obtain rfl : k = D1.wait.length := Nat.le_antisymm hk (Nat.not_lt.mp hlt)
            have d1 := fdno hlt
            have HO1 := Aside0.mk hO1
            have HM1 := Aside0.mk hm1
            clear hO1 hm1
            rw [List.take_length] at HO1 HM1
            go_wp2
            go_meet
            case rel => exact ⟨⟨_, _, HM1.out, HO1.out⟩⟩
      case rest =>
        obtain ⟨es1, clk1, hm1, hO1⟩ := hcut.out
        have c2 : wc.cell? ⟨d, 2, none⟩ = some (.slice Aw D1.wait.length cw) := hO1.cell 0 rfl 2
        have f2 : wc.frozen? ⟨d, 2, none⟩ = false := hO1.frozen 0 rfl 2
        have h1 := hO1.store 0 rfl 2 (.slice none 0 0) (cs' := #[.int .i64 D1.size, .map (some r), .slice none 0 0, .bool D1.off, .int .i64 D1.fuse, vk, .int .i64 D1.cmds]) rfl
        have H4 := Aside0.mk (h1.nil 2 kW 94)
        have HM1 := Aside0.mk hm1
        clear h1 hO1 hm1 hcut HO HM
        go_wp2
        go_ret
        exact ⟨rfl, by rw [HDE.out]; exact ⟨r, .slice none 0 0, vk, es1, clk1, HM1.out, H4.out⟩⟩
end Go.Proofs.YtegeaemkkbenfaaDoor.Ownd
