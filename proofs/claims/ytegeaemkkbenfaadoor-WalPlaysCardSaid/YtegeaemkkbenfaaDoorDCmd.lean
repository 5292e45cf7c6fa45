/- (*Device).command: may it be done? Condition: at most 1000000 writes wait. -/
import Derived.Test.YtegeaemkkbenfaaDoorDFail
namespace Go.Proofs.YtegeaemkkbenfaaDoor.Ownd
open Go.RowKit Go.Proofs.YtegeaemkkbenfaaDoorW.PrintWords Go.Proofs.YtegeaemkkbenfaaDoorW.PrintLast Go.Proofs.YtegeaemkkbenfaaDoorW.PrintMore
set_option linter.unusedVariables false
set_option linter.unusedSimpArgs false
variable {w W : World} {post : List Thing} {d : Nat} {D : Dev}
theorem own_same {a b : List Thing} (σ : Nat → Nat) (hσ : ∀ i it, b[i]? = some it → it = .gone ∨ ∃ j, a[j]? = some it ∧ σ j = i) (h : Own w W a) : Own w W b := by
  obtain ⟨hB, col, hc⟩ := h
  refine ⟨hB, fun k => σ (col k), fun i it hi => ?_⟩
  rcases hσ i it hi with rfl | ⟨j, hj, hji⟩
  · trivial
  · have hh := hc j it hj
    cases it with
    | box g o => exact ⟨hh.1, by show σ (col g) = i; rw [hh.2.1, hji], hh.2.2⟩
    | row d e v xs => exact Kd.N_mono hh (fun k h => ⟨h.1, fun hlt => by show σ (col k) = i; rw [h.2 hlt, hji]⟩)
    | gone => trivial
/-- A free place between two groups. -/
theorem Own.room {a c : List Thing} (h : Own w W (a ++ c)) : Own w W (a ++ (.gone :: c)) := by
  refine own_same (fun j => if j < a.length then j else j + 1) (fun i it hi => ?_) h
  by_cases h1 : i < a.length
  · rw [List.getElem?_append_left h1] at hi
    exact .inr ⟨i, by rw [List.getElem?_append_left h1]; exact hi, if_pos h1⟩
  · rw [List.getElem?_append_right (by omega)] at hi
    cases hk : i - a.length with
    | zero => rw [hk] at hi; simp at hi; exact .inl hi.symm
    | succ k =>
      rw [hk, List.getElem?_cons_succ] at hi
      refine .inr ⟨a.length + k, by rw [List.getElem?_append_right (by omega), show a.length + k - a.length = k by omega]; exact hi, ?_⟩
      show (if a.length + k < a.length then a.length + k else a.length + k + 1) = i
      rw [if_neg (by omega)]; omega
/-- The thing between two groups is forgotten. -/
theorem Own.shut {a c : List Thing} {x : Thing} (h : Own w W (a ++ (x :: c))) : Own w W (a ++ c) := by
  refine own_same (fun j => if j < a.length then j else j - 1) (fun i it hi => .inr ?_) h
  by_cases h1 : i < a.length
  · rw [List.getElem?_append_left h1] at hi
    exact ⟨i, by rw [List.getElem?_append_left h1]; exact hi, if_pos h1⟩
  · rw [List.getElem?_append_right (by omega)] at hi
    refine ⟨i + 1, by rw [List.getElem?_append_right (by omega), show i + 1 - a.length = i - a.length + 1 by omega, List.getElem?_cons_succ]; exact hi, ?_⟩
    show (if i + 1 < a.length then i + 1 else i + 1 - 1) = i
    rw [if_neg (by omega)]; omega
def Dev.command (D : Dev) : Bool × Dev := if D.fuse = 1 then (false, D.fail D.keep) else (true, { D with fuse := if 1 < D.fuse then wrap64 (D.fuse - 1) else D.fuse, cmds := wrap64 (D.cmds + 1) })
set_option maxHeartbeats 4000000 in
set_option maxRecDepth 100000 in
theorem cmd_D (h : HasD w W post d D) (hl : D.wait.length ≤ 1000000) : Calls Tryd.prog 51 #[.pointer (some ⟨d, 0, none⟩)] W fun ex W' => ex = .returned (.bool D.command.1) ∧ HasD w W' post d D.command.2 := by
  obtain ⟨r, vw, vk, es, clk, hm, hO⟩ := h
  obtain ⟨A, c, rfl, -, -⟩ := hO.reads 3 rfl
  have c4 : W.cell? ⟨d, 4, none⟩ = some (.int .i64 D.fuse) := hO.cell 0 rfl 4
  unfold Dev.command
  by_cases h1 : D.fuse = 1
  · have c5 : W.cell? ⟨d, 5, none⟩ = some (.slice A D.keep.length c) := hO.cell 0 rfl 5
    have HF := fail_O hO hm hl A c D.keep (KA.row hO (i := 1) (j := 3) rfl rfl (by decide)).2
    rw [h1] at c4
    rw [if_pos h1]
    clear hO hm
    go_enter Tryd.func51, Tryd.ntmps51
    go_wp2_with (go_at_call 41; refine HF.mono ?_; rintro e w1 ⟨rfl, h1⟩; have H1 := Aside0.mk h1; clear h1)
    go_ret
    exact ⟨rfl, H1.out⟩
  · rw [if_neg h1]
    have c6 : W.cell? ⟨d, 6, none⟩ = some (.int .i64 D.cmds) := hO.cell 0 rfl 6
    have f4 : W.frozen? ⟨d, 4, none⟩ = false := hO.frozen 0 rfl 4
    have f6 : W.frozen? ⟨d, 6, none⟩ = false := hO.frozen 0 rfl 6
    by_cases h2 : 1 < D.fuse
    · rw [if_pos h2]
      have h3 := hO.store 0 rfl 4 (.int .i64 (wrap64 (D.fuse - 1))) (cs' := #[.int .i64 D.size, .map (some r), vw, .bool D.off, .int .i64 (wrap64 (D.fuse - 1)), .slice A D.keep.length c, .int .i64 D.cmds]) rfl
      have h4 := h3.store 0 rfl 6 (.int .i64 (wrap64 (D.cmds + 1))) (cs' := #[.int .i64 D.size, .map (some r), vw, .bool D.off, .int .i64 (wrap64 (D.fuse - 1)), .slice A D.keep.length c, .int .i64 (wrap64 (D.cmds + 1))]) rfl
      have H4 := Aside0.mk h4
      have HM := Aside0.mk hm
      clear h3 h4 hO hm
      go_enter Tryd.func51, Tryd.ntmps51
      go_wp2
      go_ret
      exact ⟨rfl, r, vw, .slice A D.keep.length c, es, clk, HM.out, H4.out⟩
    · rw [if_neg h2]
      have h4 := hO.store 0 rfl 6 (.int .i64 (wrap64 (D.cmds + 1))) (cs' := #[.int .i64 D.size, .map (some r), vw, .bool D.off, .int .i64 D.fuse, .slice A D.keep.length c, .int .i64 (wrap64 (D.cmds + 1))]) rfl
      have H4 := Aside0.mk h4
      have HM := Aside0.mk hm
      clear h4 hO hm
      go_enter Tryd.func51, Tryd.ntmps51
      go_wp2
      go_ret
      exact ⟨rfl, r, vw, .slice A D.keep.length c, es, clk, HM.out, H4.out⟩
end Go.Proofs.YtegeaemkkbenfaaDoor.Ownd
