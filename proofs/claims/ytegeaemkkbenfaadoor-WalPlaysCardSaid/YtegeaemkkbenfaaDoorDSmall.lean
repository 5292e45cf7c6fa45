/- A device's small methods (Off, Size, Open, On) and what each answers of no device. Conditions: none. -/
import Derived.Test.YtegeaemkkbenfaaDoorDMap
import Derived.Test.YtegeaemkkbenfaaDoorDRep
namespace Go.Proofs.YtegeaemkkbenfaaDoor.Ownd
open Go.RowKit Go.Proofs.YtegeaemkkbenfaaDoorW.PrintWords Go.Proofs.YtegeaemkkbenfaaDoorW.PrintLast Go.Proofs.YtegeaemkkbenfaaDoorW.PrintMore
set_option linter.unusedVariables false
set_option linter.unusedSimpArgs false
variable {w W : World} {post : List Thing} {d : Nat} {D : Dev}
def Dev.on (D : Dev) : Dev := { D with off := false, fuse := 0, keep := [] }
set_option maxHeartbeats 2000000 in
set_option maxRecDepth 100000 in
theorem off_D (h : HasD w W post d D) : Calls Tryd.prog 24 #[.pointer (some ⟨d, 0, none⟩)] W fun ex W' => ex = .returned (.bool D.off) ∧ W' = W := by
  obtain ⟨r, vw, vk, es, clk, hm, hO⟩ := h
  have c3 : W.cell? ⟨d, 3, none⟩ = some (.bool D.off) := hO.cell 0 rfl 3
  clear hO hm
  go_enter Tryd.func24, Tryd.ntmps24
  go_wp2
  go_ret
  exact ⟨rfl, rfl⟩
set_option maxHeartbeats 2000000 in
set_option maxRecDepth 100000 in
theorem off_nil : Calls Tryd.prog 24 #[.pointer none] W fun ex W' => ex = .returned (.bool true) ∧ W' = W := by
  go_enter Tryd.func24, Tryd.ntmps24
  go_wp2
  go_ret
  exact ⟨rfl, rfl⟩
set_option maxHeartbeats 2000000 in
set_option maxRecDepth 100000 in
theorem size_D (h : HasD w W post d D) : Calls Tryd.prog 43 #[.pointer (some ⟨d, 0, none⟩)] W fun ex W' => ex = .returned (.int .i64 D.size) ∧ W' = W := by
  obtain ⟨r, vw, vk, es, clk, hm, hO⟩ := h
  have c0 : W.cell? ⟨d, 0, none⟩ = some (.int .i64 D.size) := hO.cell 0 rfl 0
  clear hO hm
  go_enter Tryd.func43, Tryd.ntmps43
  go_wp2
  go_ret
  exact ⟨rfl, rfl⟩
set_option maxHeartbeats 2000000 in
set_option maxRecDepth 100000 in
theorem size_nil : Calls Tryd.prog 43 #[.pointer none] W fun ex W' => ex = .returned (.int .i64 0) ∧ W' = W := by
  go_enter Tryd.func43, Tryd.ntmps43
  go_wp2
  go_ret
  exact ⟨rfl, rfl⟩
set_option maxHeartbeats 2000000 in
set_option maxRecDepth 100000 in
theorem on_D (h : HasD w W post d D) : Calls Tryd.prog 18 #[.pointer (some ⟨d, 0, none⟩)] W fun ex W' => ex = .returned (.tuple #[]) ∧ HasD w W' post d D.on := by
  obtain ⟨r, vw, vk, es, clk, hm, hO⟩ := h
  obtain ⟨A, c, rfl, -, -⟩ := hO.reads 3 rfl
  have c3 : W.cell? ⟨d, 3, none⟩ = some (.bool D.off) := hO.cell 0 rfl 3
  have c4 : W.cell? ⟨d, 4, none⟩ = some (.int .i64 D.fuse) := hO.cell 0 rfl 4
  have c5 : W.cell? ⟨d, 5, none⟩ = some (.slice A D.keep.length c) := hO.cell 0 rfl 5
  have f3 : W.frozen? ⟨d, 3, none⟩ = false := hO.frozen 0 rfl 3
  have f4 : W.frozen? ⟨d, 4, none⟩ = false := hO.frozen 0 rfl 4
  have f5 : W.frozen? ⟨d, 5, none⟩ = false := hO.frozen 0 rfl 5
  have h1 := hO.store 0 rfl 3 (.bool false) (cs' := #[.int .i64 D.size, .map (some r), vw, .bool false, .int .i64 D.fuse, .slice A D.keep.length c, .int .i64 D.cmds]) rfl
  have h2 := h1.store 0 rfl 4 (.int .i64 0) (cs' := #[.int .i64 D.size, .map (some r), vw, .bool false, .int .i64 0, .slice A D.keep.length c, .int .i64 D.cmds]) rfl
  have h3 := h2.store 0 rfl 5 (.slice none 0 0) (cs' := #[.int .i64 D.size, .map (some r), vw, .bool false, .int .i64 0, .slice none 0 0, .int .i64 D.cmds]) rfl
  have h4 := h3.nil 3 (Kd.int .i64) 3
  have H4 := Aside0.mk h4
  have HM := Aside0.mk hm
  clear h1 h2 h3 h4 hO hm
  go_enter Tryd.func18, Tryd.ntmps18
  go_wp2
  go_end0
  exact ⟨rfl, r, vw, .slice none 0 0, es, clk, HM.out, H4.out⟩
set_option maxHeartbeats 2000000 in
set_option maxRecDepth 100000 in
theorem on_nil : Calls Tryd.prog 18 #[.pointer none] W fun ex W' => ex = .returned (.tuple #[]) ∧ W' = W := by
  go_enter Tryd.func18, Tryd.ntmps18
  go_wp2
  go_end0
  exact ⟨rfl, rfl⟩
end Go.Proofs.YtegeaemkkbenfaaDoor.Ownd
