/- (*Device).Copy and maps.Clone. Conditions: at most 1000000 writes wait, at most 1000000 keeps. -/
import Derived.Test.YtegeaemkkbenfaaDoorDMore
import Derived.Shelf.SlMaps.Clone
namespace Go.Proofs.YtegeaemkkbenfaaDoor.Ownd
open Go.RowKit Go.Proofs.YtegeaemkkbenfaaDoorW.PrintWords Go.Proofs.YtegeaemkkbenfaaDoorW.PrintLast Go.Proofs.YtegeaemkkbenfaaDoorW.PrintMore
set_option linter.unusedVariables false
set_option linter.unusedSimpArgs false
variable {w W : World} {post : List Thing} {d : Nat} {D : Dev}
def cp_T : Bool × List (List Nat × List Nat) := (true, [([], []), ([0], [0]), ([1], [1]), ([2], [2]), ([3], [3]), ([], []), ([5], [5]), ([6], [6]), ([7], [7]), ([8, 4], [8]), ([], []), ([10], [10]), ([11], [11]), ([12], [12]), ([13, 9], [13]), ([0, 1, 2, 3, 4, 8, 9, 13, 14], []), ([15, 4, 14, 0, 1, 2, 3, 4, 8, 9, 13, 14], [4, 15]), ([0, 1, 2, 3, 4, 5, 6, 7, 8, 9, 13, 14, 15, 16], []), ([17, 9, 16, 0, 1, 2, 3, 4, 5, 6, 7, 8, 9, 13, 14, 15, 16], [9, 17]), ([0, 1, 2, 3, 4, 5, 6, 7, 8, 9, 10, 11, 12, 13, 14, 15, 16, 17, 18], []), ([19, 14, 18, 0, 1, 2, 3, 4, 5, 6, 7, 8, 9, 10, 11, 12, 13, 14, 15, 16, 17, 18], [14, 19])])
def cp_B : List Nat := [0, 1, 3, 7, 15, 0, 32, 96, 224, 511, 0, 1024, 3072, 7168, 16383, 32767, 65535, 131071, 262143, 524287, 1048575]
theorem cp_bits : waitsOk cp_T.2 cp_B = true := by kernel_rfl
theorem wlen' {l : List PW} (h : l.length ≤ 1000000) : l.length * 24 ≤ 140737488355328 := by omega
theorem ilen' {l : List Int} (h : l.length ≤ 1000000) : l.length * 8 ≤ 140737488355328 := by omega
theorem row_reads {α : Type} {l : List Thing} {k : Kd α} {e n c : Nat} {A : Option Addr} {xs : List α} (h : Own w W l) (j : Nat) (hj : l[j]? = some (.row k e (.slice A n c) xs)) : k.C W A n xs ∧ (A = none → n = 0) := by
  obtain ⟨A', c', e1, _, hC⟩ := h.reads j hj
  simp only [Value.slice.injEq] at e1
  obtain ⟨rfl, rfl, rfl⟩ := e1
  refine ⟨hC, fun hA => ?_⟩
  obtain ⟨ok, hN⟩ := h.N j hj
  rcases N_nonnil hN with ⟨_, h2⟩ | ⟨g, c', h', _⟩
  · rw [h2]; rfl
  · subst hA; cases h'
/-- Two devices alike, one behind the other. -/
def HasD2 (w W : World) (post : List Thing) (d g : Nat) (D D' : Dev) : Prop := ∃ r vw vk es clk r2 vw2 vk2 es2 clk2, MapIs es D.last ∧ MapIs es2 D'.last ∧ Own w W (DV d r vw vk es clk D ++ (DV g r2 vw2 vk2 es2 clk2 D' ++ post))
end Go.Proofs.YtegeaemkkbenfaaDoor.Ownd
