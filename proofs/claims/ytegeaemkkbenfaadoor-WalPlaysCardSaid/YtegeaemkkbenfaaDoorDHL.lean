/- A device's methods, told over several devices that a call holds (HL). Conditions: at most 1000000 writes wait, at most 1000000 keeps. -/
import Derived.Test.YtegeaemkkbenfaaDoorDRead
namespace Go.Proofs.YtegeaemkkbenfaaDoor.Ownd
open Go.RowKit Go.Proofs.YtegeaemkkbenfaaDoorW.PrintWords Go.Proofs.YtegeaemkkbenfaaDoorW.PrintLast Go.Proofs.YtegeaemkkbenfaaDoorW.PrintMore
set_option linter.unusedVariables false
set_option linter.unusedSimpArgs false
variable {w W : World} {l1 l2 : List (Nat × Dev)} {rest : List Thing} {d : Nat} {D : Dev}
theorem HL.start (w : World) : HL w w [] [] := ⟨[], by simp, rfl, Own.start w 0⟩
theorem HL.start2 (h : Below w.heap.size w W) : HL w W [] [] := ⟨[], by simp, rfl, (Own.start w 0).below h⟩
theorem HL.bel {ds : List (Nat × Dev)} (h : HL w W ds rest) : Below w.heap.size w W := by
  obtain ⟨rs, _, _, hO⟩ := h
  exact hO.1
theorem new_HL (h : HL w W l1 rest) (n : Nat) (h1 : 1 ≤ n) (h2 : n ≤ 4096) :
    Calls Tryd.prog 9 #[.int .i64 n] W fun ex W' => ∃ d, ex = .returned (.tuple #[.pointer (some ⟨d, 0, none⟩), .int .i64 0]) ∧ HL w W' ((d, Dev.new n) :: l1) rest := by
  obtain ⟨rs, r1, r2, hO⟩ := h
  refine (new_O hO n h1 h2).mono ?_
  rintro ex W' ⟨d, rfl, r, vw, vk, es, clk, hm, hO'⟩
  refine ⟨d, rfl, (⟨d, r, vw, vk, es, clk, Dev.new n⟩ : Raw) :: rs, ?_, by rw [List.map_cons, r2], hO'⟩
  intro x hx
  rcases List.mem_cons.mp hx with rfl | hx
  · exact hm
  · exact r1 x hx
theorem off_HL (h : HL w W (l1 ++ (d, D) :: l2) rest) : Calls Tryd.prog 24 #[.pointer (some ⟨d, 0, none⟩)] W fun ex W' => ex = .returned (.bool D.off) ∧ W' = W := by
  obtain ⟨post, h1, _⟩ := h.open
  exact off_D h1
theorem size_HL (h : HL w W (l1 ++ (d, D) :: l2) rest) : Calls Tryd.prog 43 #[.pointer (some ⟨d, 0, none⟩)] W fun ex W' => ex = .returned (.int .i64 D.size) ∧ W' = W := by
  obtain ⟨post, h1, _⟩ := h.open
  exact size_D h1
theorem on_HL (h : HL w W (l1 ++ (d, D) :: l2) rest) : Calls Tryd.prog 18 #[.pointer (some ⟨d, 0, none⟩)] W fun ex W' => ex = .returned (.tuple #[]) ∧ HL w W' (l1 ++ (d, D.on) :: l2) rest :=
  h.lift (fun post hp => on_D hp)
theorem write_HL (h : HL w W (l1 ++ (d, D) :: l2) rest) (hl : D.wait.length ≤ 1000000) (i : Int) (s : ByteArray) : Calls Tryd.prog 37 #[.pointer (some ⟨d, 0, none⟩), .int .i64 i, .string s] W fun ex W' => ex = .returned (.int .i64 (D.write i s).1) ∧ HL w W' (l1 ++ (d, (D.write i s).2) :: l2) rest :=
  h.lift (fun post hp => write_D hp hl i s)
theorem sync_HL (h : HL w W (l1 ++ (d, D) :: l2) rest) (hl : D.wait.length ≤ 1000000) : Calls Tryd.prog 39 #[.pointer (some ⟨d, 0, none⟩)] W fun ex W' => ex = .returned (.int .i64 D.sync.1) ∧ HL w W' (l1 ++ (d, D.sync.2) :: l2) rest :=
  h.lift (fun post hp => sync_D hp hl)
theorem blow_HL (h : HL w W (l1 ++ (d, D) :: l2) rest) (hl : D.wait.length ≤ 1000000) (A : Option Addr) (c : Nat) (keep : List Int) (hK : Kd.C (Kd.int .i64) W A keep.length keep) :
    Calls Tryd.prog 17 #[.pointer (some ⟨d, 0, none⟩), .slice A keep.length c] W fun ex W' => ex = .returned (.tuple #[]) ∧ HL w W' (l1 ++ (d, D.blow keep) :: l2) rest :=
  h.lift (fun post hp => blow_D hp hl A c keep hK)
theorem fuse_HL (h : HL w W (l1 ++ (d, D) :: l2) rest) (n : Int) (A : Option Addr) (c : Nat) (keep : List Int) (hK : Kd.C (Kd.int .i64) W A keep.length keep) (hk : keep.length ≤ 1000000) (hnil : A = none → keep.length = 0) :
    Calls Tryd.prog 21 #[.pointer (some ⟨d, 0, none⟩), .int .i64 n, .slice A keep.length c] W fun ex W' => ex = .returned (.tuple #[]) ∧ HL w W' (l1 ++ (d, D.setFuse n keep) :: l2) rest :=
  h.lift (fun post hp => fuse_D hp n A c keep hK hk hnil)
theorem read_HL (h : HL w W (l1 ++ (d, D) :: l2) rest) (hl : D.wait.length ≤ 1000000) (i : Int) : Calls Tryd.prog 28 #[.pointer (some ⟨d, 0, none⟩), .int .i64 i] W fun ex W' => ex = .returned (.tuple #[.string (D.read i).1, .int .i64 (D.read i).2]) ∧ HL w W' (l1 ++ (d, D) :: l2) rest := by
  obtain ⟨post, h1, _⟩ := h.open
  exact (read_D h1 hl i).mono fun ex W' ⟨he, hb⟩ => ⟨he, h.below hb⟩
/-- Devices that are used no more are forgotten. -/
theorem HL.forget (h : HL w W (l1 ++ (d, D) :: l2) rest) : HL w W (l1 ++ l2) rest := by
  obtain ⟨rs, h1, h2, hO⟩ := h
  obtain ⟨r1, r', e, e1, e2⟩ := List.map_eq_append_iff.mp h2
  obtain ⟨x, r2, rfl, e3, e4⟩ := List.map_eq_cons_iff.mp e2
  subst e
  refine ⟨r1 ++ r2, ?_, by rw [List.map_append, e1, e4], ?_⟩
  · intro y hy
    rcases List.mem_append.mp hy with hy | hy
    · exact h1 y (by simp [hy])
    · exact h1 y (by simp [hy])
  · rw [List.flatMap_append, List.flatMap_cons, List.append_assoc, List.append_assoc] at hO
    rw [List.flatMap_append, List.append_assoc]
    exact ((((hO.shut : Own w W (r1.flatMap Raw.things ++ _)).shut : Own w W (r1.flatMap Raw.things ++ _)).shut : Own w W (r1.flatMap Raw.things ++ _)).shut : Own w W (r1.flatMap Raw.things ++ _))
end Go.Proofs.YtegeaemkkbenfaaDoor.Ownd
