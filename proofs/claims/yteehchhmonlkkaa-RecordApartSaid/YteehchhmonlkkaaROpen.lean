/- A record's input opened: four numbers, a text, and the pages' rows of rows. Conditions: the types' underlying forms. -/
import Derived.Test.YteehchhmonlkkaaHOpen
import Derived.Test.YteehchhmonlkkaaGPx3
import Derived.OpenShut
import Derived.Deep.Strs
namespace Go.Proofs.Yteehchhmonlkkaa.Open
open Go.ChangeShapes Go.WideShapes Go.RowKit Go.Proofs.YteehchhmonlkkaaW.PrintWords Go.Proofs.Yteehchhmonlkkaa.GP
section
variable {H : Type} {enc : TypeId × Value → H} {w : World} {base : Nat} {spare : Nat → Bool} {held : Bool}
theorem opens_M : Opens enc Try.prog w base spare held k65 (fun _ => True) 65 := by
  intro n cs y h
  obtain ⟨x, k, _⟩ := opens_iso (f := fun x : S65 => (x.f0, x.f1)) (fun p => (⟨p.1, p.2⟩ : S65)) (fun _ => rfl) (opens_two Try.underlying65 rfl (by kernel_rfl) (by kernel_rfl) (opens_int Try.underlying3) (opens_string Try.underlying9)) n cs y h
  exact ⟨x, k, trivial⟩
instance : Inhabited S65 := ⟨⟨0, ByteArray.empty⟩⟩
instance : Inhabited S57 := ⟨⟨0, []⟩⟩
theorem opens_L : Opens enc Try.prog w base spare held k57 (fun _ => True) 57 := by
  intro n cs y h
  obtain ⟨x, k, _⟩ := opens_iso (f := fun x : S57 => (x.f0, x.f1)) (fun p => (⟨p.1, p.2⟩ : S57)) (fun _ => rfl) (opens_two Try.underlying57 rfl (by kernel_rfl) (by kernel_rfl) (opens_int Try.underlying3) (opens_slice (d := k65) Try.underlying55 (by kernel_rfl) opens_M)) n cs y h
  exact ⟨x, k, trivial⟩
theorem opens_one {n : Nat} {y : DataW H × List MemPlace} {x : Value} (h : DataW.trod enc Try.prog w base spare held n 3 [x] = some y) : ∃ a, x = .int .i64 a := by
  obtain ⟨a, e, _⟩ := DataW.trod_int Try.underlying3 h
  exact ⟨a, (List.cons.inj e).1⟩
set_option maxRecDepth 100000 in
theorem open_raw {v : Value} {d : DataW H} {p : List MemPlace} {r : Reach} {b : Nat} (hv : Value.okWide Try.prog w r b 25 v) (h : DataW.Trod enc Try.prog w base spare held 25 v d p) :
    ∃ (n0 n1 n2 n3 : Int) (u : ByteArray) (A : Option Addr) (c : Nat) (l : List S57), v = .agg #[.int .i64 n0, .int .i64 n1, .int .i64 n2, .int .i64 n3, .string u, .slice A l.length c] ∧ l.length ≤ c ∧ Kd.C k57 w A l.length l := by
  obtain ⟨cs, rfl, hl⟩ := okWide_struct Try.underlying25 hv
  obtain ⟨fuel, hf⟩ := h
  have hc : (Value.agg cs).cells.toList = cs.toList := by simp only [Value.cells]
  rw [hc] at hf
  obtain ⟨y0, y1, y2, m, _, hlen, g0, g1, g2⟩ := Go.Deep.trod_struct3 Try.underlying25 hf
  have c9 : Try.prog.cellsOf 9 = 1 := by kernel_rfl
  have c3 : Try.prog.cellsOf 3 = 1 := by kernel_rfl
  have cA : Try.prog.cellsOf 22 = 4 := by kernel_rfl
  have cL : Try.prog.cellsOf 23 = 1 := by kernel_rfl
  have cX : Try.prog.cellsOf 25 = 6 := by kernel_rfl
  rw [cX] at hlen
  match hq : cs.toList, hlen with
  | [x0, x1, x2, x3, x4, x5], _ =>
    rw [hq] at g0 g1 g2
    simp only [cA] at g0
    simp only [c9] at g1
    simp only [cL] at g2
    replace g0 : DataW.trod enc Try.prog w base spare held m 22 [x0, x1, x2, x3] = some y0 := g0
    replace g1 : DataW.trod enc Try.prog w base spare held m 9 [x4] = some y1 := g1
    replace g2 : DataW.trod enc Try.prog w base spare held m 23 [x5] = some y2 := g2
    obtain ⟨xs, m', _, _, _, hxl, hx⟩ := DataW.trod_array Try.underlying22 g0
    match xs, hxl with
    | [z0, z1, z2, z3], _ =>
      have e0 := hx 0 (by decide)
      have e1 := hx 1 (by decide)
      have e2 := hx 2 (by decide)
      have e3 := hx 3 (by decide)
      rw [c3] at e0 e1 e2 e3
      replace e0 : DataW.trod enc Try.prog w base spare held m' 3 [x0] = some z0 := e0
      replace e1 : DataW.trod enc Try.prog w base spare held m' 3 [x1] = some z1 := e1
      replace e2 : DataW.trod enc Try.prog w base spare held m' 3 [x2] = some z2 := e2
      replace e3 : DataW.trod enc Try.prog w base spare held m' 3 [x3] = some z3 := e3
      obtain ⟨n0, rfl⟩ := opens_one e0
      obtain ⟨n1, rfl⟩ := opens_one e1
      obtain ⟨n2, rfl⟩ := opens_one e2
      obtain ⟨n3, rfl⟩ := opens_one e3
      obtain ⟨u, eu, _⟩ := DataW.trod_string Try.underlying9 g1
      obtain rfl := (List.cons.inj eu).1
      obtain ⟨l, ⟨A, c, el, hlc, hC⟩, _⟩ := opens_slice (e' := 57) (d := k57) Try.underlying23 (by kernel_rfl) opens_L _ _ _ g2
      obtain rfl := (List.cons.inj el).1
      refine ⟨n0, n1, n2, n3, u, A, c, l, ?_, hlc, hC⟩
      have : cs = #[.int .i64 n0, .int .i64 n1, .int .i64 n2, .int .i64 n3, .string u, .slice A l.length c] := by
        apply Array.ext'
        rw [hq]
      rw [this]
end
end Go.Proofs.Yteehchhmonlkkaa.Open
