/- Arguments opened into the print's kinds: a slice of whatever elements reads as a list. Namespace Open. Conditions: the types' underlying forms. -/
import Derived.Deep.Slices
import Derived.ChangeSame
import Derived.Test.YtchpagboglomoaaWWords
namespace Go.Proofs.Ytchpagboglomoaa.Open
open Go.ChangeShapes Go.WideShapes Go.RowKit Go.Proofs.YtchpagboglomoaaW.PrintWords
section
variable {H : Type} {enc : TypeId × Value → H} {P : Program} {w : World} {base : Nat} {spare : Nat → Bool} {held : Bool}
/-- What is read as a value of type t is one of the kind d, of which Q holds. -/
def Opens (enc : TypeId × Value → H) (P : Program) (w : World) (base : Nat) (spare : Nat → Bool) (held : Bool) {α : Type} (d : Kd α) (Q : α → Prop) (t : TypeId) : Prop :=
  ∀ (n : Nat) (cs : List Value) (y : DataW H × List MemPlace), DataW.trod enc P w base spare held n t cs = some y → ∃ x, d.K w x cs ∧ Q x
theorem opens_string {t : TypeId} (ht : P.underlying t = some .string) : Opens enc P w base spare held Kd.string (fun s => s.size ≤ maxLen) t := by
  intro n cs y h
  obtain ⟨s, rfl, _, hs⟩ := DataW.trod_string ht h
  exact ⟨s, rfl, hs⟩
theorem opens_int {t : TypeId} {k : IntKind} (ht : P.underlying t = some (.int k)) : Opens enc P w base spare held (Kd.int k) (fun n => (Lit.int k n).wf = true) t := by
  intro n cs y h
  obtain ⟨s, rfl, _, hs⟩ := DataW.trod_int ht h
  exact ⟨s, rfl, hs⟩
theorem opens_bool {t : TypeId} (ht : P.underlying t = some .bool) : Opens enc P w base spare held Kd.bool (fun _ => True) t := by
  intro n cs y h
  obtain ⟨s, rfl, _⟩ := DataW.trod_bool ht h
  exact ⟨s, rfl, trivial⟩
theorem opens_two {t : TypeId} {f0 f1 : Field} {α β : Type} {a : Kd α} {b : Kd β} {Q0 : α → Prop} {Q1 : β → Prop} (ht : P.underlying t = some (.struct #[f0, f1])) (ho : f0.offset = 0) (ho1 : f1.offset = P.cellsOf f0.type) (hs : P.cellsOf t = P.cellsOf f0.type + P.cellsOf f1.type)
    (h0 : Opens enc P w base spare held a Q0 f0.type) (h1 : Opens enc P w base spare held b Q1 f1.type) : Opens enc P w base spare held (Kd.pair a b) (fun x => Q0 x.1 ∧ Q1 x.2) t := by
  intro n cs y h
  obtain ⟨y0, y1, m, _, hl, g0, g1⟩ := trod_struct2 ht h
  obtain ⟨x0, k0, q0⟩ := h0 _ _ _ g0
  obtain ⟨x1, k1, q1⟩ := h1 _ _ _ g1
  refine ⟨(x0, x1), ⟨_, _, ?_, k0, k1⟩, q0, q1⟩
  have ht1 : (cs.drop (P.cellsOf f0.type)).take (P.cellsOf f1.type) = cs.drop (P.cellsOf f0.type) := List.take_of_length_le (by rw [List.length_drop]; omega)
  rw [ho, List.drop_zero, ho1, ht1, List.take_append_drop]
theorem opens_iso {t : TypeId} {α β : Type} {a : Kd α} {f : β → α} {Q : α → Prop} (g : α → β) (hg : ∀ x, f (g x) = x) (h : Opens enc P w base spare held a Q t) : Opens enc P w base spare held (Kd.iso a f) (fun x => Q (f x)) t := by
  intro n cs y hy
  obtain ⟨x, k, q⟩ := h _ _ _ hy
  refine ⟨g x, ?_, ?_⟩
  · show a.K w (f (g x)) cs
    rw [hg]; exact k
  · show Q (f (g x))
    rw [hg]; exact q
/-- A row of what can be read reads as a list. -/
theorem opens_row {α : Type} [Inhabited α] {d : Kd α} {Q : α → Prop} {t e : TypeId} (ht : P.underlying t = some (.slice e)) (hs : P.cellsOf e = d.sz) (hd : Opens enc P w base spare held d Q e) {n : Nat} {a : Option Addr} {len cap : Nat} {y : DataW H × List MemPlace}
    (h : DataW.trod enc P w base spare held n t [.slice a len cap] = some y) : ∃ xs : List α, xs.length = len ∧ len ≤ cap ∧ len ≤ maxLen ∧ d.C w a xs.length xs ∧ ∀ x ∈ xs, Q x := by
  rcases Deep.open_slice ht h with ⟨hc, _⟩ | ⟨ad, l, c, m, k, D, Pl, hc, hb, hl, hm, hmm, _, hx⟩
  · simp only [List.cons.injEq, Value.slice.injEq, and_true] at hc
    obtain ⟨rfl, rfl, rfl⟩ := hc
    exact ⟨[], rfl, Nat.le_refl _, Nat.zero_le _, Kd.C_nil d w, fun x hx => by simp at hx⟩
  · simp only [List.cons.injEq, Value.slice.injEq, and_true] at hc
    obtain ⟨rfl, rfl, rfl⟩ := hc
    have hle : len ≤ m := by rw [hmm]; split <;> omega
    obtain ⟨f, hf⟩ := Deep.choose_lt (n := len) (p := fun i (x : α) => ∃ cs, w.cells? base (ad.add (i * P.cellsOf e)) (P.cellsOf e) = some cs ∧ d.K w x cs ∧ Q x) (fun i hi => by
      obtain ⟨cs, h1, h2⟩ := hx i (by omega)
      obtain ⟨x, k1, q1⟩ := hd _ _ _ h2
      exact ⟨x, cs, h1, k1, q1⟩)
    refine ⟨(List.range len).map f, by simp, hl, by omega, ⟨rfl, ?_, fun hp => ⟨ad, rfl, ?_⟩⟩, ?_⟩
    · have h9 : maxLen ≤ 9223372036854775807 := by decide
      simp only [List.length_map, List.length_range]; omega
    · intro j p hj
      have hj' : j < len := by
        have := (List.getElem?_eq_some_iff.1 hj).1
        simpa using this
      obtain ⟨cs, h1, h2, _⟩ := hf j hj'
      have hp' : p = f j := by
        rw [List.getElem?_map, List.getElem?_range hj', Option.map_some] at hj
        exact (Option.some.inj hj).symm
      subst hp'
      obtain ⟨_, hlen, hcell⟩ := World.cells?_some h1
      refine ⟨cs, by rw [hlen, hs], h2, fun i u hu => ?_⟩
      have hi : i < cs.length := (List.getElem?_eq_some_iff.1 hu).1
      have := hcell i (by omega)
      rw [Deep.add_add, hu, hs] at this
      exact this
    · intro x hx'
      obtain ⟨i, hi, rfl⟩ := List.mem_map.1 hx'
      obtain ⟨cs, _, _, q⟩ := hf i (List.mem_range.1 hi)
      exact q
theorem opens_slice {α : Type} [Inhabited α] {d : Kd α} {Q : α → Prop} {t e : TypeId} {e' : Nat} (ht : P.underlying t = some (.slice e)) (hs : P.cellsOf e = d.sz) (hd : Opens enc P w base spare held d Q e) : Opens enc P w base spare held (Kd.slice e' d) (fun xs => xs.length ≤ maxLen ∧ ∀ x ∈ xs, Q x) t := by
  intro n cs y h
  have hsl : ∃ a len cap, cs = [.slice a len cap] := by
    rcases Deep.open_slice ht h with ⟨hc, _⟩ | ⟨ad, l, c, m, k, D, Pl, hc, _⟩
    · exact ⟨_, _, _, hc⟩
    · exact ⟨_, _, _, hc⟩
  obtain ⟨a, len, cap, rfl⟩ := hsl
  obtain ⟨xs, h1, h2, h3, h4, h5⟩ := opens_row ht hs hd h
  exact ⟨xs, ⟨a, cap, by rw [h1], by omega, h4⟩, by omega, h5⟩
end
end Go.Proofs.Ytchpagboglomoaa.Open
