/- A set that the call makes (a map of texts to true): a look-up, a store of a text that is not in it yet. No condition but that the map's type is one of texts to bools. -/
import Derived.MapKept
import Derived.StringKeys
import Derived.WideMake
import Derived.Below
namespace Go.Proofs.YtcpehlllgfffkaaDoor.Seen
open Go.RowKit
set_option linter.unusedVariables false
variable {P : Program} {w : World} {mt kt et : TypeId} {g : Nat} {l : List ByteArray}
/-- In the block g lies the set of the texts l. -/
def Seen (g : Nat) (l : List ByteArray) (w : World) : Prop := ∃ (es : Array MapEntry) (clock : Nat), w.heap[g]? = some (.map es clock) ∧ es.toList.map (fun x => (x.key, x.val)) = l.map fun s => (.string s, .bool true)
theorem seen_keys {es : Array MapEntry} (h : es.toList.map (fun x => (x.key, x.val)) = l.map fun s => (Value.string s, Value.bool true)) : ∀ x ∈ es.toList, ∃ s ∈ l, x.key = .string s ∧ x.val = .bool true := by
  intro x hx
  have hm : (x.key, x.val) ∈ es.toList.map (fun x => (x.key, x.val)) := List.mem_map_of_mem hx
  rw [h] at hm
  obtain ⟨s, hs, e⟩ := List.mem_map.mp hm
  exact ⟨s, hs, (congrArg Prod.fst e).symm, (congrArg Prod.snd e).symm⟩
theorem seen_isKey {es : Array MapEntry} (h : es.toList.map (fun x => (x.key, x.val)) = l.map fun s => (Value.string s, Value.bool true)) : ∀ x ∈ es.toList, MapKept.IsKey .string x.key := by
  intro x hx
  obtain ⟨s, _, e, _⟩ := seen_keys h x hx
  rw [e]
  trivial
theorem Seen.new (w : World) : Seen w.heap.size [] (w.alloc (.map #[] 0)) := ⟨#[], 0, by show (w.heap.push _)[w.heap.size]? = _; exact Array.getElem?_push_size, rfl⟩
theorem Seen.yes (hm : P.underlying mt = some (.map kt et)) (hk : P.underlying kt = some .string) (h : Seen g l w) (s : ByteArray) (hs : s ∈ l) : (Instr.lookup mt (.map (some g)) (.string s) false).run P w = .ok (.bool true) w := by
  obtain ⟨es, clock, hb, he⟩ := h
  have hc : ∀ em, (Instr.checkKey em 10000 kt (.string s)).run P w = .ok () w := fun em => MapKept.run_checkKey (k := .string s) hk (by simp [MapKept.IsKey]) em 9999
  rcases MapKept.findNow_spec (d := .string) (k := .string s) trivial es.toList 0 (seen_isKey he) with ⟨h1, h2⟩ | ⟨j, e0, h1, h2, h3⟩
  · exfalso
    have hmem : ((Value.string s, Value.bool true)) ∈ es.toList.map (fun x => (x.key, x.val)) := by rw [he]; exact List.mem_map.mpr ⟨s, hs, rfl⟩
    obtain ⟨x, hx, e⟩ := List.mem_map.mp hmem
    exact h2 x hx (congrArg Prod.fst e)
  · obtain ⟨_, _, _, hv⟩ := seen_keys he e0 (List.mem_of_getElem? h2)
    simp [Instr.lookup, run_underlying hm, MapKept.run_getObj_map hb, hc, MapKept.run_findKey hk h1, Result.andThen, hv]
theorem Seen.no (hm : P.underlying mt = some (.map kt et)) (hk : P.underlying kt = some .string) (hz : (zeroValue et).run P w = .ok (.bool false) w) (h : Seen g l w) (s : ByteArray) (hs : s ∉ l) : (Instr.lookup mt (.map (some g)) (.string s) false).run P w = .ok (.bool false) w := by
  obtain ⟨es, clock, hb, he⟩ := h
  have hc : ∀ em, (Instr.checkKey em 10000 kt (.string s)).run P w = .ok () w := fun em => MapKept.run_checkKey (k := .string s) hk (by simp [MapKept.IsKey]) em 9999
  rcases MapKept.findNow_spec (d := .string) (k := .string s) trivial es.toList 0 (seen_isKey he) with ⟨h1, h2⟩ | ⟨j, e0, h1, h2, h3⟩
  · simp [Instr.lookup, run_underlying hm, MapKept.run_getObj_map hb, hc, MapKept.run_findKey hk h1, Result.andThen, hz]
  · exfalso
    obtain ⟨s', hs', e, _⟩ := seen_keys he e0 (List.mem_of_getElem? h2)
    rw [h3] at e
    cases e
    exact hs hs'
theorem Seen.put (hm : P.underlying mt = some (.map kt et)) (hk : P.underlying kt = some .string) (h : Seen g l w) (s : ByteArray) (hs : s ∉ l) :
    ∃ w1, (Instr.mapUpdate mt (.map (some g)) (.string s) (.bool true)).run P w = .ok () w1 ∧ Seen g (l ++ [s]) w1 ∧ ∀ B, B ≤ g → Below B w w1 := by
  obtain ⟨es, clock, hb, he⟩ := h
  have hc : ∀ em, (Instr.checkKey em 10000 kt (.string s)).run P w = .ok () w := fun em => MapKept.run_checkKey (k := .string s) hk (by simp [MapKept.IsKey]) em 9999
  rcases MapKept.findNow_spec (d := .string) (k := .string s) trivial es.toList 0 (seen_isKey he) with ⟨h1, h2⟩ | ⟨j, e0, h1, h2, h3⟩
  · refine ⟨{ w with heap := w.heap.setIfInBounds g (.map (es.push { key := .string s, val := .bool true, born := clock }) (clock + 1)) }, ?_, ⟨_, _, (MapKept.heap_set hb).1, ?_⟩, fun B hB => ⟨rfl, rfl, rfl, by simp, fun k hk' => (MapKept.heap_set hb).2 k (by omega)⟩⟩
    · simp [Instr.mapUpdate, run_underlying hm, MapKept.run_getObj_map hb, hc, MapKept.run_findKey hk h1, MapKept.run_setObj_map _ hb, Result.andThen]
    · rw [Array.toList_push, List.map_append, List.map_append, he]
      rfl
  · exfalso
    obtain ⟨s', hs', e, _⟩ := seen_keys he e0 (List.mem_of_getElem? h2)
    rw [h3] at e
    cases e
    exact hs hs'
theorem Seen.below {w1 : World} (h : Seen g l w) (hb : Below w.heap.size w w1) : Seen g l w1 := by
  obtain ⟨es, clock, h1, h2⟩ := h
  exact ⟨es, clock, (hb.block g (Array.getElem?_eq_some_iff.1 h1).1).trans h1, h2⟩
end Go.Proofs.YtcpehlllgfffkaaDoor.Seen
