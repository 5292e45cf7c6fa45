/- A map from numbers to texts in a block of its own, told as a function; a device in memory as four things (its variable, its map, its row of writes, its row of keeps). Conditions: none. -/
import Derived.MapKept
import Derived.Test.YtegeaemkkbenfaaDoorOMem
namespace Go.Proofs.YtegeaemkkbenfaaDoor.Ownd
open Go.RowKit Go.Proofs.YtegeaemkkbenfaaDoorW.PrintWords Go.Proofs.YtegeaemkkbenfaaDoorW.PrintLast Go.Proofs.YtegeaemkkbenfaaDoorW.PrintMore
set_option linter.unusedVariables false
set_option linter.unusedSimpArgs false
abbrev PW := Int × ByteArray
abbrev kW : Kd PW := Kd.pair (Kd.int .i64) Kd.string
theorem kW_is {W : World} {p : PW} {cs : List Value} (h : kW.K W p cs) : cs = [.int .i64 p.1, .string p.2] := by
  obtain ⟨c1, c2, rfl, h1, h2⟩ := h
  have e1 : c1 = [.int .i64 p.1] := h1
  have e2 : c2 = [.string p.2] := h2
  rw [e1, e2]; rfl
theorem kW_mk (W : World) (p : PW) : kW.K W p [.int .i64 p.1, .string p.2] := ⟨[.int .i64 p.1], [.string p.2], rfl, rfl, rfl⟩
/-- The function f, at i the text s. -/
def upd (f : Int → Option ByteArray) (i : Int) (s : ByteArray) : Int → Option ByteArray := fun j => if j = i then some s else f j
/-- The entries es are the function f. -/
def MapIs (es : Array MapEntry) (f : Int → Option ByteArray) : Prop :=
  ∃ l : List PW, es.toList.map (fun x => (x.key, x.val)) = l.map (fun p => (Value.int .i64 p.1, Value.string p.2)) ∧ (l.map (·.1)).Nodup ∧ ∀ i s, f i = some s ↔ (i, s) ∈ l
theorem MapIs.nil : MapIs #[] (fun _ => none) := ⟨[], rfl, List.nodup_nil, fun i s => by simp⟩
section
variable {es : Array MapEntry} {l : List PW}
theorem ent_keys (h : es.toList.map (fun x => (x.key, x.val)) = l.map (fun p => (Value.int .i64 p.1, Value.string p.2))) : ∀ x ∈ es.toList, ∃ p ∈ l, x.key = .int .i64 p.1 ∧ x.val = .string p.2 := by
  intro x hx
  have hm : (x.key, x.val) ∈ es.toList.map (fun x => (x.key, x.val)) := List.mem_map_of_mem hx
  rw [h] at hm
  obtain ⟨p, hp, e⟩ := List.mem_map.mp hm
  exact ⟨p, hp, (congrArg Prod.fst e).symm, (congrArg Prod.snd e).symm⟩
theorem ent_isKey (h : es.toList.map (fun x => (x.key, x.val)) = l.map (fun p => (Value.int .i64 p.1, Value.string p.2))) : ∀ x ∈ es.toList, MapKept.IsKey (.int .i64) x.key := by
  intro x hx
  obtain ⟨p, _, e, _⟩ := ent_keys h x hx
  rw [e]; rfl
theorem ent_at (h : es.toList.map (fun x => (x.key, x.val)) = l.map (fun p => (Value.int .i64 p.1, Value.string p.2))) (j : Nat) (e : MapEntry) (he : es.toList[j]? = some e) : ∃ p, l[j]? = some p ∧ e.key = .int .i64 p.1 ∧ e.val = .string p.2 := by
  have h2 := congrArg (fun z => z[j]?) h
  simp only [List.getElem?_map, he, Option.map_some] at h2
  cases hl : l[j]? with
  | none => rw [hl] at h2; cases h2
  | some p =>
    rw [hl] at h2
    have h3 := Option.some.inj h2
    exact ⟨p, rfl, congrArg Prod.fst h3, congrArg Prod.snd h3⟩
end
section
variable {P : Program} {w : World} {mt kt et : TypeId} {g : Nat} {es : Array MapEntry} {clk : Nat} {f : Int → Option ByteArray}
theorem MapIs.look (hm : P.underlying mt = some (.map kt et)) (hk : P.underlying kt = some (.int .i64)) (hz : (zeroValue et).run P w = .ok (.string ⟨#[]⟩) w) (hb : w.heap[g]? = some (.map es clk)) (h : MapIs es f) (i : Int) :
    (Instr.lookup mt (.map (some g)) (.int .i64 i) true).run P w = .ok (.tuple #[.string ((f i).getD ⟨#[]⟩), .bool (f i).isSome]) w := by
  obtain ⟨l, he, hn, hf⟩ := h
  have hc : ∀ em, (Instr.checkKey em 10000 kt (.int .i64 i)).run P w = .ok () w := fun em => MapKept.run_checkKey (k := .int .i64 i) hk (by simp [MapKept.IsKey]) em 9999
  rcases MapKept.findNow_spec (d := .int .i64) (k := .int .i64 i) rfl es.toList 0 (ent_isKey he) with ⟨h1, h2⟩ | ⟨j, e0, h1, h2, h3⟩
  · have hno : f i = none := by
      cases hfi : f i with
      | none => rfl
      | some s =>
        exfalso
        have hmem : (Value.int .i64 i, Value.string s) ∈ es.toList.map (fun x => (x.key, x.val)) := by rw [he]; exact List.mem_map.mpr ⟨_, (hf i s).mp hfi, rfl⟩
        obtain ⟨x, hx, e⟩ := List.mem_map.mp hmem
        exact h2 x hx (congrArg Prod.fst e)
    simp [Instr.lookup, run_underlying hm, MapKept.run_getObj_map hb, hc, MapKept.run_findKey hk h1, Result.andThen, hz, hno]
  · obtain ⟨p, hp, hk0, hv⟩ := ent_at he j e0 h2
    rw [h3] at hk0
    have hi : p.1 = i := by injection hk0 with _ h; exact h.symm
    have hyes : f i = some p.2 := (hf i p.2).mpr (by rw [← hi]; exact List.mem_of_getElem? hp)
    simp [Instr.lookup, run_underlying hm, MapKept.run_getObj_map hb, hc, MapKept.run_findKey hk h1, Result.andThen, hv, hyes]
theorem MapIs.put (hm : P.underlying mt = some (.map kt et)) (hk : P.underlying kt = some (.int .i64)) (hb : w.heap[g]? = some (.map es clk)) (h : MapIs es f) (i : Int) (s : ByteArray) :
    ∃ es' clk', (Instr.mapUpdate mt (.map (some g)) (.int .i64 i) (.string s)).run P w = .ok () { w with heap := w.heap.setIfInBounds g (.map es' clk') } ∧ MapIs es' (upd f i s) := by
  obtain ⟨l, he, hn, hf⟩ := h
  have hc : ∀ em, (Instr.checkKey em 10000 kt (.int .i64 i)).run P w = .ok () w := fun em => MapKept.run_checkKey (k := .int .i64 i) hk (by simp [MapKept.IsKey]) em 9999
  rcases MapKept.findNow_spec (d := .int .i64) (k := .int .i64 i) rfl es.toList 0 (ent_isKey he) with ⟨h1, h2⟩ | ⟨j, e0, h1, h2, h3⟩
  · refine ⟨es.push { key := .int .i64 i, val := .string s, born := clk }, clk + 1, ?_, l ++ [(i, s)], ?_, ?_, ?_⟩
    · simp [Instr.mapUpdate, run_underlying hm, MapKept.run_getObj_map hb, hc, MapKept.run_findKey hk h1, MapKept.run_setObj_map _ hb, Result.andThen]
    · rw [Array.toList_push, List.map_append, List.map_append, he]; rfl
    · have hni : ∀ t, (i, t) ∉ l := fun t ht => by
        have hmem : (Value.int .i64 i, Value.string t) ∈ es.toList.map (fun x => (x.key, x.val)) := by rw [he]; exact List.mem_map.mpr ⟨_, ht, rfl⟩
        obtain ⟨x, hx, e⟩ := List.mem_map.mp hmem
        exact h2 x hx (congrArg Prod.fst e)
      rw [List.map_append]
      refine List.nodup_append.2 ⟨hn, by simp, ?_⟩
      intro a ha b hb
      simp only [List.map_cons, List.map_nil, List.mem_singleton] at hb
      subst hb
      obtain ⟨q, hq, rfl⟩ := List.mem_map.1 ha
      rintro rfl
      exact hni q.2 hq
    · have hni : ∀ t, (i, t) ∉ l := fun t ht => by
        have hmem : (Value.int .i64 i, Value.string t) ∈ es.toList.map (fun x => (x.key, x.val)) := by rw [he]; exact List.mem_map.mpr ⟨_, ht, rfl⟩
        obtain ⟨x, hx, e⟩ := List.mem_map.mp hmem
        exact h2 x hx (congrArg Prod.fst e)
      intro k t
      unfold upd
      rw [List.mem_append, List.mem_singleton]
      by_cases hki : k = i
      · subst hki
        rw [if_pos rfl]
        constructor
        · intro e; cases e; exact .inr rfl
        · rintro (h | h)
          · exact absurd h (hni t)
          · rw [(Prod.mk.inj h).2]
      · rw [if_neg hki, hf]
        constructor
        · exact .inl
        · rintro (h | h)
          · exact h
          · exact absurd (Prod.mk.inj h).1 hki
  · obtain ⟨p, hp, hk0, hv⟩ := ent_at he j e0 h2
    rw [h3] at hk0
    have hi : p.1 = i := by injection hk0 with _ h; exact h.symm
    have hj : es[j]? = some e0 := by simpa using h2
    refine ⟨es.modify j fun e => { e with key := .int .i64 i, val := .string s }, clk, ?_, l.set j (i, s), ?_, ?_, ?_⟩
    · simp [Instr.mapUpdate, run_underlying hm, MapKept.run_getObj_map hb, hc, MapKept.run_findKey hk h1, hj, h3, MapKept.run_keyThatStays (d := .int .i64) (k := .int .i64 i) rfl, MapKept.run_setObj_map _ hb, Result.andThen]
    · apply List.ext_getElem?
      intro k
      have h2 := congrArg (fun z => z[k]?) he
      simp only [List.getElem?_map] at h2 ⊢
      rw [Array.getElem?_toList, Array.getElem?_modify, List.getElem?_set]
      by_cases hjk : j = k
      · subst hjk
        rw [if_pos rfl, if_pos rfl, hj, if_pos (List.getElem?_eq_some_iff.1 hp).1]
        rfl
      · rw [if_neg hjk, if_neg hjk, ← Array.getElem?_toList]
        exact h2
    · have : (l.set j (i, s)).map (·.1) = l.map (·.1) := by
        rw [List.map_set]
        apply List.ext_getElem?
        intro k
        rw [List.getElem?_set]
        split
        · rename_i hjk
          subst hjk
          rw [if_pos (by rw [List.length_map]; exact (List.getElem?_eq_some_iff.1 hp).1), List.getElem?_map, hp, Option.map_some, hi]
        · rfl
      rw [this]; exact hn
    · have hinj : ∀ a b : Nat, ∀ x y, l[a]? = some x → l[b]? = some y → x.1 = y.1 → a = b := by
        intro a b x y ha hb hxy
        have ha' : (l.map (·.1))[a]? = some x.1 := by rw [List.getElem?_map, ha]; rfl
        have hb' : (l.map (·.1))[b]? = some x.1 := by rw [List.getElem?_map, hb, hxy]; rfl
        exact (List.getElem?_inj (List.getElem?_eq_some_iff.1 ha').1 hn).mp (ha'.trans hb'.symm)
      intro k t
      unfold upd
      by_cases hki : k = i
      · subst hki
        rw [if_pos rfl]
        constructor
        · intro e; cases e
          exact List.mem_iff_getElem?.mpr ⟨j, by rw [List.getElem?_set, if_pos rfl, if_pos (List.getElem?_eq_some_iff.1 hp).1]⟩
        · intro h
          obtain ⟨q, hq⟩ := List.mem_iff_getElem?.mp h
          rw [List.getElem?_set] at hq
          split at hq
          · rw [if_pos (List.getElem?_eq_some_iff.1 hp).1] at hq
            rw [(Prod.mk.inj (Option.some.inj hq)).2]
          · rename_i hjq
            exact absurd (hinj j q _ _ hp hq hi) hjq
      · rw [if_neg hki, hf]
        constructor
        · intro h
          obtain ⟨q, hq⟩ := List.mem_iff_getElem?.mp h
          refine List.mem_iff_getElem?.mpr ⟨q, ?_⟩
          rw [List.getElem?_set, if_neg]
          · exact hq
          · rintro rfl
            rw [hp] at hq
            exact hki ((congrArg Prod.fst (Option.some.inj hq)).symm.trans hi)
        · intro h
          obtain ⟨q, hq⟩ := List.mem_iff_getElem?.mp h
          rw [List.getElem?_set] at hq
          split at hq
          · rw [if_pos (List.getElem?_eq_some_iff.1 hp).1] at hq
            exact absurd (Prod.mk.inj (Option.some.inj hq)).1.symm hki
          · exact List.mem_iff_getElem?.mpr ⟨q, hq⟩
end
/-- The object in block g is another one. -/
theorem Own.put {w W : World} {l : List Thing} {g : Nat} {o : Obj} (h : Own w W l) (j : Nat) (hj : l[j]? = some (.box g o)) (o' : Obj) : Own w { W with heap := W.heap.setIfInBounds g o' } (l.set j (.box g o')) := by
  obtain ⟨hB, col, hc⟩ := h
  obtain ⟨h1, h2, h3⟩ := hc j _ hj
  have hs := MapKept.heap_set (o' := o') h1
  refine ⟨⟨hB.os, hB.tape, hB.output, by simpa using hB.size, fun k hk => (hs.2 k (by omega)).trans (hB.block k hk)⟩, col, fun x it hx => ?_⟩
  rcases set_get (lt_of_get hj) hx with ⟨rfl, rfl⟩ | ⟨hne, hx⟩
  · exact ⟨hs.1, h2, h3⟩
  · refine (hc x it hx).keep (fun k _ hk he => ⟨hs.2 k ?_, he⟩)
    rintro rfl
    exact hne (he.symm.trans h2)
/-- The things in another order: two groups ahead of the rest change places. -/
theorem Own.rot {w W : World} {a b c : List Thing} (h : Own w W (a ++ (b ++ c))) : Own w W (b ++ (a ++ c)) := by
  obtain ⟨hB, col, hc⟩ := h
  have hsame : ∀ (n0 : Nat) (c1 c2 : Nat → Nat) (i j : Nat) (it : Thing), (∀ k, c1 k = i → c2 k = j) → it.Holds n0 W c1 i → it.Holds n0 W c2 j := by
    intro n0 c1 c2 i j it hk hh
    cases it with
    | box g o => exact ⟨hh.1, hk g hh.2.1, hh.2.2⟩
    | row d e v xs => exact Kd.N_mono hh (fun k h => ⟨h.1, fun hlt => hk k (h.2 hlt)⟩)
    | gone => trivial
  let σ : Nat → Nat := fun i => if i < a.length then i + b.length else if i < a.length + b.length then i - a.length else i
  refine ⟨hB, fun k => σ (col k), fun i it hi => ?_⟩
  by_cases h1 : i < b.length
  · rw [List.getElem?_append_left h1] at hi
    refine hsame _ col _ (i + a.length) i it (fun k hk => ?_) (hc (i + a.length) it ?_)
    · show σ (col k) = i
      rw [hk]; simp only [σ]; rw [if_neg (by omega), if_pos (by omega)]; omega
    · rw [List.getElem?_append_right (by omega), List.getElem?_append_left (by omega), show i + a.length - a.length = i by omega]; exact hi
  · rw [List.getElem?_append_right (by omega)] at hi
    by_cases h2 : i - b.length < a.length
    · rw [List.getElem?_append_left h2] at hi
      refine hsame _ col _ (i - b.length) i it (fun k hk => ?_) (hc (i - b.length) it ?_)
      · show σ (col k) = i
        rw [hk]; simp only [σ]; rw [if_pos h2]; omega
      · rw [List.getElem?_append_left h2]; exact hi
    · rw [List.getElem?_append_right (by omega)] at hi
      refine hsame _ col _ i i it (fun k hk => ?_) (hc i it ?_)
      · show σ (col k) = i
        rw [hk]; simp only [σ]; rw [if_neg (by omega), if_neg (by omega)]
      · rw [List.getElem?_append_right (by omega), List.getElem?_append_right (by omega)]
        rw [show i - a.length - b.length = i - b.length - a.length by omega]; exact hi
/-- A device, plainly. -/
structure Dev where
  size : Nat
  last : Int → Option ByteArray
  wait : List PW
  off : Bool
  fuse : Int
  keep : List Int
  cmds : Int
/-- A device in memory. -/
def DV (d r : Nat) (vw vk : Value) (es : Array MapEntry) (clk : Nat) (D : Dev) : List Thing :=
  [.box d (.cells #[.int .i64 D.size, .map (some r), vw, .bool D.off, .int .i64 D.fuse, vk, .int .i64 D.cmds] 59 (0, 0)), .box r (.map es clk), .row kW 94 vw D.wait, .row (Kd.int .i64) 3 vk D.keep]
def HasD (w W : World) (post : List Thing) (d : Nat) (D : Dev) : Prop := ∃ r vw vk es clk, MapIs es D.last ∧ Own w W (DV d r vw vk es clk D ++ post)
theorem HasD.below {w W W1 : World} {post : List Thing} {d : Nat} {D : Dev} (h : HasD w W post d D) (hb : Below W.heap.size W W1) : HasD w W1 post d D := by
  obtain ⟨r, vw, vk, es, clk, hm, hO⟩ := h
  exact ⟨r, vw, vk, es, clk, hm, hO.below hb⟩
/-- Several devices, and further things. -/
structure Raw where
  d : Nat
  r : Nat
  vw : Value
  vk : Value
  es : Array MapEntry
  clk : Nat
  D : Dev
def Raw.things (x : Raw) : List Thing := DV x.d x.r x.vw x.vk x.es x.clk x.D
def HL (w W : World) (ds : List (Nat × Dev)) (rest : List Thing) : Prop :=
  ∃ rs : List Raw, (∀ x ∈ rs, MapIs x.es x.D.last) ∧ rs.map (fun x => (x.d, x.D)) = ds ∧ Own w W (rs.flatMap Raw.things ++ rest)
theorem HL.below {w W W1 : World} {ds : List (Nat × Dev)} {rest : List Thing} (h : HL w W ds rest) (hb : Below W.heap.size W W1) : HL w W1 ds rest := by
  obtain ⟨rs, h1, h2, hO⟩ := h
  exact ⟨rs, h1, h2, hO.below hb⟩
theorem HL.open {w W : World} {l1 l2 : List (Nat × Dev)} {d : Nat} {D : Dev} {rest : List Thing} (h : HL w W (l1 ++ (d, D) :: l2) rest) :
    ∃ post, HasD w W post d D ∧ ∀ W' D', HasD w W' post d D' → HL w W' (l1 ++ (d, D') :: l2) rest := by
  obtain ⟨rs, h1, h2, hO⟩ := h
  obtain ⟨r1, r', e, e1, e2⟩ := List.map_eq_append_iff.mp h2
  obtain ⟨x, r2, rfl, e3, e4⟩ := List.map_eq_cons_iff.mp e2
  subst e
  obtain ⟨rfl, rfl⟩ := Prod.mk.inj e3
  rw [List.flatMap_append, List.flatMap_cons, List.append_assoc, List.append_assoc] at hO
  refine ⟨r1.flatMap Raw.things ++ (r2.flatMap Raw.things ++ rest), ⟨x.r, x.vw, x.vk, x.es, x.clk, h1 x (by simp), hO.rot⟩, ?_⟩
  rintro W' D' ⟨r, vw, vk, es, clk, hm, hO'⟩
  refine ⟨r1 ++ (⟨x.d, r, vw, vk, es, clk, D'⟩ : Raw) :: r2, ?_, ?_, ?_⟩
  · intro y hy
    rcases List.mem_append.mp hy with hy | hy
    · exact h1 y (by simp [hy])
    · rcases List.mem_cons.mp hy with rfl | hy
      · exact hm
      · exact h1 y (by simp [hy])
  · rw [List.map_append, List.map_cons, e1, e4]
  · rw [List.flatMap_append, List.flatMap_cons, List.append_assoc, List.append_assoc]
    exact hO'.rot
theorem HL.lift {P : Program} {f : FuncId} {args : Array Value} {R : Ending → Prop} {w W : World} {l1 l2 : List (Nat × Dev)} {d : Nat} {D D' : Dev} {rest : List Thing} (h : HL w W (l1 ++ (d, D) :: l2) rest)
    (hc : ∀ post, HasD w W post d D → Calls P f args W fun ex W' => R ex ∧ HasD w W' post d D') : Calls P f args W fun ex W' => R ex ∧ HL w W' (l1 ++ (d, D') :: l2) rest := by
  obtain ⟨post, h1, h2⟩ := h.open
  exact (hc post h1).mono fun ex W' ⟨hr, hd⟩ => ⟨hr, h2 W' D' hd⟩
end Go.Proofs.YtegeaemkkbenfaaDoor.Ownd
