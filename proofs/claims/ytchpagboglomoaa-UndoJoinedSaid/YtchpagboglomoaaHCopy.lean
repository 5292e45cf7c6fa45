/- A string's bytes laid over a row of bytes: the builtin copy with a string as its source; what a row of bytes holds. No program in sight. -/
import Derived.Laws.CopyOwn
import Derived.Lib.AppendStr
import Derived.Lib.ConvBytes
import Derived.Laws.IdiomCopy
import Derived.WalkKit
namespace Go.Proofs.Ytchpagboglomoaa.Copy
open Go.RowKit
set_option linter.unusedVariables false
set_option linter.unusedSimpArgs false

/-- The cells of block g hold the bytes L, and may be written. -/
def BytesAt (w : World) (g : Nat) (L : List UInt8) : Prop :=
  ∀ j, j < L.length → w.cell? ⟨g, j, none⟩ = some (.int .u8 (L.getD j 0).toNat) ∧ w.frozen? ⟨g, j, none⟩ = false

theorem bytesAt_block {w w1 : World} {g : Nat} {L : List UInt8} (h : BytesAt w g L) (he : w1.heap[g]? = w.heap[g]?) : BytesAt w1 g L := by
  intro j hj
  obtain ⟨h1, h2⟩ := h j hj
  exact ⟨by rw [← h1]; simp only [World.cell?, he], by rw [← h2]; simp only [World.frozen?, he]⟩

theorem bytesAt_new (w : World) (e : TypeId) (s : ByteArray) : BytesAt (Lib.bytesWorld w e s) w.heap.size s.data.toList := by
  intro j hj
  have hj' : j < s.size := by simpa using hj
  refine ⟨Lib.bytesWorld_cell w e s j hj', ?_⟩
  have h := Lib.bytesWorld_at_new w e s
  have hc : s.size ≤ (Lib.bytesCells w e s).size := by
    have h0 : s.data.size = s.size := rfl
    simp only [Lib.bytesCells, Array.size_append, Array.size_map, Array.size_replicate, h0]; omega
  simp only [World.frozen?, h]
  simp
  omega

theorem strCells_get (s : ByteArray) (j : Nat) (hj : j < s.size) : (Lib.strCells s)[j]? = some (.int .u8 (s.data.toList.getD j 0).toNat) := by
  have hj' : j < s.data.toList.length := by simpa using hj
  simp only [Lib.strCells, List.getElem?_map, List.getD_eq_getElem?_getD, List.getElem?_eq_getElem hj']
  rfl

theorem splice_getD (L : List UInt8) (off : Nat) (cs : List UInt8) (k : Nat) (hfit : off + cs.length ≤ L.length) :
    (splice L off cs).getD k 0 = if k < off then L.getD k 0 else if k < off + cs.length then cs.getD (k - off) 0 else L.getD k 0 := by
  simp only [splice, List.getD_eq_getElem?_getD, List.getElem?_append, List.length_take, List.getElem?_take, List.getElem?_drop]
  rw [Nat.min_eq_left (by omega)]
  by_cases c1 : k < off
  · simp [c1]
  · by_cases c2 : k < off + cs.length
    · rw [if_neg c1, if_pos (by omega), if_neg c1, if_pos c2]
    · rw [if_neg c1, if_neg (by omega), if_neg c1, if_neg c2, show off + cs.length + (k - off - cs.length) = k by omega]

theorem bytesAt_set {w : World} {g off : Nat} {L : List UInt8} (s : ByteArray) (h : BytesAt w g L) (hfit : off + s.size ≤ L.length) :
    BytesAt (w.setCells g off (Lib.strCells s)) g (splice L off s.data.toList) := by
  have hs : s.data.toList.length = s.size := by simp
  have hl : (splice L off s.data.toList).length = L.length := length_splice _ _ _ (by rw [hs]; exact hfit)
  intro j hj
  rw [hl] at hj
  obtain ⟨h1, h2⟩ := h j hj
  refine ⟨?_, by rw [World.frozen?_setCells]; exact h2⟩
  have hg := splice_getD L off s.data.toList j (by rw [hs]; exact hfit)
  rw [hs] at hg
  rw [hg]
  have hlen := Lib.strCells_length s
  by_cases c1 : j < off
  · rw [if_pos c1, World.cell?_setCells_out _ _ _ _ _ (fun _ _ => Or.inl c1)]; exact h1
  · rw [if_neg c1]
    by_cases c2 : j < off + s.size
    · rw [if_pos c2]
      have hin := World.cell?_setCells_in g (Lib.strCells s) off w (fun i hi => by rw [hlen] at hi; rw [(h (off + i) (by omega)).1]; rfl) (j - off) (by omega)
      rw [show off + (j - off) = j by omega] at hin
      rw [hin]
      have hgj := strCells_get s (j - off) (by omega)
      rw [List.getElem?_eq_getElem (by omega)] at hgj
      exact hgj
    · rw [if_neg c2, World.cell?_setCells_out _ _ _ _ _ (fun _ _ => Or.inr (by rw [hlen]; simp; omega))]; exact h1

theorem below_setCells {B g : Nat} {a : World} (hg : B ≤ g) : ∀ (vs : List Value) (o : Nat) {w : World}, Below B a w → Below B a (w.setCells g o vs)
  | [], _, _, h => h
  | v :: r, o, _, h => below_setCells hg r (o + 1) (h.setCell (p := ⟨g, o, none⟩) hg v)

theorem setCells_other {g : Nat} : ∀ (vs : List Value) (o : Nat) {w : World} (k : Nat), k ≠ g → (w.setCells g o vs).heap[k]? = w.heap[k]?
  | [], _, _, _, _ => rfl
  | v :: r, o, w, k, h => by
    rw [World.setCells, setCells_other r (o + 1) k h]
    exact Below.heap_setCell w ⟨g, o, none⟩ v k h

theorem run_copy_str {P : Program} (w : World) (dT sT ty elem : TypeId) (g o dLen dCap : Nat) (s : ByteArray) (hu : P.underlying dT = some (.slice elem)) (hs : (P.info? elem).map (·.size) = some 1)
    (hn : s.size ≤ dLen) (L : List UInt8) (hb : BytesAt w g L) (hfit : o + s.size ≤ L.length) :
    (Builtin.copy_ #[dT, sT] ty #[.slice (some ⟨g, o, none⟩) dLen dCap, .string s]).run P w = .ok (goInt s.size) (w.setCells g o (Lib.strCells s)) := by
  have hlen := Lib.strCells_length s
  have hst := run_storeCells_cells (P := P) g o (Lib.strCells s) 0 w (fun j hj => by rw [hlen] at hj; rw [(hb (o + 0 + j) (by omega)).1]; rfl) (fun j hj => by rw [hlen] at hj; exact (hb (o + 0 + j) (by omega)).2) (Lib.strCells_oneCell s)
  have hf := Lib.run_firstCells_string (P := P) w 1 s
  have hm : Nat.min s.size dLen = s.size := Nat.min_eq_left hn
  cases hq : P.info? elem with
  | none => simp [hq] at hs
  | some i =>
    have hi : i.size = 1 := by simpa [hq] using hs
    simp [Builtin.copy_, run_underlying hu, Builtin.lenOf, sizeOf, typeInfo, hq, hi, hm, hf, hst]

/-- copy(b[off:], s) as one step of a region that draws its order. -/
theorem step_copy_str {P : Program} {ops : Array Oper} {o : Oper} {a : Act} {w : World} {K : Act → World → Prop} {Q : Exit → Act → World → Prop} {E : Prop} (hgd : o.guard = none) (d s : Operand) (dT sT : TypeId)
    (ho : o.op = .call { callee := .builtin .copy, args := #[d, s], argTypes := #[dT, sT] }) (elem : TypeId) (hu : P.underlying dT = some (.slice elem)) (hsz : (P.info? elem).map (·.size) = some 1)
    (g off dLen dCap : Nat) (x : ByteArray) (hd : a.eval d = .slice (some ⟨g, off, none⟩) dLen dCap) (hs : a.eval s = .string x) (hn : x.size ≤ dLen)
    (L : List UInt8) (hb : BytesAt w g L) (hfit : off + x.size ≤ L.length) (B : Nat) (w0 : World) (hB : Below B w0 w) (hBg : B ≤ g)
    (h : ∀ w', RowKit.Hid (BytesAt w' g (splice L off x.data.toList)) → RowKit.Hid (Below B w0 w') → RowKit.Hid (w.heap.size ≤ w'.heap.size) → K (a.put o.dst (goInt x.size)) w') :
    if Region.wanted o (yielded ops a.tmps) = true then Oper.wp P o a w K Q else E := by
  have hw : Region.wanted o (yielded ops a.tmps) = true := by simp [Region.wanted, hgd]
  rw [if_pos hw]
  have hrun := run_copy_str (P := P) w dT sT o.type elem g off dLen dCap x hu hsz hn L hb hfit
  unfold Oper.wp
  simp [execOp, ho, resolve, invoke, builtin, hd, hs, hrun, Result.andThen]
  exact h _ (bytesAt_set x hb hfit) (below_setCells hBg _ _ hB) (below_setCells (Nat.zero_le g) (Lib.strCells x) off (Below.refl 0 w)).size
end Go.Proofs.Ytchpagboglomoaa.Copy
