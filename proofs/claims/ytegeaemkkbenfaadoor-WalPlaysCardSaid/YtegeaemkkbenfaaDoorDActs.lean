/- Acts as a law of devices reads them; arrays of the law's own beside its devices. Conditions: none. -/
import Derived.Test.YtegeaemkkbenfaaDoorDPure
namespace Go.Proofs.YtegeaemkkbenfaaDoor.Ownd
open Go.RowKit Go.Proofs.YtegeaemkkbenfaaDoorW.PrintWords Go.Proofs.YtegeaemkkbenfaaDoorW.PrintLast Go.Proofs.YtegeaemkkbenfaaDoorW.PrintMore
set_option linter.unusedVariables false
set_option linter.unusedSimpArgs false
variable {w W : World} {ds : List (Nat × Dev)} {rest : List Thing}
/-- What, At, Data, Keep. -/
abbrev TA := Int × (Int × (ByteArray × List Int))
abbrev kTA : Kd TA := Kd.pair (Kd.int .i64) (Kd.pair (Kd.int .i64) (Kd.pair Kd.string (Kd.slice 3 (Kd.int .i64))))
theorem kTA_is {x : TA} {cs : List Value} (h : kTA.K W x cs) : ∃ A c, cs = [.int .i64 x.1, .int .i64 x.2.1, .string x.2.2.1, .slice A x.2.2.2.length c] ∧ x.2.2.2.length ≤ c ∧ Kd.C (Kd.int .i64) W A x.2.2.2.length x.2.2.2 := by
  obtain ⟨c0, c1, rfl, h0, h1⟩ := h
  obtain ⟨c2, c3, rfl, h2, h3⟩ := h1
  obtain ⟨c4, c5, rfl, h4, h5⟩ := h3
  obtain ⟨A, c, rfl, hc, hC⟩ := h5
  have e0 : c0 = [.int .i64 x.1] := h0
  have e2 : c2 = [.int .i64 x.2.1] := h2
  have e4 : c4 = [.string x.2.2.1] := h4
  exact ⟨A, c, by rw [e0, e2, e4]; rfl, hc, hC⟩
theorem kTA_mk (x : TA) (A : Option Addr) (c : Nat) (hc : x.2.2.2.length ≤ c) (hC : Kd.C (Kd.int .i64) W A x.2.2.2.length x.2.2.2) : kTA.K W x [.int .i64 x.1, .int .i64 x.2.1, .string x.2.2.1, .slice A x.2.2.2.length c] :=
  ⟨[.int .i64 x.1], [.int .i64 x.2.1, .string x.2.2.1, .slice A x.2.2.2.length c], rfl, rfl, ⟨[.int .i64 x.2.1], [.string x.2.2.1, .slice A x.2.2.2.length c], rfl, rfl, ⟨[.string x.2.2.1], [.slice A x.2.2.2.length c], rfl, rfl, ⟨A, c, rfl, hc, hC⟩⟩⟩⟩
/-- An act's cells. -/
theorem at_TA {A : Option Addr} {n : Nat} {xs : List TA} (h : Kd.C kTA W A n xs) (i : Nat) (h1 : i < xs.length) (hn : n = xs.length) : ∃ ad : Addr, A = some ad ∧ W.cell? (ad.add (i * 4)) = some (.int .i64 xs[i].1) ∧ W.cell? ⟨(ad.add (i * 4)).block, (ad.add (i * 4)).off + 1, none⟩ = some (.int .i64 xs[i].2.1) ∧
    W.cell? ⟨(ad.add (i * 4)).block, (ad.add (i * 4)).off + 2, none⟩ = some (.string xs[i].2.2.1) ∧ ∃ B c, W.cell? ⟨(ad.add (i * 4)).block, (ad.add (i * 4)).off + 3, none⟩ = some (.slice B xs[i].2.2.2.length c) ∧ xs[i].2.2.2.length ≤ c ∧ Kd.C (Kd.int .i64) W B xs[i].2.2.2.length xs[i].2.2.2 := by
  obtain ⟨ad, cs, e, _, hK, hc0⟩ := Kd.C_get h xs[i] (i : Int) (by omega) (by omega)
  rw [Int.toNat_natCast] at hK hc0
  rw [List.getD_eq_getElem?_getD, List.getElem?_eq_getElem h1, Option.getD_some] at hK
  obtain ⟨B, c, rfl, hc, hC⟩ := kTA_is hK
  have step : ∀ t, t ≠ 0 → ad.add (i * 4 + t) = ⟨(ad.add (i * 4)).block, (ad.add (i * 4)).off + t, none⟩ := fun t ht => by
    unfold Addr.add
    rw [if_neg (by omega)]
    split
    · rename_i h0; simp only [h0, Nat.zero_add]
    · simp only [Nat.add_assoc]
  refine ⟨ad, e, hc0 0 _ rfl, ?_, ?_, B, c, ?_, hc, hC⟩
  · have h2 : W.cell? (ad.add (i * 4 + 1)) = _ := hc0 1 _ rfl
    rwa [step 1 (by decide)] at h2
  · have h2 : W.cell? (ad.add (i * 4 + 2)) = _ := hc0 2 _ rfl
    rwa [step 2 (by decide)] at h2
  · have h2 : W.cell? (ad.add (i * 4 + 3)) = _ := hc0 3 _ rfl
    rwa [step 3 (by decide)] at h2
/-! Further things beside the devices. -/
theorem HL.index (rs : List Raw) (j : Nat) : (rs.flatMap Raw.things ++ rest)[(rs.flatMap Raw.things).length + j]? = rest[j]? := by
  rw [List.getElem?_append_right (by omega), Nat.add_sub_cancel_left]
theorem HL.setIndex (rs : List Raw) (j : Nat) (x : Thing) : (rs.flatMap Raw.things ++ rest).set ((rs.flatMap Raw.things).length + j) x = rs.flatMap Raw.things ++ rest.set j x := by
  rw [List.set_append_right _ _ (by omega), Nat.add_sub_cancel_left]
theorem HL.thing (h : HL w W ds rest) {R : List Thing → Prop} (hR : ∀ l : List Thing, ∀ n, Own w W (l ++ rest) → l.length = n → R rest) : R rest := by
  obtain ⟨rs, _, _, hO⟩ := h
  exact hR _ _ hO rfl
theorem HL.cell {g : Nat} {t : TypeId} {cs : Array Value} (h : HL w W ds rest) (j : Nat) (hj : rest[j]? = some (.box g (.cells cs t (0, 0)))) (i : Nat) : W.cell? ⟨g, i, none⟩ = cs[i]? := by
  obtain ⟨rs, _, _, hO⟩ := h
  exact hO.cell _ ((HL.index rs j).trans hj) i
theorem HL.frozen {g : Nat} {t : TypeId} {cs : Array Value} (h : HL w W ds rest) (j : Nat) (hj : rest[j]? = some (.box g (.cells cs t (0, 0)))) (i : Nat) : W.frozen? ⟨g, i, none⟩ = false := by
  obtain ⟨rs, _, _, hO⟩ := h
  exact hO.frozen _ ((HL.index rs j).trans hj) i
theorem HL.store {g : Nat} {t : TypeId} {cs cs' : Array Value} (h : HL w W ds rest) (j : Nat) (hj : rest[j]? = some (.box g (.cells cs t (0, 0)))) (i : Nat) (u : Value) (e : cs.setIfInBounds i u = cs') : HL w (W.setCell ⟨g, i, none⟩ u) ds (rest.set j (.box g (.cells cs' t (0, 0)))) := by
  obtain ⟨rs, h1, h2, hO⟩ := h
  refine ⟨rs, h1, h2, ?_⟩
  have := hO.store _ ((HL.index rs j).trans hj) i u e
  rwa [HL.setIndex] at this
/-- A new variable, ahead of the further things. -/
theorem HL.alloc (h : HL w W ds rest) (o : Obj) : HL w (W.alloc o) ds (.box W.heap.size o :: rest) := by
  obtain ⟨rs, h1, h2, hO⟩ := h
  refine ⟨rs, h1, h2, ?_⟩
  have h1 : (rs.flatMap Raw.things ++ (.gone :: rest))[(rs.flatMap Raw.things).length]? = some .gone := by simp
  have h2 := hO.room.alloc (rs.flatMap Raw.things).length h1 o
  rw [List.set_append_right _ _ (Nat.le_refl _), Nat.sub_self] at h2
  exact h2
/-- A device that holds what was written to it, no more. -/
def mkD (n : Nat) (f : Int → Option ByteArray) (l : List PW) (c : Int) : Dev := { size := n, last := f, wait := l, off := false, fuse := 0, keep := [], cmds := c }
theorem mkD_write {n : Nat} {f : Int → Option ByteArray} {l : List PW} {c : Int} {i : Int} (h0 : 0 ≤ i) (h1 : i < (n : Int)) {s : ByteArray} (hs : s.size ≤ 256) : (mkD n f l c).write i s = (0, mkD n f (l ++ [(i, pad s)]) (wrap64 (c + 1))) := Dev.write_ok rfl rfl h0 h1 hs
theorem mkD_sync {n : Nat} {f : Int → Option ByteArray} {l : List PW} {c : Int} : (mkD n f l c).sync = (0, mkD n (syncF l f) [] (wrap64 (c + 1))) := Dev.sync_ok rfl rfl
theorem mkD_blow {n : Nat} {f : Int → Option ByteArray} {l : List PW} {c : Int} (keep : List Int) : ((mkD n f l c).blow keep).on = mkD n (failF keep 0 l f) [] c := by
  unfold mkD
  rw [Dev.blow_ok rfl]; rfl
theorem mkD_read {n : Nat} {f : Int → Option ByteArray} {l : List PW} {c : Int} {i : Int} (h0 : 0 ≤ i) (h1 : i < (n : Int)) : (mkD n f l c).read i = ((mkD n f l c).get i, 0) := by
  unfold Dev.read
  have h2 : ¬ (i < 0 ∨ ((mkD n f l c).size : Int) ≤ i) := by show ¬ (i < 0 ∨ (n : Int) ≤ i); omega
  rw [if_neg (by simp [mkD]), if_neg h2]
/-- What an act writes. -/
def wrOf (x : TA) : PW := (x.2.1 % 4, pad (x.2.2.1.extract 0 (min x.2.2.1.size 256)))
theorem lastW_cons (p : PW) (l : List PW) (i : Int) : lastW (p :: l) i = (match lastW l i with | some s => some s | none => if p.1 = i then some p.2 else none) := by
  unfold lastW
  rw [List.reverse_cons, List.find?_append]
  cases h : l.reverse.find? (fun p => decide (p.1 = i)) with
  | some q => rfl
  | none =>
    by_cases hp : p.1 = i
    · simp [hp]
    · simp [hp]
theorem sync_get (i : Int) : ∀ (l : List PW) (f : Int → Option ByteArray), syncF l f i = (match lastW l i with | some s => some s | none => f i)
  | [], f => rfl
  | p :: l, f => by
    show syncF l (upd f p.1 p.2) i = _
    rw [sync_get i l, lastW_cons]
    cases lastW l i with
    | some s => rfl
    | none =>
      show (if i = p.1 then some p.2 else f i) = _
      by_cases h : p.1 = i
      · rw [if_pos h.symm, if_pos h]
      · rw [if_neg (fun e => h e.symm), if_neg h]
theorem fail_one : ∀ (l : List PW) (k : Nat) (f : Int → Option ByteArray), failF [1] k l f = syncF l f
  | [], _, _ => rfl
  | p :: l, k, f => by
    show failF [1] (k + 1) l (if keptAt [1] k then upd f p.1 p.2 else f) = syncF l (upd f p.1 p.2)
    have : keptAt [1] k = true := by
      unfold keptAt
      simp [Nat.mod_one]
    rw [this, fail_one l]; rfl
theorem fail_not {i : Int} (kp : List Int) : ∀ (l : List PW) (k : Nat) (f : Int → Option ByteArray), (∀ p ∈ l, p.1 ≠ i) → failF kp k l f i = f i
  | [], _, _, _ => rfl
  | p :: l, k, f, h => by
    show failF kp (k + 1) l (if keptAt kp k then upd f p.1 p.2 else f) i = f i
    rw [fail_not kp l (k + 1) _ (fun q hq => h q (List.mem_cons_of_mem _ hq))]
    split
    · show (if i = p.1 then some p.2 else f i) = f i
      rw [if_neg (fun e => h p (List.mem_cons_self ..) e.symm)]
    · rfl
/-- All kept: as if it had been synced. -/
theorem one_kept (n : Nat) (f : Int → Option ByteArray) (l : List PW) (c c' : Int) (i : Int) : (mkD n (failF [1] 0 l f) [] c).get i = (mkD n f l c').get i := by
  show (failF [1] 0 l f i).getD (Bld.zs 256) = (match lastW l i with | some s => s | none => (f i).getD (Bld.zs 256))
  rw [fail_one, sync_get]
  cases lastW l i <;> rfl
/-- What was not written since is what it was. -/
theorem not_written (n : Nat) (f : Int → Option ByteArray) (l : List PW) (kp : List Int) (c c' : Int) {i : Int} (h : ∀ p ∈ l, p.1 ≠ i) : (mkD n (failF kp 0 l f) [] c).get i = (mkD n f [] c').get i := by
  show (failF kp 0 l f i).getD (Bld.zs 256) = (f i).getD (Bld.zs 256)
  rw [fail_not kp l 0 f h]
end Go.Proofs.YtegeaemkkbenfaaDoor.Ownd
