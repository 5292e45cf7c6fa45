/- law04.OrderTurned's two ranges: what each tells is appended to a row of texts. Conditions: each value is its key's length; at most 1000 pairs. -/
import Derived.Test.YtfnfhiggmppecaaOSpeaks
import Derived.Test.YtfnfhiggmppecaaOMSD
import Derived.Deep.DeepCutAuto
import Derived.Deep.RegionWith
import Derived.Deep.CutBlock
namespace Go.Proofs.Ytfnfhiggmppecaa.GO.MS
open Go.RowKit Go.Proofs.Ytfnfhiggmppecaa.Ownd Go.Proofs.YtfnfhiggmppecaaW.PrintWords Go.Proofs.YtfnfhiggmppecaaW.PrintLast Go.Proofs.YtfnfhiggmppecaaW.PrintMore
set_option linter.unusedVariables false
set_option linter.unusedSimpArgs false
theorem infoS : (Try.prog.info? 9).map (fun i => (i.zero, i.size, i.bytes)) = some (some (.string ByteArray.empty), 1, 16) := by kernel_rfl
theorem at_S {w : World} {A : Option Addr} {n : Nat} {xs : List ByteArray} (h : Kd.C Kd.string w A n xs) (i : Nat) (h1 : i < xs.length) (hn : n = xs.length) : ∃ ad : Addr, A = some ad ∧ w.cell? (ad.add i) = some (.string xs[i]) := by
  obtain ⟨ad, c, e, _, hK, hc0⟩ := Kd.C_get h xs[i] (i : Int) (by omega) (by omega)
  rw [Int.toNat_natCast] at hK hc0
  rw [List.getD_eq_getElem?_getD, List.getElem?_eq_getElem h1, Option.getD_some] at hK
  have hK' : c = [.string xs[i]] := hK
  refine ⟨ad, e, ?_⟩
  have h2 := hc0 0 (.string xs[i]) (by rw [hK']; rfl)
  rwa [show i * Kd.string.sz + 0 = i from Nat.mul_one i] at h2
theorem pair_at {w W : World} {l : List Thing} (h : Own w W l) (j : Nat) {v : Value} {xs : List P2} (hj : l[j]? = some (.row kP 79 v xs)) (k : Nat) (hk : k < xs.length) :
    ∃ g c, v = .slice (some ⟨g, 0, none⟩) xs.length c ∧ W.cell? ⟨g, k * 2, none⟩ = some (.string xs[k].1) ∧ W.cell? ⟨g, k * 2 + 1, none⟩ = some (.int .i64 xs[k].2) := by
  obtain ⟨g, c, cs, e, _, _, hK, hcl, _⟩ := h.elem j hj k hk
  refine ⟨g, c, e, hcl 0 _ (by rw [kP_is hK]; rfl), hcl 1 _ (by rw [kP_is hK]; rfl)⟩
/-- A row of texts, among the things that a call owns: a variable (i) and its row (j). -/
structure IsRow (l : List Thing) (i j g : Nat) (v : Value) (xs : List ByteArray) : Prop where
  box : l[i]? = some (.box g (.cells #[v] 45 (0, 0)))
  row : l[j]? = some (.row Kd.string 9 v xs)
  ne : i ≠ j
theorem IsRow.upd {l : List Thing} {i j g : Nat} {v : Value} {xs : List ByteArray} (h : IsRow l i j g v xs) (v' : Value) (ys : List ByteArray) : IsRow ((l.set j (.row Kd.string 9 v' ys)).set i (.box g (.cells #[v'] 45 (0, 0)))) i j g v' ys := by
  have hi := lt_of_get h.box
  have hj := lt_of_get h.row
  refine ⟨List.getElem?_set_self (by rw [List.length_set]; exact hi), ?_, h.ne⟩
  rw [List.getElem?_set_ne h.ne]
  exact List.getElem?_set_self hj
theorem IsRow.box' {l : List Thing} {i j g : Nat} {v : Value} {xs : List ByteArray} (h : IsRow l i j g v xs) (t : Thing) : (l.set j t)[i]? = some (.box g (.cells #[v] 45 (0, 0))) := by
  rw [List.getElem?_set_ne (Ne.symm h.ne)]
  exact h.box
set_option maxHeartbeats 2000000 in
set_option maxRecDepth 100000 in
theorem closA_O {w W : World} {l : List Thing} (h : Own w W l) {i j g : Nat} {v : Value} {ss : List ByteArray} (hr : IsRow l i j g v ss) (hl : ss.length ≤ 1000) (key : ByteArray) :
    Calls Try.prog 20 #[.string key, .int .i64 (key.size : Nat), .pointer (some ⟨g, 0, none⟩)] W fun ex W' => ex = .returned (.bool true) ∧ ∃ v', Own w W' ((l.set j (.row Kd.string 9 v' (ss ++ [key]))).set i (.box g (.cells #[v'] 45 (0, 0)))) := by
  have c0 : W.cell? ⟨g, 0, none⟩ = some v := h.cell i hr.box 0
  obtain ⟨A0, n0, c0', rfl⟩ := h.isSlice j hr.row
  have HO := Aside0.mk h
  have HR := Aside0.mk hr
  have HL := Aside0.mk hl
  clear h hr hl
  go_enter Try.func20, Try.ntmps20
  go_wp2_with (at_builtin; refine HO.out.append Kd.string j HR.out.row rfl (.tmp 6) (.tmp 8) 45 (.string ByteArray.empty) 16 rfl Try.underlying45 infoS rfl (by decide) (by decide) key [.string key] rfl rfl (fun W' _ => rfl) (by have := HL.out; omega) ?_; intro v2 w2 hO3; obtain ⟨A2, n2, c2, rfl⟩ := hO3.isSlice j (List.getElem?_set_self (lt_of_get HR.out.row)); have HO3 := Aside0.mk hO3; clear hO3; have c3 : w2.cell? ⟨g, 0, none⟩ = some (.slice A0 n0 c0') := HO3.out.cell i (HR.out.box' _) 0; have f3 : w2.frozen? ⟨g, 0, none⟩ = false := HO3.out.frozen i (HR.out.box' _) 0)
  go_ret
  exact ⟨by simp, .slice A2 n2 c2, HO3.out.store i (HR.out.box' _) 0 (.slice A2 n2 c2) rfl⟩
theorem rangeA_O {w W : World} {l : List Thing} (h : Own w W l) {i j g b s1 s2 : Nat} {v v7 : Value} {xs : List P2} (hr : IsRow l i j g v []) (h1 : l[s1]? = some (.row kP 79 v7 xs)) (h2 : l[s2]? = some (.box b (.cells #[v7] 46 (0, 0)))) (n1 : s1 ≠ i) (n2 : s1 ≠ j) (hl : xs.length ≤ 1000) (hsz : ∀ p ∈ xs, p.2 = (p.1.size : Nat)) :
    Calls Try.prog 57 #[.func (.func 20) #[] #[.pointer (some ⟨g, 0, none⟩)], .pointer (some ⟨b, 0, none⟩)] W fun ex W' => ex = .returned (.tuple #[]) ∧ ∃ v', Own w W' ((l.set j (.row Kd.string 9 v' (xs.map (·.1)))).set i (.box g (.cells #[v'] 45 (0, 0)))) := by
  obtain ⟨A7, c7, rfl, _, _⟩ := h.reads s1 h1
  have hb : W.cell? ⟨b, 0, none⟩ = some (.slice A7 xs.length c7) := h.cell s2 h2 0
  refine (each1_calls (xs := xs) 20 #[.pointer (some ⟨g, 0, none⟩)] (Go.Proofs.enters_of Try.func20 (by kernel_rfl) rfl)
    (fun k w' => ∃ v', Own w w' ((l.set j (.row Kd.string 9 v' ((xs.take k).map (·.1)))).set i (.box g (.cells #[v'] 45 (0, 0))))) (fun _ => False) hl A7 c7 hb ?_ ?_ ?_ ?_).mono ?_
  · rintro k w1 w2 hb2 ⟨v', h1⟩
    exact ⟨v', h1.below hb2⟩
  · rintro k w1 hk ⟨v', hO⟩
    obtain ⟨g7, c7', e, e1, e2⟩ := pair_at hO s1 (by rw [List.getElem?_set_ne (Ne.symm n1), List.getElem?_set_ne (Ne.symm n2)]; exact h1) k hk
    simp only [Value.slice.injEq] at e
    obtain ⟨rfl, _, _⟩ := e
    exact ⟨g7, rfl, e1, e2⟩
  · rintro k w1 hk ⟨v', hO⟩
    rw [hsz _ (List.getElem_mem hk)]
    refine (closA_O hO (hr.upd v' _) (by rw [List.length_map, List.length_take]; omega) xs[k].1).mono ?_
    rintro e w2 ⟨rfl, v2, hO2⟩
    refine Or.inl ⟨rfl, v2, ?_⟩
    rw [upd_upd l hr.ne] at hO2
    rw [List.take_succ_eq_append_getElem hk, List.map_append]
    exact hO2
  · refine ⟨v, ?_⟩
    rw [List.take_zero, List.map_nil, set_same (i := j) hr.row, set_same hr.box]
    exact h
  · rintro e w2 ⟨rfl, hO⟩
    rw [List.take_length] at hO
    exact ⟨rfl, hO.resolve_right id⟩
set_option maxHeartbeats 2000000 in
set_option maxRecDepth 100000 in
theorem closB_O {w W : World} {l : List Thing} (h : Own w W l) {i j g : Nat} {v : Value} {ss : List ByteArray} (hr : IsRow l i j g v ss) (hl : ss.length ≤ 1000) (key : ByteArray) :
    Calls Try.prog 21 #[.string key, .int .i64 (key.size : Nat), .pointer (some ⟨g, 0, none⟩)] W fun ex W' => ex = .returned (.bool true) ∧ ∃ v', Own w W' ((l.set j (.row Kd.string 9 v' (ss ++ [key]))).set i (.box g (.cells #[v'] 45 (0, 0)))) := by
  have c0 : W.cell? ⟨g, 0, none⟩ = some v := h.cell i hr.box 0
  obtain ⟨A0, n0, c0', rfl⟩ := h.isSlice j hr.row
  have HO := Aside0.mk h
  have HR := Aside0.mk hr
  have HL := Aside0.mk hl
  clear h hr hl
  go_enter Try.func21, Try.ntmps21
  go_wp2_with (at_builtin; refine HO.out.append Kd.string j HR.out.row rfl (.tmp 6) (.tmp 8) 45 (.string ByteArray.empty) 16 rfl Try.underlying45 infoS rfl (by decide) (by decide) key [.string key] rfl rfl (fun W' _ => rfl) (by have := HL.out; omega) ?_; intro v2 w2 hO3; obtain ⟨A2, n2, c2, rfl⟩ := hO3.isSlice j (List.getElem?_set_self (lt_of_get HR.out.row)); have HO3 := Aside0.mk hO3; clear hO3; have c3 : w2.cell? ⟨g, 0, none⟩ = some (.slice A0 n0 c0') := HO3.out.cell i (HR.out.box' _) 0; have f3 : w2.frozen? ⟨g, 0, none⟩ = false := HO3.out.frozen i (HR.out.box' _) 0)
  go_ret
  exact ⟨by simp, .slice A2 n2 c2, HO3.out.store i (HR.out.box' _) 0 (.slice A2 n2 c2) rfl⟩
theorem rangeB_O {w W : World} {l : List Thing} (h : Own w W l) {i j g b s1 s2 : Nat} {v v7 : Value} {xs : List P2} (hr : IsRow l i j g v []) (h1 : l[s1]? = some (.row kP 79 v7 xs)) (h2 : l[s2]? = some (.box b (.cells #[v7] 46 (0, 0)))) (n1 : s1 ≠ i) (n2 : s1 ≠ j) (hl : xs.length ≤ 1000) (hsz : ∀ p ∈ xs, p.2 = (p.1.size : Nat)) :
    Calls Try.prog 57 #[.func (.func 21) #[] #[.pointer (some ⟨g, 0, none⟩)], .pointer (some ⟨b, 0, none⟩)] W fun ex W' => ex = .returned (.tuple #[]) ∧ ∃ v', Own w W' ((l.set j (.row Kd.string 9 v' (xs.map (·.1)))).set i (.box g (.cells #[v'] 45 (0, 0)))) := by
  obtain ⟨A7, c7, rfl, _, _⟩ := h.reads s1 h1
  have hb : W.cell? ⟨b, 0, none⟩ = some (.slice A7 xs.length c7) := h.cell s2 h2 0
  refine (each1_calls (xs := xs) 21 #[.pointer (some ⟨g, 0, none⟩)] (Go.Proofs.enters_of Try.func21 (by kernel_rfl) rfl)
    (fun k w' => ∃ v', Own w w' ((l.set j (.row Kd.string 9 v' ((xs.take k).map (·.1)))).set i (.box g (.cells #[v'] 45 (0, 0))))) (fun _ => False) hl A7 c7 hb ?_ ?_ ?_ ?_).mono ?_
  · rintro k w1 w2 hb2 ⟨v', h1⟩
    exact ⟨v', h1.below hb2⟩
  · rintro k w1 hk ⟨v', hO⟩
    obtain ⟨g7, c7', e, e1, e2⟩ := pair_at hO s1 (by rw [List.getElem?_set_ne (Ne.symm n1), List.getElem?_set_ne (Ne.symm n2)]; exact h1) k hk
    simp only [Value.slice.injEq] at e
    obtain ⟨rfl, _, _⟩ := e
    exact ⟨g7, rfl, e1, e2⟩
  · rintro k w1 hk ⟨v', hO⟩
    rw [hsz _ (List.getElem_mem hk)]
    refine (closB_O hO (hr.upd v' _) (by rw [List.length_map, List.length_take]; omega) xs[k].1).mono ?_
    rintro e w2 ⟨rfl, v2, hO2⟩
    refine Or.inl ⟨rfl, v2, ?_⟩
    rw [upd_upd l hr.ne] at hO2
    rw [List.take_succ_eq_append_getElem hk, List.map_append]
    exact hO2
  · refine ⟨v, ?_⟩
    rw [List.take_zero, List.map_nil, set_same (i := j) hr.row, set_same hr.box]
    exact h
  · rintro e w2 ⟨rfl, hO⟩
    rw [List.take_length] at hO
    exact ⟨rfl, hO.resolve_right id⟩
/-- A key, as the law cuts it. -/
def cut (s : ByteArray) : ByteArray := s.extract 0 (min s.size 20)
def kv (s : ByteArray) : P2 := (cut s, ((cut s).size : Nat))
theorem cut_size (s : ByteArray) : (cut s).size = min s.size 20 := by unfold cut; simp only [ByteArray.size_extract]; omega
/-- A map that has the keys of S, each with its length. -/
structure Of (S : List ByteArray) (xs : List P2) : Prop where
  rise : Rise xs
  len : xs.length ≤ S.length
  mem : ∀ p, p ∈ xs ↔ ∃ s ∈ S, p = kv s
theorem of_nil : Of [] [] := ⟨List.Pairwise.nil, Nat.le_refl 0, fun p => ⟨fun h => absurd h List.not_mem_nil, fun ⟨s, h, _⟩ => absurd h List.not_mem_nil⟩⟩
theorem of_next {S T : List ByteArray} {xs : List P2} (h : Of S xs) (s : ByteArray) (hT : ∀ t, t ∈ T ↔ t = s ∨ t ∈ S) (hl : S.length + 1 ≤ T.length) : Of T (setL xs (cut s) ((cut s).size : Nat)) := by
  refine ⟨setL_rise h.rise _ _, Nat.le_trans (setL_len _ _ _) (by have := h.len; omega), fun p => ?_⟩
  rw [mem_setL h.rise]
  constructor
  · rintro (rfl | ⟨_, hp⟩)
    · exact ⟨s, (hT s).mpr (Or.inl rfl), rfl⟩
    · obtain ⟨t, h1, h2⟩ := (h.mem p).mp hp
      exact ⟨t, (hT t).mpr (Or.inr h1), h2⟩
  · rintro ⟨t, h1, rfl⟩
    rcases (hT t).mp h1 with rfl | h1
    · exact Or.inl rfl
    · by_cases hk : (kv t).1 = cut s
      · refine Or.inl ?_
        have hk' : cut t = cut s := hk
        unfold kv
        rw [hk']
      · exact Or.inr ⟨hk, (h.mem _).mpr ⟨t, h1, rfl⟩⟩
theorem of_size {S : List ByteArray} {xs : List P2} (h : Of S xs) : ∀ p ∈ xs, p.2 = (p.1.size : Nat) := fun p hp => by
  obtain ⟨s, _, rfl⟩ := (h.mem p).mp hp
  rfl
theorem of_same {S T : List ByteArray} {xs ys : List P2} (h : Of S xs) (h' : Of T ys) (hST : ∀ s, s ∈ S ↔ s ∈ T) : xs = ys :=
  rise_ext h.rise h'.rise (fun p => by rw [h.mem, h'.mem]; exact ⟨fun ⟨s, h1, h2⟩ => ⟨s, (hST s).mp h1, h2⟩, fun ⟨s, h1, h2⟩ => ⟨s, (hST s).mpr h1, h2⟩⟩)
theorem meas {a k g : Nat} (h : k < a) (hg : a - k ≤ g) : a - (k + 1) < g := by omega
end Go.Proofs.Ytfnfhiggmppecaa.GO.MS
