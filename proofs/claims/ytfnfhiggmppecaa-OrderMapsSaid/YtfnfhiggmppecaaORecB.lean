/- order.Recent of whole numbers: Drop, Use, Oldest (and what it hands back), Len, over memory of the call's own. Conditions: at most 1000 things. -/
import Derived.Test.YtfnfhiggmppecaaORecA
import Derived.Test.YtfnfhiggmppecaaGOx1
import Derived.Shelf.Abstract
import Derived.Deep.LoopGhost
namespace Go.Proofs.Ytfnfhiggmppecaa.GO
open Go.RowKit Go.Proofs.Ytfnfhiggmppecaa.Ownd Go.Proofs.YtfnfhiggmppecaaW.PrintWords Go.Proofs.YtfnfhiggmppecaaW.PrintLast Go.Proofs.YtfnfhiggmppecaaW.PrintMore
set_option linter.unusedVariables false
set_option linter.unusedSimpArgs false
theorem wrI (n : Int) (h0 : 0 ≤ n) (h1 : n < 9223372036854775807) : wrap64 (n + 1) = n + 1 := by unfold wrap64; omega
theorem rd_I (l : List Int) (i : Nat) (h : i < l.length) : rd l (i : Int) = l[i] := by simp [rd, List.getD_eq_getElem?_getD, List.getElem?_eq_getElem h]
theorem first_of : ∀ (xs : List Int) (x : Int), x ∈ xs → ∃ p, ∃ h : p < xs.length, xs[p] = x ∧ (∀ j (hj : j < p), xs[j]'(Nat.lt_trans hj h) ≠ x) ∧ xs.erase x = xs.eraseIdx p
  | [], x, h => by simp at h
  | a :: l, x, h => by
    by_cases ha : a = x
    · subst ha
      exact ⟨0, by simp, rfl, fun j hj => absurd hj (Nat.not_lt_zero _), by simp⟩
    · have hm : x ∈ l := by
        rcases List.mem_cons.mp h with rfl | h
        · exact absurd rfl ha
        · exact h
      obtain ⟨p, hp, h1, h2, h3⟩ := first_of l x hm
      refine ⟨p + 1, by simp; omega, by simpa using h1, fun j hj => ?_, ?_⟩
      · cases j with
        | zero => simpa using ha
        | succ j => simpa using h2 j (by omega)
      · rw [List.erase_cons, if_neg (by simpa using ha), h3, List.eraseIdx_cons_succ]
theorem index_yes (xs : List Int) (x : Int) (p : Nat) (hp : p < xs.length) (h1 : xs[p] = x) (h2 : ∀ j (hj : j < p), xs[j]'(Nat.lt_trans hj hp) ≠ x) (hl : xs.length ≤ 1000) : ∀ (d i k : Nat), i + d = p → d < k →
    slices_Index_int_int.l0 k xs x (xs.length : Int) (i : Int) = some (p : Int) := by
  intro d
  induction d with
  | zero =>
    intro i k hi hk
    obtain ⟨k, rfl⟩ : ∃ m, k = m + 1 := ⟨k - 1, by omega⟩
    obtain rfl : i = p := by omega
    rw [slices_Index_int_int.l0.eq_2, if_pos (by omega), if_pos (by omega), if_pos (by omega), rd_I xs i hp, h1, if_pos rfl]
  | succ d ih =>
    intro i k hi hk
    obtain ⟨k, rfl⟩ : ∃ m, k = m + 1 := ⟨k - 1, by omega⟩
    have hw : wrap64 ((i : Int) + 1) = ((i + 1 : Nat) : Int) := by rw [wrI _ (by omega) (by omega)]; omega
    rw [slices_Index_int_int.l0.eq_2, if_pos (by omega), if_pos (by omega), if_pos (by omega), rd_I xs i (by omega), if_neg (fun h => h2 i (by omega) h.symm), hw]
    exact ih (i + 1) k (by omega) (by omega)
theorem index_no (xs : List Int) (x : Int) (h : x ∉ xs) (hl : xs.length ≤ 1000) : ∀ (d i k : Nat), i + d = xs.length → d < k →
    slices_Index_int_int.l0 k xs x (xs.length : Int) (i : Int) = some (-1) := by
  intro d
  induction d with
  | zero =>
    intro i k hi hk
    obtain ⟨k, rfl⟩ : ∃ m, k = m + 1 := ⟨k - 1, by omega⟩
    rw [slices_Index_int_int.l0.eq_2, if_neg (by omega)]
  | succ d ih =>
    intro i k hi hk
    obtain ⟨k, rfl⟩ : ∃ m, k = m + 1 := ⟨k - 1, by omega⟩
    have hw : wrap64 ((i : Int) + 1) = ((i + 1 : Nat) : Int) := by rw [wrI _ (by omega) (by omega)]; omega
    rw [slices_Index_int_int.l0.eq_2, if_pos (by omega), if_pos (by omega), if_pos (by omega), rd_I xs i (by omega), if_neg (fun he => h (by rw [he]; exact List.getElem_mem (by omega))), hw]
    exact ih (i + 1) k (by omega) (by omega)
/-- What a Recent is, among the things that a call owns: a variable (i) and its row (j). -/
def IsRec (l : List Thing) (i j g : Nat) (v : Value) (xs : List Int) : Prop := l[i]? = some (.box g (.cells #[v] 26 (0, 0))) ∧ l[j]? = some (.row (Kd.int .i64) 3 v xs) ∧ i ≠ j
theorem IsRec.upd {l : List Thing} {i j g : Nat} {v : Value} {xs : List Int} (h : IsRec l i j g v xs) (v' : Value) (ys : List Int) : IsRec ((l.set j (.row (Kd.int .i64) 3 v' ys)).set i (.box g (.cells #[v'] 26 (0, 0)))) i j g v' ys := by
  have hi := lt_of_get h.1
  have hj := lt_of_get h.2.1
  refine ⟨List.getElem?_set_self (by rw [List.length_set]; exact hi), ?_, h.2.2⟩
  rw [List.getElem?_set_ne h.2.2]
  exact List.getElem?_set_self hj
theorem IsRec.box {l : List Thing} {i j g : Nat} {v : Value} {xs : List Int} (h : IsRec l i j g v xs) (t : Thing) : (l.set j t)[i]? = some (.box g (.cells #[v] 26 (0, 0))) := by
  rw [List.getElem?_set_ne (Ne.symm h.2.2)]
  exact h.1
theorem deleteI_O {w W : World} {l : List Thing} (h : Own w W l) (j : Nat) {g n c k : Nat} {xs : List Int} (hj : l[j]? = some (.row (Kd.int .i64) 3 (.slice (some ⟨g, 0, none⟩) n c) xs)) (hk : k < n) :
    Calls Try.prog 32 #[.slice (some ⟨g, 0, none⟩) n c, .int .i64 (k : Nat), .int .i64 ((k : Int) + 1)] W fun ex W' => ex = .returned (.slice (some ⟨g, 0, none⟩) (n - 1) c) ∧ Own w W' (l.set j (.row (Kd.int .i64) 3 (.slice (some ⟨g, 0, none⟩) (n - 1) c) (xs.eraseIdx k))) := by
  have hge := h.ge
  obtain ⟨ok, hN⟩ := h.N j hj
  have hc : c ≤ 9223372036854775807 := by
    rcases N_nonnil hN with ⟨h', _⟩ | ⟨g', c', h', _, hm⟩
    · simp at h'
    · simp only [Value.slice.injEq] at h'
      obtain ⟨_, _, rfl⟩ := h'
      unfold maxLen at hm; omega
  refine (h.row_call j hj (R := fun ex v' => ex = .returned (.slice (some ⟨g, 0, none⟩) (n - 1) c) ∧ v' = .slice (some ⟨g, 0, none⟩) (n - 1) c) (d' := Kd.int .i64) (e' := 3) (zs := xs.eraseIdx k) (fun ok _ hN => (deleteI_N hN hk hge hc).mono fun ex W' ⟨h1, h2, h3⟩ => ⟨_, ⟨h1, rfl⟩, h2, by simpa [Value.ownBlock] using h3⟩)).mono ?_
  rintro ex W' ⟨v', ⟨h1, rfl⟩, h2⟩
  exact ⟨h1, h2⟩
theorem cloneI_O {w W : World} {l : List Thing} (h : Own w W l) (j s : Nat) {v : Value} {xs : List Int} (hj : l[j]? = some (.row (Kd.int .i64) 3 v xs)) (hs : l[s]? = some .gone) (hl : xs.length ≤ 1000) :
    Calls Try.prog 33 #[v] W fun ex W' => ∃ v', ex = .returned v' ∧ Own w W' (l.set s (.row (Kd.int .i64) 3 v' xs)) := by
  obtain ⟨ok, hN⟩ := h.N j hj
  obtain ⟨A, c, rfl, hlc, hC⟩ := Kd.N_reads hN
  have hnil : A = none → xs.length = 0 := fun hA => by
    rcases N_nonnil hN with ⟨_, h2⟩ | ⟨g, c', h', _⟩
    · rw [h2]; rfl
    · rw [hA] at h'; simp at h'
  refine (cloneI_N hC (by omega) hnil).mono ?_
  rintro ex W' ⟨v', rfl, h1, h2⟩
  exact ⟨v', rfl, h.row_new s hs h2 h1 (fun k hk => hk)⟩
set_option maxHeartbeats 1000000 in
set_option maxRecDepth 100000 in
theorem len_O {w W : World} {l : List Thing} (h : Own w W l) {i j g : Nat} {v : Value} {xs : List Int} (hr : IsRec l i j g v xs) :
    Calls Try.prog 13 #[.pointer (some ⟨g, 0, none⟩)] W fun ex W' => ex = .returned (.int .i64 (xs.length : Nat)) ∧ W' = W := by
  obtain ⟨A, c, rfl, hlc, hC⟩ := h.reads j hr.2.1
  have hcell : W.cell? ⟨g, 0, none⟩ = some (.slice A xs.length c) := h.cell i hr.1 0
  go_enter Try.func13, Try.ntmps13
  go_wp2
  go_ret
  exact ⟨rfl, rfl⟩
set_option maxHeartbeats 2000000 in
set_option maxRecDepth 100000 in
theorem drop_O {w W : World} {l : List Thing} (h : Own w W l) {i j g : Nat} {v : Value} {xs : List Int} (hr : IsRec l i j g v xs) (hl : xs.length ≤ 1000) (x : Int) :
    Calls Try.prog 9 #[.pointer (some ⟨g, 0, none⟩), .int .i64 x] W fun ex W' => ∃ v', ex = .returned (.bool (decide (x ∈ xs))) ∧ Own w W' ((l.set j (.row (Kd.int .i64) 3 v' (xs.erase x))).set i (.box g (.cells #[v'] 26 (0, 0)))) := by
  obtain ⟨A, c, rfl, hlc, hC⟩ := h.reads j hr.2.1
  have hcell : W.cell? ⟨g, 0, none⟩ = some (.slice A xs.length c) := h.cell i hr.1 0
  have hfz : W.frozen? ⟨g, 0, none⟩ = false := h.frozen i hr.1 0
  have HO := Aside0.mk h
  have HR := Aside0.mk hr
  have HC := Aside0.mk hC
  have HLC := Aside0.mk hlc
  clear h hr hC hlc
  by_cases hx : x ∈ xs
  · obtain ⟨p, hp, h1, h2, h3⟩ := first_of xs x hx
    have HIX := Aside0.mk (index_yes xs x p hp h1 h2 hl p 0 1002 (by omega) (by omega))
    have HE := Aside0.mk h3
    have HX := Aside0.mk hx
    clear h1 h2 h3 hx
    obtain ⟨g2, c2, _, e2, -⟩ := HO.out.elem j HR.out.2.1 p hp
    cases e2
    have hw := wrI (p : Int) (by omega) (by omega)
    have HP := Aside0.mk hp
    clear hp
    go_enter Try.func9, Try.ntmps9
    go_wp2_with (first
      | (go_at_call 31; refine (slices_Index_int_int.calls 1002 (some ⟨g2, 0, none⟩) c xs x (p : Int) W HC.out HLC.out HIX.out).mono ?_; rintro e w' ⟨rfl, ⟨⟨m, rfl⟩⟩⟩)
      | (go_at_call 32; refine (deleteI_O (HO.out.below (pw_below_drewN (Below.refl _ _) m)) j HR.out.2.1 HP.out).mono ?_; rintro e w' ⟨rfl, hO2⟩; have hc2 : w'.cell? ⟨g, 0, none⟩ = some (.slice (some ⟨g2, 0, none⟩) xs.length c) := hO2.cell i (HR.out.box _) 0; have hf2 : w'.frozen? ⟨g, 0, none⟩ = false := hO2.frozen i (HR.out.box _) 0; have HO2 := Aside0.mk hO2; clear hO2))
    go_ret
    refine ⟨.slice (some ⟨g2, 0, none⟩) (xs.length - 1) c, by rw [decide_eq_true HX.out]; rfl, ?_⟩
    rw [HE.out]
    exact HO2.out.store i (HR.out.box _) 0 _ rfl
  · have HIX := Aside0.mk (index_no xs x hx hl xs.length 0 1002 (by omega) (by omega))
    have HX := Aside0.mk hx
    clear hx
    go_enter Try.func9, Try.ntmps9
    go_wp2_with (go_at_call 31; refine (slices_Index_int_int.calls 1002 A c xs x (-1) W HC.out HLC.out HIX.out).mono ?_; rintro e w' ⟨rfl, ⟨⟨m, rfl⟩⟩⟩)
    go_ret
    refine ⟨.slice A xs.length c, by rw [decide_eq_false HX.out]; rfl, ?_⟩
    rw [List.erase_of_not_mem HX.out, set_same HR.out.2.1, set_same HR.out.1]
    exact HO.out.below (pw_below_drewN (Below.refl _ _) m)
set_option maxHeartbeats 2000000 in
set_option maxRecDepth 100000 in
theorem use_O {w W : World} {l : List Thing} (h : Own w W l) {i j g : Nat} {v : Value} {xs : List Int} (hr : IsRec l i j g v xs) (hl : xs.length ≤ 1000) (x : Int) :
    Calls Try.prog 10 #[.pointer (some ⟨g, 0, none⟩), .int .i64 x] W fun ex W' => ∃ v', ex = .returned (.tuple #[]) ∧ Own w W' ((l.set j (.row (Kd.int .i64) 3 v' (xs.erase x ++ [x]))).set i (.box g (.cells #[v'] 26 (0, 0)))) := by
  have HO := Aside0.mk h
  have HR := Aside0.mk hr
  have HL := Aside0.mk hl
  clear h hr
  go_enter Try.func10, Try.ntmps10
  go_wp2_with (first
    | (go_at_call 9; refine (drop_O HO.out HR.out HL.out x).mono ?_; rintro e w' ⟨v1, rfl, hO2⟩; have HO2 := Aside0.mk hO2; clear hO2; have HR2 := Aside0.mk (HR.out.upd v1 (xs.erase x)); have hc2 : w'.cell? ⟨g, 0, none⟩ = some v1 := HO2.out.cell i HR2.out.1 0; have hf2 : w'.frozen? ⟨g, 0, none⟩ = false := HO2.out.frozen i HR2.out.1 0)
    | (at_builtin; refine HO2.out.append (Kd.int .i64) j HR2.out.2.1 rfl (.tmp 11) (.tmp 13) 24 (.int .i64 0) 8 rfl Try.underlying24 infoI rfl (by decide) (by decide) x [.int .i64 x] rfl rfl (fun W' _ => rfl) (by have := HL.out; have := List.length_erase_le (a := x) (l := xs); omega) ?_; intro v2 w2 hO3; obtain ⟨A2, n2, c2, rfl⟩ := hO3.isSlice j (List.getElem?_set_self (lt_of_get HR2.out.2.1)); have HO3 := Aside0.mk hO3; clear hO3 hc2 hf2; have hc3 : w2.cell? ⟨g, 0, none⟩ = some v1 := HO3.out.cell i (HR2.out.box _) 0; have hf3 : w2.frozen? ⟨g, 0, none⟩ = false := HO3.out.frozen i (HR2.out.box _) 0))
  go_end0
  refine ⟨.slice A2 n2 c2, rfl, ?_⟩
  have h9 := HO3.out.store i (HR2.out.box _) 0 (.slice A2 n2 c2) rfl
  rwa [upd_upd l HR.out.2.2] at h9
set_option maxHeartbeats 2000000 in
set_option maxRecDepth 100000 in
theorem oldest_O {w W : World} {l : List Thing} (h : Own w W l) {i j g : Nat} {v : Value} {xs : List Int} (hr : IsRec l i j g v xs) (hl : xs.length ≤ 1000) (s1 s2 : Nat) (hs1 : l[s1]? = some .gone) (hs2 : l[s2]? = some .gone) (h12 : s1 ≠ s2) :
    Calls Try.prog 11 #[.pointer (some ⟨g, 0, none⟩)] W fun ex W' => ∃ b v', ex = .returned (.func (.func 34) #[] #[.pointer (some ⟨b, 0, none⟩)]) ∧ Own w W' ((l.set s1 (.row (Kd.int .i64) 3 v' xs)).set s2 (.box b (.cells #[v'] 24 (0, 0)))) := by
  have hcell : W.cell? ⟨g, 0, none⟩ = some v := h.cell i hr.1 0
  have HO := Aside0.mk h
  have HR := Aside0.mk hr
  have HL := Aside0.mk hl
  clear h hr hl
  go_enter Try.func11, Try.ntmps11
  go_wp2_with (go_at_call 33; refine (cloneI_O HO.out j s1 HR.out.2.1 hs1 HL.out).mono ?_; rintro e w' ⟨v1, rfl, hO2⟩; obtain ⟨A1, n1, c1, rfl⟩ := hO2.isSlice s1 (List.getElem?_set_self (lt_of_get hs1)); have HO2 := Aside0.mk hO2; clear hO2)
  go_ret
  exact ⟨w'.heap.size, .slice A1 n1 c1, rfl, HO2.out.alloc s2 (by rw [List.getElem?_set_ne h12]; exact hs2) (.cells #[.slice A1 n1 c1] 24)⟩
set_option maxHeartbeats 2000000 in
set_option maxRecDepth 100000 in
/-- What Oldest hands back: it calls yield with each thing, till one call says no. I: what holds ahead of call k; Z: what holds behind a call that said no. -/
theorem each_calls {W : World} {b : Nat} {xs : List Int} (y : FuncId) (caps : Array Value) (ey : Go.Proofs.Enters Try.prog y) (I : Nat → World → Prop) (Z : World → Prop) (hl : xs.length ≤ 1000)
    (A : Option Addr) (c : Nat) (hb : W.cell? ⟨b, 0, none⟩ = some (.slice A xs.length c))
    (hrd : ∀ k w1 (hk : k < xs.length), I k w1 → ∃ g, A = some ⟨g, 0, none⟩ ∧ w1.cell? ⟨g, k, none⟩ = some (.int .i64 xs[k]))
    (hy : ∀ k w1 (hk : k < xs.length), I k w1 → Calls Try.prog y (#[.int .i64 xs[k]] ++ caps) w1 fun ex w2 => (ex = .returned (.bool true) ∧ I (k + 1) w2) ∨ (ex = .returned (.bool false) ∧ Z w2))
    (h0 : I 0 W) :
    Calls Try.prog 34 #[.func (.func y) #[] caps, .pointer (some ⟨b, 0, none⟩)] W fun ex W' => ex = .returned (.tuple #[]) ∧ (I xs.length W' ∨ Z W') := by
  have ey' : ∀ args w, (callFunc y args).run Try.prog w = .ok (.enter y args) w := ey
  clear ey
  have HRD := Aside0.mk hrd
  have HY := Aside0.mk hy
  have H0 := Aside0.mk h0
  clear hrd hy h0
  go_enter Try.func34, Try.ntmps34
  go_wp2
  go_loopg [7] xs.length (fun gg s7 wr => ∃ k : Nat, k ≤ xs.length ∧ xs.length - k ≤ gg ∧ s7 = .int .i64 k ∧ Aside0 (I k wr))
  case atStart => exact ⟨0, Nat.zero_le _, by omega, rfl, H0⟩
  case round =>
    obtain ⟨k, hk, hg, rfl, HI⟩ := hrel
    by_cases hlt : k < xs.length
    · obtain ⟨g, rfl, hx⟩ := HRD.out k wr hlt HI.out
      have hc := HY.out k wr hlt HI.out
      have HX := Aside0.mk hlt
      generalize hv : xs[k] = xk at hx hc
      have hw := wrI (k : Int) (by omega) (by omega)
      have d1 : decide ((k : Int) < (xs.length : Int)) = true := decide_eq_true (by omega)
      clear HI
      go_wp2_with fail
      refine hc.mono ?_
      rintro e w' (⟨rfl, hI⟩ | ⟨rfl, hZ⟩)
      · have HI := Aside0.mk hI
        clear hI
        go_wp2
        go_roundg (xs.length - (k + 1))
        case measure => omega
        case rel => exact ⟨k + 1, by omega, Nat.le_refl _, rfl, HI⟩
      · go_wp2
        refine bodyPost_ret (results_none rfl _ _ _) rfl ?_
        exact ⟨rfl, Or.inr hZ⟩
    · obtain rfl : k = xs.length := by omega
      have d1 : decide ((xs.length : Int) < (xs.length : Int)) = false := decide_eq_false (by omega)
      go_wp2
      go_end0
      exact ⟨rfl, Or.inl HI.out⟩
end Go.Proofs.Ytfnfhiggmppecaa.GO
