/- order.Map (int keys): slices.Clone at pairs, each (and what it hands back), All, over memory of the call's own. Conditions: at most 1000 pairs. -/
import Derived.Test.YtchpagboglomoaaUMC
import Derived.Deep.LoopGhost
import Derived.Lib.SliceRun
import Derived.Lib.Walk
namespace Go.Proofs.Ytchpagboglomoaa.GP.MU
open Go.RowKit Go.Proofs.Ytchpagboglomoaa.Ownd Go.Proofs.YtchpagboglomoaaW.PrintWords Go.Proofs.YtchpagboglomoaaW.PrintLast Go.Proofs.YtchpagboglomoaaW.PrintMore
set_option linter.unusedVariables false
set_option linter.unusedSimpArgs false
theorem wr1 (n : Int) (h0 : 0 ≤ n) (h1 : n < 9223372036854775807) : wrap64 (n + 1) = n + 1 := by unfold wrap64; omega
set_option maxHeartbeats 2000000 in
set_option maxRecDepth 100000 in
/-- A row is copied: what is read, into a new row. -/
theorem cloneP_N {W : World} {A : Option Addr} {n c : Nat} {xs : List P2} (hC : Kd.C kP W A n xs) (hl : n * 32 ≤ 140737488355328) (hnil : A = none → n = 0) :
    Calls Try.prog 60 #[.slice A n c] W fun ex W' => ∃ v', ex = .returned v' ∧ Kd.N kP 102 W' W.heap.size (fun k => W.heap.size ≤ k) v' xs ∧ Below W.heap.size W W' := by
  have q22 : ∀ (w : World) (a : Option Addr) (n c n' c' : Nat), (binOp .eql 25 (.slice a n c) (.slice none n' c')).run Try.prog w = .ok (.bool a.isNone) w := fun w a n c n' c' => Lib.run_eql_slice_nil w _ _ a n c n' c' Try.underlying25
  have HC := Aside0.mk hC
  have HL := Aside0.mk hl
  clear hC hl
  rcases A with _ | A
  · have hn := hnil rfl
    subst hn
    have hxs : xs = [] := List.eq_nil_of_length_eq_zero HC.out.1
    subst hxs
    go_enter Try.func60, Try.ntmps60
    go_wp2
    go_ret
    exact ⟨_, rfl, Kd.N_nil _ _ _ _ _, Below.refl _ _⟩
  · clear hnil
    go_enter Try.func60, Try.ntmps60
    have HR := Aside0.mk (Kd.F_alloc (Kd.C_F (Kd.heap_pair (Kd.heap_int _) heap_H) HC.out) (.cells #[] 102))
    go_wp2_with (at_builtin; refine Kd.N_append_rows kP (w0 := W) W.heap.size rfl (.tmp 5) (.tmp 6) 25 102 zP 32 rfl Try.underlying25 infoP rfl (by decide) (by decide) (.slice (some ⟨W.heap.size, 0, none⟩) 0 0) [] xs (some A) n c (fun k => W.heap.size ≤ k ∨ k < W.heap.size) (fun k => k < W.heap.size) rfl rfl (N_empty kP 102 W (fun k => W.heap.size ≤ k ∨ k < W.heap.size) (Or.inl (Nat.le_refl _))) HR.out (fun k hk => ⟨Or.inr hk, fun he => by simp [Value.ownBlock] at he; omega⟩) (fun k hk => Or.inl (by simp at hk; omega)) (below_alloc (Below.refl _ _) _) (by simp) (by have := HL.out; simpa using this) ?_; intro v1 w1 hN1 hb1 hg1 hat1; have HN1 := Aside0.mk hN1; have HB1 := Aside0.mk hb1; clear hN1 hb1 hg1 hat1)
    go_ret
    exact ⟨v1, rfl, N_flat flatP HN1.out (fun k hk => Kd.N_base HN1.out k hk), HB1.out⟩
theorem cloneP_O {w W : World} {l : List Thing} (h : Own w W l) (s : Nat) {A : Option Addr} {n c : Nat} {xs : List P2} (hC : Kd.C kP W A n xs) (hnil : A = none → n = 0) (hs : l[s]? = some .gone) (hl : xs.length ≤ 100000) :
    Calls Try.prog 60 #[.slice A n c] W fun ex W' => ∃ v', ex = .returned v' ∧ Own w W' (l.set s (.row kP 102 v' xs)) := by
  have hn := hC.1
  refine (cloneP_N hC (by omega) hnil).mono ?_
  rintro ex W' ⟨v', rfl, h1, h2⟩
  exact ⟨v', rfl, h.row_new s hs h2 h1 (fun k hk => hk)⟩
set_option maxHeartbeats 2000000 in
set_option maxRecDepth 100000 in
theorem each_O {w W : World} {l : List Thing} (h : Own w W l) {A : Option Addr} {n c : Nat} {xs : List P2} (hC : Kd.C kP W A n xs) (hnil : A = none → n = 0) (hl : xs.length ≤ 100000) (s1 s2 : Nat) (hs1 : l[s1]? = some .gone) (hs2 : l[s2]? = some .gone) (h12 : s1 ≠ s2) :
    Calls Try.prog 52 #[.slice A n c] W fun ex W' => ∃ b v', ex = .returned (.func (.func 61) #[] #[.pointer (some ⟨b, 0, none⟩)]) ∧ Own w W' ((l.set s1 (.row kP 102 v' xs)).set s2 (.box b (.cells #[v'] 25 (0, 0)))) := by
  have HO := Aside0.mk h
  have HC := Aside0.mk hC
  have HL := Aside0.mk hl
  clear h hC hl
  go_enter Try.func52, Try.ntmps52
  go_wp2_with (go_at_call 60; refine (cloneP_O HO.out s1 HC.out hnil hs1 HL.out).mono ?_; rintro e w' ⟨v1, rfl, hO2⟩; obtain ⟨A1, n1, c1, rfl⟩ := hO2.isSlice s1 (List.getElem?_set_self (lt_of_get hs1)); have HO2 := Aside0.mk hO2; clear hO2)
  go_ret
  exact ⟨w'.heap.size, .slice A1 n1 c1, rfl, HO2.out.alloc s2 (by rw [List.getElem?_set_ne h12]; exact hs2) (.cells #[.slice A1 n1 c1] 25)⟩
set_option maxHeartbeats 2000000 in
set_option maxRecDepth 100000 in
theorem all_O {w W : World} {l : List Thing} (h : Own w W l) {i j g : Nat} {v : Value} {xs : List P2} (hm : IsMap l i j g v xs) (hl : xs.length ≤ 100000) (s1 s2 : Nat) (hs1 : l[s1]? = some .gone) (hs2 : l[s2]? = some .gone) (h12 : s1 ≠ s2) :
    Calls Try.prog 42 #[.pointer (some ⟨g, 0, none⟩)] W fun ex W' => ∃ b v', ex = .returned (.func (.func 61) #[] #[.pointer (some ⟨b, 0, none⟩)]) ∧ Own w W' ((l.set s1 (.row kP 102 v' xs)).set s2 (.box b (.cells #[v'] 25 (0, 0)))) := by
  have hnil : ∀ A c, v = .slice A xs.length c → A = none → xs.length = 0 := fun A c hv hA => by
    obtain ⟨ok, hN⟩ := h.N j hm.row
    rcases N_nonnil hN with ⟨_, h2⟩ | ⟨g, c', h', _⟩
    · rw [h2]; rfl
    · rw [hv, hA] at h'; simp at h'
  obtain ⟨A, c, rfl, hlc, hC⟩ := h.reads j hm.row
  replace hnil := hnil A c rfl
  have hcell : W.cell? ⟨g, 0, none⟩ = some (.slice A xs.length c) := h.cell i hm.box 0
  have HO := Aside0.mk h
  have HC := Aside0.mk hC
  have HL := Aside0.mk hl
  clear h hC hl hm
  go_enter Try.func42, Try.ntmps42
  go_wp2_with (go_at_call 52; refine (each_O HO.out HC.out hnil HL.out s1 s2 hs1 hs2 h12).mono ?_; rintro e w' ⟨b, v1, rfl, hO2⟩; have HO2 := Aside0.mk hO2; clear hO2)
  go_ret
  exact ⟨b, v1, rfl, HO2.out⟩
set_option maxHeartbeats 2000000 in
set_option maxRecDepth 100000 in
/-- What each hands back: it calls yield with each key and value, till one call says no. I: what holds ahead of call k; Z: what holds behind a call that said no. -/
theorem each1_calls {W : World} {b : Nat} {xs : List P2} (y : FuncId) (caps : Array Value) (ey : Go.Proofs.Enters Try.prog y) (I : Nat → World → Prop) (Z : World → Prop) (hl : xs.length ≤ 100000)
    (A : Option Addr) (c : Nat) (hb : W.cell? ⟨b, 0, none⟩ = some (.slice A xs.length c))
    (hI : ∀ k w1 w2, Below w1.heap.size w1 w2 → I k w1 → I k w2)
    (hrd : ∀ k w1 (hk : k < xs.length), I k w1 → ∃ g, A = some ⟨g, 0, none⟩ ∧ w1.cell? ⟨g, k * 2, none⟩ = some (.int .i64 xs[k].1) ∧ w1.cell? ⟨g, k * 2 + 1, none⟩ = some (.slice xs[k].2.1 xs[k].2.2.1 xs[k].2.2.2))
    (hy : ∀ k w1 (hk : k < xs.length), I k w1 → Calls Try.prog y (#[.int .i64 xs[k].1, .slice xs[k].2.1 xs[k].2.2.1 xs[k].2.2.2] ++ caps) w1 fun ex w2 => (ex = .returned (.bool true) ∧ I (k + 1) w2) ∨ (ex = .returned (.bool false) ∧ Z w2))
    (h0 : I 0 W) :
    Calls Try.prog 61 #[.func (.func y) #[] caps, .pointer (some ⟨b, 0, none⟩)] W fun ex W' => ex = .returned (.tuple #[]) ∧ (I xs.length W' ∨ Z W') := by
  have ey' : ∀ args w, (callFunc y args).run Try.prog w = .ok (.enter y args) w := ey
  clear ey
  have hup := Try.underlying102
  have HRD := Aside0.mk hrd
  have HY := Aside0.mk hy
  have HI0 := Aside0.mk hI
  have H0 := Aside0.mk h0
  clear hrd hy h0 hI
  go_enter Try.func61, Try.ntmps61
  go_wp2
  go_loopg [7] xs.length (fun gg s7 wr => ∃ k : Nat, k ≤ xs.length ∧ xs.length - k ≤ gg ∧ s7 = .int .i64 k ∧ Aside0 (I k wr))
  case atStart => exact ⟨0, Nat.zero_le _, by omega, rfl, H0⟩
  case round =>
    obtain ⟨k, hk, hg, rfl, HI⟩ := hrel
    by_cases hlt : k < xs.length
    · obtain ⟨g, rfl, hx, hx1⟩ := HRD.out k wr hlt HI.out
      have hc := HY.out k (wr.alloc (.cells #[.int .i64 xs[k].1, .slice xs[k].2.1 xs[k].2.2.1 xs[k].2.2.2] 102)) hlt (HI0.out _ _ _ (below_alloc (Below.refl _ _) _) HI.out)
      have HX := Aside0.mk hlt
      generalize xs[k].1 = xk at hx hc
      generalize xs[k].2 = xv at hx1 hc
      have hw := wr1 (k : Int) (by omega) (by omega)
      have d1 : decide ((k : Int) < (xs.length : Int)) = true := decide_eq_true (by omega)
      clear HI
      go_wp2_with fail
      refine hc.mono ?_
      rintro e w' (⟨rfl, hI⟩ | ⟨rfl, hZ⟩)
      · have HI := Aside0.mk hI
        clear hI
        go_wp2
        go_roundg (xs.length - (k + 1))
        case measure => omega
        case rel => exact ⟨k + 1, by omega, Nat.le_refl _, rfl, HI⟩
      · go_wp2
        refine bodyPost_ret (results_none rfl _ _ _) rfl ?_
        exact ⟨rfl, Or.inr hZ⟩
    · obtain rfl : k = xs.length := by omega
      have d1 : decide ((xs.length : Int) < (xs.length : Int)) = false := decide_eq_false (by omega)
      go_wp2
      go_end0
      exact ⟨rfl, Or.inl HI.out⟩
/-! What Set does to a map's pairs, told by their members. -/
theorem rise_key {xs : List P2} (hr : Rise xs) : ∀ {p q : P2}, p ∈ xs → q ∈ xs → p.1 = q.1 → p = q := by
  induction xs with
  | nil => intro p q hp; cases hp
  | cons a r ih =>
    intro p q hp hq he
    have hr' := List.pairwise_cons.mp hr
    rcases List.mem_cons.mp hp with h1 | h1
    · rcases List.mem_cons.mp hq with h2 | h2
      · rw [h1, h2]
      · have := hr'.1 q h2
        rw [← h1, he, lt_irrefl] at this; cases this
    · rcases List.mem_cons.mp hq with h2 | h2
      · have := hr'.1 p h1
        rw [← h2, he, lt_irrefl] at this; cases this
      · exact ih hr'.2 h1 h2 he
theorem has_iff {xs : List P2} (hr : Rise xs) (k : Int) : has xs k = true ↔ ∃ x, (k, x) ∈ xs := by
  constructor
  · intro h
    obtain ⟨h1, h2⟩ := has_get h
    exact ⟨xs[pos xs k].2, by have h3 := List.getElem_mem h1; rwa [show xs[pos xs k] = (k, xs[pos xs k].2) from Prod.ext h2 rfl] at h3⟩
  · rintro ⟨x, hx⟩
    obtain ⟨t, ht, he⟩ := List.mem_iff_getElem.mp hx
    have hp : pos xs k = t := by
      rcases Nat.lt_trichotomy t (pos xs k) with h | h | h
      · have := pos_lt xs k t h
        rw [he, lt_irrefl] at this; cases this
      · exact h.symm
      · have h1 := pos_ge xs k hr (pos xs k) (Nat.le_refl _) (by omega)
        have h2 := (List.pairwise_iff_getElem.mp hr) (pos xs k) t (by omega) ht h
        rw [he] at h2
        have h3 : lt xs[pos xs k].1 k = true := h2
        rw [h1] at h3; cases h3
    unfold has
    rw [hp, List.getElem?_eq_getElem ht, he]
    simp [cmpv, lt_irrefl]
theorem val_of {xs : List P2} (hr : Rise xs) {k : Int} {x : Hdr} (h : (k, x) ∈ xs) : valL xs k = x := by
  have hh := (has_iff hr k).mpr ⟨x, h⟩
  obtain ⟨h1, h2⟩ := has_get hh
  unfold valL
  rw [if_pos hh, List.getD_eq_getElem?_getD, List.getElem?_eq_getElem h1, Option.getD_some]
  have := rise_key hr (List.getElem_mem h1) h h2
  rw [this]
theorem mem_setL {xs : List P2} (hr : Rise xs) (k : Int) (x : Hdr) (p : P2) : p ∈ setL xs k x ↔ p = (k, x) ∨ (p.1 ≠ k ∧ p ∈ xs) := by
  unfold setL
  split
  · rename_i hh
    obtain ⟨h1, h2⟩ := has_get hh
    constructor
    · intro hp
      rcases List.mem_or_eq_of_mem_set hp with hp' | rfl
      · by_cases hk : p.1 = k
        · obtain ⟨t, ht, he⟩ := List.mem_iff_getElem.mp hp
          rw [List.getElem_set] at he
          split at he
          · exact Or.inl he.symm
          · rename_i hne
            have ht' : t < xs.length := by simpa using ht
            have : xs[t] = xs[pos xs k] := rise_key hr (List.getElem_mem _) (List.getElem_mem _) (by rw [he, hk, h2])
            have hpw := List.pairwise_iff_getElem.mp hr
            rcases Nat.lt_or_gt_of_ne hne with h | h
            · have h3 := hpw (pos xs k) t h1 ht' h
              rw [this, lt_irrefl] at h3; cases h3
            · have h3 := hpw t (pos xs k) ht' h1 h
              rw [this, lt_irrefl] at h3; cases h3
        · exact Or.inr ⟨hk, hp'⟩
      · exact Or.inl rfl
    · rintro (rfl | ⟨hk, hp⟩)
      · exact List.mem_set h1 _
      · obtain ⟨t, ht, he⟩ := List.mem_iff_getElem.mp hp
        have hne : pos xs k ≠ t := by
          rintro rfl
          exact hk (by rw [← he, h2])
        refine List.mem_iff_getElem.mpr ⟨t, by simpa using ht, ?_⟩
        rw [List.getElem_set_ne hne, he]
  · rename_i hh
    have hno : ∀ x, (k, x) ∉ xs := fun x hx => hh ((has_iff hr k).mpr ⟨x, hx⟩)
    constructor
    · intro hp
      rcases List.mem_append.mp hp with hp | hp
      · have hp' := List.mem_of_mem_take hp
        exact Or.inr ⟨fun e => hno p.2 (by rw [← e]; exact hp'), hp'⟩
      · rcases List.mem_cons.mp hp with rfl | hp
        · exact Or.inl rfl
        · have hp' := List.mem_of_mem_drop hp
          exact Or.inr ⟨fun e => hno p.2 (by rw [← e]; exact hp'), hp'⟩
    · rintro (rfl | ⟨hk, hp⟩)
      · exact List.mem_append.mpr (Or.inr (List.mem_cons_self ..))
      · rw [← List.take_append_drop (pos xs k) xs] at hp
        rcases List.mem_append.mp hp with hp | hp
        · exact List.mem_append.mpr (Or.inl hp)
        · exact List.mem_append.mpr (Or.inr (List.mem_cons_of_mem _ hp))
theorem setL_rise {xs : List P2} (hr : Rise xs) (k : Int) (x : Hdr) : Rise (setL xs k x) := by
  unfold setL
  split
  · rename_i hh
    obtain ⟨h1, h2⟩ := has_get hh
    have hm : (xs.set (pos xs k) (k, x)).map (·.1) = xs.map (·.1) := by
      rw [List.map_set]
      show (xs.map (·.1)).set (pos xs k) k = _
      apply List.ext_getElem
      · simp
      · intro i h3 h4
        rw [List.getElem_set]
        split
        · rename_i h5
          subst h5
          rw [List.getElem_map, h2]
        · rfl
    have e : ∀ l : List P2, Rise l ↔ (l.map (·.1)).Pairwise (fun a b => lt a b = true) := fun l => by
      unfold Rise
      rw [List.pairwise_map]
    rw [e, hm, ← e]
    exact hr
  · rename_i hh
    have hno : ∀ x, (k, x) ∉ xs := fun x hx => hh ((has_iff hr k).mpr ⟨x, hx⟩)
    have hlo : ∀ p ∈ xs.take (pos xs k), lt p.1 k = true := fun p hp => by
      obtain ⟨t, ht, he⟩ := List.mem_iff_getElem.mp hp
      rw [List.length_take] at ht
      rw [List.getElem_take] at he
      rw [← he]
      exact pos_lt xs k t (by omega)
    have hhi : ∀ p ∈ xs.drop (pos xs k), lt k p.1 = true := fun p hp => by
      obtain ⟨t, ht, he⟩ := List.mem_iff_getElem.mp hp
      rw [List.length_drop] at ht
      rw [List.getElem_drop] at he
      have h1 := pos_ge xs k hr (pos xs k + t) (by omega) (by omega)
      rw [he] at h1
      cases h2 : lt k p.1 with
      | true => rfl
      | false => exact absurd (by rw [← lt_total h1 h2]; exact List.mem_of_mem_drop hp) (hno p.2)
    have hd : Rise (xs.take (pos xs k) ++ xs.drop (pos xs k)) := by rw [List.take_append_drop]; exact hr
    obtain ⟨ha, hb, hab⟩ := List.pairwise_append.mp hd
    refine List.pairwise_append.mpr ⟨ha, List.pairwise_cons.mpr ⟨fun p hp => hhi p hp, hb⟩, ?_⟩
    intro a h1 c h2
    rcases List.mem_cons.mp h2 with rfl | h2
    · exact hlo a h1
    · exact hab a h1 c h2
theorem has_setL {xs : List P2} (hr : Rise xs) (k k' : Int) (x : Hdr) : has (setL xs k x) k' = true ↔ k' = k ∨ has xs k' = true := by
  rw [has_iff (setL_rise hr k x), has_iff hr]
  constructor
  · rintro ⟨y, h⟩
    rcases (mem_setL hr k x _).mp h with h | ⟨_, h⟩
    · exact Or.inl (Prod.mk.inj h).1
    · exact Or.inr ⟨y, h⟩
  · rintro (rfl | ⟨y, h⟩)
    · exact ⟨x, (mem_setL hr k' x _).mpr (Or.inl rfl)⟩
    · by_cases hk : k' = k
      · exact ⟨x, (mem_setL hr k x _).mpr (Or.inl (by rw [hk]))⟩
      · exact ⟨y, (mem_setL hr k x _).mpr (Or.inr ⟨hk, h⟩)⟩
/-- Two lists that rise and have the same members are the same. -/
theorem rise_ext : ∀ {xs ys : List P2}, Rise xs → Rise ys → (∀ p, p ∈ xs ↔ p ∈ ys) → xs = ys
  | [], [], _, _, _ => rfl
  | [], b :: _, _, _, h => by have := (h b).mpr (List.mem_cons_self ..); cases this
  | a :: _, [], _, _, h => by have := (h a).mp (List.mem_cons_self ..); cases this
  | a :: r, b :: s, hx, hy, h => by
    have hx' := List.pairwise_cons.mp hx
    have hy' := List.pairwise_cons.mp hy
    have hab : a = b := by
      rcases List.mem_cons.mp ((h a).mp (List.mem_cons_self ..)) with h1 | h1
      · exact h1
      · rcases List.mem_cons.mp ((h b).mpr (List.mem_cons_self ..)) with h2 | h2
        · exact h2.symm
        · have h3 := hy'.1 a h1
          have h4 := hx'.1 b h2
          have := lt_trans h3 h4
          rw [lt_irrefl] at this; cases this
    subst hab
    refine congrArg (a :: ·) (rise_ext hx'.2 hy'.2 (fun p => ⟨fun hp => ?_, fun hp => ?_⟩))
    · rcases List.mem_cons.mp ((h p).mp (List.mem_cons_of_mem _ hp)) with rfl | h1
      · have := hx'.1 p hp
        rw [lt_irrefl] at this; cases this
      · exact h1
    · rcases List.mem_cons.mp ((h p).mpr (List.mem_cons_of_mem _ hp)) with rfl | h1
      · have := hy'.1 p hp
        rw [lt_irrefl] at this; cases this
      · exact h1
end Go.Proofs.Ytchpagboglomoaa.GP.MU
