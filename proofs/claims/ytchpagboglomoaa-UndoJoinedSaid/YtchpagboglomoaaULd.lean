/- Reading a state, plainly: what the texts of a state say, or what is wrong with them; a state that was written is read again as it was. No program in sight. -/
import Derived.Test.YtchpagboglomoaaUState
namespace Go.Proofs.Ytchpagboglomoaa.Ownd
open Go.RowKit Go.Proofs.Ytchpagboglomoaa.GP.MU Go.Proofs.Ytchpagboglomoaa.GP Go.Proofs.YtchpagboglomoaaW.PrintWords Go.Proofs.YtchpagboglomoaaW.PrintLast Go.Proofs.YtchpagboglomoaaW.PrintMore
set_option linter.unusedVariables false
set_option linter.unusedSimpArgs false
theorem Own.row_R {α : Type} {w W W1 : World} {l : List Thing} (h : Own w W l) (hb : Below W.heap.size W W1) {d : Kd α} {e : Nat} {v : Value} {xs : List α} (hR : Kd.R d e W1 W.heap.size (fun _ => True) v xs) : Own w W1 (.row d e v xs :: l) :=
  h.room.row_new 0 rfl hb (Kd.N_mono (Kd.R_N (Kd.R_bound hR)) (fun k hk => hk.2.1)) (fun k hk => hk)
theorem Own.lit_empty {α : Type} {w W : World} {l : List Thing} (h : Own w W l) (d : Kd α) (e : Nat) : Own w (W.alloc (.cells #[] e)) (.row d e (.slice (some ⟨W.heap.size, 0, none⟩) 0 0) [] :: l) :=
  h.room.row_new 0 rfl (below_alloc (Below.refl _ _) _) (N_empty d e W (fun k => W.heap.size ≤ k) (Nat.le_refl _)) (fun k hk => hk)
/-- The entries of so many texts, or the first error. -/
def entGo : List ByteArray → List UE → List UE × Int
  | [], acc => (acc, 0)
  | t :: r, acc => if (getE t).2 = 0 then entGo r (acc ++ [(getE t).1]) else ([], (getE t).2)
/-- One transaction of a state: its number, its entries, the error's number. -/
def loadT (s : ByteArray) (last : Int) : Int × List UE × Int :=
  if s.size < 6 then (0, [], 3)
  else if (splitP (s.extract 6 s.size)).2 ≠ 0 then (0, [], (splitP (s.extract 6 s.size)).2)
  else if (entGo (splitP (s.extract 6 s.size)).1 []).2 ≠ 0 then (0, [], (entGo (splitP (s.extract 6 s.size)).1 []).2)
  else if ((numL (s.extract 0 6).data.toList : Nat) : Int) ≤ last then (0, [], 2)
  else ((numL (s.extract 0 6).data.toList : Nat), (entGo (splitP (s.extract 6 s.size)).1 []).1, 0)
def loadGo : List ByteArray → Int → Opn → Opn × Int
  | [], _, acc => (acc, 0)
  | t :: r, last, acc => if (loadT t last).2.2 = 0 then loadGo r (loadT t last).1 (acc ++ [((loadT t last).1, (loadT t last).2.1)]) else ([], (loadT t last).2.2)
def loadS (s : ByteArray) : Opn × Int := if s.size = 0 then ([], 0) else if (splitP s).2 ≠ 0 then ([], (splitP s).2) else loadGo (splitP s).1 0 []
theorem split_len (s : ByteArray) : (splitP s).1.length ≤ 65535 := by
  by_cases h : (splitP s).2 = 0
  · exact (join_split s (splitP s).1 (by rw [← h])).1
  · unfold splitP at h ⊢
    split
    · rename_i h1
      rw [if_pos h1] at h
      unfold splitOut at h ⊢
      split
      · rename_i h2
        rw [if_pos h2] at h
        split
        · rename_i h3
          rw [if_pos h3] at h
          exact absurd rfl h
        · simp
      · simp
    · simp
theorem entGo_len : ∀ (l : List ByteArray) (acc : List UE), (entGo l acc).1.length ≤ acc.length + l.length
  | [], acc => by simp [entGo]
  | t :: r, acc => by
    unfold entGo
    split
    · have := entGo_len r (acc ++ [(getE t).1])
      simp only [List.length_append, List.length_cons, List.length_nil] at this ⊢
      omega
    · simp
theorem loadT_len (s : ByteArray) (last : Int) : (loadT s last).2.1.length ≤ 65535 := by
  unfold loadT
  split
  · simp
  · split
    · simp
    · split
      · simp
      · split
        · simp
        · have h1 := entGo_len (splitP (s.extract 6 s.size)).1 []
          have h2 := split_len (s.extract 6 s.size)
          simp only [List.length_nil] at h1
          show (entGo (splitP (s.extract 6 s.size)).1 []).1.length ≤ 65535
          omega
theorem loadT_lt (s : ByteArray) (last : Int) (h : (loadT s last).2.2 = 0) : last < (loadT s last).1 ∧ (loadT s last).1 < 281474976710656 := by
  revert h
  unfold loadT
  split
  · intro h; cases h
  · rename_i h0
    split
    · rename_i h1; intro h; exact absurd h h1
    · split
      · rename_i h1; intro h; exact absurd h h1
      · split
        · intro h; cases h
        · rename_i h1
          intro _
          refine ⟨by omega, ?_⟩
          have h2 := numL_lt (s.extract 0 6).data.toList
          rw [show (s.extract 0 6).data.toList.length = 6 by rw [size_len, extract_size _ _ _ (by omega)]] at h2
          show ((numL (s.extract 0 6).data.toList : Nat) : Int) < _
          omega
theorem setM_append {M : Opn} {n : Int} {es : List UE} (h : ∀ m ∈ M, m.1 < n) : setM M n es = M ++ [(n, es)] := by
  induction M with
  | nil => rfl
  | cons a r ih =>
    have h1 := h a (List.mem_cons_self ..)
    show (if n < a.1 then _ else _) = _
    rw [if_neg (show ¬ n < a.1 by omega), if_neg (show ¬ a.1 = n by omega), ih (fun m hm => h m (List.mem_cons_of_mem _ hm))]
    rfl
/-! What was written is read as it was. -/
theorem get_putE {x : UE} (h : okE x = true) : getE (putE x) = (x, 0) := by
  obtain ⟨h1, h2, h3, h4⟩ := okE_yes h
  obtain ⟨a, b, s⟩ := x
  simp only [] at h1 h2 h3 h4
  have hp : putE (a, b, s) = (strOfNums [a] ++ strOfNums [b / 256, b % 256]) ++ s := if_pos h
  have hL : (putE (a, b, s)).data.toList = be1 a ++ be2 b ++ s.data.toList := by
    rw [hp, ByteArray.data_append, ByteArray.data_append, Array.toList_append, Array.toList_append, be1_str, be2_str]
  have hsz : (putE (a, b, s)).size = 3 + s.size := by
    rw [← size_len, hL]
    simp [be1, be2]
    omega
  have hX : getX (putE (a, b, s)) = (a, b, s) := by
    unfold getX
    refine Prod.ext ?_ (Prod.ext ?_ ?_)
    · show bt _ 0 = a
      rw [show bt (putE (a, b, s)) 0 = (((putE (a, b, s)).data.toList.getD 0 0).toNat : Int) from bt_nat _ 0, hL]
      show ((UInt8.ofNat a.toNat).toNat : Int) = a
      rw [UInt8.toNat_ofNat']
      omega
    · show ((num2 (putE (a, b, s)) 1 : Nat) : Int) = b
      refine be2_get b h2 (by omega) (putE (a, b, s)) 1 s.data.toList ?_
      rw [hL]; rfl
    · show (putE (a, b, s)).extract 3 (putE (a, b, s)).size = s
      apply data_ext
      rw [extract_list, hL, hsz]
      show (List.drop 3 (UInt8.ofNat a.toNat :: UInt8.ofNat (b / 256).toNat :: UInt8.ofNat (b % 256).toNat :: s.data.toList)).take (3 + s.size - 3) = _
      rw [List.drop_succ_cons, List.drop_succ_cons, List.drop_succ_cons, List.drop_zero, Nat.add_sub_cancel_left, ← size_len, List.take_length]
  unfold getE
  rw [if_neg (by omega), hX, h, if_pos rfl]
theorem putE_size {x : UE} (h : okE x = true) : (putE x).size ≤ 67 := by
  obtain ⟨h1, h2, h3, h4⟩ := okE_yes h
  unfold putE
  rw [if_pos h, ByteArray.size_append, ByteArray.size_append]
  show (1 : Nat) + 2 + _ ≤ 67
  omega
theorem entGo_put : ∀ (l acc : List UE), (∀ x ∈ l, okE x = true) → entGo (l.map putE) acc = (acc ++ l, 0)
  | [], acc, _ => by simp [entGo]
  | x :: r, acc, h => by
    rw [List.map_cons]
    unfold entGo
    rw [get_putE (h x (List.mem_cons_self ..)), if_pos rfl, entGo_put r _ (fun y hy => h y (List.mem_cons_of_mem _ hy)), List.append_assoc]
    rfl
theorem joinS_data (l : List ByteArray) (h1 : l.length ≤ 65535) (h2 : ∀ t ∈ l, t.size ≤ 65535) : (joinS l).data.toList = joinL l := by
  unfold joinS
  rw [if_pos h1, if_pos (by
    unfold shortAll
    rw [List.all_eq_true]
    intro t ht
    exact decide_eq_true (h2 t ht))]
/-- What a state may hold so that it is read again: entries that may be, few enough of them. -/
def fitM (M : Opn) : Prop := M.length ≤ 900 ∧ ∀ m ∈ M, 0 < m.1 ∧ m.1 < 281474976710656 ∧ m.2.length ≤ 900 ∧ ∀ x ∈ m.2, okE x = true
theorem fit_ok {M : Opn} (h : fitM M) : okM M := ⟨Nat.le_trans h.1 (by decide), fun m hm => ⟨by have := (h.2 m hm).1; omega, (h.2 m hm).2.1, Nat.le_trans (h.2 m hm).2.2.1 (by decide)⟩⟩
theorem flat_small : ∀ (l : List ByteArray) (b : Nat), (∀ t ∈ l, t.size ≤ b) → (l.flatMap joinB).length ≤ l.length * (2 + b)
  | [], _, _ => by simp
  | t :: r, b, h => by
    have h1 := flat_small r b (fun x hx => h x (List.mem_cons_of_mem _ hx))
    have h2 := h t (List.mem_cons_self ..)
    rw [List.flatMap_cons, List.length_append, joinB_length, List.length_cons, Nat.succ_mul]
    omega
theorem ents_small {l : List UE} (h1 : l.length ≤ 900) (h2 : ∀ x ∈ l, okE x = true) : (l.map putE).length ≤ 65535 ∧ (∀ t ∈ l.map putE, t.size ≤ 65535) ∧ (joinS (l.map putE)).size ≤ 62102 := by
  have ha : (l.map putE).length ≤ 65535 := by rw [List.length_map]; omega
  have hb : ∀ t ∈ l.map putE, t.size ≤ 67 := by
    intro t ht
    obtain ⟨x, hx, rfl⟩ := List.mem_map.mp ht
    exact putE_size (h2 x hx)
  have hc : ∀ t ∈ l.map putE, t.size ≤ 65535 := fun t ht => Nat.le_trans (hb t ht) (by decide)
  refine ⟨ha, hc, ?_⟩
  rw [← size_len, joinS_data _ ha hc]
  have hd := flat_small _ 67 hb
  rw [List.length_map] at hd
  show (be2 _ ++ _).length ≤ _
  rw [List.length_append, be2_length]
  omega
theorem six_num {n : Int} (h0 : 0 ≤ n) (h1 : n < 281474976710656) (r : ByteArray) : ((numL ((six n ++ r).extract 0 6).data.toList : Nat) : Int) = n := by
  have : ((six n ++ r).extract 0 6).data.toList = be6 n := by
    rw [extract_list, ByteArray.data_append, Array.toList_append]
    show (List.drop 0 (be6 n ++ r.data.toList)).take (6 - 0) = _
    rw [List.drop_zero]
    rfl
  rw [this]
  exact numL_be6 n h0 h1
theorem six_rest (n : Int) (r : ByteArray) : (six n ++ r).extract 6 (six n ++ r).size = r := by
  apply data_ext
  rw [extract_list, ByteArray.data_append, Array.toList_append, ByteArray.size_append, six_size]
  show (List.drop 6 (be6 n ++ r.data.toList)).take (6 + r.size - 6) = _
  rw [Nat.add_sub_cancel_left]
  show r.data.toList.take r.size = _
  rw [← size_len, List.take_length]
theorem loadT_state {m : Int × List UE} (h0 : 0 < m.1) (h1 : m.1 < 281474976710656) (h2 : m.2.length ≤ 900) (h3 : ∀ x ∈ m.2, okE x = true) (last : Int) (hl : last < m.1) : loadT (stateT m) last = (m.1, m.2, 0) := by
  obtain ⟨ha, hb, hc⟩ := ents_small h2 h3
  have hs : splitP (joinS (m.2.map putE)) = (m.2.map putE, 0) := split_join _ ha hb _ (joinS_data _ ha hb)
  unfold loadT stateT
  rw [six_rest, six_num (by omega) h1, hs, if_neg (by rw [ByteArray.size_append, six_size]; omega), if_neg (by simp), entGo_put _ _ h3, if_neg (by simp), if_neg (by omega)]
  rfl
theorem loadGo_state : ∀ (M acc : Opn) (last : Int), 0 ≤ last → RiseM M → (∀ m ∈ M, last < m.1) → (∀ m ∈ M, 0 < m.1 ∧ m.1 < 281474976710656 ∧ m.2.length ≤ 900 ∧ ∀ x ∈ m.2, okE x = true) → loadGo (M.map stateT) last acc = (acc ++ M, 0)
  | [], acc, _, _, _, _, _ => by simp [loadGo]
  | m :: r, acc, last, hl, hr, h1, h2 => by
    have hr' := List.pairwise_cons.mp hr
    obtain ⟨a0, a1, a2, a3⟩ := h2 m (List.mem_cons_self ..)
    rw [List.map_cons]
    unfold loadGo
    rw [loadT_state a0 a1 a2 a3 last (h1 m (List.mem_cons_self ..)), if_pos rfl, loadGo_state r _ m.1 (by omega) hr'.2 (fun q hq => hr'.1 q hq) (fun q hq => h2 q (List.mem_cons_of_mem _ hq)), List.append_assoc]
    rfl
theorem stateT_size {m : Int × List UE} (h2 : m.2.length ≤ 900) (h3 : ∀ x ∈ m.2, okE x = true) : (stateT m).size ≤ 65535 := by
  unfold stateT
  rw [ByteArray.size_append, six_size]
  have := (ents_small h2 h3).2.2
  omega
/-- A state that was written is read again. -/
theorem load_state {M : Opn} (hr : RiseM M) (hf : fitM M) : loadS (stateM M) = (M, 0) := by
  unfold stateM
  by_cases h0 : M = []
  · subst h0; rfl
  · rw [if_neg h0]
    have ha : (M.map stateT).length ≤ 65535 := by rw [List.length_map]; have := hf.1; omega
    have hb : ∀ t ∈ M.map stateT, t.size ≤ 65535 := by
      intro t ht
      obtain ⟨m, hm, rfl⟩ := List.mem_map.mp ht
      exact stateT_size (hf.2 m hm).2.2.1 (hf.2 m hm).2.2.2
    have hs := split_join _ ha hb _ (joinS_data _ ha hb)
    unfold loadS
    rw [hs, if_neg, if_neg (by simp), loadGo_state M [] 0 (Int.le_refl _) hr (fun m hm => (hf.2 m hm).1) hf.2, List.nil_append]
    rw [← size_len, joinS_data _ ha hb]
    show ¬ (be2 _ ++ _).length = 0
    rw [List.length_append, be2_length]
    omega
end Go.Proofs.Ytchpagboglomoaa.Ownd
