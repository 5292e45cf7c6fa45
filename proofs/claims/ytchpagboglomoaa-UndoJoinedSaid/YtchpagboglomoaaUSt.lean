/- Open: the state of all, as a text. Conditions: at most 65535 transactions, whose numbers have six bytes, 65535 entries each. -/
import Derived.Test.YtchpagboglomoaaUTxB
namespace Go.Proofs.Ytchpagboglomoaa.Ownd
open Go.RowKit Go.Proofs.Ytchpagboglomoaa.GP.MU Go.Proofs.Ytchpagboglomoaa.GP Go.Proofs.YtchpagboglomoaaW.PrintWords Go.Proofs.YtchpagboglomoaaW.PrintLast Go.Proofs.YtchpagboglomoaaW.PrintMore
set_option linter.unusedVariables false
set_option linter.unusedSimpArgs false
theorem infoS : (Try.prog.info? 9).map (fun i => (i.zero, i.size, i.bytes)) = some (some (.string ⟨#[]⟩), 1, 16) := by kernel_rfl
/-! What a state is. -/
def joinS (l : List ByteArray) : ByteArray := if l.length ≤ 65535 then (if shortAll l = true then ⟨(joinL l).toArray⟩ else ⟨#[]⟩) else ⟨#[]⟩
theorem join_some (l : List ByteArray) : record_Join.f l = some (joinS l) := by
  unfold record_Join.f joinS
  split <;> rfl
theorem rjoin_some (l : List ByteArray) : concordanceref07_Join.f l = some (joinS l) := join_some l
theorem joinS_size (l : List ByteArray) : (joinS l).size ≤ 4300000000 := by
  unfold joinS
  split
  · rename_i hl
    split
    · rename_i hs
      have h : ∀ i (h : i < l.length), i < l.length → l[i].size ≤ 65535 := fun i h _ => by
        have := List.all_eq_true.mp hs l[i] (List.getElem_mem h)
        simpa using this
      have h1 := join_take_length l l.length (Nat.le_refl _) h
      rw [List.take_length] at h1
      show (joinL l).toArray.size ≤ _
      have h2 : (joinL l).length = 2 + (l.flatMap joinB).length := by simp [joinL, be2_length]
      rw [List.size_toArray, h2]
      have : l.length * 65537 ≤ 65535 * 65537 := Nat.mul_le_mul_right _ hl
      omega
    · exact Nat.zero_le _
  · exact Nat.zero_le _
def six (n : Int) : ByteArray := strOfNums [n / 1099511627776, n / 4294967296 % 256, n / 16777216 % 256, n / 65536 % 256, n / 256 % 256, n % 256]
theorem six_size (n : Int) : (six n).size = 6 := rfl
def stateT (m : Int × List UE) : ByteArray := six m.1 ++ joinS (m.2.map putE)
def stateM (M : Opn) : ByteArray := if M = [] then ⟨#[]⟩ else joinS (M.map stateT)
/-- Numbers of six bytes, entries that can be counted. -/
def okM (M : Opn) : Prop := M.length ≤ 65535 ∧ ∀ m ∈ M, 0 ≤ m.1 ∧ m.1 < 281474976710656 ∧ m.2.length ≤ 65535
theorem getM_mem {M : Opn} {k : Int} {es : List UE} (h : getM M k = some es) : (k, es) ∈ M := by
  induction M with
  | nil => cases h
  | cons a r ih =>
    rw [getM_cons] at h
    split at h
    · cases h
    · split at h
      · rename_i h1 h2
        obtain rfl := Option.some.inj h
        rw [← h2]
        exact List.mem_cons_self ..
      · exact List.mem_cons_of_mem _ (ih h)
theorem getM_of {M : Opn} (hr : RiseM M) {k : Int} {es : List UE} (h : (k, es) ∈ M) : getM M k = some es := by
  induction M with
  | nil => cases h
  | cons a r ih =>
    have hr' := List.pairwise_cons.mp hr
    rw [getM_cons]
    rcases List.mem_cons.mp h with rfl | h'
    · rw [if_neg (Int.lt_irrefl _), if_pos rfl]
    · have h3 : a.1 < k := hr'.1 _ h'
      rw [if_neg (show ¬ k < a.1 by omega), if_neg (show ¬ a.1 = k by omega)]
      exact ih hr'.2 h'
theorem ent_at {M : Opn} (hr : RiseM M) (i : Nat) (hi : i < M.length) : ent M M[i].1 = M[i].2 := by
  have h : (M[i].1, M[i].2) ∈ M := List.getElem_mem hi
  unfold ent
  rw [getM_of hr h]
  rfl
theorem ent_small {M : Opn} (h : okM M) (k : Int) : (ent M k).length ≤ 65535 := by
  unfold ent
  cases hg : getM M k with
  | none => exact Nat.zero_le _
  | some es => exact (h.2 _ (getM_mem hg)).2.2
/-! Entries and Txns, the Open anywhere among a call's things. -/
set_option maxHeartbeats 2000000 in
set_option maxRecDepth 100000 in
theorem entries_I {w W : World} {l : List Thing} (h : Own w W l) {i j f g : Nat} {v : Value} {xs : List P2} {F : World → Prop} {M : Opn} (hm : IsMap l i j g v xs) (hf : l[f]? = some (.fact F)) (hi : IsOpen xs F M) (hl : M.length ≤ 100000) (k : Int) (he : (ent M k).length ≤ 1000000) :
    Calls Try.prog 26 #[.pointer (some ⟨g, 0, none⟩), .int .i64 k] W fun ex W' => ∃ A c, ex = .returned (.slice A (ent M k).length c) ∧ Own w W' (.row kE 36 (.slice A (ent M k).length c) (ent M k) :: l) := by
  have hlen : xs.length = M.length := (hi.heads W (h.now f hf)).length
  have HG := Aside0.mk (get_O h hm hi.rise (by omega) k)
  have HC : Aside0 (∀ W' : World, Below W.heap.size W W' → Calls Try.prog 31 #[.slice (valL xs k).1 (valL xs k).2.1 (valL xs k).2.2] W' fun ex W' => ∃ A c, ex = .returned (.slice A (ent M k).length c) ∧ Own w W' (.row kE 36 (.slice A (ent M k).length c) (ent M k) :: l)) :=
    ⟨fun W' hb => cloneE_O (h.below hb) ((hi.heads W' ((h.below hb).now f hf)).val k) he⟩
  clear h hi hlen hl he hf hm
  generalize valL xs k = y at HG HC
  generalize has xs k = b at HG
  obtain ⟨yA, yn, yc⟩ := y
  go_enter Try.func26, Try.ntmps26
  go_wp2_with (first
    | (go_at_call 30; refine HG.out.mono ?_; rintro e w' ⟨rfl, hb'⟩; have HB := Aside0.mk hb'; clear hb')
    | (go_at_call 31; refine (HC.out _ HB.out).mono ?_; rintro e w' ⟨A, c, rfl, hO⟩; have HO := Aside0.mk hO; clear hO))
  go_ret
  exact ⟨A, c, rfl, HO.out⟩
theorem encs_keys (xs : List P2) : keysV xs = encs (Value.int .i64) (xs.map (·.1)) := by
  unfold keysV encs
  rw [List.map_map]; rfl
theorem txns_I {w W : World} {l : List Thing} (h : Own w W l) {i j f g : Nat} {v : Value} {xs : List P2} {F : World → Prop} {M : Opn} (hm : IsMap l i j g v xs) (hf : l[f]? = some (.fact F)) (hi : IsOpen xs F M) (hl : M.length ≤ 100000) :
    Calls Try.prog 27 #[.pointer (some ⟨g, 0, none⟩)] W fun ex W' => ∃ A c, ex = .returned (.slice A M.length c) ∧ Own w W' (.row (Kd.int .i64) 3 (.slice A M.length c) (M.map (·.1)) :: l) := by
  have hH := hi.heads W (h.now f hf)
  have hlen : xs.length = M.length := hH.length
  obtain ⟨A, c, rfl, hlc, hC⟩ := h.reads j hm.row
  refine (txns_C ((h.cell i hm.box 0).trans rfl) hC (by omega)).mono ?_
  rintro ex W' ⟨v', rfl, ho, hb⟩
  rw [encs_keys, show xs.length = (xs.map (·.1)).length from (List.length_map _).symm] at ho
  have hN : Kd.N (Kd.int .i64) 3 W' W.heap.size (fun k => W.heap.size ≤ k) v' (xs.map (·.1)) := Kd.R_N (Kd.R_of_own ho (fun k hk => own_base ho k hk))
  rw [hH.keys] at hN
  have hO : Own w W' (.row (Kd.int .i64) 3 v' (M.map (·.1)) :: l) := h.room.row_new 0 rfl hb hN (fun k hk => hk)
  obtain ⟨A', c', e⟩ := hO.row 0 rfl
  rw [List.length_map] at e
  subst e
  exact ⟨A', c', rfl, hO⟩
end Go.Proofs.Ytchpagboglomoaa.Ownd
