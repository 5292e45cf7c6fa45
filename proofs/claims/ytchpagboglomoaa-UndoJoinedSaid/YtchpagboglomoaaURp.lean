/- Replaying a log, plainly. No program in sight. -/
import Derived.Test.YtchpagboglomoaaULoadB
namespace Go.Proofs.Ytchpagboglomoaa.Ownd
open Go.RowKit Go.Proofs.Ytchpagboglomoaa.GP.MU Go.Proofs.Ytchpagboglomoaa.GP Go.Proofs.YtchpagboglomoaaW.PrintWords Go.Proofs.YtchpagboglomoaaW.PrintLast Go.Proofs.YtchpagboglomoaaW.PrintMore
set_option linter.unusedVariables false
set_option linter.unusedSimpArgs false
/-- A record of a log, as far as it is looked at: its transaction, its kind, what undoes it, how many it undoes. -/
abbrev Rc := Int × (Int × (ByteArray × Int))
abbrev kR : Kd Rc := Kd.iso (Kd.pair (Kd.int .i64) (Kd.pair (Kd.int .i64) (Kd.pair (Kd.int .i64) (Kd.pair Kd.string (Kd.pair (Kd.int .i64) kH))))) (fun r : Rc => ((0 : Int), r.1, r.2.1, r.2.2.1, r.2.2.2, hz))
abbrev rcCells (r : Rc) : List Value := [.int .i64 0, .int .i64 r.1, .int .i64 r.2.1, .string r.2.2.1, .int .i64 r.2.2.2, .slice none 0 0]
theorem kR_is {W : World} {r : Rc} {cs : List Value} (h : kR.K W r cs) : cs = rcCells r := by
  obtain ⟨c0, d0, rfl, h0, c1, d1, rfl, h1, c2, d2, rfl, h2, c3, d3, rfl, h3, c4, c5, rfl, h4, h5⟩ := h
  have e0 : c0 = [.int .i64 0] := h0
  have e1 : c1 = [.int .i64 r.1] := h1
  have e2 : c2 = [.int .i64 r.2.1] := h2
  have e3 : c3 = [.string r.2.2.1] := h3
  have e4 : c4 = [.int .i64 r.2.2.2] := h4
  have e5 : c5 = [.slice none 0 0] := h5
  rw [e0, e1, e2, e3, e4, e5]; rfl
theorem kR_mk (W : World) (r : Rc) : kR.K W r (rcCells r) :=
  ⟨[.int .i64 0], _, rfl, rfl, [.int .i64 r.1], _, rfl, rfl, [.int .i64 r.2.1], _, rfl, rfl, [.string r.2.2.1], _, rfl, rfl, [.int .i64 r.2.2.2], [.slice none 0 0], rfl, rfl, rfl⟩
theorem flatR (W W' : World) (x : Rc) (c : List Value) (h : kR.K W x c) : kR.K W' x c := by rw [kR_is h]; exact kR_mk W' x
/-- So many entries are popped; 19: there was none. -/
def popsM : Nat → Opn → Int → Opn × Int
  | 0, M, _ => (M, 0)
  | n + 1, M, k => if (ent M k).isEmpty = true then (M, 19) else popsM n (popM M k) k
def repAdd (M : Opn) (r : Rc) : Opn × Int := if r.2.2.1.size = 0 then (M, 0) else if (getE r.2.2.1).2 ≠ 0 then (M, (getE r.2.2.1).2) else (addM M r.1 (getE r.2.2.1).1, 0)
def repR (M : Opn) (r : Rc) : Opn × Int :=
  if r.2.1 = 2 ∨ r.2.1 = 3 then (delM M r.1, 0)
  else if r.2.1 = 4 then (M, 19)
  else if (repAdd M r).2 ≠ 0 then repAdd M r
  else popsM r.2.2.2.toNat (repAdd M r).1 r.1
def repGo : List Rc → Opn → Opn × Int
  | [], M => (M, 0)
  | r :: t, M => if (repR M r).2 = 0 then repGo t (repR M r).1 else ([], (repR M r).2)
def replayS : List Rc → Opn × Int
  | [] => ([], 1)
  | r :: t => if r.2.1 ≠ 4 then ([], 1) else if (loadS r.2.2.1).2 ≠ 0 then ([], (loadS r.2.2.1).2) else repGo t (loadS r.2.2.1).1
theorem repGo_at (l : List Rc) (M : Opn) (q : Nat) (h : q < l.length) : repGo (l.drop q) M = if (repR M l[q]).2 = 0 then repGo (l.drop (q + 1)) (repR M l[q]).1 else ([], (repR M l[q]).2) := by
  rw [List.drop_eq_getElem_cons h]
  rfl
/-- At most so many transactions, so many entries each. -/
def capM (n : Nat) (M : Opn) : Prop := M.length ≤ n ∧ ∀ m ∈ M, m.2.length ≤ n
theorem capM.mono {n n' : Nat} {M : Opn} (h : capM n M) (hn : n ≤ n') : capM n' M := ⟨Nat.le_trans h.1 hn, fun m hm => Nat.le_trans (h.2 m hm) hn⟩
theorem ent_cap {n : Nat} {M : Opn} (h : capM n M) (k : Int) : (ent M k).length ≤ n := by
  unfold ent
  cases hg : getM M k with
  | none => exact Nat.zero_le _
  | some es => exact h.2 _ (getM_mem hg)
theorem setM_mem {M : Opn} {k : Int} {e : List UE} {m : Int × List UE} (h : m ∈ setM M k e) : m = (k, e) ∨ m ∈ M := by
  induction M with
  | nil => exact .inl (by simpa [setM] using h)
  | cons a r ih =>
    unfold setM at h
    split at h
    · rcases List.mem_cons.mp h with rfl | h
      · exact .inl rfl
      · exact .inr h
    · split at h
      · rcases List.mem_cons.mp h with rfl | h
        · exact .inl rfl
        · exact .inr (List.mem_cons_of_mem _ h)
      · rcases List.mem_cons.mp h with rfl | h
        · exact .inr (List.mem_cons_self ..)
        · rcases ih h with h | h
          · exact .inl h
          · exact .inr (List.mem_cons_of_mem _ h)
theorem delM_mem {M : Opn} {k : Int} {m : Int × List UE} (h : m ∈ delM M k) : m ∈ M := by
  induction M with
  | nil => exact h
  | cons a r ih =>
    unfold delM at h
    split at h
    · exact h
    · split at h
      · exact List.mem_cons_of_mem _ h
      · rcases List.mem_cons.mp h with rfl | h
        · exact List.mem_cons_self ..
        · exact List.mem_cons_of_mem _ (ih h)
theorem add_cap {n : Nat} {M : Opn} (h : capM n M) (k : Int) (x : UE) : capM (n + 1) (addM M k x) := by
  refine ⟨Nat.le_trans (setM_len _ _ _) (Nat.succ_le_succ h.1), fun m hm => ?_⟩
  rcases setM_mem hm with rfl | hm
  · have := ent_cap h k
    simp only [List.length_append, List.length_cons, List.length_nil]
    omega
  · exact Nat.le_succ_of_le (h.2 m hm)
theorem del_cap {n : Nat} {M : Opn} (h : capM n M) (k : Int) : capM n (delM M k) := ⟨Nat.le_trans (delM_len _ _) h.1, fun m hm => h.2 m (delM_mem hm)⟩
theorem getM_none_ent {M : Opn} {k : Int} (h : ent M k ≠ []) : ∃ es, getM M k = some es := by
  unfold ent at h
  cases hg : getM M k with
  | none => rw [hg] at h; exact absurd rfl h
  | some es => exact ⟨es, rfl⟩
theorem set_len_same {M : Opn} {k : Int} {e es : List UE} (h : getM M k = some es) : (setM M k e).length = M.length := by
  induction M with
  | nil => cases h
  | cons a r ih =>
    rw [getM_cons] at h
    show (if k < a.1 then _ else if a.1 = k then _ else _ : Opn).length = _
    split
    · rename_i h1; rw [if_pos h1] at h; cases h
    · rename_i h1
      rw [if_neg h1] at h
      split
      · rfl
      · rename_i h2
        rw [if_neg h2] at h
        rw [List.length_cons, List.length_cons, ih h]
theorem pop_cap {n : Nat} {M : Opn} (h : capM n M) (k : Int) : capM n (popM M k) := by
  unfold popM
  split
  · exact h
  · rename_i h1
    obtain ⟨es, hg⟩ := getM_none_ent h1
    refine ⟨by rw [set_len_same hg]; exact h.1, fun m hm => ?_⟩
    rcases setM_mem hm with rfl | hm
    · have := ent_cap h k
      simp only [List.length_dropLast]
      omega
    · exact h.2 m hm
theorem pops_cap {n : Nat} : ∀ (c : Nat) (M : Opn) (k : Int), capM n M → capM n (popsM c M k).1
  | 0, M, k, h => h
  | c + 1, M, k, h => by
    unfold popsM
    split
    · exact h
    · exact pops_cap c _ k (pop_cap h k)
theorem repAdd_cap {n : Nat} {M : Opn} (h : capM n M) (r : Rc) : capM (n + 1) (repAdd M r).1 := by
  unfold repAdd
  split
  · exact h.mono (Nat.le_succ n)
  · split
    · exact h.mono (Nat.le_succ n)
    · exact add_cap h _ _
theorem repR_cap {n : Nat} {M : Opn} (h : capM n M) (r : Rc) : capM (n + 1) (repR M r).1 := by
  unfold repR
  split
  · exact (del_cap h _).mono (Nat.le_succ n)
  · split
    · exact h.mono (Nat.le_succ n)
    · split
      · exact repAdd_cap h r
      · exact pops_cap _ _ _ (repAdd_cap h r)
theorem loadGo_cap : ∀ (l : List ByteArray) (last : Int) (acc : Opn), acc.length + l.length ≤ 65535 → (∀ m ∈ acc, m.2.length ≤ 65535) → capM 65535 (loadGo l last acc).1
  | [], last, acc, h, h2 => ⟨by simpa [loadGo] using h, h2⟩
  | t :: r, last, acc, h, h2 => by
    unfold loadGo
    split
    · refine loadGo_cap r _ _ ?_ (fun m hm => ?_)
      · simp only [List.length_append, List.length_cons, List.length_nil] at h ⊢
        omega
      · rcases List.mem_append.mp hm with hm | hm
        · exact h2 m hm
        · rw [List.mem_singleton.mp hm]
          exact loadT_len t last
    · exact ⟨Nat.zero_le _, fun m hm => by cases hm⟩
theorem load_cap (s : ByteArray) : capM 65535 (loadS s).1 := by
  unfold loadS
  split
  · exact ⟨Nat.zero_le _, fun m hm => by cases hm⟩
  · split
    · exact ⟨Nat.zero_le _, fun m hm => by cases hm⟩
    · exact loadGo_cap _ _ _ (by have := split_len s; simpa using this) (fun m hm => by cases hm)
end Go.Proofs.Ytchpagboglomoaa.Ownd
