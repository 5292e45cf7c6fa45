/- RecordLists' pure statement: what Join wrote Split reads, the document's Join and Split tell the same, and what Split read Join writes again. No condition. -/
import Derived.Test.YteehchhmonlkkaaRBack
import Derived.Test.YteehchhmonlkkaaRRefLists
import Derived.Test.YteehchhmonlkkaaGPx13
namespace Go.Proofs.Yteehchhmonlkkaa.Pure
open Go.RowKit Go.Proofs.Yteehchhmonlkkaa.GP Go.Proofs.YteehchhmonlkkaaW.PrintWords Go.Proofs.YteehchhmonlkkaaW.PrintLast
set_option linter.unusedVariables false
set_option linter.unusedSimpArgs false

def cutL (x : ByteArray) : ByteArray := x.extract 0 (min x.size 500)
theorem cut_size (x : ByteArray) : (cutL x).size ≤ 500 := by unfold cutL; rw [ByteArray.size_extract]; omega
theorem mn_cut (x : ByteArray) : mn (x.size : Int) 500 = ((min x.size 500 : Nat) : Int) := by
  unfold mn
  by_cases h : (500 : Int) < (x.size : Int)
  · rw [if_pos h]; omega
  · rw [if_neg h]; omega
theorem rdB (l : List ByteArray) (i : Nat) (h : i < l.length) : rdOf ByteArray.empty l (i : Int) = l[i] := rdOf_at l i h

theorem lists_l2 (s : ByteArray) (x : List ByteArray) (e : Int) (hx : x.length ≤ 65535) (b : Bool) (hend : e = 0 → ∃ t, record_Join.f x = some t ∧ (t.toList == s.toList) = b) (hne : e ≠ 0 → b = true) : ∀ (d k i : Nat), i + d = x.length → d < k →
    concordancelaw07_RecordLists.l2 k s x e x (i : Int) = some b := by
  intro d
  induction d with
  | zero =>
    intro k i h1 h2
    obtain ⟨k, rfl⟩ : ∃ m, k = m + 1 := ⟨k - 1, by omega⟩
    rw [concordancelaw07_RecordLists.l2.eq_2, if_neg (by omega)]
    by_cases he : e = 0
    · obtain ⟨t, h3, h4⟩ := hend he
      rw [if_pos he, h3, Option.bind_some, h4]
    · rw [if_neg he, hne he]
  | succ d ih =>
    intro k i h1 h2
    obtain ⟨k, rfl⟩ : ∃ m, k = m + 1 := ⟨k - 1, by omega⟩
    rw [concordancelaw07_RecordLists.l2.eq_2, if_pos (by omega), if_pos (by omega), if_pos (by omega), if_pos rfl, wid ((i : Int) + 1) (by omega) (by omega), show (i : Int) + 1 = ((i + 1 : Nat) : Int) by omega]
    exact ih k (i + 1) (by omega) (by omega)
theorem shortAll_of (l : List ByteArray) (h : ∀ t ∈ l, t.size ≤ 65535) : shortAll l = true := by
  unfold shortAll
  rw [List.all_eq_true]
  exact fun t ht => decide_eq_true (h t ht)
theorem join_some (l : List ByteArray) (hl : l.length ≤ 65535) (h : ∀ t ∈ l, t.size ≤ 65535) : record_Join.f l = some ⟨(joinL l).toArray⟩ := by
  unfold record_Join.f
  rw [if_pos hl, if_pos (shortAll_of l h)]
theorem lists_l1 (s : ByteArray) (hs : s.size ≤ 2000) (m : List ByteArray) (hm : m.length ≤ 30) : ∀ (d k i : Nat), i + d = m.length → d + 210000 ≤ k →
    concordancelaw07_RecordLists.l1 k s m m (i : Int) = some true := by
  intro d
  induction d with
  | zero =>
    intro k i h1 h2
    obtain ⟨k, rfl⟩ : ∃ m, k = m + 1 + 1 := ⟨k - 2, by omega⟩
    rw [concordancelaw07_RecordLists.l1.eq_2, if_neg (by omega), split_tells s _ (by omega), refSplit_tells s _ (by omega), Option.bind_some, Option.bind_some, if_pos rfl, show (((splitP s).1.length : Int) != ((splitP s).1.length : Int)) = false by simp, concordancelaw07_RecordLists.j4.eq_2, if_neg (by decide)]
    rcases hx : splitP s with ⟨x, e⟩
    show concordancelaw07_RecordLists.l2 k s x e x 0 = _
    by_cases he : e = 0
    · subst he
      obtain ⟨g1, g2, g3⟩ := join_split s x hx
      exact lists_l2 s x 0 g1 true (fun _ => ⟨_, join_some x g1 g2, by rw [toList_data, toList_data, g3]; simp⟩) (fun h => absurd rfl h) x.length k 0 (Nat.zero_add _) (by omega)
    · have hx0 : x = [] := by
        unfold splitP at hx
        split at hx
        · unfold splitOut at hx
          split at hx
          · split at hx
            · exact absurd (congrArg Prod.snd hx).symm he
            · exact (congrArg Prod.fst hx).symm
          · exact (congrArg Prod.fst hx).symm
        · exact (congrArg Prod.fst hx).symm
      subst hx0
      exact lists_l2 s [] e (by simp) true (fun h => absurd h he) (fun _ => rfl) 0 k 0 rfl (by omega)
  | succ d ih =>
    intro k i h1 h2
    obtain ⟨k, rfl⟩ : ∃ m, k = m + 1 := ⟨k - 1, by omega⟩
    rw [concordancelaw07_RecordLists.l1.eq_2, if_pos (by omega), if_pos (by omega), if_pos (by omega), if_pos rfl, wid ((i : Int) + 1) (by omega) (by omega), show (i : Int) + 1 = ((i + 1 : Nat) : Int) by omega]
    exact ih k (i + 1) (by omega) (by omega)
theorem lists_j1 (s : ByteArray) (hs : s.size ≤ 2000) (m : List ByteArray) (hm : m.length ≤ 30) (ha : ∀ t ∈ m, t.size ≤ 500) (k : Nat) (hk : 220000 ≤ k) : concordancelaw07_RecordLists.j1 k s m = some true := by
  obtain ⟨k, rfl⟩ : ∃ m, k = m + 1 + 1 := ⟨k - 2, by omega⟩
  have ha' : ∀ t ∈ m, t.size ≤ 65535 := fun t ht => by have := ha t ht; omega
  have hj := join_some m (by omega) ha'
  have hsp := split_join m (by omega) ha' (⟨(joinL m).toArray⟩ : ByteArray) rfl
  rw [concordancelaw07_RecordLists.j1.eq_2, hj, Option.bind_some, split_tells _ _ (by omega), Option.bind_some, show concordanceref07_Join.f m = some ⟨(joinL m).toArray⟩ from hj, Option.bind_some, if_pos rfl, hsp, if_pos rfl,
    show ((((m, (0 : Int)) : List ByteArray × Int).1.length : Int) != (m.length : Int)) = false by simp, concordancelaw07_RecordLists.j2.eq_2, if_neg (by decide)]
  exact lists_l1 s hs m hm m.length k 0 (Nat.zero_add _) (by omega)
theorem lists_l0 (s : ByteArray) (hs : s.size ≤ 2000) (l : List ByteArray) : ∀ (d k i : Nat) (acc : List ByteArray), i + d = min l.length 30 → acc.length = i → (∀ t ∈ acc, t.size ≤ 500) → d + 230000 ≤ k →
    concordancelaw07_RecordLists.l0 k l s acc (i : Int) = some true := by
  intro d
  induction d with
  | zero =>
    intro k i acc h1 h2 h3 h4
    obtain ⟨k, rfl⟩ : ∃ m, k = m + 1 := ⟨k - 1, by omega⟩
    rw [concordancelaw07_RecordLists.l0.eq_2]
    have hj := lists_j1 s hs acc (by omega) h3 k (by omega)
    by_cases hlt : (i : Int) < (l.length : Int)
    · rw [if_pos hlt, if_neg (by omega), hj]
    · rw [if_neg hlt, hj]
  | succ d ih =>
    intro k i acc h1 h2 h3 h4
    obtain ⟨k, rfl⟩ : ∃ m, k = m + 1 := ⟨k - 1, by omega⟩
    have hil : i < l.length := by omega
    rw [concordancelaw07_RecordLists.l0.eq_2, if_pos (by omega), if_pos (by omega), if_pos (by omega), rdB l i hil, mn_cut, if_pos (by omega), if_pos (by omega), if_pos (by omega), Int.toNat_natCast, wid ((i : Int) + 1) (by omega) (by omega), show (i : Int) + 1 = ((i + 1 : Nat) : Int) by omega]
    refine ih k (i + 1) _ (by omega) (by rw [List.length_append, h2]; rfl) (fun t ht => ?_) (by omega)
    rcases List.mem_append.mp ht with ht | ht
    · exact h3 t ht
    · rw [List.mem_singleton.mp ht]; exact cut_size l[i]

theorem RecordLists (l : List ByteArray) (s : ByteArray) : concordancelaw07_RecordLists.f 400000 l s = some true := by
  unfold concordancelaw07_RecordLists.f
  rw [speaks_tells _ (by omega), Option.bind_some, if_pos (show true = true from rfl)]
  by_cases hbig : (s.size : Int) > 2000
  · rw [if_pos hbig]
  rw [if_neg hbig]
  exact lists_l0 s (by omega) l (min l.length 30) 400000 0 [] (Nat.zero_add _) rfl (fun t ht => absurd ht (List.not_mem_nil)) (by omega)
end Go.Proofs.Yteehchhmonlkkaa.Pure
