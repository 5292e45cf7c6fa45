/- A log upon a device of contents, plainly: what write and Switch leave, done or cut short. No program. -/
import Derived.Test.YtegeaemkkbenfaaDoorWFormat
namespace Go.Proofs.YtegeaemkkbenfaaDoor.Ownd
open Go.RowKit
set_option linter.unusedVariables false
set_option linter.unusedSimpArgs false
/-- The pieces that write writes. -/
def pcs (at_ half : Int) (b : ByteArray) (e which : Int) : Nat → Nat → List PC
  | _, 0 => []
  | i, r + 1 => (at_ + 2 + which * half + i, .p e i (partB b i)) :: pcs at_ half b e which (i + 1) r
/-- A command was done, all else as it was. -/
structure TD.Went (T T1 : TD) : Prop where
  size : T1.size = T.size
  off : T1.off = false
  fuse : T.fuse = 0 → T1.fuse = 0
  keep : T1.keep = T.keep
/-- The power has failed; some of what waited is kept. -/
structure TD.Crash (T T1 : TD) (l : List PC) : Prop where
  size : T1.size = T.size
  off : T1.off = true
  wait : T1.wait = []
  last : ∃ kp, T1.last = failT kp 0 l T.last
theorem TD.command_cases {T : TD} (ho : T.off = false) :
    (T.command.1 = true ∧ T.Went T.command.2 ∧ T.command.2.last = T.last ∧ T.command.2.wait = T.wait) ∨ (T.fuse ≠ 0 ∧ T.command.1 = false ∧ T.Crash T.command.2 T.wait) := by
  unfold TD.command
  by_cases h : T.fuse = 1
  · rw [if_pos h]
    exact .inr ⟨by omega, rfl, ⟨rfl, rfl, rfl, T.keep, rfl⟩⟩
  · rw [if_neg h]
    refine .inl ⟨rfl, ⟨rfl, ho, fun h0 => ?_, rfl⟩, rfl, rfl⟩
    show (if 1 < T.fuse then _ else T.fuse) = 0
    rw [if_neg (by omega)]; exact h0
theorem TD.write_cases {T : TD} (ho : T.off = false) {i : Int} (h0 : 0 ≤ i) (h1 : i < (T.size : Int)) (c : Ct) :
    ((T.write i c).1 = 0 ∧ T.Went (T.write i c).2 ∧ (T.write i c).2.last = T.last ∧ (T.write i c).2.wait = T.wait ++ [(i, c)]) ∨ (T.fuse ≠ 0 ∧ (T.write i c).1 = 7 ∧ T.Crash (T.write i c).2 T.wait) := by
  unfold TD.write
  rw [if_neg (by rw [ho]; simp), if_neg (by omega)]
  rcases TD.command_cases ho with ⟨h2, h3, h4, h5⟩ | ⟨h2, h3, h4⟩
  · rw [if_pos h2]
    exact .inl ⟨rfl, ⟨h3.size, h3.off, h3.fuse, h3.keep⟩, h4, by show T.command.2.wait ++ _ = _; rw [h5]⟩
  · rw [if_neg (by rw [h3]; simp)]
    exact .inr ⟨h2, rfl, h4⟩
theorem TD.sync_cases {T : TD} (ho : T.off = false) :
    (T.sync.1 = 0 ∧ T.Went T.sync.2 ∧ T.sync.2.last = syncT T.wait T.last ∧ T.sync.2.wait = []) ∨ (T.fuse ≠ 0 ∧ T.sync.1 = 7 ∧ T.Crash T.sync.2 T.wait) := by
  unfold TD.sync
  rw [if_neg (by rw [ho]; simp)]
  rcases TD.command_cases ho with ⟨h2, h3, h4, h5⟩ | ⟨h2, h3, h4⟩
  · rw [if_pos h2]
    exact .inl ⟨rfl, ⟨h3.size, h3.off, h3.fuse, h3.keep⟩, by show syncT T.command.2.wait T.command.2.last = _; rw [h4, h5], rfl⟩
  · rw [if_neg (by rw [h3]; simp)]
    exact .inr ⟨h2, rfl, h4⟩
theorem wr_cases (at_ half : Int) (b : ByteArray) (e which : Int) : ∀ (r i : Nat) (T : TD), T.off = false → (∀ j : Nat, i ≤ j → j < i + r → 0 ≤ at_ + 2 + which * half + j ∧ at_ + 2 + which * half + j < (T.size : Int)) →
    ((TD.wr at_ half b e which i r T).1 = 0 ∧ T.Went (TD.wr at_ half b e which i r T).2 ∧ (TD.wr at_ half b e which i r T).2.last = syncT (T.wait ++ pcs at_ half b e which i r) T.last ∧ (TD.wr at_ half b e which i r T).2.wait = []) ∨
    (T.fuse ≠ 0 ∧ (TD.wr at_ half b e which i r T).1 = 7 ∧ ∃ k, k ≤ r ∧ T.Crash (TD.wr at_ half b e which i r T).2 (T.wait ++ (pcs at_ half b e which i r).take k))
  | 0, i, T, ho, _ => by
    rcases TD.sync_cases ho with ⟨h1, h2, h3, h4⟩ | ⟨h1, h2, h3⟩
    · exact .inl ⟨h1, h2, by rw [show pcs at_ half b e which i 0 = [] from rfl, List.append_nil]; exact h3, h4⟩
    · exact .inr ⟨h1, h2, 0, Nat.le_refl _, by rw [List.take_zero, List.append_nil]; exact h3⟩
  | r + 1, i, T, ho, hr => by
    have hi := hr i (Nat.le_refl _) (by omega)
    unfold TD.wr
    rcases TD.write_cases ho hi.1 hi.2 (.p e i (partB b i)) with ⟨h1, h2, h3, h4⟩ | ⟨h1, h2, h3⟩
    · rw [if_pos h1]
      generalize (T.write (at_ + 2 + which * half + i) (.p e i (partB b i))).2 = T1 at h2 h3 h4
      have hr1 : ∀ j : Nat, i + 1 ≤ j → j < i + 1 + r → 0 ≤ at_ + 2 + which * half + j ∧ at_ + 2 + which * half + j < (T1.size : Int) := fun j hj1 hj2 => by rw [h2.size]; exact hr j (by omega) (by omega)
      rcases wr_cases at_ half b e which r (i + 1) T1 h2.off hr1 with ⟨g1, g2, g3, g4⟩ | ⟨g1, g2, k, g3, g4⟩
      · refine .inl ⟨g1, ⟨g2.size.trans h2.size, g2.off, fun hf => g2.fuse (h2.fuse hf), g2.keep.trans h2.keep⟩, ?_, g4⟩
        rw [g3, h3, h4, List.append_assoc]; rfl
      · refine .inr ⟨fun hf => g1 (h2.fuse hf), g2, k + 1, by omega, ⟨g4.size.trans h2.size, g4.off, g4.wait, ?_⟩⟩
        obtain ⟨kp, hkp⟩ := g4.last
        exact ⟨kp, by rw [hkp, h3, h4, List.append_assoc]; rfl⟩
    · rw [if_neg (by rw [h2]; decide)]
      exact .inr ⟨h1, h2, 0, Nat.zero_le _, by rw [List.take_zero, List.append_nil]; exact h3⟩
/-! What stands where behind it. -/
theorem syncT_append (a b : List PC) (f : Int → Option Ct) : syncT (a ++ b) f = syncT b (syncT a f) := by
  unfold syncT
  rw [List.foldl_append]
theorem syncT_out {i : Int} : ∀ (l : List PC) (f : Int → Option Ct), (∀ p ∈ l, p.1 ≠ i) → syncT l f i = f i
  | [], f, _ => rfl
  | p :: r, f, h => by
    show syncT r (updT f p.1 p.2) i = _
    rw [syncT_out r _ (fun q hq => h q (List.mem_cons_of_mem _ hq))]
    unfold updT
    rw [if_neg (Ne.symm (h p (List.mem_cons_self ..)))]
theorem syncT_in {i : Int} {c : Ct} : ∀ (l : List PC) (f : Int → Option Ct), (i, c) ∈ l → (l.map (·.1)).Nodup → syncT l f i = some c
  | [], f, h, _ => by cases h
  | p :: r, f, h, hn => by
    rw [List.map_cons, List.nodup_cons] at hn
    show syncT r (updT f p.1 p.2) i = _
    rcases List.mem_cons.mp h with rfl | h
    · rw [syncT_out r _ (fun q hq hqi => hn.1 (List.mem_map.mpr ⟨q, hq, hqi⟩))]
      unfold updT
      rw [if_pos rfl]
    · exact syncT_in r _ h hn.2
theorem failT_cases (kp : List Int) {i : Int} : ∀ (l : List PC) (k : Nat) (f : Int → Option Ct), failT kp k l f i = f i ∨ ∃ c, (i, c) ∈ l ∧ failT kp k l f i = some c
  | [], k, f => .inl rfl
  | p :: r, k, f => by
    show failT kp (k + 1) r (if keptAt kp k then updT f p.1 p.2 else f) i = f i ∨ ∃ c, (i, c) ∈ p :: r ∧ failT kp (k + 1) r (if keptAt kp k then updT f p.1 p.2 else f) i = some c
    rcases failT_cases kp (i := i) r (k + 1) (if keptAt kp k then updT f p.1 p.2 else f) with h | ⟨c, h1, h2⟩
    · rw [h]
      cases keptAt kp k with
      | false => exact .inl rfl
      | true =>
        show updT f p.1 p.2 i = _ ∨ ∃ c, _ ∧ updT f p.1 p.2 i = some c
        unfold updT
        by_cases hi : i = p.1
        · rw [if_pos hi]
          exact .inr ⟨p.2, by rw [hi]; exact List.mem_cons_self .., rfl⟩
        · rw [if_neg hi]; exact .inl rfl
    · exact .inr ⟨c, List.mem_cons_of_mem _ h1, h2⟩
theorem pcs_mem {at_ half : Int} {b : ByteArray} {e which : Int} : ∀ (r i : Nat) (p : PC), p ∈ pcs at_ half b e which i r ↔ ∃ j : Nat, i ≤ j ∧ j < i + r ∧ p = (at_ + 2 + which * half + j, .p e j (partB b j))
  | 0, i, p => ⟨fun h => (by cases h), fun ⟨j, h1, h2, _⟩ => (by omega)⟩
  | r + 1, i, p => by
    show p ∈ _ :: pcs at_ half b e which (i + 1) r ↔ _
    rw [List.mem_cons, pcs_mem r (i + 1) p]
    constructor
    · rintro (rfl | ⟨j, h1, h2, rfl⟩)
      · exact ⟨i, Nat.le_refl _, by omega, rfl⟩
      · exact ⟨j, by omega, by omega, rfl⟩
    · rintro ⟨j, h1, h2, rfl⟩
      by_cases hj : j = i
      · subst hj; exact .inl rfl
      · exact .inr ⟨j, by omega, by omega, rfl⟩
theorem pcs_nodup {at_ half : Int} {b : ByteArray} {e which : Int} : ∀ (r i : Nat), ((pcs at_ half b e which i r).map (·.1)).Nodup
  | 0, i => List.nodup_nil
  | r + 1, i => by
    show (_ :: (pcs at_ half b e which (i + 1) r).map (·.1)).Nodup
    rw [List.nodup_cons]
    refine ⟨fun h => ?_, pcs_nodup r (i + 1)⟩
    obtain ⟨p, hp, he⟩ := List.mem_map.mp h
    obtain ⟨j, h1, h2, rfl⟩ := (pcs_mem r (i + 1) p).mp hp
    dsimp only at he
    omega
end Go.Proofs.YtegeaemkkbenfaaDoor.Ownd

/- What a half tells, plainly: pieces that go on; texts as bytes, and back, cut short anywhere. No program. -/
namespace Go.Proofs.YtegeaemkkbenfaaDoor.Ownd
open Go.RowKit
set_option linter.unusedVariables false
set_option linter.unusedSimpArgs false
theorem ext_join (b : ByteArray) {x y z : Nat} (h1 : x ≤ y) (h2 : y ≤ z) : b.extract x y ++ b.extract y z = b.extract x z := by
  apply b_ext
  rw [b_append, b_extract, b_extract, b_extract]
  have h := List.take_add (l := b.data.toList.drop x) (i := y - x) (j := z - y)
  rw [List.drop_drop, show x + (y - x) = y by omega, show y - x + (z - y) = z - x by omega] at h
  exact h.symm
theorem ext_same (b : ByteArray) (x : Nat) : b.extract x x = ⟨#[]⟩ := by
  apply b_ext
  rw [b_extract, Nat.sub_self, List.take_zero]
theorem ext_all (b : ByteArray) : b.extract 0 b.size = b := by
  apply b_ext
  rw [b_extract, List.drop_zero, Nat.sub_zero, ← b_len, List.take_length]
/-- From sector base on, the pieces (e, j) of b's first m bytes stand; then none of e. -/
structure Reads (c : Int → Ct) (base : Int) (half : Nat) (e : Int) (b : ByteArray) (m : Nat) : Prop where
  le : m ≤ b.size
  fits : m ≤ half * 242
  full : ∀ j : Nat, j * 242 + 242 ≤ m → c (base + j) = .p e j (b.extract (j * 242) (j * 242 + 242))
  part : ∀ j : Nat, j * 242 < m → m < j * 242 + 242 → c (base + j) = .p e j (b.extract (j * 242) m)
  stale : ∀ j : Nat, m = j * 242 → j < half → ∀ s, c (base + j) ≠ .p e j s
theorem rd_reads {T : TD} {at_ : Int} {half : Nat} {e wh : Int} {b : ByteArray} {m : Nat} (h : Reads T.get (at_ + 2 + wh * half) half e b m) : ∀ (r i : Nat), i + r = half → i * 242 ≤ m → T.rd at_ half e wh i r = b.extract (i * 242) m
  | 0, i, h1, h2 => by
    have := h.fits
    obtain rfl : m = i * 242 := by omega
    rw [ext_same]; rfl
  | r + 1, i, h1, h2 => by
    unfold TD.rd
    by_cases h3 : i * 242 + 242 ≤ m
    · rw [h.full i h3]
      dsimp only
      have hz : (b.extract (i * 242) (i * 242 + 242)).size = 242 := by
        have := h.le
        rw [ByteArray.size_extract]; omega
      rw [if_pos ⟨rfl, rfl⟩, if_neg (by omega), rd_reads h r (i + 1) (by omega) (by omega), show (i + 1) * 242 = i * 242 + 242 by omega]
      exact ext_join b (by omega) h3
    · by_cases h4 : m = i * 242
      · have hs := h.stale i h4 (by omega)
        rw [h4, ext_same]
        cases hc : T.get (at_ + 2 + wh * half + i) with
        | z => rfl
        | m a b => rfl
        | p e' k s =>
          dsimp only
          by_cases hek : e' = e ∧ k = i
          · obtain ⟨rfl, rfl⟩ := hek
            exact absurd hc (hs s)
          · rw [if_neg hek]
      · rw [h.part i (by omega) (by omega)]
        dsimp only
        have hz : (b.extract (i * 242) m).size < 242 := by rw [ByteArray.size_extract]; omega
        rw [if_pos ⟨rfl, rfl⟩, if_pos hz]
/-! Texts as bytes. -/
def encT : List ByteArray → ByteArray
  | [] => ⟨#[]⟩
  | s :: r => textB s ++ encT r
def Right (s : ByteArray) : Prop := s.size ≠ 0 ∧ s.size < 65536
theorem encT_append : ∀ (a b : List ByteArray), encT (a ++ b) = encT a ++ encT b
  | [], b => (b_nil_app _).symm
  | s :: r, b => by
    show textB s ++ encT (r ++ b) = (textB s ++ encT r) ++ encT b
    rw [encT_append r b, ByteArray.append_assoc]
theorem len_textB {s : ByteArray} (hs : s.size < 65536) (r : ByteArray) : lenT (textB s ++ r) = s.size := by
  have h : ((textB s ++ r).extract 0 2) = put2 s.size := by
    unfold textB
    rw [ByteArray.append_assoc]
    have := ext_left (put2 s.size) (s ++ r)
    rwa [put2_size] at this
  have h2 := get_put2 (s.size : Int) (by omega) (by omega)
  unfold getN at h2
  unfold lenT
  rw [h]
  omega
theorem textB_size' (s : ByteArray) : (textB s).size = s.size + 2 := textB_size s
theorem ext_of_app_left (a b : ByteArray) {x y : Nat} (h : y ≤ a.size) : (a ++ b).extract x y = a.extract x y := by
  apply b_ext
  rw [b_extract, b_extract, b_append]
  by_cases hx : x ≤ a.size
  · rw [List.drop_append_of_le_length (by rw [b_len]; exact hx), List.take_append_of_le_length (by rw [List.length_drop, b_len]; omega)]
  · rw [show y - x = 0 by omega, List.take_zero, List.take_zero]
theorem ext_of_app_right (a b : ByteArray) {x y : Nat} (h : a.size ≤ x) : (a ++ b).extract x y = b.extract (x - a.size) (y - a.size) := by
  apply b_ext
  rw [b_extract, b_extract, b_append, List.drop_append, b_len, List.drop_of_length_le (by rw [b_len]; exact h), List.nil_append, show y - a.size - (x - a.size) = y - x by omega]
theorem textB_text (s : ByteArray) : (textB s).extract 2 (2 + s.size) = s := by
  unfold textB
  have h := ext_right (put2 s.size) s
  rwa [ByteArray.size_append, put2_size] at h
/-- The texts that m bytes of the texts' bytes hold whole. -/
def held : List ByteArray → Nat → Nat
  | [], _ => 0
  | s :: r, m => if m < s.size + 2 then 0 else held r (m - (s.size + 2)) + 1
theorem held_le : ∀ (l : List ByteArray) (m : Nat), held l m ≤ l.length
  | [], m => Nat.le_refl _
  | s :: r, m => by
    unfold held
    split
    · exact Nat.zero_le _
    · rw [List.length_cons]; exact Nat.succ_le_succ (held_le r _)
theorem held_ge : ∀ (l : List ByteArray) (q m : Nat), q ≤ l.length → (encT (l.take q)).size ≤ m → q ≤ held l m
  | l, 0, m, _, _ => Nat.zero_le _
  | [], q + 1, m, h, _ => by cases h
  | s :: r, q + 1, m, h, h2 => by
    rw [List.take_succ_cons] at h2
    have h3 : (textB s ++ encT (r.take q)).size ≤ m := h2
    rw [ByteArray.size_append, textB_size] at h3
    unfold held
    rw [if_neg (by omega)]
    exact Nat.succ_le_succ (held_ge r q _ (Nat.le_of_succ_le_succ h) (by omega))
theorem cut_cut (x : ByteArray) {k n : Nat} (h : n ≤ k) : (x.extract 0 k).extract 0 n = x.extract 0 n := by
  apply b_ext
  rw [b_extract, b_extract, b_extract, List.drop_zero, List.drop_zero, List.take_take, Nat.sub_zero, Nat.sub_zero, Nat.min_eq_left h]
theorem lenT_cut (x : ByteArray) {k : Nat} (h : 2 ≤ k) : lenT (x.extract 0 k) = lenT x := by
  unfold lenT
  rw [cut_cut x h]
theorem cut_split (a b : ByteArray) {m : Nat} (h : a.size ≤ m) : (a ++ b).extract 0 m = a ++ b.extract 0 (m - a.size) := by
  rw [← ext_join (a ++ b) (Nat.zero_le a.size) h, ext_of_app_left _ _ (Nat.le_refl _), ext_all, ext_of_app_right _ _ (Nat.le_refl _), Nat.sub_self]
theorem texts_cons {s : ByteArray} (hs : Right s) (r : ByteArray) : textsB (textB s ++ r) = s :: textsB r := by
  have hz : (textB s ++ r).size = s.size + 2 + r.size := by rw [ByteArray.size_append, textB_size]
  have hlen := len_textB hs.2 r
  have h0 := hs.1
  rw [textsB_next (by rw [hz]; omega) (by rw [hlen, hz]; omega), hlen, ext_of_app_left _ _ (by rw [textB_size]; omega), textB_text, ext_of_app_right _ _ (by rw [textB_size]; omega), hz, textB_size]
  rw [show 2 + s.size - (s.size + 2) = 0 by omega, show s.size + 2 + r.size - (s.size + 2) = r.size by omega, ext_all]
theorem texts_cut : ∀ (l : List ByteArray), (∀ s ∈ l, Right s) → ∀ m : Nat, m ≤ (encT l).size → textsB ((encT l).extract 0 m) = l.take (held l m)
  | [], _, m, hm => by
    have h0 : (encT []).size = 0 := rfl
    obtain rfl : m = 0 := by omega
    rw [ext_same]; rfl
  | s :: r, hr, m, hm => by
    have hs := hr s (List.mem_cons_self ..)
    have hE : encT (s :: r) = textB s ++ encT r := rfl
    rw [hE] at hm ⊢
    rw [ByteArray.size_append, textB_size] at hm
    unfold held
    by_cases h1 : m < s.size + 2
    · rw [if_pos h1, List.take_zero]
      apply textsB_end
      have hez : ((textB s ++ encT r).extract 0 m).size = m := by rw [ByteArray.size_extract, ByteArray.size_append, textB_size]; omega
      rw [hez]
      by_cases h2 : m < 2
      · exact .inl h2
      · rw [lenT_cut _ (Nat.le_of_not_lt h2), len_textB hs.2]
        exact .inr (.inr (by omega))
    · rw [if_neg h1, List.take_succ_cons, cut_split _ _ (by rw [textB_size]; omega), textB_size, texts_cons hs, texts_cut r (fun t ht => hr t (List.mem_cons_of_mem _ ht)) _ (by omega)]
theorem held_all : ∀ (l : List ByteArray), held l (encT l).size = l.length
  | [] => rfl
  | s :: r => by
    have hz : (encT (s :: r)).size = s.size + 2 + (encT r).size := by
      show (textB s ++ encT r).size = _
      rw [ByteArray.size_append, textB_size]
    unfold held
    rw [hz, if_neg (by omega), show s.size + 2 + (encT r).size - (s.size + 2) = (encT r).size by omega, held_all r, List.length_cons]
theorem texts_enc (l : List ByteArray) (h : ∀ s ∈ l, Right s) : textsB (encT l) = l := by
  have := texts_cut l h (encT l).size (Nat.le_refl _)
  rwa [ext_all, held_all, List.take_length] at this
end Go.Proofs.YtegeaemkkbenfaaDoor.Ownd

/- A log upon its device, plainly: what find finds, what Switch leaves. No program. -/
namespace Go.Proofs.YtegeaemkkbenfaaDoor.Ownd
open Go.RowKit
set_option linter.unusedVariables false
set_option linter.unusedSimpArgs false
/-- What may stand where, whatever the epochs. -/
structure Plc (at_ : Int) (i : Int) (c : Ct) : Prop where
  ok : c.Ok
  isM : i = at_ ∨ i = at_ + 1 → c.isM
  isP : at_ + 2 ≤ i → c.isP
theorem Plc.z {at_ i : Int} : Plc at_ i .z := ⟨trivial, fun _ => trivial, fun _ => trivial⟩
theorem Plc.wh {at_ i half : Int} {c : Ct} (h : Plc at_ i c) : Where at_ half 281474976710656 i c where
  ok := h.ok
  isM := h.isM
  isP := h.isP
  m_le e g hc := by
    subst hc
    exact Int.le_of_lt h.ok.2.1
  p_le e k s hc := by
    subst hc
    exact Int.le_of_lt h.ok.2.1
theorem TD.All.where {T : TD} {at_ half : Int} (h : T.All (Plc at_)) : T.All (Where at_ half 281474976710656) :=
  ⟨fun i c hc => (h.last i c hc).wh, fun p hp => (h.wait p hp).wh⟩
/-- No epoch goes beyond. -/
structure Eps (T : TD) (at_ : Int) (half : Nat) (G : Int) : Prop where
  m : ∀ j : Nat, j < 2 → ∀ e h, T.get (at_ + j) = .m e h → e ≤ G
  p : ∀ j : Nat, j < 2 * half → ∀ e k s, T.get (at_ + 2 + j) = .p e k s → e ≤ G
theorem Eps.mono {T : TD} {at_ : Int} {half : Nat} {G G' : Int} (h : Eps T at_ half G) (hg : G ≤ G') : Eps T at_ half G' :=
  ⟨fun j hj e g hc => Int.le_trans (h.m j hj e g hc) hg, fun j hj e k s hc => Int.le_trans (h.p j hj e k s hc) hg⟩
theorem fstep_le (f : Int × Int) (c : Ct) : f.1 ≤ (fstep f c).1 := by
  cases c with
  | z => exact Int.le_refl _
  | p e k s => exact Int.le_refl _
  | m e h =>
    show f.1 ≤ (if f.1 < e then (e, h) else f).1
    split
    · exact Int.le_of_lt ‹_›
    · exact Int.le_refl _
theorem fstep_ge (f : Int × Int) (e h : Int) : e ≤ (fstep f (.m e h)).1 := by
  show e ≤ (if f.1 < e then (e, h) else f).1
  split
  · exact Int.le_refl _
  · omega
theorem gstep_le (g : Int) (c : Ct) : g ≤ gstep g c := by
  cases c with
  | z => exact Int.le_refl _
  | m e h => exact Int.le_refl _
  | p e k s =>
    show g ≤ if g < e then e else g
    split
    · exact Int.le_of_lt ‹_›
    · exact Int.le_refl _
theorem gstep_ge (g e k : Int) (s : ByteArray) : e ≤ gstep g (.p e k s) := by
  show e ≤ if g < e then e else g
  split
  · exact Int.le_refl _
  · omega
theorem gk_mono (T : TD) (at_ : Int) : ∀ (n k : Nat), k ≤ n → T.gk at_ k ≤ T.gk at_ n
  | 0, k, h => by obtain rfl : k = 0 := by omega
                  exact Int.le_refl _
  | n + 1, k, h => by
    by_cases hk : k = n + 1
    · subst hk; exact Int.le_refl _
    · exact Int.le_trans (gk_mono T at_ n k (by omega)) (gstep_le _ _)
theorem fk_mono (T : TD) (at_ : Int) : ∀ (n k : Nat), k ≤ n → (T.fk at_ k).1 ≤ (T.fk at_ n).1
  | 0, k, h => by obtain rfl : k = 0 := by omega
                  exact Int.le_refl _
  | n + 1, k, h => by
    by_cases hk : k = n + 1
    · subst hk; exact Int.le_refl _
    · exact Int.le_trans (fk_mono T at_ n k (by omega)) (fstep_le _ _)
/-- The greatest epoch that find finds bounds them all. -/
theorem eps_gk (T : TD) (at_ : Int) (half : Nat) : Eps T at_ half (T.gk at_ (2 * half)) where
  m j hj e h hc := by
    have h1 : e ≤ (T.fk at_ (j + 1)).1 := by
      show e ≤ (fstep (T.fk at_ j) (T.get (at_ + j))).1
      rw [hc]; exact fstep_ge _ _ _
    exact Int.le_trans h1 (Int.le_trans (fk_mono T at_ 2 (j + 1) (by omega)) (gk_mono T at_ (2 * half) 0 (Nat.zero_le _)))
  p j hj e k s hc := by
    have h1 : e ≤ T.gk at_ (j + 1) := by
      show e ≤ gstep (T.gk at_ j) (T.get (at_ + 2 + j))
      rw [hc]; exact gstep_ge _ _ _ _
    exact Int.le_trans h1 (gk_mono T at_ (2 * half) (j + 1) (by omega))
theorem fk_le {T : TD} {at_ G : Int} (hG : 0 ≤ G) (h : ∀ j : Nat, j < 2 → ∀ e g, T.get (at_ + j) = .m e g → e ≤ G) : ∀ n : Nat, n ≤ 2 → (T.fk at_ n).1 ≤ G
  | 0, _ => hG
  | n + 1, hn => by
    show (fstep (T.fk at_ n) (T.get (at_ + n))).1 ≤ G
    have ih := fk_le hG h n (by omega)
    cases hc : T.get (at_ + (n : Int)) with
    | z => exact ih
    | p e k s => exact ih
    | m e g =>
      show (if (T.fk at_ n).1 < e then (e, g) else T.fk at_ n).1 ≤ G
      split
      · exact h n (by omega) e g hc
      · exact ih
theorem gk_le {T : TD} {at_ G : Int} {half : Nat} (hG : 0 ≤ G) (h : Eps T at_ half G) : ∀ n : Nat, n ≤ 2 * half → T.gk at_ n ≤ G
  | 0, _ => fk_le hG h.m 2 (Nat.le_refl _)
  | n + 1, hn => by
    show gstep (T.gk at_ n) (T.get (at_ + 2 + n)) ≤ G
    have ih := gk_le hG h n (by omega)
    cases hc : T.get (at_ + 2 + (n : Int)) with
    | z => exact ih
    | m e g => exact ih
    | p e k s =>
      show (if T.gk at_ n < e then e else T.gk at_ n) ≤ G
      split
      · exact h.p n (by omega) e k s hc
      · exact ih
theorem gk_ge0 (T : TD) (at_ : Int) (n : Nat) : 0 ≤ T.gk at_ n := Int.le_trans (fk_mono T at_ 2 0 (Nat.zero_le _)) (gk_mono T at_ n 0 (Nat.zero_le _))
/-- A log's epoch e counts; its half wh holds b's first m bytes. -/
structure Disk (T : TD) (at_ : Int) (half : Nat) (e wh : Int) (b : ByteArray) (m : Nat) : Prop where
  wait : T.wait = []
  all : T.All (Plc at_)
  size : at_ + 2 + 2 * (half : Int) ≤ (T.size : Int)
  e1 : 1 ≤ e
  wh01 : 0 ≤ wh ∧ wh ≤ 1
  mast : T.get (at_ + e % 2) = .m e wh
  oth : ∀ e' h', T.get (at_ + (e + 1) % 2) = .m e' h' → e' < e
  reads : Reads T.get (at_ + 2 + wh * half) half e b m
theorem Disk.fk {T : TD} {at_ : Int} {half : Nat} {e wh : Int} {b : ByteArray} {m : Nat} (h : Disk T at_ half e wh b m) : T.fk at_ 2 = (e, wh) := by
  have h1 := h.e1
  have hm := h.mast
  have ho := h.oth
  show fstep (fstep (0, 0) (T.get (at_ + (0 : Nat)))) (T.get (at_ + (1 : Nat))) = (e, wh)
  have key : ∀ x : Ct, (∀ e' h', x = .m e' h' → e' < e) → (fstep (0, 0) x).1 < e := by
    intro x hx
    cases x with
    | z => show (0 : Int) < e; omega
    | p a b c => show (0 : Int) < e; omega
    | m a b =>
      show (if (0 : Int) < a then (a, b) else (0, 0)).1 < e
      split
      · exact hx a b rfl
      · show (0 : Int) < e; omega
  rcases (show e % 2 = 0 ∨ e % 2 = 1 by omega) with h2 | h2
  · have h3 : (e + 1) % 2 = 1 := by omega
    rw [h2] at hm
    rw [h3] at ho
    rw [show at_ + ((0 : Nat) : Int) = at_ + 0 by omega, hm, show at_ + ((1 : Nat) : Int) = at_ + 1 by omega]
    have h4 : fstep (0, 0) (.m e wh) = (e, wh) := if_pos (show (0 : Int) < e by omega)
    rw [h4]
    cases hc : T.get (at_ + 1) with
    | z => rfl
    | p a b c => rfl
    | m a b => exact if_neg (show ¬ e < a by have := ho a b hc; omega)
  · have h3 : (e + 1) % 2 = 0 := by omega
    rw [h2] at hm
    rw [h3] at ho
    rw [show at_ + ((1 : Nat) : Int) = at_ + 1 by omega, hm, show at_ + ((0 : Nat) : Int) = at_ + 0 by omega]
    exact if_pos (key _ ho)
theorem Disk.rd {T : TD} {at_ : Int} {half : Nat} {e wh : Int} {b : ByteArray} {m : Nat} (h : Disk T at_ half e wh b m) : T.rd at_ half e wh 0 half = b.extract 0 m := by
  have := rd_reads h.reads half 0 (Nat.zero_add _) (by omega)
  rwa [Nat.zero_mul] at this
theorem get_last {T : TD} (h : T.wait = []) (i : Int) : T.get i = (T.last i).getD .z := by
  unfold TD.get
  rw [h]; rfl
/-- The bytes that Switch writes stand; so they are read. -/
theorem reads_new {c : Int → Ct} {base : Int} {half : Nat} {e : Int} {b : ByteArray} (hfit : b.size ≤ half * 242) (hp : ∀ j : Nat, j < secs b.size → c (base + j) = .p e j (partB b j)) (hs : ∀ j : Nat, secs b.size ≤ j → j < half → ∀ k s, c (base + j) ≠ .p e k s) : Reads c base half e b b.size where
  le := Nat.le_refl _
  fits := hfit
  full j hj := by
    rw [hp j (by unfold secs; omega)]
    unfold partB
    rw [Nat.min_eq_left hj]
  part j h1 h2 := by
    rw [hp j (by unfold secs; omega)]
    unfold partB
    rw [Nat.min_eq_right (by omega)]
  stale j h1 h2 s := hs j (by unfold secs; omega) h2 j s
end Go.Proofs.YtegeaemkkbenfaaDoor.Ownd

/- Switch, plainly: it is done, or cut short: then what was there is there still, or the new text is. No program. -/
namespace Go.Proofs.YtegeaemkkbenfaaDoor.Ownd
open Go.RowKit
set_option linter.unusedVariables false
set_option linter.unusedSimpArgs false
/-- Switch has written all. -/
structure SwAll (T T' : TD) (at_ half : Int) (E wh : Int) (b : ByteArray) : Prop where
  wait : T'.wait = []
  size : T'.size = T.size
  mast : T'.last (at_ + E % 2) = some (.m E wh)
  piece : ∀ j : Nat, j < secs b.size → T'.last (at_ + 2 + wh * half + j) = some (.p E j (partB b j))
  rest : ∀ i : Int, i ≠ at_ + E % 2 → (∀ j : Nat, j < secs b.size → i ≠ at_ + 2 + wh * half + j) → T'.last i = T.last i
/-- Switch has written pieces alone, some of them. -/
structure SwSome (T T' : TD) (at_ half : Int) (E wh : Int) (b : ByteArray) : Prop where
  wait : T'.wait = []
  size : T'.size = T.size
  any : ∀ i : Int, T'.last i = T.last i ∨ ∃ j : Nat, j < secs b.size ∧ i = at_ + 2 + wh * half + j ∧ T'.last i = some (.p E j (partB b j))
theorem sw_cases {T : TD} {at_ : Int} {half : Nat} {E wh : Int} {b : ByteArray} (ho : T.off = false) (hw : T.wait = []) (h0 : 0 ≤ at_) (hz : at_ + 2 + 2 * (half : Int) ≤ (T.size : Int)) (hwh : 0 ≤ wh ∧ wh ≤ 1) (hn : secs b.size ≤ half) (h1 : 1 ≤ half) :
    ((swZ (swY at_ E wh (swX at_ half b E wh T))).1 = 0 ∧ T.Went (swZ (swY at_ E wh (swX at_ half b E wh T))).2 ∧ SwAll T (swZ (swY at_ E wh (swX at_ half b E wh T))).2 at_ half E wh b) ∨
    (T.fuse ≠ 0 ∧ (swZ (swY at_ E wh (swX at_ half b E wh T))).1 = 7 ∧ (swZ (swY at_ E wh (swX at_ half b E wh T))).2.off = true ∧
      (SwAll T (swZ (swY at_ E wh (swX at_ half b E wh T))).2 at_ half E wh b ∨ SwSome T (swZ (swY at_ E wh (swX at_ half b E wh T))).2 at_ half E wh b)) := by
  have hwq : 0 ≤ wh * (half : Int) ∧ wh * (half : Int) ≤ half := by
    rcases (show wh = 0 ∨ wh = 1 by omega) with rfl | rfl <;> omega
  have hrange : ∀ j : Nat, 0 ≤ j → j < 0 + secs b.size → 0 ≤ at_ + 2 + wh * half + j ∧ at_ + 2 + wh * half + j < (T.size : Int) := fun j _ hj => by omega
  rcases wr_cases at_ half b E wh (secs b.size) 0 T ho hrange with ⟨x1, x2, x3, x4⟩ | ⟨x1, x2, k, x3, x4⟩
  · have hX : swX at_ half b E wh T = TD.wr at_ half b E wh 0 (secs b.size) T := rfl
    rw [hX]
    generalize TD.wr at_ half b E wh 0 (secs b.size) T = x at *
    obtain ⟨xa, T1⟩ := x
    dsimp only at x1 x2 x3 x4
    subst x1
    rw [hw, List.nil_append] at x3
    have hY : swY at_ E wh ((0 : Int), T1) = T1.write (at_ + E % 2) (.m E wh) := if_pos rfl
    rw [hY]
    have hm0 : 0 ≤ at_ + E % 2 := by omega
    have hm1 : at_ + E % 2 < (T1.size : Int) := by rw [x2.size]; omega
    -- what stands where behind the pieces
    have g1 : ∀ j : Nat, j < secs b.size → T1.last (at_ + 2 + wh * half + j) = some (.p E j (partB b j)) := fun j hj => by
      rw [x3]
      exact syncT_in _ _ ((pcs_mem _ _ _).mpr ⟨j, Nat.zero_le _, by omega, rfl⟩) (pcs_nodup _ _)
    have g2 : ∀ i : Int, (∀ j : Nat, j < secs b.size → i ≠ at_ + 2 + wh * half + j) → T1.last i = T.last i := fun i hi => by
      rw [x3]
      refine syncT_out _ _ fun p hp hpi => ?_
      obtain ⟨j, _, hj, rfl⟩ := (pcs_mem _ _ _).mp hp
      exact hi j (by omega) hpi.symm
    have some_of : ∀ T' : TD, T'.wait = [] → T'.size = T1.size → T'.last = T1.last → SwSome T T' at_ half E wh b := fun T' hw' hs' hl' => ⟨hw', hs'.trans x2.size, fun i => by
      rw [hl']
      by_cases hi : ∃ j : Nat, j < secs b.size ∧ i = at_ + 2 + wh * half + j
      · obtain ⟨j, hj, rfl⟩ := hi
        exact .inr ⟨j, hj, rfl, g1 j hj⟩
      · exact .inl (g2 i (fun j hj hij => hi ⟨j, hj, hij⟩))⟩
    have all_of : ∀ T' : TD, T'.wait = [] → T'.size = T1.size → T'.last = updT T1.last (at_ + E % 2) (.m E wh) → SwAll T T' at_ half E wh b := fun T' hw' hs' hl' => ⟨hw', hs'.trans x2.size, by rw [hl']; exact if_pos rfl, fun j hj => by
      rw [hl']
      unfold updT
      rw [if_neg (by omega)]
      exact g1 j hj, fun i hi hj => by
      rw [hl']
      unfold updT
      rw [if_neg hi]
      exact g2 i hj⟩
    rcases TD.write_cases x2.off hm0 hm1 (.m E wh) with ⟨y1, y2, y3, y4⟩ | ⟨y1, y2, y3⟩
    · generalize T1.write (at_ + E % 2) (.m E wh) = y at *
      obtain ⟨ya, T2⟩ := y
      dsimp only at y1 y2 y3 y4
      subst y1
      have hZ : swZ ((0 : Int), T2) = T2.sync := if_pos rfl
      rw [hZ]
      rw [x4, List.nil_append] at y4
      rcases TD.sync_cases y2.off with ⟨z1, z2, z3, z4⟩ | ⟨z1, z2, z3⟩
      · rw [y4, y3] at z3
        exact .inl ⟨z1, ⟨z2.size.trans (y2.size.trans x2.size), z2.off, fun hf => z2.fuse (y2.fuse (x2.fuse hf)), z2.keep.trans (y2.keep.trans x2.keep)⟩, all_of _ z4 (z2.size.trans y2.size) z3⟩
      · obtain ⟨kp, hkp⟩ := z3.last
        rw [y4, y3] at hkp
        refine .inr ⟨fun hf => z1 (y2.fuse (x2.fuse hf)), z2, z3.off, ?_⟩
        have hk : failT kp 0 [(at_ + E % 2, Ct.m E wh)] T1.last = (if keptAt kp 0 then updT T1.last (at_ + E % 2) (.m E wh) else T1.last) := rfl
        rw [hk] at hkp
        cases hka : keptAt kp 0 with
        | true => rw [hka] at hkp; exact .inl (all_of _ z3.wait (z3.size.trans y2.size) hkp)
        | false => rw [hka] at hkp; exact .inr (some_of _ z3.wait (z3.size.trans y2.size) hkp)
    · generalize T1.write (at_ + E % 2) (.m E wh) = y at *
      obtain ⟨ya, T2⟩ := y
      dsimp only at y1 y2 y3
      subst y2
      have hZ : swZ ((7 : Int), T2) = (7, T2) := if_neg (show ¬ ((7 : Int) = 0) by decide)
      rw [hZ]
      obtain ⟨kp, hkp⟩ := y3.last
      rw [x4] at hkp
      exact .inr ⟨fun hf => y1 (x2.fuse hf), rfl, y3.off, .inr (some_of _ y3.wait y3.size hkp)⟩
  · have hX : swX at_ half b E wh T = TD.wr at_ half b E wh 0 (secs b.size) T := rfl
    rw [hX]
    generalize TD.wr at_ half b E wh 0 (secs b.size) T = x at *
    obtain ⟨xa, T1⟩ := x
    dsimp only at x2 x4
    subst x2
    have hY : swY at_ E wh ((7 : Int), T1) = (7, T1) := if_neg (show ¬ ((7 : Int) = 0) by decide)
    have hZ : swZ ((7 : Int), T1) = (7, T1) := if_neg (show ¬ ((7 : Int) = 0) by decide)
    rw [hY, hZ]
    refine .inr ⟨x1, rfl, x4.off, .inr ⟨x4.wait, x4.size, fun i => ?_⟩⟩
    obtain ⟨kp, hkp⟩ := x4.last
    rw [hw, List.nil_append] at hkp
    dsimp only
    rw [hkp]
    rcases failT_cases kp (i := i) ((pcs at_ half b E wh 0 (secs b.size)).take k) 0 T.last with h | ⟨c, hc1, hc2⟩
    · exact .inl h
    · obtain ⟨j, _, hj, he⟩ := (pcs_mem _ _ _).mp (List.mem_of_mem_take hc1)
      obtain ⟨rfl, rfl⟩ := Prod.mk.inj he
      exact .inr ⟨j, by omega, rfl, hc2⟩
end Go.Proofs.YtegeaemkkbenfaaDoor.Ownd

/- What a log finds behind a Switch that is done, or cut short, plainly. No program. -/
namespace Go.Proofs.YtegeaemkkbenfaaDoor.Ownd
open Go.RowKit
set_option linter.unusedVariables false
set_option linter.unusedSimpArgs false
/-- Beyond the bytes no piece of the epoch stands. -/
def Beyond (T : TD) (base : Int) (half : Nat) (e : Int) (m : Nat) : Prop := ∀ j : Nat, m ≤ j * 242 → j < half → ∀ k s, T.get (base + j) ≠ .p e k s
theorem half_ix {wh : Int} (hwh : 0 ≤ wh ∧ wh ≤ 1) (half j : Nat) (hj : j < half) : ∃ q : Nat, q < 2 * half ∧ wh * (half : Int) + (j : Int) = (q : Int) := by
  rcases (show wh = 0 ∨ wh = 1 by omega) with rfl | rfl
  · exact ⟨j, by omega, by omega⟩
  · exact ⟨half + j, by omega, by omega⟩
theorem Disk.same {T T' : TD} {at_ : Int} {half : Nat} {e wh : Int} {b : ByteArray} {m : Nat} (h : Disk T at_ half e wh b m) (hw : T'.wait = []) (hs : T'.size = T.size) (ha : T'.All (Plc at_))
    (hm : ∀ j : Nat, j < 2 → T'.get (at_ + j) = T.get (at_ + j)) (hh : ∀ j : Nat, j < half → T'.get (at_ + 2 + wh * half + j) = T.get (at_ + 2 + wh * half + j)) : Disk T' at_ half e wh b m where
  wait := hw
  all := ha
  size := by rw [hs]; exact h.size
  e1 := h.e1
  wh01 := h.wh01
  mast := by
    have := hm (e % 2).toNat (by omega)
    rw [show (((e % 2).toNat : Nat) : Int) = e % 2 by omega] at this
    rw [this]; exact h.mast
  oth e' h' hc := by
    have := hm ((e + 1) % 2).toNat (by omega)
    rw [show ((((e + 1) % 2).toNat : Nat) : Int) = (e + 1) % 2 by omega] at this
    rw [this] at hc
    exact h.oth e' h' hc
  reads := {
    le := h.reads.le
    fits := h.reads.fits
    full := fun j hj => by
      have := h.reads.fits
      rw [hh j (by omega)]; exact h.reads.full j hj
    part := fun j h1 h2 => by
      have := h.reads.fits
      rw [hh j (by omega)]; exact h.reads.part j h1 h2
    stale := fun j h1 h2 s => by rw [hh j h2]; exact h.reads.stale j h1 h2 s }
section
variable {T T' : TD} {at_ : Int} {half : Nat} {E wh G : Int} {b : ByteArray}
theorem plc_m (hE : 1 ≤ E ∧ E < 281474976710656) (hwh : 0 ≤ wh ∧ wh ≤ 1) : Plc at_ (at_ + E % 2) (.m E wh) := ⟨⟨hE.1, hE.2, hwh.1, hwh.2⟩, fun _ => trivial, fun h => absurd h (by omega)⟩
theorem plc_p (hE : 1 ≤ E ∧ E < 281474976710656) (hwh : 0 ≤ wh ∧ wh ≤ 1) {j : Nat} (hj : j < half) (hh : half ≤ 512) : Plc at_ (at_ + 2 + wh * half + j) (.p E j (partB b j)) := by
  obtain ⟨q, _, hq⟩ := half_ix hwh half j hj
  exact ⟨⟨by omega, hE.2, by omega, by omega, partB_size b j⟩, fun h => absurd h (by omega), fun _ => trivial⟩
theorem SwAll.all (h : SwAll T T' at_ half E wh b) (ha : T.All (Plc at_)) (hE : 1 ≤ E ∧ E < 281474976710656) (hwh : 0 ≤ wh ∧ wh ≤ 1) (hn : secs b.size ≤ half) (hh : half ≤ 512) : T'.All (Plc at_) where
  wait p hp := by rw [h.wait] at hp; cases hp
  last i c hc := by
    by_cases h1 : i = at_ + E % 2
    · subst h1
      rw [h.mast] at hc
      obtain rfl := Option.some.inj hc
      exact plc_m hE hwh
    · by_cases h2 : ∃ j : Nat, j < secs b.size ∧ i = at_ + 2 + wh * half + j
      · obtain ⟨j, hj, rfl⟩ := h2
        rw [h.piece j hj] at hc
        obtain rfl := Option.some.inj hc
        exact plc_p hE hwh (by omega) hh
      · rw [h.rest i h1 (fun j hj hij => h2 ⟨j, hj, hij⟩)] at hc
        exact ha.last i c hc
theorem SwSome.all (h : SwSome T T' at_ half E wh b) (ha : T.All (Plc at_)) (hE : 1 ≤ E ∧ E < 281474976710656) (hwh : 0 ≤ wh ∧ wh ≤ 1) (hn : secs b.size ≤ half) (hh : half ≤ 512) : T'.All (Plc at_) where
  wait p hp := by rw [h.wait] at hp; cases hp
  last i c hc := by
    rcases h.any i with h1 | ⟨j, hj, rfl, h1⟩
    · rw [h1] at hc; exact ha.last i c hc
    · rw [h1] at hc
      obtain rfl := Option.some.inj hc
      exact plc_p hE hwh (by omega) hh
theorem SwAll.disk (h : SwAll T T' at_ half E wh b) (hw : T.wait = []) (ha : T.All (Plc at_)) (hp : Eps T at_ half G) (hG : G < E) (hE : 1 ≤ E ∧ E < 281474976710656) (hwh : 0 ≤ wh ∧ wh ≤ 1) (hfit : b.size ≤ half * 242) (hh : half ≤ 512) (hz : at_ + 2 + 2 * (half : Int) ≤ (T.size : Int)) :
    Disk T' at_ half E wh b b.size ∧ Eps T' at_ half E ∧ Beyond T' (at_ + 2 + wh * half) half E b.size := by
  have hn : secs b.size ≤ half := by unfold secs; omega
  have g : ∀ i, T'.get i = (T'.last i).getD .z := get_last h.wait
  have g0 : ∀ i, T.get i = (T.last i).getD .z := get_last hw
  have gm : T'.get (at_ + E % 2) = .m E wh := by rw [g, h.mast]; rfl
  have gp : ∀ j : Nat, j < secs b.size → T'.get (at_ + 2 + wh * half + j) = .p E j (partB b j) := fun j hj => by rw [g, h.piece j hj]; rfl
  have gr : ∀ i : Int, i ≠ at_ + E % 2 → (∀ j : Nat, j < secs b.size → i ≠ at_ + 2 + wh * half + j) → T'.get i = T.get i := fun i h1 h2 => by rw [g, g0, h.rest i h1 h2]
  have hsec : ∀ j : Nat, j < half → at_ + 2 ≤ at_ + 2 + wh * (half : Int) + (j : Int) := fun j hj => by
    obtain ⟨q, _, hq⟩ := half_ix hwh half j hj
    omega
  have hmq : at_ + E % 2 ≤ at_ + 1 := by omega
  have hbey : ∀ j : Nat, secs b.size ≤ j → j < half → ∀ k s, T'.get (at_ + 2 + wh * half + j) ≠ .p E k s := by
    intro j h1 h2 k s hc
    have h3 := hsec j h2
    rw [gr _ (by omega) (fun j' hj' => by omega)] at hc
    obtain ⟨q, hq1, hq2⟩ := half_ix hwh half j h2
    rw [show at_ + 2 + wh * (half : Int) + (j : Int) = at_ + 2 + (q : Int) by omega] at hc
    have := hp.p q hq1 E k s hc
    omega
  have hmrest : ∀ x : Int, at_ ≤ x → x ≤ at_ + 1 → x ≠ at_ + E % 2 → T'.get x = T.get x := fun x h1 h2 h3 => gr x h3 (fun j hj => by have := hsec j (by omega); omega)
  refine ⟨⟨h.wait, h.all ha hE hwh hn hh, by rw [h.size]; exact hz, hE.1, hwh, gm, ?_, reads_new hfit gp hbey⟩, ⟨?_, ?_⟩, ?_⟩
  · intro e' h' hc
    rw [hmrest _ (by omega) (by omega) (by omega)] at hc
    have h1 := hp.m ((E + 1) % 2).toNat (by omega) e' h'
    rw [show ((((E + 1) % 2).toNat : Nat) : Int) = (E + 1) % 2 by omega] at h1
    have := h1 hc
    omega
  · intro j hj e' h' hc
    by_cases h1 : at_ + (j : Int) = at_ + E % 2
    · rw [h1, gm] at hc
      have := (Ct.m.inj hc).1
      omega
    · rw [hmrest _ (by omega) (by omega) h1] at hc
      have := hp.m j hj e' h' hc
      omega
  · intro j hj e' k s hc
    by_cases h1 : ∃ j' : Nat, j' < secs b.size ∧ at_ + 2 + (j : Int) = at_ + 2 + wh * half + j'
    · obtain ⟨j', hj', h2⟩ := h1
      rw [h2, gp j' hj'] at hc
      have := (Ct.p.inj hc).1
      omega
    · rw [gr _ (by omega) (fun j' hj' hc' => h1 ⟨j', hj', hc'⟩)] at hc
      have := hp.p j hj e' k s hc
      omega
  · intro j h1 h2 k s
    exact hbey j (by unfold secs; omega) h2 k s
theorem SwSome.disk {e wh0 : Int} {b0 : ByteArray} {m0 : Nat} (h : SwSome T T' at_ half E wh b) (hd : Disk T at_ half e wh0 b0 m0) (hwo : wh = 1 - wh0) (hp : Eps T at_ half G) (hG : G < E) (hE : 1 ≤ E ∧ E < 281474976710656) (hfit : b.size ≤ half * 242) (hh : half ≤ 512) :
    Disk T' at_ half e wh0 b0 m0 ∧ Eps T' at_ half E := by
  have hn : secs b.size ≤ half := by unfold secs; omega
  have hw0 := hd.wh01
  have hwh : 0 ≤ wh ∧ wh ≤ 1 := by omega
  have g : ∀ i, T'.get i = (T'.last i).getD .z := get_last h.wait
  have g0 : ∀ i, T.get i = (T.last i).getD .z := get_last hd.wait
  have hsec : ∀ j : Nat, j < half → at_ + 2 ≤ at_ + 2 + wh * (half : Int) + (j : Int) := fun j hj => by
    obtain ⟨q, _, hq⟩ := half_ix hwh half j hj
    omega
  have gm : ∀ j : Nat, j < 2 → T'.get (at_ + j) = T.get (at_ + j) := fun j hj => by
    rcases h.any (at_ + j) with h1 | ⟨j', hj', h2, _⟩
    · rw [g, g0, h1]
    · have := hsec j' (by omega); omega
  refine ⟨hd.same h.wait h.size (h.all hd.all hE hwh hn hh) gm fun j hj => ?_, ⟨?_, ?_⟩⟩
  · rcases h.any (at_ + 2 + wh0 * half + j) with h1 | ⟨j', hj', h2, _⟩
    · rw [g, g0, h1]
    · subst hwo
      exfalso
      rcases (show wh0 = 0 ∨ wh0 = 1 by omega) with rfl | rfl <;> omega
  · intro j hj e' h' hc
    rw [gm j hj] at hc
    have := hp.m j hj e' h' hc
    omega
  · intro j hj e' k s hc
    rcases h.any (at_ + 2 + j) with h1 | ⟨j', hj', h2, h3⟩
    · rw [g, h1, ← g0] at hc
      have := hp.p j hj e' k s hc
      omega
    · rw [g, h3] at hc
      have := (Ct.p.inj hc).1
      omega
end
end Go.Proofs.YtegeaemkkbenfaaDoor.Ownd

/- Flush, plainly: it is done, or cut short: then some first bytes are there, no fewer than what lasted. No program. -/
namespace Go.Proofs.YtegeaemkkbenfaaDoor.Ownd
open Go.RowKit
set_option linter.unusedVariables false
set_option linter.unusedSimpArgs false
theorem first_not (P : Nat → Prop) : ∀ (r i : Nat), ∃ j, i ≤ j ∧ j ≤ i + r ∧ (∀ k, i ≤ k → k < j → P k) ∧ (j < i + r → ¬ P j)
  | 0, i => ⟨i, Nat.le_refl _, Nat.le_refl _, fun k h1 h2 => by omega, fun h => by omega⟩
  | r + 1, i => by
    by_cases h : P i
    · obtain ⟨j, h1, h2, h3, h4⟩ := first_not P r (i + 1)
      refine ⟨j, by omega, by omega, fun k hk1 hk2 => ?_, fun hj => h4 (by omega)⟩
      by_cases hk : k = i
      · subst hk; exact h
      · exact h3 k (by omega) hk2
    · exact ⟨i, Nat.le_refl _, by omega, fun k h1 h2 => by omega, fun _ => h⟩
section
variable {T T' : TD} {at_ : Int} {half : Nat} {e wh G : Int} {b : ByteArray} {la : Nat}
/-- Flush has written pieces from the lasting bytes on: all (j0 = the last), or some. -/
theorem flush_reads {base : Int} {c c' : Int → Ct} (hr : Reads c base half e b la) (hb : ∀ j : Nat, la ≤ j * 242 → j < half → ∀ k s, c (base + j) ≠ .p e k s) (hfit : b.size ≤ half * 242)
    (hold : ∀ j : Nat, j < half → j < la / 242 ∨ secs b.size ≤ j → c' (base + j) = c (base + j)) (j0 : Nat) (h0 : la / 242 < j0 ∨ la = la / 242 * 242 ∧ j0 = la / 242) (h1 : j0 ≤ secs b.size)
    (hnew : ∀ j : Nat, la / 242 ≤ j → j < j0 → c' (base + j) = .p e j (partB b j)) (hst : j0 < secs b.size → c' (base + j0) = c (base + j0)) : ∃ m, la ≤ m ∧ m ≤ b.size ∧ (j0 = secs b.size → m = b.size) ∧ Reads c' base half e b m := by
  have hla := hr.le
  refine ⟨min (j0 * 242) b.size, ?_, Nat.min_le_right _ _, ?_, ?_⟩
  · have : secs b.size = (b.size + 241) / 242 := rfl
    omega
  · intro hj
    have : secs b.size = (b.size + 241) / 242 := rfl
    omega
  have hse : secs b.size = (b.size + 241) / 242 := rfl
  refine ⟨Nat.min_le_right _ _, by omega, ?_, ?_, ?_⟩
  · intro j hj
    by_cases h2 : j < la / 242
    · rw [hold j (by omega) (.inl h2)]
      exact hr.full j (by omega)
    · rw [hnew j (by omega) (by omega)]
      unfold partB
      rw [Nat.min_eq_left (by omega)]
  · intro j h2 h3
    have hj : b.size ≤ j0 * 242 := by omega
    rw [hnew j (by omega) (by omega)]
    unfold partB
    rw [Nat.min_eq_right (by omega), Nat.min_eq_right hj]
  · intro j h2 h3 s hc
    by_cases h4 : j0 < secs b.size
    · obtain rfl : j = j0 := by omega
      rw [hst h4] at hc
      exact hb j (by omega) h3 j s hc
    · rw [hold j h3 (.inr (by omega))] at hc
      exact hb j (by omega) h3 j s hc
theorem flush_disk (hd : Disk T at_ half e wh b la) (hb : Beyond T (at_ + 2 + wh * half) half e la) (hp : Eps T at_ half G) (hG : e ≤ G) (hE : e < 281474976710656) (hfit : b.size ≤ half * 242) (hh : half ≤ 512) (h1 : 1 ≤ half) (ho : T.off = false) (h0 : 0 ≤ at_) :
    ((TD.wr at_ half b e wh (la / 242) (secs b.size - la / 242) T).1 = 0 ∧ T.Went (TD.wr at_ half b e wh (la / 242) (secs b.size - la / 242) T).2 ∧ Disk (TD.wr at_ half b e wh (la / 242) (secs b.size - la / 242) T).2 at_ half e wh b b.size ∧ Eps (TD.wr at_ half b e wh (la / 242) (secs b.size - la / 242) T).2 at_ half G ∧ Beyond (TD.wr at_ half b e wh (la / 242) (secs b.size - la / 242) T).2 (at_ + 2 + wh * half) half e b.size) ∨
    (T.fuse ≠ 0 ∧ (TD.wr at_ half b e wh (la / 242) (secs b.size - la / 242) T).1 = 7 ∧ (TD.wr at_ half b e wh (la / 242) (secs b.size - la / 242) T).2.off = true ∧ ∃ m, la ≤ m ∧ m ≤ b.size ∧ Disk (TD.wr at_ half b e wh (la / 242) (secs b.size - la / 242) T).2 at_ half e wh b m ∧ Eps (TD.wr at_ half b e wh (la / 242) (secs b.size - la / 242) T).2 at_ half G) := by
  have hn : secs b.size ≤ half := by unfold secs; omega
  have hla := hd.reads.le
  have hi0 : la / 242 ≤ secs b.size := by unfold secs; omega
  have hwh := hd.wh01
  have he1 := hd.e1
  have hzz := hd.size
  have hsec : ∀ j : Nat, j < half → at_ + 2 ≤ at_ + 2 + wh * (half : Int) + (j : Int) ∧ at_ + 2 + wh * (half : Int) + (j : Int) < (T.size : Int) := fun j hj => by
    obtain ⟨q, hq1, hq⟩ := half_ix hwh half j hj
    omega
  -- what stands where, when T' holds old contents or new pieces
  have key : ∀ T' : TD, T'.wait = [] → T'.size = T.size → (∀ i : Int, T'.last i = T.last i ∨ ∃ j : Nat, la / 242 ≤ j ∧ j < secs b.size ∧ i = at_ + 2 + wh * half + j ∧ T'.last i = some (.p e j (partB b j))) →
      ∀ j0 : Nat, (la / 242 < j0 ∨ la = la / 242 * 242 ∧ j0 = la / 242) → j0 ≤ secs b.size → (∀ j : Nat, la / 242 ≤ j → j < j0 → T'.get (at_ + 2 + wh * half + j) = .p e j (partB b j)) → (j0 < secs b.size → T'.get (at_ + 2 + wh * half + j0) ≠ .p e j0 (partB b j0)) →
      (∃ m, la ≤ m ∧ m ≤ b.size ∧ (j0 = secs b.size → m = b.size) ∧ Disk T' at_ half e wh b m) ∧ Eps T' at_ half G ∧ Beyond T' (at_ + 2 + wh * half) half e b.size := by
    intro T' hw' hs' hany j0 hj0 hj1 hnew hst
    have g : ∀ i, T'.get i = (T'.last i).getD .z := get_last hw'
    have g0 : ∀ i, T.get i = (T.last i).getD .z := get_last hd.wait
    have gm : ∀ j : Nat, j < 2 → T'.get (at_ + j) = T.get (at_ + j) := fun j hj => by
      rcases hany (at_ + j) with h | ⟨j', _, hj', h2, _⟩
      · rw [g, g0, h]
      · have := (hsec j' (by omega)).1; omega
    have hold : ∀ j : Nat, j < half → j < la / 242 ∨ secs b.size ≤ j → T'.get (at_ + 2 + wh * half + j) = T.get (at_ + 2 + wh * half + j) := fun j hj hj2 => by
      rcases hany (at_ + 2 + wh * half + j) with h | ⟨j', h1', hj', h2, _⟩
      · rw [g, g0, h]
      · omega
    have hst2 : j0 < secs b.size → T'.get (at_ + 2 + wh * half + j0) = T.get (at_ + 2 + wh * half + j0) := fun hj => by
      rcases hany (at_ + 2 + wh * half + j0) with h | ⟨j', h1', hj', h2, h3⟩
      · rw [g, g0, h]
      · obtain rfl : j0 = j' := by omega
        exact absurd (by rw [g, h3]; rfl) (hst hj)
    have hall : T'.All (Plc at_) := ⟨fun i c hc => by
      rcases hany i with h | ⟨j', h1', hj', rfl, h3⟩
      · rw [h] at hc; exact hd.all.last i c hc
      · rw [h3] at hc
        obtain rfl := Option.some.inj hc
        exact plc_p ⟨he1, hE⟩ hwh (by omega) hh, fun p hp' => by rw [hw'] at hp'; cases hp'⟩
    obtain ⟨m, m1, m2, m3, m4⟩ := flush_reads hd.reads hb hfit hold j0 hj0 hj1 hnew hst2
    refine ⟨⟨m, m1, m2, m3, ⟨hw', hall, by rw [hs']; exact hzz, he1, hwh, ?_, ?_, m4⟩⟩, ⟨?_, ?_⟩, ?_⟩
    · have := gm (e % 2).toNat (by omega)
      rw [show (((e % 2).toNat : Nat) : Int) = e % 2 by omega] at this
      rw [this]; exact hd.mast
    · intro e' h' hc
      have := gm ((e + 1) % 2).toNat (by omega)
      rw [show ((((e + 1) % 2).toNat : Nat) : Int) = (e + 1) % 2 by omega] at this
      rw [this] at hc
      exact hd.oth e' h' hc
    · intro j hj e' h' hc
      rw [gm j hj] at hc
      exact hp.m j hj e' h' hc
    · intro j hj e' k s hc
      rcases hany (at_ + 2 + j) with h | ⟨j', h1', hj', h2, h3⟩
      · rw [g, h, ← g0] at hc
        exact hp.p j hj e' k s hc
      · rw [g, h3] at hc
        have := (Ct.p.inj hc).1
        omega
    · intro j h2 h3 k s hc
      rw [hold j h3 (.inr (by unfold secs; omega))] at hc
      exact hb j (by omega) h3 k s hc
  rcases wr_cases at_ half b e wh (secs b.size - la / 242) (la / 242) T ho (fun j h2 h3 => by have := hsec j (by omega); omega) with ⟨x1, x2, x3, x4⟩ | ⟨x1, x2, k, x3, x4⟩
  · refine .inl ⟨x1, x2, ?_⟩
    rw [hd.wait, List.nil_append] at x3
    have gin : ∀ j : Nat, la / 242 ≤ j → j < secs b.size → (TD.wr at_ half b e wh (la / 242) (secs b.size - la / 242) T).2.last (at_ + 2 + wh * half + j) = some (.p e j (partB b j)) := fun j h2 h3 => by
      rw [x3]
      exact syncT_in _ _ ((pcs_mem _ _ _).mpr ⟨j, h2, by omega, rfl⟩) (pcs_nodup _ _)
    have hany : ∀ i : Int, (TD.wr at_ half b e wh (la / 242) (secs b.size - la / 242) T).2.last i = T.last i ∨ ∃ j : Nat, la / 242 ≤ j ∧ j < secs b.size ∧ i = at_ + 2 + wh * half + j ∧ (TD.wr at_ half b e wh (la / 242) (secs b.size - la / 242) T).2.last i = some (.p e j (partB b j)) := fun i => by
      by_cases hi : ∃ j : Nat, la / 242 ≤ j ∧ j < secs b.size ∧ i = at_ + 2 + wh * half + j
      · obtain ⟨j, h2, h3, rfl⟩ := hi
        exact .inr ⟨j, h2, h3, rfl, gin j h2 h3⟩
      · refine .inl ?_
        rw [x3]
        refine syncT_out _ _ fun p hp hpi => ?_
        obtain ⟨j, h2, h3, rfl⟩ := (pcs_mem _ _ _).mp hp
        exact hi ⟨j, h2, by omega, hpi.symm⟩
    by_cases hq : la / 242 < secs b.size ∨ la = la / 242 * 242 ∧ secs b.size = la / 242
    · obtain ⟨⟨m, m1, m2, m3, m4⟩, m5, m6⟩ := key _ x4 x2.size hany (secs b.size) hq (Nat.le_refl _) (fun j h2 h3 => by rw [get_last x4, gin j h2 h3]; rfl) (fun h => absurd h (Nat.lt_irrefl _))
      rw [m3 rfl] at m4
      exact ⟨m4, m5, m6⟩
    · exfalso
      have : secs b.size = (b.size + 241) / 242 := rfl
      omega
  · refine .inr ⟨x1, x2, x4.off, ?_⟩
    obtain ⟨kp, hkp⟩ := x4.last
    rw [hd.wait, List.nil_append] at hkp
    have hany : ∀ i : Int, (TD.wr at_ half b e wh (la / 242) (secs b.size - la / 242) T).2.last i = T.last i ∨ ∃ j : Nat, la / 242 ≤ j ∧ j < secs b.size ∧ i = at_ + 2 + wh * half + j ∧ (TD.wr at_ half b e wh (la / 242) (secs b.size - la / 242) T).2.last i = some (.p e j (partB b j)) := fun i => by
      rw [hkp]
      rcases failT_cases kp (i := i) ((pcs at_ half b e wh (la / 242) (secs b.size - la / 242)).take k) 0 T.last with h | ⟨c, hc1, hc2⟩
      · exact .inl h
      · obtain ⟨j, h2, h3, he⟩ := (pcs_mem _ _ _).mp (List.mem_of_mem_take hc1)
        obtain ⟨rfl, rfl⟩ := Prod.mk.inj he
        exact .inr ⟨j, h2, by omega, rfl, hc2⟩
    generalize (TD.wr at_ half b e wh (la / 242) (secs b.size - la / 242) T).2 = T' at x4 hany ⊢
    obtain ⟨j0, f1, f2, f3, f4⟩ := first_not (fun j => T'.get (at_ + 2 + wh * half + j) = .p e j (partB b j)) (secs b.size - la / 242) (la / 242)
    by_cases hq : la / 242 < j0 ∨ la = la / 242 * 242 ∧ j0 = la / 242
    · obtain ⟨⟨m, m1, m2, m3, m4⟩, m5, m6⟩ := key _ x4.wait x4.size hany j0 hq (by omega) f3 (fun h => f4 (by omega))
      exact ⟨m, m1, m2, m4, m5⟩
    · -- the first of them is as it was: what lasted is there, no more
      have hj : j0 = la / 242 := by omega
      subst hj
      have hlt : la / 242 < secs b.size := by
        have : secs b.size = (b.size + 241) / 242 := rfl
        omega
      have hnot := f4 (by omega)
      have g : ∀ i, T'.get i = (T'.last i).getD .z := get_last x4.wait
      have g0 : ∀ i, T.get i = (T.last i).getD .z := get_last hd.wait
      have gm : ∀ j : Nat, j < 2 → T'.get (at_ + j) = T.get (at_ + j) := fun j hj => by
        rcases hany (at_ + j) with h | ⟨j', _, hj', h2, _⟩
        · rw [g, g0, h]
        · have := (hsec j' (by omega)).1; omega
      have hold : ∀ j : Nat, j < half → j ≤ la / 242 → T'.get (at_ + 2 + wh * half + j) = T.get (at_ + 2 + wh * half + j) := fun j hj hj2 => by
        rcases hany (at_ + 2 + wh * half + j) with h | ⟨j', h1', hj', h2, h3⟩
        · rw [g, g0, h]
        · obtain rfl : j = j' := by omega
          obtain rfl : j = la / 242 := by omega
          exact absurd (by rw [g, h3]; rfl) hnot
      have hall : T'.All (Plc at_) := ⟨fun i c hc => by
        rcases hany i with h | ⟨j', h1', hj', rfl, h3⟩
        · rw [h] at hc; exact hd.all.last i c hc
        · rw [h3] at hc
          obtain rfl := Option.some.inj hc
          exact plc_p ⟨he1, hE⟩ hwh (by omega) hh, fun p hp' => by rw [x4.wait] at hp'; cases hp'⟩
      refine ⟨la, Nat.le_refl _, hla, ⟨x4.wait, hall, by rw [x4.size]; exact hzz, he1, hwh, ?_, ?_, ⟨hla, hd.reads.fits, ?_, ?_, ?_⟩⟩, ⟨?_, ?_⟩⟩
      · have := gm (e % 2).toNat (by omega)
        rw [show (((e % 2).toNat : Nat) : Int) = e % 2 by omega] at this
        rw [this]; exact hd.mast
      · intro e' h' hc
        have := gm ((e + 1) % 2).toNat (by omega)
        rw [show ((((e + 1) % 2).toNat : Nat) : Int) = (e + 1) % 2 by omega] at this
        rw [this] at hc
        exact hd.oth e' h' hc
      · intro j hj
        rw [hold j (by omega) (by omega)]; exact hd.reads.full j hj
      · intro j hj1 hj2
        rw [hold j (by omega) (by omega)]; exact hd.reads.part j hj1 hj2
      · intro j hj1 hj2 s
        omega
      · intro j hj e' h' hc
        rw [gm j hj] at hc
        exact hp.m j hj e' h' hc
      · intro j hj e' k s hc
        rcases hany (at_ + 2 + j) with h | ⟨j', h1', hj', h2, h3⟩
        · rw [g, h, ← g0] at hc
          exact hp.p j hj e' k s hc
        · rw [g, h3] at hc
          have := (Ct.p.inj hc).1
          omega
end
end Go.Proofs.YtegeaemkkbenfaaDoor.Ownd

/- A log in use, plainly: what Append, Flush, Switch and Open make of it. No program. -/
namespace Go.Proofs.YtegeaemkkbenfaaDoor.Ownd
open Go.RowKit
set_option linter.unusedVariables false
set_option linter.unusedSimpArgs false
/-- A place of a log on a device. -/
structure Site (T : TD) (at_ : Int) (half : Nat) : Prop where
  at0 : 0 ≤ at_ ∧ at_ ≤ 5000
  half1 : 1 ≤ half ∧ half ≤ 512
  fit : at_ + 2 + 2 * (half : Int) ≤ (T.size : Int)
  size : T.size ≤ 5000
/-- A log in use: behind a Switch. It holds the texts l, of which q last. -/
structure InUse (T : TD) (L : LG) (at_ : Int) (half : Nat) (l : List ByteArray) (q : Nat) : Prop where
  site : Site T at_ half
  on : T.off = false
  lat : L.at_ = at_
  lhalf : L.half = half
  great : L.greatest = L.epoch
  awaits : L.awaits = false
  lon : L.off = false
  bytes : L.bytes = encT l
  lasting : L.lasting = ((encT (l.take q)).size : Nat)
  qle : q ≤ l.length
  right : ∀ s ∈ l, Right s
  fits : (encT l).size ≤ half * 242
  disk : Disk T at_ half L.epoch L.which (encT l) (encT (l.take q)).size
  eps : Eps T at_ half L.epoch
  beyond : Beyond T (at_ + 2 + L.which * half) half L.epoch (encT (l.take q)).size
/-- A log that was opened, or is being formatted: it waits for a Switch. -/
structure Opened (T : TD) (L : LG) (at_ : Int) (half : Nat) : Prop where
  site : Site T at_ half
  on : T.off = false
  lat : L.at_ = at_
  lhalf : L.half = half
  lon : L.off = false
  which : 0 ≤ L.which ∧ L.which ≤ 1
  wait : T.wait = []
  all : T.All (Plc at_)
  great : 0 ≤ L.greatest
  eps : Eps T at_ half L.greatest
theorem InUse.ready {T : TD} {L : LG} {at_ : Int} {half q : Nat} {l : List ByteArray} (h : InUse T L at_ half l q) (app : Bool) : readyE L T app = 0 := by
  unfold readyE
  rw [if_neg (by rw [h.lon, h.on]; simp), if_neg (by rw [h.awaits]; simp)]
theorem Opened.ready {T : TD} {L : LG} {at_ : Int} {half : Nat} (h : Opened T L at_ half) : readyE L T false = 0 := by
  unfold readyE
  rw [if_neg (by rw [h.lon, h.on]; simp), if_neg (by simp)]
theorem InUse.opened {T : TD} {L : LG} {at_ : Int} {half q : Nat} {l : List ByteArray} (h : InUse T L at_ half l q) : Opened T L at_ half where
  site := h.site
  on := h.on
  lat := h.lat
  lhalf := h.lhalf
  lon := h.lon
  which := h.disk.wh01
  wait := h.disk.wait
  all := h.disk.all
  great := by rw [h.great]; have := h.disk.e1; omega
  eps := by rw [h.great]; exact h.eps
theorem encT_snoc (l : List ByteArray) (s : ByteArray) : encT (l ++ [s]) = encT l ++ textB s := by
  rw [encT_append]
  show encT l ++ (textB s ++ (⟨#[]⟩ : ByteArray)) = _
  rw [b_app_nil]
/-- The room of a log in use. -/
theorem InUse.room {T : TD} {L : LG} {at_ : Int} {half q : Nat} {l : List ByteArray} (h : InUse T L at_ half l q) : roomE L = (half : Int) * 242 - (encT l).size := by
  unfold roomE
  rw [if_neg (by rw [h.awaits]; simp), h.lhalf, h.bytes]
/-- Append where there is room. -/
theorem InUse.append {T : TD} {L : LG} {at_ : Int} {half q : Nat} {l : List ByteArray} (h : InUse T L at_ half l q) (lsn : Int) {s : ByteArray} (h0 : s.size ≠ 0) (h1 : s.size ≤ 16384) (h2 : (encT l).size + (s.size + 2) ≤ half * 242) :
    (L.append T lsn s).1 = 0 ∧ InUse T (L.append T lsn s).2 at_ half (l ++ [s]) q := by
  have hr := h.room
  unfold LG.append
  rw [if_neg (by rw [h.ready]; simp), if_neg (by omega), if_neg (by rw [hr]; omega)]
  have hq : (l ++ [s]).take q = l.take q := by rw [List.take_append_of_le_length h.qle]
  have hz : (encT (l ++ [s])).size = (encT l).size + (s.size + 2) := by rw [encT_snoc, ByteArray.size_append, textB_size]
  have hle := h.disk.reads.le
  refine ⟨rfl, h.site, h.on, h.lat, h.lhalf, h.great, h.awaits, h.lon, by rw [encT_snoc]; show L.bytes ++ _ = _; rw [h.bytes], by rw [hq]; exact h.lasting, by rw [List.length_append]; exact Nat.le_trans h.qle (Nat.le_add_right _ _), ?_, by rw [hz]; exact h2, ?_, h.eps, by rw [hq]; exact h.beyond⟩
  · intro t ht
    rcases List.mem_append.mp ht with ht | ht
    · exact h.right t ht
    · obtain rfl := List.mem_singleton.mp ht
      exact ⟨h0, by omega⟩
  · rw [hq]
    have hd := h.disk
    refine ⟨hd.wait, hd.all, hd.size, hd.e1, hd.wh01, hd.mast, hd.oth, ⟨by rw [hz]; omega, hd.reads.fits, ?_, ?_, hd.reads.stale⟩⟩
    · intro j hj
      rw [encT_snoc, ext_of_app_left _ _ (by omega)]
      exact hd.reads.full j hj
    · intro j h3 h4
      rw [encT_snoc, ext_of_app_left _ _ hle]
      exact hd.reads.part j h3 h4
/-- Append where there is none. -/
theorem InUse.append_no {T : TD} {L : LG} {at_ : Int} {half q : Nat} {l : List ByteArray} (h : InUse T L at_ half l q) (lsn : Int) {s : ByteArray} (h0 : s.size ≠ 0) (h1 : s.size ≤ 16384) (h2 : half * 242 < (encT l).size + (s.size + 2)) :
    L.append T lsn s = (9, L) := by
  have hr := h.room
  unfold LG.append
  rw [if_neg (by rw [h.ready]; simp), if_neg (by omega), if_pos (by rw [hr]; omega)]
theorem InUse.append_nil {T : TD} {L : LG} {at_ : Int} {half q : Nat} {l : List ByteArray} (h : InUse T L at_ half l q) (lsn : Int) {s : ByteArray} (h0 : s.size = 0) : L.append T lsn s = (6, L) := by
  unfold LG.append
  rw [if_neg (by rw [h.ready]; simp), if_pos (.inl h0)]
/-- Flush: done, or cut short. -/
theorem InUse.flush {T : TD} {L : LG} {at_ : Int} {half q : Nat} {l : List ByteArray} (h : InUse T L at_ half l q) (hE : L.epoch < 281474976710656) :
    ((L.flush T).1 = 0 ∧ InUse (L.flush T).2.2 (L.flush T).2.1 at_ half l l.length ∧ (T.fuse = 0 → (L.flush T).2.2.fuse = 0) ∧ (L.flush T).2.1.epoch = L.epoch) ∨
    (T.fuse ≠ 0 ∧ (L.flush T).1 = 7 ∧ (L.flush T).2.2.off = true ∧ ∃ m, (encT (l.take q)).size ≤ m ∧ m ≤ (encT l).size ∧ Disk (L.flush T).2.2 at_ half L.epoch L.which (encT l) m ∧ Eps (L.flush T).2.2 at_ half L.epoch) := by
  unfold LG.flush
  by_cases hz : L.lasting = L.bytes.size
  · rw [if_pos (.inr hz)]
    have hs : (encT (l.take q)).size = (encT l).size := by
      rw [h.lasting, h.bytes] at hz
      omega
    refine .inl ⟨h.ready true, ⟨h.site, h.on, h.lat, h.lhalf, h.great, h.awaits, h.lon, h.bytes, ?_, Nat.le_refl _, h.right, h.fits, ?_, h.eps, ?_⟩, fun hf => hf, rfl⟩
    · rw [List.take_length, ← hs]; exact h.lasting
    · rw [List.take_length, ← hs]; exact h.disk
    · rw [List.take_length, ← hs]; exact h.beyond
  · rw [if_neg (fun hc => hc.elim (fun hc => hc (h.ready true)) hz)]
    have hw : L.wrF T = TD.wr at_ half (encT l) L.epoch L.which ((encT (l.take q)).size / 242) (secs (encT l).size - (encT (l.take q)).size / 242) T := by
      unfold LG.wrF
      rw [h.lat, h.lhalf, h.bytes, h.lasting]
      rfl
    have hh := h.site.half1
    rcases flush_disk h.disk h.beyond h.eps (Int.le_refl _) hE h.fits hh.2 hh.1 h.on h.site.at0.1 with ⟨f1, f2, f3, f4, f5⟩ | ⟨f1, f2, f3, m, f4, f5, f6, f7⟩
    · rw [← hw] at f1 f2 f3 f4 f5
      rw [if_pos f1]
      refine .inl ⟨rfl, ⟨⟨h.site.at0, hh, by rw [f2.size]; exact h.site.fit, by rw [f2.size]; exact h.site.size⟩, f2.off, h.lat, h.lhalf, h.great, h.awaits, h.lon, h.bytes, ?_, Nat.le_refl _, h.right, h.fits, ?_, f4, ?_⟩, f2.fuse, rfl⟩
      · rw [List.take_length]
        show ((L.bytes.size : Nat) : Int) = _
        rw [h.bytes]
      · rw [List.take_length]; exact f3
      · rw [List.take_length]; exact f5
    · rw [← hw] at f2 f3 f6 f7
      rw [if_neg (by rw [f2]; decide)]
      exact .inr ⟨f1, f2, f3, m, f4, f5, f6, f7⟩
theorem enc_one (s : ByteArray) : encT [s] = textB s := b_app_nil _
/-- Switch of a log that is ready: done, or cut short. -/
theorem Opened.switch {T : TD} {L : LG} {at_ : Int} {half : Nat} (h : Opened T L at_ half) (lsn : Int) {s : ByteArray} (h0 : s.size ≠ 0) (h1 : s.size ≤ 16384) (h2 : s.size + 2 ≤ half * 242) (hG : L.greatest < 281474976710655) :
    ((L.switch T lsn s).1 = 0 ∧ InUse (L.switch T lsn s).2.2 (L.switch T lsn s).2.1 at_ half [s] 1 ∧ (T.fuse = 0 → (L.switch T lsn s).2.2.fuse = 0) ∧ (L.switch T lsn s).2.1.epoch = L.greatest + 1) ∨
    (T.fuse ≠ 0 ∧ (L.switch T lsn s).1 = 7 ∧ (L.switch T lsn s).2.2.off = true ∧
      ((Disk (L.switch T lsn s).2.2 at_ half (L.greatest + 1) (1 - L.which) (textB s) (textB s).size ∧ Eps (L.switch T lsn s).2.2 at_ half (L.greatest + 1)) ∨
       ∀ e b m, Disk T at_ half e L.which b m → Disk (L.switch T lsn s).2.2 at_ half e L.which b m ∧ Eps (L.switch T lsn s).2.2 at_ half (L.greatest + 1))) := by
  have hh := h.site.half1
  have hg := h.great
  have hwh := h.which
  have hwh2 : 0 ≤ 1 - L.which ∧ 1 - L.which ≤ 1 := by omega
  have hE : 1 ≤ L.greatest + 1 ∧ L.greatest + 1 < 281474976710656 := by omega
  have hfit : (textB s).size ≤ half * 242 := by rw [textB_size]; exact h2
  have hn : secs (textB s).size ≤ half := by unfold secs; omega
  have hsw : L.sw T s = swZ (swY at_ (L.greatest + 1) (1 - L.which) (swX at_ half (textB s) (L.greatest + 1) (1 - L.which) T)) := by
    unfold LG.sw
    rw [h.lat, h.lhalf]
  unfold LG.switch
  rw [if_neg (by rw [h.ready]; simp), if_neg (by omega), if_neg (by rw [h.lhalf]; omega)]
  have hc := sw_cases (E := L.greatest + 1) (wh := 1 - L.which) (b := textB s) h.on h.wait h.site.at0.1 h.site.fit hwh2 hn hh.1
  rw [← hsw] at hc
  generalize L.sw T s = x at hc
  obtain ⟨x1, T'⟩ := x
  dsimp only at hc ⊢
  rcases hc with ⟨c1, c2, c3⟩ | ⟨c1, c2, c3, c4⟩
  · rw [if_pos c1]
    obtain ⟨d1, d2, d3⟩ := c3.disk h.wait h.all h.eps (by omega) hE hwh2 hfit hh.2 h.site.fit
    refine .inl ⟨rfl, ⟨⟨h.site.at0, hh, by rw [c3.size]; exact h.site.fit, by rw [c3.size]; exact h.site.size⟩, c2.off, h.lat, h.lhalf, rfl, rfl, h.lon, (enc_one s).symm, ?_, Nat.le_refl _, ?_, ?_, ?_, d2, ?_⟩, c2.fuse, rfl⟩
    · show (((textB s).size : Nat) : Int) = _
      rw [show ([s].take 1) = [s] from rfl, enc_one]
    · intro t ht
      obtain rfl := List.mem_singleton.mp ht
      exact ⟨h0, by omega⟩
    · rw [enc_one]; exact hfit
    · rw [show ([s].take 1) = [s] from rfl, enc_one]; exact d1
    · rw [show ([s].take 1) = [s] from rfl, enc_one]; exact d3
  · rw [if_neg (by rw [c2]; decide)]
    refine .inr ⟨c1, c2, c3, ?_⟩
    rcases c4 with c4 | c4
    · obtain ⟨d1, d2, _⟩ := c4.disk h.wait h.all h.eps (by omega) hE hwh2 hfit hh.2 h.site.fit
      exact .inl ⟨d1, d2⟩
    · exact .inr fun e b m hd => c4.disk hd rfl h.eps (by omega) hE hfit hh.2
end Go.Proofs.YtegeaemkkbenfaaDoor.Ownd

/- What Open makes of a disk, plainly; a new device. No program. -/
namespace Go.Proofs.YtegeaemkkbenfaaDoor.Ownd
open Go.RowKit
set_option linter.unusedVariables false
set_option linter.unusedSimpArgs false
/-- The log that Open makes. -/
def LG.openL (T : TD) (at_ : Int) (half : Nat) (e wh : Int) : LG := ⟨at_, half, e, wh, T.gk at_ (2 * half), ⟨#[]⟩, 0, 0, 0, true, false⟩
theorem Disk.opened {T : TD} {at_ : Int} {half : Nat} {e wh : Int} {b : ByteArray} {m : Nat} (h : Disk T at_ half e wh b m) (hs : Site T at_ half) (ho : T.off = false) : Opened T (LG.openL T at_ half e wh) at_ half where
  site := hs
  on := ho
  lat := rfl
  lhalf := rfl
  lon := rfl
  which := h.wh01
  wait := h.wait
  all := h.all
  great := gk_ge0 T at_ _
  eps := eps_gk T at_ half
theorem new_get (n : Nat) (i : Int) : (TD.new n).get i = .z := rfl
theorem new_all (n : Nat) (at_ : Int) : (TD.new n).All (Plc at_) := ⟨fun i c h => (by cases h), fun p h => (by cases h)⟩
theorem new_fk (n : Nat) (at_ : Int) : ∀ k, (TD.new n).fk at_ k = (0, 0)
  | 0 => rfl
  | k + 1 => by
    show fstep ((TD.new n).fk at_ k) ((TD.new n).get (at_ + k)) = _
    rw [new_fk n at_ k, new_get]; rfl
theorem new_gk (n : Nat) (at_ : Int) : ∀ k, (TD.new n).gk at_ k = 0
  | 0 => by
    show ((TD.new n).fk at_ 2).1 = 0
    rw [new_fk]
  | k + 1 => by
    show gstep ((TD.new n).gk at_ k) ((TD.new n).get (at_ + 2 + k)) = _
    rw [new_gk n at_ k, new_get]; rfl
theorem fresh_opened {n : Nat} {at_ : Int} {half : Nat} (hs : Site (TD.new n) at_ half) : Opened (TD.new n) (LG.fresh (TD.new n) at_ half) at_ half where
  site := hs
  on := rfl
  lat := rfl
  lhalf := rfl
  lon := rfl
  which := ⟨by show (0 : Int) ≤ 1; decide, by show (1 : Int) ≤ 1; decide⟩
  wait := rfl
  all := new_all n at_
  great := gk_ge0 _ _ _
  eps := eps_gk _ _ _
/-- What is told when the disk is opened. -/
theorem Disk.told {T : TD} {at_ : Int} {half : Nat} {e wh : Int} {l : List ByteArray} {m : Nat} (h : Disk T at_ half e wh (encT l) m) (hr : ∀ s ∈ l, Right s) : textsB (T.rd at_ half e wh 0 half) = l.take (held l m) := by
  rw [h.rd]
  exact texts_cut l hr m h.reads.le
end Go.Proofs.YtegeaemkkbenfaaDoor.Ownd
