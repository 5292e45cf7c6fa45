/- Plain facts of concordanceref04.From, as it was printed, and of Delete and Set: what they answer of a list of pairs that is alike to a map's. No program in sight. -/
import Derived.Test.YtfnfhiggmppecaaORefFacts
import Derived.Test.YtfnfhiggmppecaaORef04
import Derived.Test.YtfnfhiggmppecaaGOx1
namespace Go.Proofs.Ytfnfhiggmppecaa.GO.Ref
open Go.RowKit Go.Proofs.Ytfnfhiggmppecaa.Ownd Go.Proofs.YtfnfhiggmppecaaW.PrintWords Go.Proofs.YtfnfhiggmppecaaW.PrintLast Go.Proofs.YtfnfhiggmppecaaW.PrintMore
set_option linter.unusedVariables false
set_option linter.unusedSimpArgs false
theorem alike_del {xs m : List MS.P2} (h : Alike xs m) (k : ByteArray) : Alike (MS.delL xs k) (m.filter (keep k)) := by
  refine ⟨MS.delL_rise h.rise k, ?_, fun p => ?_⟩
  · exact List.Pairwise.sublist ((List.filter_sublist).map _) h.once
  · rw [MS.mem_delL h.rise, List.mem_filter, h.mem]
    show _ ↔ _ ∧ (!(p.1.toList == k.toList)) = true
    rw [keep_iff]
    exact And.comm
theorem alike_set {xs m : List MS.P2} (h : Alike xs m) (k : ByteArray) (x : Int) : Alike (MS.setL xs k x) (m.filter (keep k) ++ [(k, x)]) := by
  have hd := alike_del h k
  refine ⟨MS.setL_rise h.rise k x, ?_, fun p => ?_⟩
  · rw [List.map_append, List.nodup_append]
    refine ⟨hd.once, by simp, ?_⟩
    intro a ha b hb e
    simp only [List.map_cons, List.map_nil, List.mem_singleton] at hb
    subst hb
    subst e
    obtain ⟨p, hp, he⟩ := List.mem_map.mp ha
    have := (List.mem_filter.mp hp).2
    exact (keep_iff a p).mp this he
  · rw [MS.mem_setL h.rise, List.mem_append, List.mem_singleton, ← hd.mem, MS.mem_delL h.rise]
    exact Or.comm
/-- How many keys ahead are less. -/
def posK : List ByteArray → ByteArray → Nat
  | [], _ => 0
  | p :: r, k => if MS.lt p k = true then posK r k + 1 else 0
theorem posK_le : ∀ (l : List ByteArray) (k : ByteArray), posK l k ≤ l.length
  | [], _ => Nat.le_refl 0
  | p :: r, k => by
    unfold posK
    split
    · have := posK_le r k; simp only [List.length_cons]; omega
    · exact Nat.zero_le _
theorem posK_lt : ∀ (l : List ByteArray) (k : ByteArray) (t : Nat) (h : t < posK l k), MS.lt (l[t]'(Nat.lt_of_lt_of_le h (posK_le l k))) k = true
  | [], _, t, h => absurd h (Nat.not_lt_zero _)
  | p :: r, k, t, h => by
    unfold posK at h
    split at h
    · rename_i hp
      cases t with
      | zero => exact hp
      | succ t => exact posK_lt r k t (by omega)
    · exact absurd h (Nat.not_lt_zero _)
theorem posK_at : ∀ (l : List ByteArray) (k : ByteArray) (h : posK l k < l.length), MS.lt l[posK l k] k = false
  | [], _, h => absurd h (Nat.not_lt_zero _)
  | p :: r, k, h => by
    cases hp : MS.lt p k with
    | true =>
      have e : posK (p :: r) k = posK r k + 1 := by rw [posK.eq_2, if_pos hp]
      simp only [e] at h ⊢
      exact posK_at r k (by simpa using h)
    | false =>
      have e : posK (p :: r) k = 0 := by rw [posK.eq_2, if_neg (by rw [hp]; decide)]
      simp only [e]
      exact hp
def ins (out : List ByteArray) (q : ByteArray) : List ByteArray := out.take (posK out q) ++ [q] ++ out.drop (posK out q)
theorem ins_len (out : List ByteArray) (q : ByteArray) : (ins out q).length = out.length + 1 := by
  have := posK_le out q
  unfold ins
  simp only [List.length_append, List.length_take, List.length_drop, List.length_cons, List.length_nil]
  omega
theorem from_l1 (ks : List ByteArray) (vs : List Int) (k : ByteArray) (out : List ByteArray) (i : Nat) (hi : i < ks.length) (hk : ks.length ≤ 1000) (ho : out.length ≤ 1000) : ∀ (d at_ f : Nat), at_ + d = posK out ks[i] →
    concordanceref04_From.l1 (f + d + 1) k out (i : Int) (at_ : Int) ks vs = concordanceref04_From.l0 f k (ins out ks[i]) (wrap64 ((i : Int) + 1)) ks vs := by
  have hp := posK_le out ks[i]
  intro d
  induction d with
  | zero =>
    intro at_ f ha
    obtain rfl : at_ = posK out ks[i] := by omega
    have t1 : (out.take (posK out ks[i])).length = posK out ks[i] := by rw [List.length_take]; omega
    have t2 : (out.drop (posK out ks[i])).length = out.length - posK out ks[i] := List.length_drop
    have fin : ((out.take (posK out ks[i])) ++ [ks[i]]) ++ out.drop (posK out ks[i]) = ins out ks[i] := rfl
    rw [Nat.add_zero, concordanceref04_From.l1.eq_2]
    by_cases hlt : posK out ks[i] < out.length
    · have hno := posK_at out ks[i] hlt
      unfold MS.lt at hno
      rw [if_pos (by omega), if_pos (by omega), if_pos (by omega), if_pos (by omega), rd_S out _ hlt, rd_S ks i hi, if_neg (by rw [hno]; decide), if_pos (by omega), Int.toNat_natCast]
      try simp only [Option.bind_some]
      rw [if_pos (by rw [t1]; simp only [List.length_nil]; omega)]
      try simp only [Option.bind_some, List.nil_append]
      rw [if_pos (by rw [t1]; omega)]
      try simp only [Option.bind_some]
      rw [if_pos (by simp only [List.length_append, t1, t2, List.length_cons, List.length_nil]; omega), fin]
    · rw [if_neg (by omega), if_pos (by omega), if_pos (by omega), Int.toNat_natCast]
      try simp only [Option.bind_some]
      rw [if_pos (by rw [t1]; simp only [List.length_nil]; omega)]
      try simp only [Option.bind_some, List.nil_append]
      rw [if_pos (by omega), if_pos (by omega), if_pos (by rw [t1]; omega), rd_S ks i hi]
      try simp only [Option.bind_some]
      rw [if_pos (by simp only [List.length_append, t1, t2, List.length_cons, List.length_nil]; omega), fin]
  | succ d ih =>
    intro at_ f ha
    have hlt : at_ < out.length := by omega
    have hyes := posK_lt out ks[i] at_ (by omega)
    unfold MS.lt at hyes
    have hn := ih (at_ + 1) f (by omega)
    rw [concordanceref04_From.l1.eq_2, if_pos (by omega), if_pos (by omega), if_pos (by omega), if_pos (by omega), rd_S out _ hlt, rd_S ks i hi, if_pos hyes, wr2 at_ (by omega)]
    exact hn
def fromK (k : ByteArray) : List ByteArray → List ByteArray → List ByteArray
  | [], out => out
  | q :: r, out => if MS.lt q k = true then fromK k r out else fromK k r (ins out q)
theorem fuel1 {d f : Nat} (h : (d + 1) * 1003 < f + 1) : d * 1003 < f := by
  rw [Nat.succ_mul] at h
  generalize d * 1003 = z at *
  omega
theorem fuel2 {d f p : Nat} (h : (d + 1) * 1003 < f + p + 1 + 1) (hp : p ≤ 1000) : d * 1003 < f := by
  rw [Nat.succ_mul] at h
  generalize d * 1003 = z at *
  omega
theorem from_l0 (ks : List ByteArray) (vs : List Int) (k : ByteArray) (hk : ks.length ≤ 1000) : ∀ (d i f : Nat) (out : List ByteArray), i + d = ks.length → out.length ≤ i → d * 1003 < f →
    concordanceref04_From.l0 f k out (i : Int) ks vs = some (fromK k (ks.drop i) out) := by
  intro d
  induction d with
  | zero =>
    intro i f out hi ho hf
    obtain ⟨f, rfl⟩ : ∃ q, f = q + 1 := ⟨f - 1, by omega⟩
    rw [concordanceref04_From.l0.eq_2, if_neg (by omega), List.drop_of_length_le (by omega)]
    rfl
  | succ d ih =>
    intro i f out hi ho hf
    have hlt : i < ks.length := by omega
    obtain ⟨f, rfl⟩ : ∃ q, f = q + 1 := ⟨f - 1, by omega⟩
    rw [concordanceref04_From.l0.eq_2, if_pos (by omega), if_pos (by omega), rd_S ks i hlt, List.drop_eq_getElem_cons hlt]
    unfold fromK
    cases hb : MS.lt ks[i] k with
    | true =>
      have hb' := hb
      unfold MS.lt at hb'
      rw [if_pos hb', if_pos rfl, wr2 i (by omega)]
      exact ih (i + 1) f out (by omega) (by omega) (fuel1 hf)
    | false =>
      have hb' := hb
      unfold MS.lt at hb'
      rw [if_neg (by rw [hb']; decide), if_neg (by decide)]
      have hp := posK_le out ks[i]
      obtain ⟨f', rfl⟩ : ∃ q, f = q + posK out ks[i] + 1 := ⟨f - posK out ks[i] - 1, by omega⟩
      have h1 := from_l1 ks vs k out i hlt hk (by omega) (posK out ks[i]) 0 f' (by omega)
      rw [show ((0 : Nat) : Int) = 0 from rfl] at h1
      rw [h1, wr2 i (by omega)]
      exact ih (i + 1) f' _ (by omega) (by rw [ins_len]; omega) (fuel2 hf (by omega))
theorem from_f (m : List MS.P2) (k : ByteArray) (hl : m.length ≤ 1000) : concordanceref04_From.f 1004000 (m.map (·.1)) (m.map (·.2)) k = some (fromK k (m.map (·.1)) []) := by
  have h := from_l0 (m.map (·.1)) (m.map (·.2)) k (by rw [List.length_map]; exact hl) (m.map (·.1)).length 0 1004000 [] (by omega) (Nat.zero_le _) (by rw [List.length_map]; omega)
  rw [List.drop_zero] at h
  unfold concordanceref04_From.f
  exact h
def Sorted (l : List ByteArray) : Prop := l.Pairwise fun a b => MS.lt a b = true
theorem sorted_ext {l l' : List ByteArray} (h : Sorted l) (h' : Sorted l') (hm : ∀ q, q ∈ l ↔ q ∈ l') : l = l' := by
  have hr : ∀ {l : List ByteArray}, Sorted l → MS.Rise (l.map fun q => ((q, 0) : MS.P2)) := fun h => by
    unfold MS.Rise
    rw [List.pairwise_map]
    exact h
  have he := MS.rise_ext (hr h) (hr h') (fun p => by
    simp only [List.mem_map]
    exact ⟨fun ⟨q, h1, h2⟩ => ⟨q, (hm q).mp h1, h2⟩, fun ⟨q, h1, h2⟩ => ⟨q, (hm q).mpr h1, h2⟩⟩)
  have h2 := congrArg (List.map (·.1)) he
  rw [List.map_map, List.map_map] at h2
  simpa [Function.comp_def] using h2
theorem mem_ins (out : List ByteArray) (q x : ByteArray) : x ∈ ins out q ↔ x = q ∨ x ∈ out := by
  have h : x ∈ out ↔ x ∈ out.take (posK out q) ∨ x ∈ out.drop (posK out q) := by
    rw [← List.mem_append, List.take_append_drop]
  unfold ins
  rw [h, List.mem_append, List.mem_append, List.mem_singleton]
  constructor
  · rintro ((h1 | h1) | h1)
    · exact Or.inr (Or.inl h1)
    · exact Or.inl h1
    · exact Or.inr (Or.inr h1)
  · rintro (h1 | h1 | h1)
    · exact Or.inl (Or.inr h1)
    · exact Or.inl (Or.inl h1)
    · exact Or.inr h1
theorem ins_sorted {out : List ByteArray} (h : Sorted out) (q : ByteArray) (hq : q ∉ out) : Sorted (ins out q) := by
  have hlo : ∀ p ∈ out.take (posK out q), MS.lt p q = true := fun p hp => by
    obtain ⟨t, ht, he⟩ := List.mem_iff_getElem.mp hp
    rw [List.length_take] at ht
    rw [List.getElem_take] at he
    rw [← he]
    exact posK_lt out q t (by omega)
  have hhi : ∀ p ∈ out.drop (posK out q), MS.lt q p = true := fun p hp => by
    obtain ⟨t, ht, he⟩ := List.mem_iff_getElem.mp hp
    rw [List.length_drop] at ht
    rw [List.getElem_drop] at he
    have h0 := posK_at out q (by omega)
    have h1 : MS.lt p q = false := by
      cases hb : MS.lt p q with
      | false => rfl
      | true =>
        by_cases h00 : t = 0
        · subst h00
          simp only [Nat.add_zero] at he
          rw [← he, h0] at hb; cases hb
        · have h3 := (List.pairwise_iff_getElem.mp h) (posK out q) (posK out q + t) (by omega) (by omega) (by omega)
          rw [he] at h3
          have h4 := MS.lt_trans h3 hb
          rw [h0] at h4; cases h4
    cases h2 : MS.lt q p with
    | true => rfl
    | false => exact absurd (by rw [← MS.lt_total h1 h2]; exact List.mem_of_mem_drop hp) hq
  have hd : Sorted (out.take (posK out q) ++ out.drop (posK out q)) := by rw [List.take_append_drop]; exact h
  obtain ⟨ha, hb, hab⟩ := List.pairwise_append.mp hd
  unfold ins Sorted
  rw [List.append_assoc]
  refine List.pairwise_append.mpr ⟨ha, List.pairwise_cons.mpr ⟨fun p hp => hhi p hp, hb⟩, ?_⟩
  intro a h1 c h2
  rcases List.mem_cons.mp h2 with rfl | h2
  · exact hlo a h1
  · exact hab a h1 c h2
theorem fromK_spec (k : ByteArray) : ∀ (ks out : List ByteArray), ks.Nodup → (∀ q ∈ ks, q ∉ out) → Sorted out → Sorted (fromK k ks out) ∧ ∀ q, q ∈ fromK k ks out ↔ q ∈ out ∨ (q ∈ ks ∧ MS.lt q k = false)
  | [], out, _, _, ho => ⟨ho, fun q => ⟨Or.inl, fun h => h.resolve_right (fun h2 => List.not_mem_nil h2.1)⟩⟩
  | a :: r, out, hn, hd, ho => by
    have hn' := List.nodup_cons.mp hn
    unfold fromK
    cases hb : MS.lt a k with
    | true =>
      rw [if_pos rfl]
      obtain ⟨h1, h2⟩ := fromK_spec k r out hn'.2 (fun q hq => hd q (List.mem_cons_of_mem _ hq)) ho
      refine ⟨h1, fun q => ?_⟩
      rw [h2]
      constructor
      · rintro (h3 | ⟨h3, h4⟩)
        · exact Or.inl h3
        · exact Or.inr ⟨List.mem_cons_of_mem _ h3, h4⟩
      · rintro (h3 | ⟨h3, h4⟩)
        · exact Or.inl h3
        · rcases List.mem_cons.mp h3 with rfl | h3
          · rw [hb] at h4; cases h4
          · exact Or.inr ⟨h3, h4⟩
    | false =>
      rw [if_neg (by decide)]
      obtain ⟨h1, h2⟩ := fromK_spec k r (ins out a) hn'.2 (fun q hq hm => by
        rcases (mem_ins out a q).mp hm with rfl | hm
        · exact hn'.1 hq
        · exact hd q (List.mem_cons_of_mem _ hq) hm) (ins_sorted ho a (hd a (List.mem_cons_self ..)))
      refine ⟨h1, fun q => ?_⟩
      rw [h2, mem_ins]
      constructor
      · rintro ((rfl | h3) | ⟨h3, h4⟩)
        · exact Or.inr ⟨List.mem_cons_self .., hb⟩
        · exact Or.inl h3
        · exact Or.inr ⟨List.mem_cons_of_mem _ h3, h4⟩
      · rintro (h3 | ⟨h3, h4⟩)
        · exact Or.inl (Or.inr h3)
        · rcases List.mem_cons.mp h3 with rfl | h3
          · exact Or.inl (Or.inl rfl)
          · exact Or.inr ⟨h3, h4⟩
theorem alike_from {xs m : List MS.P2} (h : Alike xs m) (k : ByteArray) : fromK k (m.map (·.1)) [] = (xs.drop (MS.pos xs k)).map (·.1) := by
  obtain ⟨h1, h2⟩ := fromK_spec k (m.map (·.1)) [] h.once (fun q _ hq => List.not_mem_nil hq) List.Pairwise.nil
  refine sorted_ext h1 ?_ (fun q => ?_)
  · unfold Sorted
    rw [List.pairwise_map]
    exact List.Pairwise.sublist (List.drop_sublist _ _) h.rise
  · rw [h2]
    constructor
    · rintro (h3 | ⟨h3, h4⟩)
      · exact absurd h3 List.not_mem_nil
      · obtain ⟨p, hp, rfl⟩ := List.mem_map.mp h3
        have hx := (h.mem p).mpr hp
        refine List.mem_map.mpr ⟨p, ?_, rfl⟩
        obtain ⟨t, ht, he⟩ := List.mem_iff_getElem.mp hx
        have hge : MS.pos xs k ≤ t := by
          refine Nat.le_of_not_lt (fun hlt => ?_)
          have := MS.pos_lt xs k t hlt
          rw [he, h4] at this; cases this
        refine List.mem_iff_getElem.mpr ⟨t - MS.pos xs k, by rw [List.length_drop]; omega, ?_⟩
        rw [List.getElem_drop]
        simp only [Nat.add_sub_cancel' hge]
        exact he
    · intro h3
      obtain ⟨p, hp, rfl⟩ := List.mem_map.mp h3
      refine Or.inr ⟨List.mem_map.mpr ⟨p, (h.mem p).mp (List.mem_of_mem_drop hp), rfl⟩, ?_⟩
      obtain ⟨t, ht, he⟩ := List.mem_iff_getElem.mp hp
      rw [List.length_drop] at ht
      rw [List.getElem_drop] at he
      have := MS.pos_ge xs k h.rise (MS.pos xs k + t) (by omega) (by omega)
      rwa [he] at this
end Go.Proofs.Ytfnfhiggmppecaa.GO.Ref
