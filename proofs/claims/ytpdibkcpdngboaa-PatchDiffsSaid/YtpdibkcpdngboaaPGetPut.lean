/- Put and Get go back and forth: the bytes of what Get read are those it read; what Put wrote is read again. -/
import Derived.Test.YtpdibkcpdngboaaPGet
namespace Go.Proofs.Ytpdibkcpdngboaa.GP
open Go.RowKit Go.Proofs.YtpdibkcpdngboaaW.PrintWords Go.Proofs.YtpdibkcpdngboaaW.PrintLast Go.Proofs.YtpdibkcpdngboaaW.PrintMore Go.Proofs.Ytpdibkcpdngboaa.Copy
set_option linter.unusedVariables false
set_option linter.unusedSimpArgs false
set_option maxHeartbeats 400000

theorem data_ext {a b : ByteArray} (h : a.data.toList = b.data.toList) : a = b := by
  have h1 : a.data = b.data := Array.ext' h
  cases a; cases b; simp at h1; rw [h1]
theorem size_len (s : ByteArray) : s.data.toList.length = s.size := by simp
theorem extract_list (s : ByteArray) (a b : Nat) : (s.extract a b).data.toList = (s.data.toList.drop a).take (b - a) := by
  simp [ByteArray.data_extract, List.extract_eq_take_drop]
theorem getD_drop (L : List UInt8) (p i : Nat) : (L.drop p).getD i 0 = L.getD (p + i) 0 := by
  simp [List.getD_eq_getElem?_getD, List.getElem?_drop]
theorem be2_num2 (s : ByteArray) (p : Nat) (hp : p + 2 ≤ s.size) : be2 (num2 s p : Int) = (s.data.toList.drop p).take 2 := by
  have h1 := (s.data.toList.getD p 0).toNat_lt
  have h2 := (s.data.toList.getD (p + 1) 0).toNat_lt
  have e1 : ((num2 s p : Int) / 256).toNat = (s.data.toList.getD p 0).toNat := by unfold num2; omega
  have e2 : ((num2 s p : Int) % 256).toNat = (s.data.toList.getD (p + 1) 0).toNat := by unfold num2; omega
  have hl := size_len s
  unfold be2
  rw [e1, e2, UInt8.ofNat_toNat, UInt8.ofNat_toNat]
  have g : ∀ i, p + i < s.size → s.data.toList[p + i]? = some (s.data.toList.getD (p + i) 0) := by
    intro i hi
    rw [List.getD_eq_getElem?_getD, List.getElem?_eq_getElem (by omega), Option.getD_some]
  have g0 := g 0 (by omega)
  have g1 := g 1 (by omega)
  rw [Nat.add_zero] at g0
  rw [List.drop_eq_getElem_cons (by omega), List.drop_eq_getElem_cons (by omega)]
  rw [List.getElem?_eq_getElem (by omega)] at g0 g1
  rw [← Option.some.inj g0, ← Option.some.inj g1]
  rfl
theorem getGo_bytes (s : ByteArray) : ∀ (d pos : Nat) (acc l : List S31) (p : Nat), pos ≤ s.size → getGo mkP s d pos acc = some (l, p) →
    pos ≤ p ∧ p ≤ s.size ∧ l.flatMap pieceB = acc.flatMap pieceB ++ (s.data.toList.drop pos).take (p - pos) := by
  intro d
  induction d with
  | zero =>
    intro pos acc l p hp h
    obtain ⟨rfl, rfl⟩ := Prod.mk.inj (Option.some.inj h)
    exact ⟨Nat.le_refl _, hp, by simp⟩
  | succ d ih =>
    intro pos acc l p hp h
    unfold getGo at h
    by_cases c1 : s.size < pos + 4
    · rw [if_pos c1] at h; cases h
    rw [if_neg c1] at h
    by_cases c2 : s.size < pos + 4 + num2 s (pos + 2)
    · rw [if_pos c2] at h; cases h
    rw [if_neg c2] at h
    obtain ⟨h1, h2, h3⟩ := ih _ _ _ _ (by omega) h
    refine ⟨by omega, h2, ?_⟩
    have hx : (s.extract (pos + 4) (pos + 4 + num2 s (pos + 2))).size = num2 s (pos + 2) := by rw [extract_size _ _ _ (by omega)]; omega
    have hpc : pieceB (mkP (num2 s pos) (s.extract (pos + 4) (pos + 4 + num2 s (pos + 2)))) = (s.data.toList.drop pos).take (2 + (2 + num2 s (pos + 2))) := by
      unfold pieceB mkP
      show be2 (num2 s pos : Int) ++ be2 ((s.extract (pos + 4) (pos + 4 + num2 s (pos + 2))).size : Int) ++ (s.extract (pos + 4) (pos + 4 + num2 s (pos + 2))).data.toList = _
      rw [hx, be2_num2 s pos (by omega), be2_num2 s (pos + 2) (by omega), extract_list, List.take_add, List.take_add, List.drop_drop, List.drop_drop, List.append_assoc,
        show pos + 4 + num2 s (pos + 2) - (pos + 4) = num2 s (pos + 2) by omega]
    rw [h3, List.flatMap_append, List.flatMap_cons, List.flatMap_nil, List.append_nil, hpc, List.append_assoc,
      show p - pos = (2 + (2 + num2 s (pos + 2))) + (p - (pos + 4 + num2 s (pos + 2))) by omega, List.take_add (l := s.data.toList.drop pos) (i := 2 + (2 + num2 s (pos + 2))), List.drop_drop,
      show pos + (2 + (2 + num2 s (pos + 2))) = pos + 4 + num2 s (pos + 2) by omega]
/-- What Get reads, Put writes. -/
theorem putL_get (s : ByteArray) (l : List S31) (p : Nat) (hs : 2 ≤ s.size) (h : getGo mkP s (num2 s 0) 2 [] = some (l, p)) : 2 ≤ p ∧ p ≤ s.size ∧ putL l = (s.extract 0 p).data.toList := by
  obtain ⟨h1, h2, h3⟩ := getGo_bytes s _ _ _ _ _ (by omega) h
  have hl := getGo_length mkP s _ _ _ _ _ h
  refine ⟨h1, h2, ?_⟩
  unfold putL
  rw [h3, extract_list, hl, show (([] : List S31).length + num2 s 0) = num2 s 0 by simp, be2_num2 s 0 (by omega), List.flatMap_nil, List.nil_append, show p - 0 = 2 + (p - 2) by omega, List.take_add, List.drop_drop, Nat.zero_add]

theorem be2_get (n : Int) (h0 : 0 ≤ n) (h1 : n < 65536) (s : ByteArray) (p : Nat) (r : List UInt8) (h : s.data.toList.drop p = be2 n ++ r) : (num2 s p : Int) = n := by
  have e0 : s.data.toList.getD p 0 = UInt8.ofNat (n / 256).toNat := by
    have := getD_drop s.data.toList p 0
    rw [h] at this
    simpa [be2] using this.symm
  have e1 : s.data.toList.getD (p + 1) 0 = UInt8.ofNat (n % 256).toNat := by
    have := getD_drop s.data.toList p 1
    rw [h] at this
    simpa [be2] using this.symm
  unfold num2
  rw [e0, e1, UInt8.toNat_ofNat', UInt8.toNat_ofNat']
  omega
theorem be2_length (n : Int) : (be2 n).length = 2 := rfl
theorem get_put (s : ByteArray) : ∀ (l acc : List S31) (pos : Nat) (e : Int) (r : List UInt8), 0 ≤ e → rightB e l = true → s.data.toList.drop pos = l.flatMap pieceB ++ r → pos ≤ s.size →
    getGo mkP s l.length pos acc = some (acc ++ l, pos + (l.flatMap pieceB).length)
  | [], acc, pos, e, r, h0, hr, h, hp => by rw [List.length_nil, getGo_zero]; simp
  | q :: l, acc, pos, e, r, h0, hr, h, hp => by
    simp only [rightB, Bool.and_eq_true, decide_eq_true_eq] at hr
    obtain ⟨⟨⟨⟨r1, r2⟩, r3⟩, r4⟩, r5⟩ := hr
    have hlen := size_len s
    have hdl : (s.data.toList.drop pos).length = s.size - pos := by rw [List.length_drop, hlen]
    rw [h, List.flatMap_cons, List.append_assoc] at hdl
    rw [List.flatMap_cons, List.append_assoc] at h
    have hpb : pieceB q = be2 q.f0 ++ (be2 (q.f1.size : Int) ++ q.f1.data.toList) := by unfold pieceB; rw [List.append_assoc]
    have hpl : (pieceB q).length = 4 + q.f1.size := by rw [hpb, List.length_append, List.length_append, be2_length, be2_length, size_len]; omega
    rw [List.length_append, hpl] at hdl
    have n0 : (num2 s pos : Int) = q.f0 := be2_get q.f0 (by omega) (by omega) s pos (be2 (q.f1.size : Int) ++ q.f1.data.toList ++ (l.flatMap pieceB ++ r)) (by rw [h, hpb]; simp only [List.append_assoc])
    have h2 : s.data.toList.drop (pos + 2) = be2 (q.f1.size : Int) ++ (q.f1.data.toList ++ (l.flatMap pieceB ++ r)) := by
      rw [← List.drop_drop, h, hpb, List.append_assoc, List.drop_left' (be2_length _), List.append_assoc]
    have n2 : num2 s (pos + 2) = q.f1.size := by
      have := be2_get (q.f1.size : Int) (by omega) (by omega) s (pos + 2) _ h2
      omega
    have h4 : s.data.toList.drop (pos + 4) = q.f1.data.toList ++ (l.flatMap pieceB ++ r) := by
      rw [show pos + 4 = pos + 2 + 2 by omega, ← List.drop_drop, h2, List.drop_left' (be2_length _)]
    have hd : s.extract (pos + 4) (pos + 4 + q.f1.size) = q.f1 := by
      apply data_ext
      show (s.extract (pos + 4) (pos + 4 + q.f1.size)).data.toList = q.f1.data.toList
      rw [extract_list, h4, show pos + 4 + q.f1.size - (pos + 4) = q.f1.size by omega, List.take_left' (size_len _)]
    have h5 : s.data.toList.drop (pos + 4 + q.f1.size) = l.flatMap pieceB ++ r := by
      rw [← List.drop_drop, h4, List.drop_left' (size_len _)]
    have ih := get_put s l (acc ++ [q]) (pos + 4 + q.f1.size) (q.f0 + q.f1.size) r (by omega) r5 h5 (by omega)
    rw [List.length_cons]
    unfold getGo
    rw [if_neg (by omega), n2, if_neg (by omega), n0, hd, show mkP q.f0 q.f1 = q from rfl, ih, List.append_assoc, List.flatMap_cons, List.length_append, hpl]
    congr 2
    omega
end Go.Proofs.Ytpdibkcpdngboaa.GP
