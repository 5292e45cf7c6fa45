/- Plain words on bytes and texts that the other plain texts use. No program in sight. -/
import Derived.Test.YteehchhmonlkkaaHRefPut
import Derived.Test.YteehchhmonlkkaaHCopy
import Derived.Test.YteehchhmonlkkaaGPx2
import Derived.Test.YteehchhmonlkkaaGPx4
import Derived.Lib.QuoteBits
import Derived.Test.YteehchhmonlkkaaHRecPut
import Derived.Test.YteehchhmonlkkaaGPx2
import Derived.Test.YteehchhmonlkkaaGPx4
namespace Go.Proofs.Yteehchhmonlkkaa.GP
open Go.RowKit Go.Proofs.YteehchhmonlkkaaW.PrintWords Go.Proofs.YteehchhmonlkkaaW.PrintLast Go.Proofs.YteehchhmonlkkaaW.PrintMore Go.Proofs.Yteehchhmonlkkaa.Copy
set_option linter.unusedVariables false
set_option linter.unusedSimpArgs false

theorem toList_data (s : ByteArray) : s.toList = s.data.toList := by first | rfl | exact ByteArray.toList_eq s
theorem extract_size (b : ByteArray) (f l : Nat) (h : l ≤ b.size) : (b.extract f l).size = l - f := by
  rw [ByteArray.size_extract]; omega
theorem getD_bt (s : ByteArray) (i : Nat) : ((s.data.toList.getD i 0).toNat : Int) = bt s i := by
  unfold bt
  split
  · rename_i h
    have h' : i < s.data.toList.length := by simpa using h
    rw [List.getD_eq_getElem?_getD, List.getElem?_eq_getElem h']
    rfl
  · rename_i h
    have h' : s.data.toList.length ≤ i := by simpa using h
    rw [List.getD_eq_getElem?_getD, List.getElem?_eq_none h']
    rfl
theorem extract_getD (b : ByteArray) (f l k : Nat) (hk : k < l - f) : (b.extract f l).data.toList.getD k 0 = b.data.toList.getD (f + k) 0 := by
  have h0 : b.data.toList.length = b.size := by simp
  rw [ByteArray.data_extract]
  simp only [Array.toList_extract, List.getD_eq_getElem?_getD]
  simp only [List.extract_eq_take_drop]
  rw [List.getElem?_take_of_lt hk, List.getElem?_drop]
end Go.Proofs.Yteehchhmonlkkaa.GP

/- What Get tells, in plain Lean: patch.Get and the document's Get read the same pieces; Put and Get go back and forth. -/
namespace Go.Proofs.Yteehchhmonlkkaa.GP
open Go.RowKit Go.Proofs.YteehchhmonlkkaaW.PrintWords Go.Proofs.YteehchhmonlkkaaW.PrintLast Go.Proofs.YteehchhmonlkkaaW.PrintMore Go.Proofs.Yteehchhmonlkkaa.Copy
set_option linter.unusedVariables false
set_option linter.unusedSimpArgs false
set_option maxHeartbeats 400000

theorem wid (n : Int) (h0 : 0 ≤ n) (h1 : n < 9223372036854775808) : wrap64 n = n := by unfold wrap64; omega
theorem or_join (x b : Nat) (hx : x < 256) (hb : b < 256) : Go.bits .or .i64 ((x * 256 : Nat) : Int) (b : Int) = ((x * 256 + b : Nat) : Int) := by
  show IntKind.i64.wrap ((BitVec.ofInt 64 ((x * 256 : Nat) : Int) ||| BitVec.ofInt 64 (b : Int)).toNat : Int) = _
  rw [BitVec.toNat_or, ofInt_u64 _ (by omega), ofInt_u64 b (by omega), nat_join8 _ b (by omega) (by omega)]
  exact Lib.wrap_i64_small _ (by omega)
/-- A number read at a place. -/
def num2 (s : ByteArray) (p : Nat) : Nat := (s.data.toList.getD p 0).toNat * 256 + (s.data.toList.getD (p + 1) 0).toNat
theorem num2_lt (s : ByteArray) (p : Nat) : num2 s p < 65536 := by
  have h1 := (s.data.toList.getD p 0).toNat_lt
  have h2 := (s.data.toList.getD (p + 1) 0).toNat_lt
  unfold num2; omega
theorem bt_nat (s : ByteArray) (i : Nat) : bt s i = ((s.data.toList.getD i 0).toNat : Int) := (getD_bt s i).symm
theorem bt_extract (s : ByteArray) (p i : Nat) (hi : i < 2) : bt (s.extract p (p + 2)) i = ((s.data.toList.getD (p + i) 0).toNat : Int) := by
  rw [bt_nat, extract_getD s p (p + 2) i (by omega)]
theorem sumGet_two (s : ByteArray) (p : Nat) (hp : p + 2 ≤ s.size) (k : Nat) (hk : 4 ≤ k) : sum_Get.f k (s.extract p (p + 2)) = some (num2 s p : Int) := by
  obtain ⟨k, rfl⟩ : ∃ m, k = m + 1 + 1 + 1 := ⟨k - 3, by omega⟩
  have hsz : (s.extract p (p + 2)).size = 2 := by rw [extract_size _ _ _ hp]; omega
  have h1 := (s.data.toList.getD p 0).toNat_lt
  have h2 := (s.data.toList.getD (p + 1) 0).toNat_lt
  have b0 : bt (s.extract p (p + 2)) 0 = ((s.data.toList.getD p 0).toNat : Int) := bt_extract s p 0 (by omega)
  have b1 : bt (s.extract p (p + 2)) 1 = ((s.data.toList.getD (p + 1) 0).toNat : Int) := bt_extract s p 1 (by omega)
  have z0 : Go.bits .or .i64 0 ((s.data.toList.getD p 0).toNat : Int) = ((s.data.toList.getD p 0).toNat : Int) := by simpa using or_join 0 (s.data.toList.getD p 0).toNat (by omega) h1
  unfold sum_Get.f
  rw [hsz, if_neg (by omega), sum_Get.l0.eq_2, if_pos (by omega), if_pos (by omega), hsz, if_pos (by omega), b0, show wrap64 (0 * 256) = 0 from wid 0 (by omega) (by omega), wid _ (by omega) (by omega), z0, show wrap64 (0 + 1) = 1 from wid 1 (by omega) (by omega),
    sum_Get.l0.eq_2, if_pos (by omega), if_pos (by omega), hsz, if_pos (by omega), b1, wid _ (by omega) (by omega), wid _ (by omega) (by omega), show wrap64 (1 + 1) = 2 from wid 2 (by omega) (by omega),
    show ((s.data.toList.getD p 0).toNat : Int) * 256 = (((s.data.toList.getD p 0).toNat * 256 : Nat) : Int) by omega, or_join _ _ h1 h2, sum_Get.l0.eq_2, if_neg (by omega)]
  rfl
theorem refGet_two (s : ByteArray) (p : Nat) (hp : p + 2 ≤ s.size) (k : Nat) (hk : 4 ≤ k) : concordanceref02_Get.f k (s.extract p (p + 2)) = some (num2 s p : Int) := by
  obtain ⟨k, rfl⟩ : ∃ m, k = m + 1 + 1 + 1 := ⟨k - 3, by omega⟩
  have hsz : (s.extract p (p + 2)).size = 2 := by rw [extract_size _ _ _ hp]; omega
  have h1 := (s.data.toList.getD p 0).toNat_lt
  have h2 := (s.data.toList.getD (p + 1) 0).toNat_lt
  have b0 : bt (s.extract p (p + 2)) 0 = ((s.data.toList.getD p 0).toNat : Int) := bt_extract s p 0 (by omega)
  have b1 : bt (s.extract p (p + 2)) 1 = ((s.data.toList.getD (p + 1) 0).toNat : Int) := bt_extract s p 1 (by omega)
  unfold concordanceref02_Get.f
  rw [concordanceref02_Get.l0.eq_2, hsz, if_pos (by omega), if_pos (by omega), if_pos (by omega), b0, show wrap64 (256 * 0) = 0 from wid 0 (by omega) (by omega), wid ((s.data.toList.getD p 0).toNat : Int) (by omega) (by omega), wid _ (by omega) (by omega), show wrap64 (0 + 1) = 1 from wid 1 (by omega) (by omega),
    concordanceref02_Get.l0.eq_2, hsz, if_pos (by omega), if_pos (by omega), if_pos (by omega), b1, wid (256 * _) (by omega) (by omega), wid ((s.data.toList.getD (p + 1) 0).toNat : Int) (by omega) (by omega), wid _ (by omega) (by omega), show wrap64 (1 + 1) = 2 from wid 2 (by omega) (by omega),
    concordanceref02_Get.l0.eq_2, hsz, if_neg (by omega)]
  unfold num2
  congr 1
  omega

/-- The pieces that are read: so many, from a place on. -/
def getGo {α : Type} (mk : Int → ByteArray → α) (s : ByteArray) : Nat → Nat → List α → Option (List α × Nat)
  | 0, pos, acc => some (acc, pos)
  | c + 1, pos, acc => if s.size < pos + 4 then none else if s.size < pos + 4 + num2 s (pos + 2) then none else
      getGo mk s c (pos + 4 + num2 s (pos + 2)) (acc ++ [mk (num2 s pos) (s.extract (pos + 4) (pos + 4 + num2 s (pos + 2)))])
def getOut {α : Type} (fin : List α → Bool) : Option (List α × Nat) → List α × Int × Int
  | none => ([], 0, 3)
  | some (l, p) => if fin l = true then (l, (p : Int), 0) else ([], 0, 2)
theorem getOut_some {α : Type} (fin : List α → Bool) (l : List α) (p : Nat) : getOut fin (some (l, p)) = if fin l = true then (l, (p : Int), 0) else ([], 0, 2) := rfl
theorem getGo_zero {α : Type} (mk : Int → ByteArray → α) (s : ByteArray) (pos : Nat) (acc : List α) : getGo mk s 0 pos acc = some (acc, pos) := rfl
def mkP (n : Int) (d : ByteArray) : S66 := ⟨n, d⟩
def mkQ (n : Int) (d : ByteArray) : S67 := ⟨n, d⟩
theorem right_at (l : List S66) (hl : l.length ≤ 65535) (k : Nat) (hk : l.length + 1 ≤ k) : patch_right.f k l = some (rightB 0 l) := by
  unfold patch_right.f
  have h := right_loop l l.length k 0 0 (by omega) (by omega) (by omega) (by omega)
  rw [decide_eq_true hl, Bool.and_true] at h
  exact h
theorem get_loop (s : ByteArray) (hs : s.size ≤ 100000000) (cnt : Nat) (hc : cnt ≤ 65535) : ∀ (d k pos idx : Nat) (acc : List S66), idx + d = cnt → acc.length = idx → pos ≤ s.size → d + cnt + 10 ≤ k →
    patch_Get.l0 k s acc (pos : Int) (cnt : Int) (idx : Int) = some (getOut (rightB 0) (getGo mkP s d pos acc)) := by
  intro d
  induction d with
  | zero =>
    intro k pos idx acc h1 h2 h3 h4
    obtain ⟨k, rfl⟩ : ∃ m, k = m + 1 := ⟨k - 1, by omega⟩
    rw [patch_Get.l0.eq_2, if_neg (by omega), right_at acc (by omega) k (by omega), Option.bind_some]
    rw [getGo_zero, getOut_some]
    by_cases hr : rightB 0 acc = true
    · rw [if_pos hr, if_pos hr]
    · rw [if_neg hr, if_neg hr]
  | succ d ih =>
    intro k pos idx acc h1 h2 h3 h4
    obtain ⟨k, rfl⟩ : ∃ m, k = m + 1 := ⟨k - 1, by omega⟩
    have hD := num2_lt s (pos + 2)
    rw [patch_Get.l0.eq_2, if_pos (by omega), wid ((s.size : Int) - pos) (by omega) (by omega)]
    unfold getGo
    by_cases c1 : s.size < pos + 4
    · rw [if_pos c1, if_pos (by omega)]; rfl
    rw [if_neg c1, if_neg (by omega), wid ((pos : Int) + 2) (by omega) (by omega), wid ((pos : Int) + 4) (by omega) (by omega), if_pos (by omega), if_pos (by omega), if_pos (by omega),
      show ((pos : Int) + 2).toNat = pos + 2 by omega, show ((pos : Int) + 4).toNat = pos + 2 + 2 by omega, sumGet_two s (pos + 2) (by omega) k (by omega), Option.bind_some, wid ((s.size : Int) - pos - 4) (by omega) (by omega)]
    by_cases c2 : s.size < pos + 4 + num2 s (pos + 2)
    · rw [if_pos c2, if_pos (by omega)]; rfl
    rw [if_neg c2, if_neg (by omega), if_pos (by omega), if_pos (by omega), if_pos (by omega), Int.toNat_natCast, sumGet_two s pos (by omega) k (by omega), Option.bind_some, if_pos (by omega),
      wid ((pos : Int) + 4 + _) (by omega) (by omega), if_pos (by omega), if_pos (by omega), if_pos (by omega), wid (4 + (num2 s (pos + 2) : Int)) (by omega) (by omega), wid ((pos : Int) + _) (by omega) (by omega), wid ((idx : Int) + 1) (by omega) (by omega)]
    have g := ih k (pos + 4 + num2 s (pos + 2)) (idx + 1) (acc ++ [mkP (num2 s pos) (s.extract (pos + 4) (pos + 4 + num2 s (pos + 2)))]) (by omega) (by rw [List.length_append, h2]; rfl) (by omega) (by omega)
    rw [← g, show (((pos : Int) + 4 + (num2 s (pos + 2) : Int)).toNat) = pos + 4 + num2 s (pos + 2) by omega, show (pos : Int) + (4 + (num2 s (pos + 2) : Int)) = ((pos + 4 + num2 s (pos + 2) : Nat) : Int) by omega]
    rfl
theorem refGet_loop (s : ByteArray) (hs : s.size ≤ 100000000) (cnt : Nat) (hc : cnt ≤ 65535) : ∀ (d k pos idx : Nat) (acc : List S67), idx + d = cnt → acc.length = idx → pos ≤ s.size → 2 * d + 2 * cnt + 20 ≤ k →
    concordanceref06_Get.l0 k s (cnt : Int) acc (pos : Int) (idx : Int) = some (getOut (fun l => rightB 0 (l.map toP)) (getGo mkQ s d pos acc)) := by
  intro d
  induction d with
  | zero =>
    intro k pos idx acc h1 h2 h3 h4
    obtain ⟨k, rfl⟩ : ∃ m, k = m + 1 := ⟨k - 1, by omega⟩
    rw [concordanceref06_Get.l0.eq_2, if_neg (by omega), refRight_tells acc (by omega) k (by omega), Option.bind_some, decide_eq_true (show acc.length ≤ 65535 by omega), Bool.and_true]
    rw [getGo_zero, getOut_some]
    by_cases hr : rightB 0 (acc.map toP) = true
    · rw [if_pos hr, if_pos hr]
    · rw [if_neg hr, if_neg hr]
  | succ d ih =>
    intro k pos idx acc h1 h2 h3 h4
    obtain ⟨k, rfl⟩ : ∃ m, k = m + 1 + 1 := ⟨k - 2, by omega⟩
    have hD := num2_lt s (pos + 2)
    rw [concordanceref06_Get.l0.eq_2, if_pos (by omega), wid ((pos : Int) + 4) (by omega) (by omega), wid ((pos : Int) + 2) (by omega) (by omega)]
    unfold getGo
    by_cases c1 : s.size < pos + 4
    · rw [if_pos c1, if_pos (by omega), concordanceref06_Get.j1.eq_2, if_pos (show true = true from rfl)]; rfl
    rw [if_neg c1, if_neg (by omega), if_pos (by omega), if_pos (by omega), if_pos (by omega),
      show ((pos : Int) + 2).toNat = pos + 2 by omega, show ((pos : Int) + 4).toNat = pos + 2 + 2 by omega, refGet_two s (pos + 2) (by omega) (k + 1) (by omega), Option.bind_some, wid ((pos : Int) + 4 + _) (by omega) (by omega), concordanceref06_Get.j1.eq_2]
    by_cases c2 : s.size < pos + 4 + num2 s (pos + 2)
    · rw [if_pos c2, if_pos (decide_eq_true (by omega))]; rfl
    rw [if_neg c2, if_neg (show ¬ decide ((pos : Int) + 4 + (num2 s (pos + 2) : Int) > (s.size : Int)) = true from fun h => absurd (of_decide_eq_true h) (by omega)), wid ((pos : Int) + 4) (by omega) (by omega), wid ((pos : Int) + 2) (by omega) (by omega), if_pos (by omega), if_pos (by omega), if_pos (by omega),
      show ((pos : Int) + 2).toNat = pos + 2 by omega, show ((pos : Int) + 4).toNat = pos + 2 + 2 by omega, refGet_two s (pos + 2) (by omega) k (by omega), Option.bind_some, if_pos (by omega), if_pos (by omega), if_pos (by omega), Int.toNat_natCast, refGet_two s pos (by omega) k (by omega), Option.bind_some, if_pos (by omega),
      wid ((pos : Int) + 4 + _) (by omega) (by omega), if_pos (by omega), if_pos (by omega), if_pos (by omega), wid (4 + (num2 s (pos + 2) : Int)) (by omega) (by omega), wid ((pos : Int) + _) (by omega) (by omega), wid ((idx : Int) + 1) (by omega) (by omega)]
    have g := ih k (pos + 4 + num2 s (pos + 2)) (idx + 1) (acc ++ [mkQ (num2 s pos) (s.extract (pos + 4) (pos + 4 + num2 s (pos + 2)))]) (by omega) (by rw [List.length_append, h2]; rfl) (by omega) (by omega)
    rw [← g, show (((pos : Int) + 4 + (num2 s (pos + 2) : Int)).toNat) = pos + 4 + num2 s (pos + 2) by omega, show (pos : Int) + (4 + (num2 s (pos + 2) : Int)) = ((pos + 4 + num2 s (pos + 2) : Nat) : Int) by omega]
    rfl
theorem get_tells (s : ByteArray) (hs : s.size ≤ 100000000) (k : Nat) (hk : 300000 ≤ k) : patch_Get.f k s = some (if s.size < 2 then ([], 0, 3) else getOut (rightB 0) (getGo mkP s (num2 s 0) 2 [])) := by
  have hD := num2_lt s 0
  unfold patch_Get.f
  by_cases c : s.size < 2
  · rw [if_pos c, if_pos (by omega)]
  rw [if_neg c, if_neg (by omega), if_pos (by omega), sumGet_two s 0 (by omega) k (by omega), Option.bind_some]
  exact get_loop s hs (num2 s 0) (by omega) (num2 s 0) k 2 0 [] (by omega) rfl (by omega) (by omega)
theorem refGet_tells (s : ByteArray) (hs : s.size ≤ 100000000) (k : Nat) (hk : 300000 ≤ k) : concordanceref06_Get.f k s = some (if s.size < 2 then ([], 0, 3) else getOut (fun l => rightB 0 (l.map toP)) (getGo mkQ s (num2 s 0) 2 [])) := by
  have hD := num2_lt s 0
  unfold concordanceref06_Get.f
  by_cases c : s.size < 2
  · rw [if_pos c, if_pos (by omega)]
  rw [if_neg c, if_neg (by omega), if_pos (by omega), refGet_two s 0 (by omega) k (by omega), Option.bind_some]
  exact refGet_loop s hs (num2 s 0) (by omega) (num2 s 0) k 2 0 [] (by omega) rfl (by omega) (by omega)
theorem getGo_map (s : ByteArray) : ∀ (d pos : Nat) (acc : List S67), getGo mkP s d pos (acc.map toP) = (getGo mkQ s d pos acc).map fun r => (r.1.map toP, r.2) := by
  intro d
  induction d with
  | zero => intro pos acc; rfl
  | succ d ih =>
    intro pos acc
    unfold getGo
    split
    · rfl
    split
    · rfl
    rw [← ih, List.map_append]
    rfl
theorem getGo_length {α : Type} (mk : Int → ByteArray → α) (s : ByteArray) : ∀ (d pos : Nat) (acc l : List α) (p : Nat), getGo mk s d pos acc = some (l, p) → l.length = acc.length + d := by
  intro d
  induction d with
  | zero => intro pos acc l p h; obtain ⟨rfl, rfl⟩ := Prod.mk.inj (Option.some.inj h); rfl
  | succ d ih =>
    intro pos acc l p h
    unfold getGo at h
    split at h
    · cases h
    split at h
    · cases h
    have := ih _ _ _ _ h
    rw [List.length_append] at this
    simp only [List.length_cons, List.length_nil] at this
    omega
end Go.Proofs.Yteehchhmonlkkaa.GP

/- Put and Get go back and forth: the bytes of what Get read are those it read; what Put wrote is read again. -/
namespace Go.Proofs.Yteehchhmonlkkaa.GP
open Go.RowKit Go.Proofs.YteehchhmonlkkaaW.PrintWords Go.Proofs.YteehchhmonlkkaaW.PrintLast Go.Proofs.YteehchhmonlkkaaW.PrintMore Go.Proofs.Yteehchhmonlkkaa.Copy
set_option linter.unusedVariables false
set_option linter.unusedSimpArgs false
set_option maxHeartbeats 400000

theorem data_ext {a b : ByteArray} (h : a.data.toList = b.data.toList) : a = b := by
  have h1 : a.data = b.data := Array.ext' h
  cases a; cases b; simp at h1; rw [h1]
theorem size_len (s : ByteArray) : s.data.toList.length = s.size := by simp
theorem extract_list (s : ByteArray) (a b : Nat) : (s.extract a b).data.toList = (s.data.toList.drop a).take (b - a) := by
  simp [ByteArray.data_extract, List.extract_eq_take_drop]
theorem getD_drop (L : List UInt8) (p i : Nat) : (L.drop p).getD i 0 = L.getD (p + i) 0 := by
  simp [List.getD_eq_getElem?_getD, List.getElem?_drop]
theorem be2_num2 (s : ByteArray) (p : Nat) (hp : p + 2 ≤ s.size) : be2 (num2 s p : Int) = (s.data.toList.drop p).take 2 := by
  have h1 := (s.data.toList.getD p 0).toNat_lt
  have h2 := (s.data.toList.getD (p + 1) 0).toNat_lt
  have e1 : ((num2 s p : Int) / 256).toNat = (s.data.toList.getD p 0).toNat := by unfold num2; omega
  have e2 : ((num2 s p : Int) % 256).toNat = (s.data.toList.getD (p + 1) 0).toNat := by unfold num2; omega
  have hl := size_len s
  unfold be2
  rw [e1, e2, UInt8.ofNat_toNat, UInt8.ofNat_toNat]
  have g : ∀ i, p + i < s.size → s.data.toList[p + i]? = some (s.data.toList.getD (p + i) 0) := by
    intro i hi
    rw [List.getD_eq_getElem?_getD, List.getElem?_eq_getElem (by omega), Option.getD_some]
  have g0 := g 0 (by omega)
  have g1 := g 1 (by omega)
  rw [Nat.add_zero] at g0
  rw [List.drop_eq_getElem_cons (by omega), List.drop_eq_getElem_cons (by omega)]
  rw [List.getElem?_eq_getElem (by omega)] at g0 g1
  rw [← Option.some.inj g0, ← Option.some.inj g1]
  rfl
theorem getGo_bytes (s : ByteArray) : ∀ (d pos : Nat) (acc l : List S66) (p : Nat), pos ≤ s.size → getGo mkP s d pos acc = some (l, p) →
    pos ≤ p ∧ p ≤ s.size ∧ l.flatMap pieceB = acc.flatMap pieceB ++ (s.data.toList.drop pos).take (p - pos) := by
  intro d
  induction d with
  | zero =>
    intro pos acc l p hp h
    obtain ⟨rfl, rfl⟩ := Prod.mk.inj (Option.some.inj h)
    exact ⟨Nat.le_refl _, hp, by simp⟩
  | succ d ih =>
    intro pos acc l p hp h
    unfold getGo at h
    by_cases c1 : s.size < pos + 4
    · rw [if_pos c1] at h; cases h
    rw [if_neg c1] at h
    by_cases c2 : s.size < pos + 4 + num2 s (pos + 2)
    · rw [if_pos c2] at h; cases h
    rw [if_neg c2] at h
    obtain ⟨h1, h2, h3⟩ := ih _ _ _ _ (by omega) h
    refine ⟨by omega, h2, ?_⟩
    have hx : (s.extract (pos + 4) (pos + 4 + num2 s (pos + 2))).size = num2 s (pos + 2) := by rw [extract_size _ _ _ (by omega)]; omega
    have hpc : pieceB (mkP (num2 s pos) (s.extract (pos + 4) (pos + 4 + num2 s (pos + 2)))) = (s.data.toList.drop pos).take (2 + (2 + num2 s (pos + 2))) := by
      unfold pieceB mkP
      show be2 (num2 s pos : Int) ++ be2 ((s.extract (pos + 4) (pos + 4 + num2 s (pos + 2))).size : Int) ++ (s.extract (pos + 4) (pos + 4 + num2 s (pos + 2))).data.toList = _
      rw [hx, be2_num2 s pos (by omega), be2_num2 s (pos + 2) (by omega), extract_list, List.take_add, List.take_add, List.drop_drop, List.drop_drop, List.append_assoc,
        show pos + 4 + num2 s (pos + 2) - (pos + 4) = num2 s (pos + 2) by omega]
    rw [h3, List.flatMap_append, List.flatMap_cons, List.flatMap_nil, List.append_nil, hpc, List.append_assoc,
      show p - pos = (2 + (2 + num2 s (pos + 2))) + (p - (pos + 4 + num2 s (pos + 2))) by omega, List.take_add (l := s.data.toList.drop pos) (i := 2 + (2 + num2 s (pos + 2))), List.drop_drop,
      show pos + (2 + (2 + num2 s (pos + 2))) = pos + 4 + num2 s (pos + 2) by omega]
/-- What Get reads, Put writes. -/
theorem putL_get (s : ByteArray) (l : List S66) (p : Nat) (hs : 2 ≤ s.size) (h : getGo mkP s (num2 s 0) 2 [] = some (l, p)) : 2 ≤ p ∧ p ≤ s.size ∧ putL l = (s.extract 0 p).data.toList := by
  obtain ⟨h1, h2, h3⟩ := getGo_bytes s _ _ _ _ _ (by omega) h
  have hl := getGo_length mkP s _ _ _ _ _ h
  refine ⟨h1, h2, ?_⟩
  unfold putL
  rw [h3, extract_list, hl, show (([] : List S66).length + num2 s 0) = num2 s 0 by simp, be2_num2 s 0 (by omega), List.flatMap_nil, List.nil_append, show p - 0 = 2 + (p - 2) by omega, List.take_add, List.drop_drop, Nat.zero_add]

theorem be2_get (n : Int) (h0 : 0 ≤ n) (h1 : n < 65536) (s : ByteArray) (p : Nat) (r : List UInt8) (h : s.data.toList.drop p = be2 n ++ r) : (num2 s p : Int) = n := by
  have e0 : s.data.toList.getD p 0 = UInt8.ofNat (n / 256).toNat := by
    have := getD_drop s.data.toList p 0
    rw [h] at this
    simpa [be2] using this.symm
  have e1 : s.data.toList.getD (p + 1) 0 = UInt8.ofNat (n % 256).toNat := by
    have := getD_drop s.data.toList p 1
    rw [h] at this
    simpa [be2] using this.symm
  unfold num2
  rw [e0, e1, UInt8.toNat_ofNat', UInt8.toNat_ofNat']
  omega
theorem be2_length (n : Int) : (be2 n).length = 2 := rfl
theorem get_put (s : ByteArray) : ∀ (l acc : List S66) (pos : Nat) (e : Int) (r : List UInt8), 0 ≤ e → rightB e l = true → s.data.toList.drop pos = l.flatMap pieceB ++ r → pos ≤ s.size →
    getGo mkP s l.length pos acc = some (acc ++ l, pos + (l.flatMap pieceB).length)
  | [], acc, pos, e, r, h0, hr, h, hp => by rw [List.length_nil, getGo_zero]; simp
  | q :: l, acc, pos, e, r, h0, hr, h, hp => by
    simp only [rightB, Bool.and_eq_true, decide_eq_true_eq] at hr
    obtain ⟨⟨⟨⟨r1, r2⟩, r3⟩, r4⟩, r5⟩ := hr
    have hlen := size_len s
    have hdl : (s.data.toList.drop pos).length = s.size - pos := by rw [List.length_drop, hlen]
    rw [h, List.flatMap_cons, List.append_assoc] at hdl
    rw [List.flatMap_cons, List.append_assoc] at h
    have hpb : pieceB q = be2 q.f0 ++ (be2 (q.f1.size : Int) ++ q.f1.data.toList) := by unfold pieceB; rw [List.append_assoc]
    have hpl : (pieceB q).length = 4 + q.f1.size := by rw [hpb, List.length_append, List.length_append, be2_length, be2_length, size_len]; omega
    rw [List.length_append, hpl] at hdl
    have n0 : (num2 s pos : Int) = q.f0 := be2_get q.f0 (by omega) (by omega) s pos (be2 (q.f1.size : Int) ++ q.f1.data.toList ++ (l.flatMap pieceB ++ r)) (by rw [h, hpb]; simp only [List.append_assoc])
    have h2 : s.data.toList.drop (pos + 2) = be2 (q.f1.size : Int) ++ (q.f1.data.toList ++ (l.flatMap pieceB ++ r)) := by
      rw [← List.drop_drop, h, hpb, List.append_assoc, List.drop_left' (be2_length _), List.append_assoc]
    have n2 : num2 s (pos + 2) = q.f1.size := by
      have := be2_get (q.f1.size : Int) (by omega) (by omega) s (pos + 2) _ h2
      omega
    have h4 : s.data.toList.drop (pos + 4) = q.f1.data.toList ++ (l.flatMap pieceB ++ r) := by
      rw [show pos + 4 = pos + 2 + 2 by omega, ← List.drop_drop, h2, List.drop_left' (be2_length _)]
    have hd : s.extract (pos + 4) (pos + 4 + q.f1.size) = q.f1 := by
      apply data_ext
      show (s.extract (pos + 4) (pos + 4 + q.f1.size)).data.toList = q.f1.data.toList
      rw [extract_list, h4, show pos + 4 + q.f1.size - (pos + 4) = q.f1.size by omega, List.take_left' (size_len _)]
    have h5 : s.data.toList.drop (pos + 4 + q.f1.size) = l.flatMap pieceB ++ r := by
      rw [← List.drop_drop, h4, List.drop_left' (size_len _)]
    have ih := get_put s l (acc ++ [q]) (pos + 4 + q.f1.size) (q.f0 + q.f1.size) r (by omega) r5 h5 (by omega)
    rw [List.length_cons]
    unfold getGo
    rw [if_neg (by omega), n2, if_neg (by omega), n0, hd, show mkP q.f0 q.f1 = q from rfl, ih, List.append_assoc, List.flatMap_cons, List.length_append, hpl]
    congr 2
    omega
end Go.Proofs.Yteehchhmonlkkaa.GP

/- What the two readers of bytes take and tell, in plain Lean. No program in sight but the printed functions. -/
namespace Go.Proofs.Yteehchhmonlkkaa.GP
open Go.RowKit Go.Proofs.YteehchhmonlkkaaW.PrintWords Go.Proofs.YteehchhmonlkkaaW.PrintLast Go.Proofs.YteehchhmonlkkaaW.PrintMore Go.Proofs.Yteehchhmonlkkaa.Copy
set_option linter.unusedVariables false
set_option linter.unusedSimpArgs false
set_option maxHeartbeats 400000

/-- A number's value, the highest byte first. -/
def numF (x : Nat) (L : List UInt8) : Nat := L.foldl (fun x b => x * 256 + b.toNat) x
def numL (L : List UInt8) : Nat := numF 0 L
theorem numF_lt : ∀ (L : List UInt8) (x n : Nat), x < 256 ^ n → numF x L < 256 ^ (n + L.length)
  | [], x, n, h => by simpa [numF] using h
  | b :: L, x, n, h => by
    have hb := b.toNat_lt
    have h1 : x * 256 + b.toNat < 256 ^ (n + 1) := by rw [Nat.pow_succ]; omega
    have := numF_lt L (x * 256 + b.toNat) (n + 1) h1
    rw [List.length_cons, show n + (L.length + 1) = n + 1 + L.length by omega]
    exact this
theorem numL_lt (L : List UInt8) : numL L < 256 ^ L.length := by
  have h := numF_lt L 0 0 (by simp)
  rw [Nat.zero_add] at h
  exact h

theorem or_join2 (x b : Nat) (hx : x < 281474976710656) (hb : b < 256) : Go.bits .or .i64 ((x * 256 : Nat) : Int) (b : Int) = ((x * 256 + b : Nat) : Int) := by
  show IntKind.i64.wrap ((BitVec.ofInt 64 ((x * 256 : Nat) : Int) ||| BitVec.ofInt 64 (b : Int)).toNat : Int) = _
  rw [BitVec.toNat_or, ofInt_u64 _ (by omega), ofInt_u64 b (by omega), nat_join8 _ b (by omega) (by omega)]
  exact Lib.wrap_i64_small _ (by omega)
theorem bt_at (s : ByteArray) (i : Nat) (h : i < s.data.toList.length) : bt s (i : Int) = ((s.data.toList[i]).toNat : Int) := by
  rw [bt_nat, List.getD_eq_getElem?_getD, List.getElem?_eq_getElem h]; rfl

theorem sumGet_loop (b : ByteArray) (hb : b.size ≤ 6) : ∀ (d k i x : Nat), i + d = b.size → d < k → x < 256 ^ i →
    sum_Get.l0 k b (x : Int) (b.size : Int) (i : Int) = some (numF x (b.data.toList.drop i) : Int) := by
  intro d
  induction d with
  | zero =>
    intro k i x h1 h2 h3
    obtain ⟨k, rfl⟩ : ∃ m, k = m + 1 := ⟨k - 1, by omega⟩
    rw [sum_Get.l0.eq_2, if_neg (by omega), List.drop_of_length_le (by rw [size_len]; omega)]
    rfl
  | succ d ih =>
    intro k i x h1 h2 h3
    obtain ⟨k, rfl⟩ : ∃ m, k = m + 1 := ⟨k - 1, by omega⟩
    have hl : i < b.data.toList.length := by rw [size_len]; omega
    have hc := (b.data.toList[i]).toNat_lt
    have hp : (256 : Nat) ^ i ≤ 256 ^ 5 := Nat.pow_le_pow_right (by omega) (by omega)
    have hx : x < 1099511627776 := Nat.lt_of_lt_of_le h3 (Nat.le_trans hp (by decide))
    have h4 : x * 256 + (b.data.toList[i]).toNat < 256 ^ (i + 1) := by rw [Nat.pow_succ]; omega
    rw [sum_Get.l0.eq_2, if_pos (by omega), if_pos (by omega), if_pos (by omega), bt_at b i hl, wid ((x : Int) * 256) (by omega) (by omega), wid (((b.data.toList[i]).toNat : Nat) : Int) (by omega) (by omega), wid ((i : Int) + 1) (by omega) (by omega),
      show (x : Int) * 256 = ((x * 256 : Nat) : Int) by omega, or_join2 x _ (by omega) hc, show (i : Int) + 1 = ((i + 1 : Nat) : Int) by omega, ih k (i + 1) _ (by omega) (by omega) h4, List.drop_eq_getElem_cons hl]
    rfl
theorem sumGet_tells (b : ByteArray) (hb : b.size ≤ 6) (k : Nat) (hk : 7 ≤ k) : sum_Get.f k b = some (numL b.data.toList : Int) := by
  unfold sum_Get.f
  rw [if_neg (by omega)]
  exact sumGet_loop b hb b.size k 0 0 (by omega) (by omega) (by simp)
theorem ref02Get_loop (b : ByteArray) (hb : b.size ≤ 6) : ∀ (d k i x : Nat), i + d = b.size → d < k → x < 256 ^ i →
    concordanceref02_Get.l0 k b (x : Int) (i : Int) = some (numF x (b.data.toList.drop i) : Int) := by
  intro d
  induction d with
  | zero =>
    intro k i x h1 h2 h3
    obtain ⟨k, rfl⟩ : ∃ m, k = m + 1 := ⟨k - 1, by omega⟩
    rw [concordanceref02_Get.l0.eq_2, if_neg (by omega), List.drop_of_length_le (by rw [size_len]; omega)]
    rfl
  | succ d ih =>
    intro k i x h1 h2 h3
    obtain ⟨k, rfl⟩ : ∃ m, k = m + 1 := ⟨k - 1, by omega⟩
    have hl : i < b.data.toList.length := by rw [size_len]; omega
    have hc := (b.data.toList[i]).toNat_lt
    have hp : (256 : Nat) ^ i ≤ 256 ^ 5 := Nat.pow_le_pow_right (by omega) (by omega)
    have hx : x < 1099511627776 := Nat.lt_of_lt_of_le h3 (Nat.le_trans hp (by decide))
    have h4 : x * 256 + (b.data.toList[i]).toNat < 256 ^ (i + 1) := by rw [Nat.pow_succ]; omega
    rw [concordanceref02_Get.l0.eq_2, if_pos (by omega), if_pos (by omega), if_pos (by omega), bt_at b i hl, wid (256 * (x : Int)) (by omega) (by omega), wid (((b.data.toList[i]).toNat : Nat) : Int) (by omega) (by omega), wid ((i : Int) + 1) (by omega) (by omega), wid (256 * (x : Int) + _) (by omega) (by omega),
      show 256 * (x : Int) + ((b.data.toList[i]).toNat : Int) = ((x * 256 + (b.data.toList[i]).toNat : Nat) : Int) by omega, show (i : Int) + 1 = ((i + 1 : Nat) : Int) by omega, ih k (i + 1) _ (by omega) (by omega) h4, List.drop_eq_getElem_cons hl]
    rfl
theorem ref02Get_tells (b : ByteArray) (hb : b.size ≤ 6) (k : Nat) (hk : 7 ≤ k) : concordanceref02_Get.f k b = some (numL b.data.toList : Int) := by
  unfold concordanceref02_Get.f
  exact ref02Get_loop b hb b.size k 0 0 (by omega) (by omega) (by simp)

/-- So many bytes, and what is left. -/
def takeP (s : ByteArray) (e : Int) (n : Nat) : ByteArray × ByteArray × Int :=
  if e = 0 then (if n ≤ s.size then (s.extract 0 n, s.extract n s.size, 0) else (⟨#[]⟩, s, 3)) else (⟨#[]⟩, s, e)
def numP (s : ByteArray) (e : Int) (n : Nat) : Nat × ByteArray × Int := (numL (takeP s e n).1.data.toList, (takeP s e n).2.1, (takeP s e n).2.2)
def textP (s : ByteArray) (e : Int) : ByteArray × ByteArray × Int := takeP (numP s e 2).2.1 (numP s e 2).2.2 (numP s e 2).1
theorem takeP_ok (s : ByteArray) (n : Nat) (h : n ≤ s.size) : takeP s 0 n = (s.extract 0 n, s.extract n s.size, 0) := by unfold takeP; rw [if_pos rfl, if_pos h]
theorem takeP_short (s : ByteArray) (n : Nat) (h : ¬ n ≤ s.size) : takeP s 0 n = (⟨#[]⟩, s, 3) := by unfold takeP; rw [if_pos rfl, if_neg h]
theorem takeP_err (s : ByteArray) (e : Int) (n : Nat) (h : e ≠ 0) : takeP s e n = (⟨#[]⟩, s, e) := by unfold takeP; rw [if_neg h]
theorem takeP_size (s : ByteArray) (e : Int) (n : Nat) : (takeP s e n).1.size ≤ n := by
  unfold takeP
  split
  · split
    · rw [extract_size _ _ _ (by omega)]; omega
    · exact Nat.zero_le _
  · exact Nat.zero_le _
theorem take_tells (s : ByteArray) (e : Int) (n : Nat) (k : Nat) (hk : 1 ≤ k) : record_reader_take.f k s e (n : Int) = some (takeP s e n) := by
  obtain ⟨k, rfl⟩ : ∃ m, k = m + 1 := ⟨k - 1, by omega⟩
  unfold record_reader_take.f takeP
  by_cases he : e = 0
  · subst he
    rw [if_pos rfl, if_pos rfl, record_reader_take.j0.eq_2]
    by_cases h : n ≤ s.size
    · rw [if_neg (by rw [decide_eq_false (by omega)]; decide), if_pos rfl, if_pos (by omega), if_pos (by omega), if_pos h, Int.toNat_natCast]
    · rw [if_pos (decide_eq_true (by omega)), if_neg h]
  · rw [if_neg he, if_neg he, record_reader_take.j0.eq_2, if_neg (by decide), if_neg he]
theorem refTake_tells (s : ByteArray) (e : Int) (n : Nat) (k : Nat) (hk : 1 ≤ k) : concordanceref07_Take.f k s e (n : Int) = some (takeP s e n) := by
  obtain ⟨k, rfl⟩ : ∃ m, k = m + 1 := ⟨k - 1, by omega⟩
  unfold concordanceref07_Take.f takeP
  by_cases he : e = 0
  · subst he
    rw [if_pos rfl, if_pos rfl, concordanceref07_Take.j0.eq_2]
    by_cases h : n ≤ s.size
    · rw [if_neg (by rw [decide_eq_false (by omega)]; decide), if_pos rfl, if_pos (by omega), if_pos (by omega), if_pos h, Int.toNat_natCast]
    · rw [if_pos (decide_eq_true (by omega)), if_neg h]
  · rw [if_neg he, if_neg he, concordanceref07_Take.j0.eq_2, if_neg (by decide), if_neg he]
def inI (x : Nat × ByteArray × Int) : Int × ByteArray × Int := ((x.1 : Int), x.2.1, x.2.2)
theorem number_tells (s : ByteArray) (e : Int) (n : Nat) (hn : n ≤ 6) (k : Nat) (hk : 7 ≤ k) : record_reader_number.f k s e (n : Int) = some (inI (numP s e n)) := by
  have h := takeP_size s e n
  unfold record_reader_number.f
  rw [take_tells s e n k (by omega), Option.bind_some, sumGet_tells _ (by omega) k hk, Option.bind_some]
  rfl
theorem refNumber_tells (s : ByteArray) (e : Int) (n : Nat) (hn : n ≤ 6) (k : Nat) (hk : 7 ≤ k) : concordanceref07_Number.f k s e (n : Int) = some (inI (numP s e n)) := by
  have h := takeP_size s e n
  unfold concordanceref07_Number.f
  rw [refTake_tells s e n k (by omega), Option.bind_some, ref02Get_tells _ (by omega) k hk, Option.bind_some]
  rfl
theorem text_tells (s : ByteArray) (e : Int) (k : Nat) (hk : 7 ≤ k) : record_reader_text.f k s e = some (textP s e) := by
  unfold record_reader_text.f
  rw [show (2 : Int) = ((2 : Nat) : Int) from rfl, number_tells s e 2 (by omega) k hk, Option.bind_some]
  show (Option.bind (record_reader_take.f k (numP s e 2).2.1 (numP s e 2).2.2 ((numP s e 2).1 : Int)) _) = _
  rw [take_tells _ _ _ k (by omega), Option.bind_some]
  rfl
theorem numP_err (s : ByteArray) (e : Int) (n : Nat) (h : e ≠ 0) : numP s e n = (0, s, e) := by unfold numP; rw [takeP_err s e n h]; rfl
theorem numP_short (s : ByteArray) (n : Nat) (h : ¬ n ≤ s.size) : numP s 0 n = (0, s, 3) := by unfold numP; rw [takeP_short s n h]; rfl
theorem numP_ok (s : ByteArray) (n : Nat) (h : n ≤ s.size) : numP s 0 n = (numL (s.data.toList.take n), s.extract n s.size, 0) := by
  unfold numP; rw [takeP_ok s n h]
  show (numL (s.extract 0 n).data.toList, _, _) = _
  rw [extract_list]; rfl
theorem numP_lt (s : ByteArray) (e : Int) (n : Nat) : (numP s e n).1 < 256 ^ n := by
  have h1 := numL_lt (takeP s e n).1.data.toList
  rw [size_len] at h1
  exact Nat.lt_of_lt_of_le h1 (Nat.pow_le_pow_right (by omega) (takeP_size s e n))
theorem rest_list (s : ByteArray) (n : Nat) : (s.extract n s.size).data.toList = s.data.toList.drop n := by
  rw [extract_list, List.take_of_length_le (by rw [List.length_drop, size_len]; omega)]
theorem take_list (s : ByteArray) (n : Nat) : (s.extract 0 n).data.toList = s.data.toList.take n := by
  rw [extract_list]; rfl
theorem rest_size (s : ByteArray) (n : Nat) (h : n ≤ s.size) : (s.extract n s.size).size = s.size - n := by rw [extract_size _ _ _ (Nat.le_refl _)]

/-- The bytes of a number, and the number of its bytes. -/
theorem numL_be1 (n : Int) (h0 : 0 ≤ n) (h1 : n < 256) : (numL (be1 n) : Int) = n := by
  simp only [numL, numF, be1, List.foldl_cons, List.foldl_nil, UInt8.toNat_ofNat']; omega
theorem numL_be2 (n : Int) (h0 : 0 ≤ n) (h1 : n < 65536) : (numL (be2 n) : Int) = n := by
  simp only [numL, numF, be2, List.foldl_cons, List.foldl_nil, UInt8.toNat_ofNat']; omega
theorem numL_be6 (n : Int) (h0 : 0 ≤ n) (h1 : n < 281474976710656) : (numL (be6 n) : Int) = n := by
  simp only [numL, numF, be6, List.foldl_cons, List.foldl_nil, UInt8.toNat_ofNat']; omega
theorem byte_of (n : Int) (b : UInt8) (h : n = (b.toNat : Int)) : UInt8.ofNat n.toNat = b := by
  rw [h, Int.toNat_natCast, UInt8.ofNat_toNat]
theorem be1_numL (L : List UInt8) (h : L.length = 1) : be1 (numL L : Int) = L := by
  match L, h with
  | [a], _ =>
    have ha := a.toNat_lt
    simp only [numL, numF, be1, List.foldl_cons, List.foldl_nil]
    rw [byte_of _ a (by omega)]
theorem be2_numL (L : List UInt8) (h : L.length = 2) : be2 (numL L : Int) = L := by
  match L, h with
  | [a, b], _ =>
    have ha := a.toNat_lt; have hb := b.toNat_lt
    simp only [numL, numF, be2, List.foldl_cons, List.foldl_nil]
    rw [byte_of _ a (by omega), byte_of _ b (by omega)]
theorem be6_numL (L : List UInt8) (h : L.length = 6) : be6 (numL L : Int) = L := by
  match L, h with
  | [a, b, c, d, e, f], _ =>
    have ha := a.toNat_lt; have hb := b.toNat_lt; have hc := c.toNat_lt; have hd := d.toNat_lt; have he := e.toNat_lt; have hf := f.toNat_lt
    simp only [numL, numF, be6, List.foldl_cons, List.foldl_nil]
    rw [byte_of _ a (by omega), byte_of _ b (by omega), byte_of _ c (by omega), byte_of _ d (by omega), byte_of _ e (by omega), byte_of _ f (by omega)]
end Go.Proofs.Yteehchhmonlkkaa.GP
