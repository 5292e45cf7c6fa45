/- What Get tells, in plain Lean: patch.Get and the document's Get read the same pieces; Put and Get go back and forth. -/
import Derived.Test.YtpdibkcpdngboaaPRef
import Derived.Test.YtpdibkcpdngboaaGPx25
import Derived.Test.YtpdibkcpdngboaaGPx28
import Derived.Lib.QuoteBits
namespace Go.Proofs.Ytpdibkcpdngboaa.GP
open Go.RowKit Go.Proofs.YtpdibkcpdngboaaW.PrintWords Go.Proofs.YtpdibkcpdngboaaW.PrintLast Go.Proofs.YtpdibkcpdngboaaW.PrintMore Go.Proofs.Ytpdibkcpdngboaa.Copy
set_option linter.unusedVariables false
set_option linter.unusedSimpArgs false
set_option maxHeartbeats 400000

theorem wid (n : Int) (h0 : 0 ≤ n) (h1 : n < 9223372036854775808) : wrap64 n = n := by unfold wrap64; omega
theorem or_join (x b : Nat) (hx : x < 256) (hb : b < 256) : Go.bits .or .i64 ((x * 256 : Nat) : Int) (b : Int) = ((x * 256 + b : Nat) : Int) := by
  show IntKind.i64.wrap ((BitVec.ofInt 64 ((x * 256 : Nat) : Int) ||| BitVec.ofInt 64 (b : Int)).toNat : Int) = _
  rw [BitVec.toNat_or, ofInt_u64 _ (by omega), ofInt_u64 b (by omega), nat_join8 _ b (by omega) (by omega)]
  exact Lib.wrap_i64_small _ (by omega)
/-- A number read at a place. -/
def num2 (s : ByteArray) (p : Nat) : Nat := (s.data.toList.getD p 0).toNat * 256 + (s.data.toList.getD (p + 1) 0).toNat
theorem num2_lt (s : ByteArray) (p : Nat) : num2 s p < 65536 := by
  have h1 := (s.data.toList.getD p 0).toNat_lt
  have h2 := (s.data.toList.getD (p + 1) 0).toNat_lt
  unfold num2; omega
theorem bt_nat (s : ByteArray) (i : Nat) : bt s i = ((s.data.toList.getD i 0).toNat : Int) := (getD_bt s i).symm
theorem bt_extract (s : ByteArray) (p i : Nat) (hi : i < 2) : bt (s.extract p (p + 2)) i = ((s.data.toList.getD (p + i) 0).toNat : Int) := by
  rw [bt_nat, extract_getD s p (p + 2) i (by omega)]
theorem sumGet_two (s : ByteArray) (p : Nat) (hp : p + 2 ≤ s.size) (k : Nat) (hk : 4 ≤ k) : sum_Get.f k (s.extract p (p + 2)) = some (num2 s p : Int) := by
  obtain ⟨k, rfl⟩ : ∃ m, k = m + 1 + 1 + 1 := ⟨k - 3, by omega⟩
  have hsz : (s.extract p (p + 2)).size = 2 := by rw [extract_size _ _ _ hp]; omega
  have h1 := (s.data.toList.getD p 0).toNat_lt
  have h2 := (s.data.toList.getD (p + 1) 0).toNat_lt
  have b0 : bt (s.extract p (p + 2)) 0 = ((s.data.toList.getD p 0).toNat : Int) := bt_extract s p 0 (by omega)
  have b1 : bt (s.extract p (p + 2)) 1 = ((s.data.toList.getD (p + 1) 0).toNat : Int) := bt_extract s p 1 (by omega)
  have z0 : Go.bits .or .i64 0 ((s.data.toList.getD p 0).toNat : Int) = ((s.data.toList.getD p 0).toNat : Int) := by simpa using or_join 0 (s.data.toList.getD p 0).toNat (by omega) h1
  unfold sum_Get.f
  rw [hsz, if_neg (by omega), sum_Get.l0.eq_2, if_pos (by omega), if_pos (by omega), hsz, if_pos (by omega), b0, show wrap64 (0 * 256) = 0 from wid 0 (by omega) (by omega), wid _ (by omega) (by omega), z0, show wrap64 (0 + 1) = 1 from wid 1 (by omega) (by omega),
    sum_Get.l0.eq_2, if_pos (by omega), if_pos (by omega), hsz, if_pos (by omega), b1, wid _ (by omega) (by omega), wid _ (by omega) (by omega), show wrap64 (1 + 1) = 2 from wid 2 (by omega) (by omega),
    show ((s.data.toList.getD p 0).toNat : Int) * 256 = (((s.data.toList.getD p 0).toNat * 256 : Nat) : Int) by omega, or_join _ _ h1 h2, sum_Get.l0.eq_2, if_neg (by omega)]
  rfl
theorem refGet_two (s : ByteArray) (p : Nat) (hp : p + 2 ≤ s.size) (k : Nat) (hk : 4 ≤ k) : concordanceref02_Get.f k (s.extract p (p + 2)) = some (num2 s p : Int) := by
  obtain ⟨k, rfl⟩ : ∃ m, k = m + 1 + 1 + 1 := ⟨k - 3, by omega⟩
  have hsz : (s.extract p (p + 2)).size = 2 := by rw [extract_size _ _ _ hp]; omega
  have h1 := (s.data.toList.getD p 0).toNat_lt
  have h2 := (s.data.toList.getD (p + 1) 0).toNat_lt
  have b0 : bt (s.extract p (p + 2)) 0 = ((s.data.toList.getD p 0).toNat : Int) := bt_extract s p 0 (by omega)
  have b1 : bt (s.extract p (p + 2)) 1 = ((s.data.toList.getD (p + 1) 0).toNat : Int) := bt_extract s p 1 (by omega)
  unfold concordanceref02_Get.f
  rw [concordanceref02_Get.l0.eq_2, hsz, if_pos (by omega), if_pos (by omega), if_pos (by omega), b0, show wrap64 (256 * 0) = 0 from wid 0 (by omega) (by omega), wid ((s.data.toList.getD p 0).toNat : Int) (by omega) (by omega), wid _ (by omega) (by omega), show wrap64 (0 + 1) = 1 from wid 1 (by omega) (by omega),
    concordanceref02_Get.l0.eq_2, hsz, if_pos (by omega), if_pos (by omega), if_pos (by omega), b1, wid (256 * _) (by omega) (by omega), wid ((s.data.toList.getD (p + 1) 0).toNat : Int) (by omega) (by omega), wid _ (by omega) (by omega), show wrap64 (1 + 1) = 2 from wid 2 (by omega) (by omega),
    concordanceref02_Get.l0.eq_2, hsz, if_neg (by omega)]
  unfold num2
  congr 1
  omega

/-- The pieces that are read: so many, from a place on. -/
def getGo {α : Type} (mk : Int → ByteArray → α) (s : ByteArray) : Nat → Nat → List α → Option (List α × Nat)
  | 0, pos, acc => some (acc, pos)
  | c + 1, pos, acc => if s.size < pos + 4 then none else if s.size < pos + 4 + num2 s (pos + 2) then none else
      getGo mk s c (pos + 4 + num2 s (pos + 2)) (acc ++ [mk (num2 s pos) (s.extract (pos + 4) (pos + 4 + num2 s (pos + 2)))])
def getOut {α : Type} (fin : List α → Bool) : Option (List α × Nat) → List α × Int × Int
  | none => ([], 0, 3)
  | some (l, p) => if fin l = true then (l, (p : Int), 0) else ([], 0, 2)
theorem getOut_some {α : Type} (fin : List α → Bool) (l : List α) (p : Nat) : getOut fin (some (l, p)) = if fin l = true then (l, (p : Int), 0) else ([], 0, 2) := rfl
theorem getGo_zero {α : Type} (mk : Int → ByteArray → α) (s : ByteArray) (pos : Nat) (acc : List α) : getGo mk s 0 pos acc = some (acc, pos) := rfl
def mkP (n : Int) (d : ByteArray) : S31 := ⟨n, d⟩
def mkQ (n : Int) (d : ByteArray) : S53 := ⟨n, d⟩
theorem right_at (l : List S31) (hl : l.length ≤ 65535) (k : Nat) (hk : l.length + 1 ≤ k) : patch_right.f k l = some (rightB 0 l) := by
  unfold patch_right.f
  have h := right_loop l l.length k 0 0 (by omega) (by omega) (by omega) (by omega)
  rw [decide_eq_true hl, Bool.and_true] at h
  exact h
theorem get_loop (s : ByteArray) (hs : s.size ≤ 100000000) (cnt : Nat) (hc : cnt ≤ 65535) : ∀ (d k pos idx : Nat) (acc : List S31), idx + d = cnt → acc.length = idx → pos ≤ s.size → d + cnt + 10 ≤ k →
    patch_Get.l0 k s acc (pos : Int) (cnt : Int) (idx : Int) = some (getOut (rightB 0) (getGo mkP s d pos acc)) := by
  intro d
  induction d with
  | zero =>
    intro k pos idx acc h1 h2 h3 h4
    obtain ⟨k, rfl⟩ : ∃ m, k = m + 1 := ⟨k - 1, by omega⟩
    rw [patch_Get.l0.eq_2, if_neg (by omega), right_at acc (by omega) k (by omega), Option.bind_some]
    rw [getGo_zero, getOut_some]
    by_cases hr : rightB 0 acc = true
    · rw [if_pos hr, if_pos hr]
    · rw [if_neg hr, if_neg hr]
  | succ d ih =>
    intro k pos idx acc h1 h2 h3 h4
    obtain ⟨k, rfl⟩ : ∃ m, k = m + 1 := ⟨k - 1, by omega⟩
    have hD := num2_lt s (pos + 2)
    rw [patch_Get.l0.eq_2, if_pos (by omega), wid ((s.size : Int) - pos) (by omega) (by omega)]
    unfold getGo
    by_cases c1 : s.size < pos + 4
    · rw [if_pos c1, if_pos (by omega)]; rfl
    rw [if_neg c1, if_neg (by omega), wid ((pos : Int) + 2) (by omega) (by omega), wid ((pos : Int) + 4) (by omega) (by omega), if_pos (by omega), if_pos (by omega), if_pos (by omega),
      show ((pos : Int) + 2).toNat = pos + 2 by omega, show ((pos : Int) + 4).toNat = pos + 2 + 2 by omega, sumGet_two s (pos + 2) (by omega) k (by omega), Option.bind_some, wid ((s.size : Int) - pos - 4) (by omega) (by omega)]
    by_cases c2 : s.size < pos + 4 + num2 s (pos + 2)
    · rw [if_pos c2, if_pos (by omega)]; rfl
    rw [if_neg c2, if_neg (by omega), if_pos (by omega), if_pos (by omega), if_pos (by omega), Int.toNat_natCast, sumGet_two s pos (by omega) k (by omega), Option.bind_some, if_pos (by omega),
      wid ((pos : Int) + 4 + _) (by omega) (by omega), if_pos (by omega), if_pos (by omega), if_pos (by omega), wid (4 + (num2 s (pos + 2) : Int)) (by omega) (by omega), wid ((pos : Int) + _) (by omega) (by omega), wid ((idx : Int) + 1) (by omega) (by omega)]
    have g := ih k (pos + 4 + num2 s (pos + 2)) (idx + 1) (acc ++ [mkP (num2 s pos) (s.extract (pos + 4) (pos + 4 + num2 s (pos + 2)))]) (by omega) (by rw [List.length_append, h2]; rfl) (by omega) (by omega)
    rw [← g, show (((pos : Int) + 4 + (num2 s (pos + 2) : Int)).toNat) = pos + 4 + num2 s (pos + 2) by omega, show (pos : Int) + (4 + (num2 s (pos + 2) : Int)) = ((pos + 4 + num2 s (pos + 2) : Nat) : Int) by omega]
    rfl
theorem refGet_loop (s : ByteArray) (hs : s.size ≤ 100000000) (cnt : Nat) (hc : cnt ≤ 65535) : ∀ (d k pos idx : Nat) (acc : List S53), idx + d = cnt → acc.length = idx → pos ≤ s.size → 2 * d + 2 * cnt + 20 ≤ k →
    concordanceref06_Get.l0 k s (cnt : Int) acc (pos : Int) (idx : Int) = some (getOut (fun l => rightB 0 (l.map toP)) (getGo mkQ s d pos acc)) := by
  intro d
  induction d with
  | zero =>
    intro k pos idx acc h1 h2 h3 h4
    obtain ⟨k, rfl⟩ : ∃ m, k = m + 1 := ⟨k - 1, by omega⟩
    rw [concordanceref06_Get.l0.eq_2, if_neg (by omega), refRight_tells acc (by omega) k (by omega), Option.bind_some, decide_eq_true (show acc.length ≤ 65535 by omega), Bool.and_true]
    rw [getGo_zero, getOut_some]
    by_cases hr : rightB 0 (acc.map toP) = true
    · rw [if_pos hr, if_pos hr]
    · rw [if_neg hr, if_neg hr]
  | succ d ih =>
    intro k pos idx acc h1 h2 h3 h4
    obtain ⟨k, rfl⟩ : ∃ m, k = m + 1 + 1 := ⟨k - 2, by omega⟩
    have hD := num2_lt s (pos + 2)
    rw [concordanceref06_Get.l0.eq_2, if_pos (by omega), wid ((pos : Int) + 4) (by omega) (by omega), wid ((pos : Int) + 2) (by omega) (by omega)]
    unfold getGo
    by_cases c1 : s.size < pos + 4
    · rw [if_pos c1, if_pos (by omega), concordanceref06_Get.j1.eq_2, if_pos (show true = true from rfl)]; rfl
    rw [if_neg c1, if_neg (by omega), if_pos (by omega), if_pos (by omega), if_pos (by omega),
      show ((pos : Int) + 2).toNat = pos + 2 by omega, show ((pos : Int) + 4).toNat = pos + 2 + 2 by omega, refGet_two s (pos + 2) (by omega) (k + 1) (by omega), Option.bind_some, wid ((pos : Int) + 4 + _) (by omega) (by omega), concordanceref06_Get.j1.eq_2]
    by_cases c2 : s.size < pos + 4 + num2 s (pos + 2)
    · rw [if_pos c2, if_pos (decide_eq_true (by omega))]; rfl
    rw [if_neg c2, if_neg (show ¬ decide ((pos : Int) + 4 + (num2 s (pos + 2) : Int) > (s.size : Int)) = true from fun h => absurd (of_decide_eq_true h) (by omega)), wid ((pos : Int) + 4) (by omega) (by omega), wid ((pos : Int) + 2) (by omega) (by omega), if_pos (by omega), if_pos (by omega), if_pos (by omega),
      show ((pos : Int) + 2).toNat = pos + 2 by omega, show ((pos : Int) + 4).toNat = pos + 2 + 2 by omega, refGet_two s (pos + 2) (by omega) k (by omega), Option.bind_some, if_pos (by omega), if_pos (by omega), if_pos (by omega), Int.toNat_natCast, refGet_two s pos (by omega) k (by omega), Option.bind_some, if_pos (by omega),
      wid ((pos : Int) + 4 + _) (by omega) (by omega), if_pos (by omega), if_pos (by omega), if_pos (by omega), wid (4 + (num2 s (pos + 2) : Int)) (by omega) (by omega), wid ((pos : Int) + _) (by omega) (by omega), wid ((idx : Int) + 1) (by omega) (by omega)]
    have g := ih k (pos + 4 + num2 s (pos + 2)) (idx + 1) (acc ++ [mkQ (num2 s pos) (s.extract (pos + 4) (pos + 4 + num2 s (pos + 2)))]) (by omega) (by rw [List.length_append, h2]; rfl) (by omega) (by omega)
    rw [← g, show (((pos : Int) + 4 + (num2 s (pos + 2) : Int)).toNat) = pos + 4 + num2 s (pos + 2) by omega, show (pos : Int) + (4 + (num2 s (pos + 2) : Int)) = ((pos + 4 + num2 s (pos + 2) : Nat) : Int) by omega]
    rfl
theorem get_tells (s : ByteArray) (hs : s.size ≤ 100000000) (k : Nat) (hk : 300000 ≤ k) : patch_Get.f k s = some (if s.size < 2 then ([], 0, 3) else getOut (rightB 0) (getGo mkP s (num2 s 0) 2 [])) := by
  have hD := num2_lt s 0
  unfold patch_Get.f
  by_cases c : s.size < 2
  · rw [if_pos c, if_pos (by omega)]
  rw [if_neg c, if_neg (by omega), if_pos (by omega), sumGet_two s 0 (by omega) k (by omega), Option.bind_some]
  exact get_loop s hs (num2 s 0) (by omega) (num2 s 0) k 2 0 [] (by omega) rfl (by omega) (by omega)
theorem refGet_tells (s : ByteArray) (hs : s.size ≤ 100000000) (k : Nat) (hk : 300000 ≤ k) : concordanceref06_Get.f k s = some (if s.size < 2 then ([], 0, 3) else getOut (fun l => rightB 0 (l.map toP)) (getGo mkQ s (num2 s 0) 2 [])) := by
  have hD := num2_lt s 0
  unfold concordanceref06_Get.f
  by_cases c : s.size < 2
  · rw [if_pos c, if_pos (by omega)]
  rw [if_neg c, if_neg (by omega), if_pos (by omega), refGet_two s 0 (by omega) k (by omega), Option.bind_some]
  exact refGet_loop s hs (num2 s 0) (by omega) (num2 s 0) k 2 0 [] (by omega) rfl (by omega) (by omega)
theorem getGo_map (s : ByteArray) : ∀ (d pos : Nat) (acc : List S53), getGo mkP s d pos (acc.map toP) = (getGo mkQ s d pos acc).map fun r => (r.1.map toP, r.2) := by
  intro d
  induction d with
  | zero => intro pos acc; rfl
  | succ d ih =>
    intro pos acc
    unfold getGo
    split
    · rfl
    split
    · rfl
    rw [← ih, List.map_append]
    rfl
theorem getGo_length {α : Type} (mk : Int → ByteArray → α) (s : ByteArray) : ∀ (d pos : Nat) (acc l : List α) (p : Nat), getGo mk s d pos acc = some (l, p) → l.length = acc.length + d := by
  intro d
  induction d with
  | zero => intro pos acc l p h; obtain ⟨rfl, rfl⟩ := Prod.mk.inj (Option.some.inj h); rfl
  | succ d ih =>
    intro pos acc l p h
    unfold getGo at h
    split at h
    · cases h
    split at h
    · cases h
    have := ih _ _ _ _ h
    rw [List.length_append] at this
    simp only [List.length_cons, List.length_nil] at this
    omega
end Go.Proofs.Ytpdibkcpdngboaa.GP
