/- What keys.Get and the document's Get read, in plain Lean. No program in sight but the printed functions. -/
import Derived.Test.YtcpehlllgfffkaaDoorTEntry
import Derived.Test.YtcpehlllgfffkaaDoorGTx11
import Derived.Test.YtcpehlllgfffkaaDoorGTx6
namespace Go.Proofs.YtcpehlllgfffkaaDoor.GT
open Go.RowKit Go.Proofs.YtcpehlllgfffkaaDoorW.PrintWords Go.Proofs.YtcpehlllgfffkaaDoorW.PrintLast Go.Proofs.YtcpehlllgfffkaaDoorW.PrintMore
set_option linter.unusedVariables false
set_option linter.unusedSimpArgs false
set_option maxHeartbeats 400000

theorem u8_0 (b : UInt8) : ((b.toNat : Int) = 0) ↔ b = 0 := ⟨fun h => UInt8.toNat_inj.mp (by rw [show b.toNat = 0 by omega]; rfl), fun h => by rw [h]; rfl⟩
theorem u8_1 (b : UInt8) : ((b.toNat : Int) = 1) ↔ b = 1 := ⟨fun h => UInt8.toNat_inj.mp (by rw [show b.toNat = 1 by omega]; rfl), fun h => by rw [h]; rfl⟩
theorem u8_255 (b : UInt8) : ((b.toNat : Int) = 255) ↔ b = 255 := ⟨fun h => UInt8.toNat_inj.mp (by rw [show b.toNat = 255 by omega]; rfl), fun h => by rw [h]; rfl⟩
theorem u8_16 (b : UInt8) : ((b.toNat : Int) = 16) ↔ b = 16 := ⟨fun h => UInt8.toNat_inj.mp (by rw [show b.toNat = 16 by omega]; rfl), fun h => by rw [h]; rfl⟩
theorem u8_32 (b : UInt8) : ((b.toNat : Int) = 32) ↔ b = 32 := ⟨fun h => UInt8.toNat_inj.mp (by rw [show b.toNat = 32 by omega]; rfl), fun h => by rw [h]; rfl⟩
/-- A text behind its tag: it, what is left, what is wrong. -/
def textF : Nat → List UInt8 → List UInt8 → List UInt8 × List UInt8 × Int
  | 0, _, _ => ([], [], 3)
  | _ + 1, [], _ => ([], [], 3)
  | n + 1, b :: r, acc =>
    if b = 0 then (match r with
      | [] => ([], [], 3)
      | c :: r' => if c = 255 then textF n r' (acc ++ [0]) else if c = 1 then (if 20 < acc.length then ([], [], 6) else (acc, r', 0)) else ([], [], 2))
    else textF n r (acc ++ [b])
theorem textF_rest : ∀ (n : Nat) (L acc : List UInt8), (textF n L acc).2.1.length ≤ L.length
  | 0, _, _ => Nat.zero_le _
  | _ + 1, [], _ => Nat.zero_le _
  | n + 1, b :: r, acc => by
    unfold textF
    split
    · split
      · exact Nat.zero_le _
      · rename_i c r'
        split
        · have := textF_rest n r' (acc ++ [0]); simp only [List.length_cons]; omega
        · split
          · split
            · exact Nat.zero_le _
            · show r'.length ≤ _; simp only [List.length_cons]; omega
          · exact Nat.zero_le _
    · have := textF_rest n r (acc ++ [b]); simp only [List.length_cons]; omega
def textOut (x : ByteArray) (T : List UInt8 × List UInt8 × Int) : ByteArray × Int × Bool × Int × Int :=
  if T.2.2 = 0 then (⟨T.1.toArray⟩, 0, true, ((x.size - T.2.1.length : Nat) : Int), 0) else (⟨#[]⟩, 0, false, 0, T.2.2)
theorem text_loop (x : ByteArray) (hx : x.size ≤ 1000) : ∀ (n k i : Nat) (acc : List UInt8), i ≤ x.size → x.size - i ≤ n → acc.length ≤ i → n < k →
    keys_text.l0 k x (nats acc) (i : Int) = some (textOut x (textF n (x.data.toList.drop i) acc)) := by
  intro n
  induction n with
  | zero =>
    intro k i acc h1 h2 h3 h4
    obtain ⟨k, rfl⟩ : ∃ m, k = m + 1 := ⟨k - 1, by omega⟩
    rw [keys_text.l0.eq_2, if_neg (by omega)]
    rfl
  | succ n ih =>
    intro k i acc h1 h2 h3 h4
    obtain ⟨k, rfl⟩ : ∃ m, k = m + 1 := ⟨k - 1, by omega⟩
    have hna : (nats acc).length = acc.length := List.length_map _
    by_cases hlt : i < x.size
    · have hi : i < x.data.toList.length := by rw [size_len]; exact hlt
      have w1 : wrap64 ((i : Int) + 1) = ((i + 1 : Nat) : Int) := by rw [wid _ (by omega) (by omega)]; omega
      rw [keys_text.l0.eq_2, if_pos (by omega), if_pos (by omega), bt_at' x i hi, w1, List.drop_eq_getElem_cons hi]
      unfold textF
      by_cases hz : x.data.toList[i] = 0
      · rw [if_pos ((u8_0 _).mpr hz), if_pos hz]
        by_cases he : i + 1 = x.size
        · rw [if_pos (by omega), List.drop_of_length_le (by rw [size_len]; omega)]
          rfl
        · have hi1 : i + 1 < x.data.toList.length := by rw [size_len]; omega
          have w2 : wrap64 (((i + 1 : Nat) : Int) + 1) = ((i + 2 : Nat) : Int) := by rw [wid _ (by omega) (by omega)]; omega
          rw [if_neg (by omega), if_pos (by omega), if_pos (by omega), bt_at' x (i + 1) hi1, List.drop_eq_getElem_cons hi1, w2]
          show _ = some (textOut x (if x.data.toList[i + 1] = 255 then textF n (x.data.toList.drop (i + 1 + 1)) (acc ++ [0]) else if x.data.toList[i + 1] = 1 then (if 20 < acc.length then ([], [], 6) else (acc, x.data.toList.drop (i + 1 + 1), 0)) else ([], [], 2)))
          by_cases h255 : x.data.toList[i + 1] = 255
          · rw [if_pos ((u8_255 _).mpr h255), if_pos h255, if_pos (by rw [hna]; omega), show nats acc ++ [0] = nats (acc ++ [0]) from (nats_app acc [0]).symm]
            exact ih k (i + 2) _ (by omega) (by omega) (by rw [List.length_append]; simp only [List.length_cons, List.length_nil]; omega) (by omega)
          · rw [if_neg (fun h => h255 ((u8_255 _).mp h)), if_neg h255]
            by_cases h01 : x.data.toList[i + 1] = 1
            · rw [if_pos ((u8_1 _).mpr h01), if_pos h01]
              by_cases h20 : 20 < acc.length
              · rw [if_pos (by rw [hna]; omega), if_pos h20]
                rfl
              · rw [if_neg (by rw [hna]; omega), if_neg h20, str_nats]
                unfold textOut
                rw [if_pos (show ((acc, x.data.toList.drop (i + 1 + 1), (0 : Int)) : List UInt8 × List UInt8 × Int).2.2 = 0 from rfl)]
                show some ((⟨acc.toArray⟩ : ByteArray), (0 : Int), true, ((i + 2 : Nat) : Int), (0 : Int)) = some ((⟨acc.toArray⟩ : ByteArray), (0 : Int), true, ((x.size - (x.data.toList.drop (i + 1 + 1)).length : Nat) : Int), (0 : Int))
                rw [List.length_drop, size_len, show x.size - (x.size - (i + 1 + 1)) = i + 2 by omega]
            · rw [if_neg (fun h => h01 ((u8_1 _).mp h)), if_neg h01]
              rfl
      · rw [if_neg (fun h => hz ((u8_0 _).mp h)), if_neg hz, if_pos (by rw [hna]; omega), show nats acc ++ [((x.data.toList[i]).toNat : Int)] = nats (acc ++ [x.data.toList[i]]) from (nats_app acc [x.data.toList[i]]).symm]
        exact ih k (i + 1) _ (by omega) (by omega) (by rw [List.length_append]; simp only [List.length_cons, List.length_nil]; omega) (by omega)
    · rw [keys_text.l0.eq_2, if_neg (by omega), List.drop_of_length_le (by rw [size_len]; omega)]
      rfl
theorem text_tells (x : ByteArray) (hx : x.size ≤ 1000) (h1 : 1 ≤ x.size) (k : Nat) (hk : 1002 ≤ k) : keys_text.f k x = some (textOut x (textF (x.size - 1) (x.data.toList.drop 1) [])) := by
  unfold keys_text.f
  exact text_loop x hx (x.size - 1) k 1 [] h1 (Nat.le_refl _) (Nat.zero_le _) (by omega)

theorem wr1 (q : Nat) (h : q ≤ 1000) : wrap64 ((q : Int) + 1) = ((q + 1 : Nat) : Int) := by rw [wid _ (by omega) (by omega)]; omega
/-- A number's value, the highest byte first. -/
def numF (x : Nat) (L : List UInt8) : Nat := L.foldl (fun x b => x * 256 + b.toNat) x
def numL (L : List UInt8) : Nat := numF 0 L
theorem numF_lt : ∀ (L : List UInt8) (x n : Nat), x < 256 ^ n → numF x L < 256 ^ (n + L.length)
  | [], x, n, h => by simpa [numF] using h
  | b :: L, x, n, h => by
    have hb := b.toNat_lt
    have h1 : x * 256 + b.toNat < 256 ^ (n + 1) := by rw [Nat.pow_succ]; omega
    have := numF_lt L (x * 256 + b.toNat) (n + 1) h1
    rw [List.length_cons, show n + (L.length + 1) = n + 1 + L.length by omega]
    exact this
theorem numL_lt (L : List UInt8) : numL L < 256 ^ L.length := by
  have h := numF_lt L 0 0 (by simp)
  rw [Nat.zero_add] at h
  exact h
theorem numL_be6 (n : Int) (h0 : 0 ≤ n) (h1 : n < 281474976710656) : (numL (be6 n) : Int) = n := by
  simp only [numL, numF, be6, List.foldl_cons, List.foldl_nil, UInt8.toNat_ofNat']; omega
theorem or_join2 (x b : Nat) (hx : x < 281474976710656) (hb : b < 256) : Go.bits .or .i64 ((x * 256 : Nat) : Int) (b : Int) = ((x * 256 + b : Nat) : Int) := by
  show IntKind.i64.wrap ((BitVec.ofInt 64 ((x * 256 : Nat) : Int) ||| BitVec.ofInt 64 (b : Int)).toNat : Int) = _
  rw [BitVec.toNat_or, ofInt_u64 _ (by omega), ofInt_u64 b (by omega), nat_join8 _ b (by omega) (by omega)]
  exact Lib.wrap_i64_small _ (by omega)
end Go.Proofs.YtcpehlllgfffkaaDoor.GT
