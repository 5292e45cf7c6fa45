/- Package sum at the log's seat: the sum of a text (by its table), its four bytes, Seal, Open and Get. Condition: the table lies as the program lays it. -/
import Derived.Test.YtegeaemkkbenfaaDoorDFuseP
import Derived.Lib.LaidTab
namespace Go.Proofs.YtegeaemkkbenfaaDoor.Ownd
open Go.RowKit Go.Proofs.YtegeaemkkbenfaaDoorW.PrintWords Go.Proofs.YtegeaemkkbenfaaDoorW.PrintLast Go.Proofs.YtegeaemkkbenfaaDoorW.PrintMore
set_option linter.unusedVariables false
set_option linter.unusedSimpArgs false
def turnsL : List Int := [0, 498536548, 997073096, 651767980, 1994146192, 1802195444, 1303535960, 1342533948, 3988292384, 4027552580, 3604390888, 3412177804, 2607071920, 2262029012, 2685067896, 3183342108]
def Tab (w : World) : Prop := Lib.TabIs Tryd.prog w "concordance/sum.turns" .u32 turnsL
theorem Tab.below {w w' : World} (h : Tab w) (hb : Below w.heap.size w w') : Tab w' := by
  have hg : Tryd.prog.globalNamed "concordance/sum.turns" = some 0 := by kernel_rfl
  unfold Tab Lib.TabIs World.var? at h ⊢
  rw [hg] at h ⊢
  simp only [Option.bind_some] at h ⊢
  have hlt : 0 < w.heap.size := by
    rcases Nat.lt_or_ge 0 w.heap.size with h' | h'
    · exact h'
    · rw [Array.getElem?_eq_none h'] at h; cases h
  rw [hb.block 0 hlt]
  exact h
theorem Tab.cell {w : World} (h : Tab w) (i : Nat) (hi : i < 16) : w.cell? ⟨0, i, none⟩ = some (.int .u32 (turnsL.getD i 0)) := Lib.TabIs.cell h (by kernel_rfl) i hi
def xor32 (a b : Int) : Int := bits .xor .u32 a b
theorem xor32_rng (a b : Int) : 0 ≤ xor32 a b ∧ xor32 a b < 4294967296 := by
  unfold xor32 bits
  dsimp only
  generalize ((BitVec.ofInt IntKind.u32.bits a ^^^ BitVec.ofInt IntKind.u32.bits b).toNat : Int) = z
  rw [show IntKind.u32.wrap z = z % 4294967296 from by simp [IntKind.wrap, IntKind.bits, IntKind.signed]]
  omega
theorem and15u (n : Int) (h0 : 0 ≤ n) (h1 : n < 4294967296) : ∃ m : Nat, m < 16 ∧ (n % 16).toNat = m ∧ bits .and .u32 n 15 = (m : Int) := by
  have h3 : (BitVec.ofInt 32 15).toNat = 2 ^ 4 - 1 := by decide
  have key : (BitVec.ofInt 32 n &&& BitVec.ofInt 32 15).toNat = (n % ((2 ^ 32 : Nat) : Int)).toNat % 2 ^ 4 := by
    rw [BitVec.toNat_and, BitVec.toNat_ofInt, h3, Nat.and_two_pow_sub_one_eq_mod]
  refine ⟨(n % 16).toNat, by omega, rfl, ?_⟩
  show IntKind.u32.wrap ((BitVec.ofInt 32 n &&& BitVec.ofInt 32 15).toNat : Nat) = _
  rw [key, show ∀ z, IntKind.u32.wrap z = z % 4294967296 from fun z => by simp [IntKind.wrap, IntKind.bits, IntKind.signed]]
  omega
def half32 (r : Int) : Int := xor32 (r / 16) ((turnsL[(r % 16).toNat]?).getD 0)
def crcB (r : Int) (b : UInt8) : Int := half32 (half32 (xor32 r b.toNat))
def crcL (l : List UInt8) : Int := l.foldl crcB 4294967295
theorem crc_take {s : ByteArray} {k : Nat} (h : k < s.size) : crcL (s.data.toList.take (k + 1)) = crcB (crcL (s.data.toList.take k)) s[k] := by
  have h' : k < s.data.toList.length := by simpa using h
  unfold crcL
  rw [List.take_succ_eq_append_getElem h', List.foldl_append]
  rfl
def crc (s : ByteArray) : Int := xor32 4294967295 (crcL s.data.toList)
set_option maxHeartbeats 4000000 in
set_option maxRecDepth 100000 in
theorem sum_calls {W : World} (s : ByteArray) (hs : s.size ≤ 1000000) (hT : Tab W) : Calls Tryd.prog 64 #[.string s] W fun ex W' => ex = .returned (.int .u32 (crc s)) ∧ W' = W := by
  have HT := Aside0.mk hT
  clear hT
  go_enter Tryd.func64, Tryd.ntmps64
  go_wp2
  go_loopg [3, 7] s.size (fun gg s3 s7 wr => ∃ k : Nat, k ≤ s.size ∧ s.size - k ≤ gg ∧ s3 = .int .u32 (crcL (s.data.toList.take k)) ∧ s7 = .int .i64 k ∧ wr = W)
  case atStart => exact ⟨0, Nat.zero_le _, Nat.le_refl _, rfl, rfl, rfl⟩
  case round =>
    obtain ⟨k, hk, hg, rfl, rfl, rfl⟩ := hrel
    by_cases hlt : k < s.size
    · have d1 := fdlt hlt
      have hw := fwr hlt hs
      have hi1 := fltI hlt
      have hi0 := fgeI k
      have hb := crc_take hlt
      go_upto_region 6 with fail
      obtain ⟨r0, hr0⟩ : ∃ r, bits .xor .u32 (crcL (s.data.toList.take k)) ((s[k].toNat : Int) % 4294967296) = r := ⟨_, rfl⟩
      have HC0 := Aside0.mk hr0
      rw [hr0]
      have hr1 : 0 ≤ r0 ∧ r0 < 4294967296 := by rw [← hr0]; exact xor32_rng _ _
      clear hr0
      obtain ⟨m0, hm0, he0, ha0⟩ := and15u r0 hr1.1 hr1.2
      have t0 := HT.out.cell m0 hm0
      have hm1 : (m0 : Int) < 16 := by omega
      have hm2 := fgeI m0
      go_upto_region 7 with fail
      have HC1 : Aside0 (half32 r0 = bits .xor .u32 (r0 / 16) ((turnsL[m0]?).getD 0)) := ⟨by unfold half32 xor32; rw [he0]⟩
      obtain ⟨r2, hr2⟩ : ∃ r, bits .xor .u32 (r0 / 16) ((turnsL[m0]?).getD 0) = r := ⟨_, rfl⟩
      rw [hr2] at HC1 ⊢
      have hr3 : 0 ≤ r2 ∧ r2 < 4294967296 := by rw [← hr2]; exact xor32_rng _ _
      clear hr2 t0 hm1 hm2 ha0
      obtain ⟨m2, hm2, he2, ha2⟩ := and15u r2 hr3.1 hr3.2
      have t2 := HT.out.cell m2 hm2
      have hm3 : (m2 : Int) < 16 := by omega
      have hm4 := fgeI m2
      go_wp2_with fail
      go_roundg (s.size - (k + 1))
      case measure => exact fmeas hlt hg
      case rel =>
        refine ⟨k + 1, hlt, Nat.le_refl _, ?_, by first | rfl | rw [hw], rfl⟩
        rw [hb]
        unfold crcB
        have hmod : ((s[k].toNat : Int) % 4294967296) = (s[k].toNat : Int) := by have := s[k].toNat_lt; omega
        rw [hmod] at HC0
        rw [show xor32 (crcL (s.data.toList.take k)) (s[k].toNat : Int) = r0 from HC0.out, HC1.out]
        unfold half32 xor32
        rw [he2]
    · obtain rfl : k = s.size := Nat.le_antisymm hk (Nat.not_lt.mp hlt)
      have d1 := fdno hlt
      have hx : s.data.toList.take s.size = s.data.toList := List.take_of_length_le (by simp)
      rw [hx]
      go_wp2
      go_ret
      exact ⟨rfl, rfl⟩
/-! Numbers of bytes. -/
def getL (l : List UInt8) : Nat := l.foldl (fun n b => n * 256 + b.toNat) 0
def getN (s : ByteArray) : Int := getL s.data.toList
theorem getL_snoc (l : List UInt8) (b : UInt8) : getL (l ++ [b]) = getL l * 256 + b.toNat := by
  unfold getL
  rw [List.foldl_append]
  rfl
theorem getL_lt (l : List UInt8) : getL l < 256 ^ l.length := by
  rw [show l = l.reverse.reverse from (List.reverse_reverse l).symm]
  generalize l.reverse = r
  induction r with
  | nil => decide
  | cons b r ih =>
    rw [List.reverse_cons, getL_snoc, List.length_append, List.length_singleton, Nat.pow_succ]
    have := b.toNat_lt
    omega
theorem getL_take {s : ByteArray} {k : Nat} (h : k < s.size) : getL (s.data.toList.take (k + 1)) = getL (s.data.toList.take k) * 256 + s[k].toNat := by
  have h' : k < s.data.toList.length := by simpa using h
  rw [List.take_succ_eq_append_getElem h', getL_snoc]
  rfl
theorem getL_small {s : ByteArray} {k : Nat} (hs : s.size ≤ 6) (h : k ≤ s.size) : getL (s.data.toList.take k) < 281474976710656 := by
  refine Nat.lt_of_lt_of_le (getL_lt _) ?_
  refine Nat.le_trans (Nat.pow_le_pow_right (by decide) (show _ ≤ 6 from ?_)) (by decide)
  rw [List.length_take]
  omega
theorem ofInt_u64' (n : Int) (h0 : 0 ≤ n) (h1 : n < 18446744073709551616) : (BitVec.ofInt 64 n).toNat = n.toNat := by
  rw [BitVec.toNat_ofInt]
  omega
theorem nat_join (a b : Nat) (hb : b < 256) : a * 256 ||| b = a * 256 + b := by
  have := Nat.shiftLeft_add_eq_or_of_lt (i := 8) (b := b) hb a
  rw [Nat.shiftLeft_eq] at this
  exact this.symm
theorem or_join (a b : Nat) (ha : a < 281474976710656) (hb : b < 256) : bits .or .i64 ((a : Int) * 256) (b : Int) = ((a * 256 + b : Nat) : Int) := by
  show IntKind.i64.wrap ((BitVec.ofInt 64 ((a : Int) * 256) ||| BitVec.ofInt 64 (b : Int)).toNat : Int) = _
  rw [BitVec.toNat_or, ofInt_u64' _ (by omega) (by omega), ofInt_u64' b (by omega) (by omega)]
  rw [show ((a : Int) * 256).toNat = a * 256 by omega, show ((b : Nat) : Int).toNat = b by omega, nat_join a b hb, IntKind.wrap_i64]
  omega
set_option maxHeartbeats 4000000 in
set_option maxRecDepth 100000 in
theorem get_calls {W : World} (s : ByteArray) (hs : s.size ≤ 6) : Calls Tryd.prog 48 #[.string s] W fun ex W' => ex = .returned (.int .i64 (getN s)) ∧ W' = W := by
  have hs7 : ¬ ((7 : Int) < (s.size : Int)) := by omega
  go_enter Tryd.func48, Tryd.ntmps48
  go_wp2
  go_loopg [3, 10] s.size (fun gg s3 s7 wr => ∃ k : Nat, k ≤ s.size ∧ s.size - k ≤ gg ∧ s3 = .int .i64 (getL (s.data.toList.take k) : Nat) ∧ s7 = .int .i64 k ∧ wr = W)
  case atStart => exact ⟨0, Nat.zero_le _, Nat.le_refl _, rfl, rfl, rfl⟩
  case round =>
    obtain ⟨k, hk, hg, rfl, rfl, rfl⟩ := hrel
    by_cases hlt : k < s.size
    · have d1 := fdlt hlt
      have hw := fwr hlt (Nat.le_trans hs (by decide))
      have hi1 := fltI hlt
      have hi0 := fgeI k
      have hb := Aside0.mk (getL_take hlt)
      have hsm := getL_small hs hk
      generalize getL (s.data.toList.take k) = n at hb hsm ⊢
      have hoj : bits .or .i64 ((n : Int) * 256) (wrap64 (s[k].toNat : Int)) = ((n * 256 + s[k].toNat : Nat) : Int) := by rw [show wrap64 (s[k].toNat : Int) = (s[k].toNat : Int) from by have := s[k].toNat_lt; unfold wrap64; omega]; exact or_join n s[k].toNat hsm (s[k].toNat_lt)
      have HJ := Aside0.mk hoj
      clear hoj
      have hwn : wrap64 ((n : Int) * 256) = (n : Int) * 256 := by unfold wrap64; omega
      go_wp2_with fail
      go_roundg (s.size - (k + 1))
      case measure => exact fmeas hlt hg
      case rel => exact ⟨k + 1, hlt, Nat.le_refl _, by rw [hb.out, HJ.out], by first | rfl | rw [hw], rfl⟩
    · obtain rfl : k = s.size := Nat.le_antisymm hk (Nat.not_lt.mp hlt)
      have d1 := fdno hlt
      have hx : s.data.toList.take s.size = s.data.toList := List.take_of_length_le (by simp)
      rw [hx]
      go_wp2
      go_ret
      exact ⟨rfl, rfl⟩
/-! The four bytes of a sum. -/
theorem text4 (x0 x1 x2 x3 : Int) (W : World) : (convert 32 9 (.slice (some ⟨W.heap.size, 0, none⟩) 4 4)).run Tryd.prog (W.alloc (.cells #[.int .u8 x0, .int .u8 x1, .int .u8 x2, .int .u8 x3] 5)) = .ok (.string (strOfNums [x0, x1, x2, x3])) (W.alloc (.cells #[.int .u8 x0, .int .u8 x1, .int .u8 x2, .int .u8 x3] 5)) :=
  run_convert_bytes_arg (P := Tryd.prog) _ 32 5 Tryd.underlying32 Tryd.underlying5 W.heap.size 0 4 4 [x0, x1, x2, x3] rfl (fun i hi => by
    have hb := blk_cell (blk_new W (.cells #[.int .u8 x0, .int .u8 x1, .int .u8 x2, .int .u8 x3] 5)) (0 + i)
    rw [hb]
    match i, hi with
    | 0, _ => rfl
    | 1, _ => rfl
    | 2, _ => rfl
    | 3, _ => rfl) 9 Tryd.underlying9
def markL (n : Int) : List Int := [n % 256, n / 256 % 256, n / 65536 % 256, n / 16777216 % 256]
def mark (s : ByteArray) : ByteArray := strOfNums (markL (crc s))
def sealB (s : ByteArray) : ByteArray := s ++ mark s
set_option maxHeartbeats 4000000 in
set_option maxRecDepth 100000 in
theorem mark_calls {W : World} (s : ByteArray) (hs : s.size ≤ 1000000) (hT : Tab W) : Calls Tryd.prog 58 #[.string s] W fun ex W' => ex = .returned (.string (mark s)) ∧ Below W.heap.size W W' := by
  have HS := Aside0.mk (sum_calls s hs hT)
  unfold mark
  generalize crc s = n at HS ⊢
  clear hT
  have hcv := text4 (n % 256) (n / 256 % 256) (n / 65536 % 256) (n / 16777216 % 256) W
  go_enter Tryd.func58, Tryd.ntmps58
  go_wp2_with (go_at_call 64; refine HS.out.mono ?_; rintro e w1 ⟨rfl, h1⟩; rw [h1]; clear h1)
  go_ret
  exact ⟨rfl, below_alloc (Below.refl _ _) _⟩
end Go.Proofs.YtegeaemkkbenfaaDoor.Ownd
