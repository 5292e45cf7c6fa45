/- Sealed bytes: Seal, Open, a log's master and pieces, and what reads them. Condition: the table lies as the program lays it. -/
import Derived.Test.YtegeaemkkbenfaaDoorWSum
import Derived.Test.YtegeaemkkbenfaaDoorHSumPut
namespace Go.Proofs.YtegeaemkkbenfaaDoor.Ownd
open Go.RowKit Go.Proofs.YtegeaemkkbenfaaDoorW.PrintWords Go.Proofs.YtegeaemkkbenfaaDoorW.PrintLast Go.Proofs.YtegeaemkkbenfaaDoorW.PrintMore
set_option linter.unusedVariables false
set_option linter.unusedSimpArgs false
variable {W : World}
/-! Numbers as bytes. -/
def put6 (n : Int) : ByteArray := strOfNums [n / 1099511627776, n / 4294967296 % 256, n / 16777216 % 256, n / 65536 % 256, n / 256 % 256, n % 256]
def put2 (n : Int) : ByteArray := strOfNums [n / 256, n % 256]
def put1 (n : Int) : ByteArray := strOfNums [n]
theorem put6_size (n : Int) : (put6 n).size = 6 := rfl
theorem put2_size (n : Int) : (put2 n).size = 2 := rfl
theorem put1_size (n : Int) : (put1 n).size = 1 := rfl
theorem byte_of {n : Int} (h0 : 0 ≤ n) (h1 : n < 256) : ((UInt8.ofNat n.toNat).toNat : Int) = n := by
  rw [UInt8.toNat_ofNat']
  omega
theorem get_put6 (n : Int) (h0 : 0 ≤ n) (h1 : n < 281474976710656) : getN (put6 n) = n := by
  unfold getN put6 strOfNums getL
  simp only [List.map_cons, List.map_nil, List.foldl_cons, List.foldl_nil]
  have a0 := byte_of (n := n / 1099511627776) (by omega) (by omega)
  have a1 := byte_of (n := n / 4294967296 % 256) (by omega) (by omega)
  have a2 := byte_of (n := n / 16777216 % 256) (by omega) (by omega)
  have a3 := byte_of (n := n / 65536 % 256) (by omega) (by omega)
  have a4 := byte_of (n := n / 256 % 256) (by omega) (by omega)
  have a5 := byte_of (n := n % 256) (by omega) (by omega)
  omega
theorem get_put2 (n : Int) (h0 : 0 ≤ n) (h1 : n < 65536) : getN (put2 n) = n := by
  unfold getN put2 strOfNums getL
  simp only [List.map_cons, List.map_nil, List.foldl_cons, List.foldl_nil]
  have a4 := byte_of (n := n / 256) (by omega) (by omega)
  have a5 := byte_of (n := n % 256) (by omega) (by omega)
  omega
theorem put6_calls (n : Int) (h0 : 0 ≤ n) (h1 : n < 281474976710656) (w : World) : Calls Tryd.prog 35 #[.int .i64 n, .int .i64 6] w fun e w' => e = .returned (.string (put6 n)) ∧ Below w.heap.size w w' := GW.put_six n h0 h1 w
theorem put2_calls (n : Int) (h0 : 0 ≤ n) (h1 : n < 65536) (w : World) : Calls Tryd.prog 35 #[.int .i64 n, .int .i64 2] w fun e w' => e = .returned (.string (put2 n)) ∧ Below w.heap.size w w' := GW.put_two n h0 h1 w
theorem put1_calls (n : Int) (h0 : 0 ≤ n) (h1 : n < 256) (w : World) : Calls Tryd.prog 35 #[.int .i64 n, .int .i64 1] w fun e w' => e = .returned (.string (put1 n)) ∧ Below w.heap.size w w' := GW.put_one n h0 h1 w
/-! Seal and Open. -/
theorem mark_size (s : ByteArray) : (mark s).size = 4 := rfl
theorem sealB_size (s : ByteArray) : (sealB s).size = s.size + 4 := by
  unfold sealB
  rw [ByteArray.size_append, mark_size]
theorem b_ext {a b : ByteArray} (h : a.data.toList = b.data.toList) : a = b := by
  cases a; cases b; simpa using h
theorem b_len (s : ByteArray) : s.data.toList.length = s.size := by simp
theorem b_extract (s : ByteArray) (a b : Nat) : (s.extract a b).data.toList = (s.data.toList.drop a).take (b - a) := by
  rw [ByteArray.data_extract]
  simp [Array.toList_extract, List.extract]
theorem b_append (a b : ByteArray) : (a ++ b).data.toList = a.data.toList ++ b.data.toList := by
  rw [ByteArray.data_append, Array.toList_append]
theorem ext_left (a b : ByteArray) : (a ++ b).extract 0 a.size = a := by
  apply b_ext
  rw [b_extract, b_append, List.drop_zero, Nat.sub_zero, ← b_len, List.take_left]
theorem ext_right (a b : ByteArray) : (a ++ b).extract a.size (a ++ b).size = b := by
  apply b_ext
  rw [b_extract, b_append, ← b_len a, List.drop_left, ByteArray.size_append, ← b_len a, ← b_len b, show ∀ x y : Nat, x + y - x = y from fun x y => by omega, List.take_length]
theorem ext_mid (a b c : ByteArray) : (a ++ (b ++ c)).extract a.size (a.size + b.size) = b := by
  apply b_ext
  rw [b_extract, b_append, b_append, ← b_len a, List.drop_left, show ∀ x y : Nat, x + y - x = y from fun x y => by omega, ← b_len b, List.take_left]
set_option maxHeartbeats 4000000 in
set_option maxRecDepth 100000 in
theorem seal_calls (s : ByteArray) (hs : s.size ≤ 1000000) (hT : Tab W) : Calls Tryd.prog 52 #[.string s] W fun ex W' => ex = .returned (.string (sealB s)) ∧ Below W.heap.size W W' := by
  have HC := Aside0.mk (mark_calls s hs hT)
  have hm := mark_size s
  have hl : s.size + 4 < 4611686018427387904 := by omega
  unfold sealB
  clear hT
  generalize mark s = m at HC hm ⊢
  go_enter Tryd.func52, Tryd.ntmps52
  go_wp2_with (go_at_call 58; refine HC.out.mono ?_; rintro e w1 ⟨rfl, h1⟩; have H1 := Aside0.mk h1; clear h1)
  go_ret
  exact ⟨rfl, H1.out⟩
theorem toList_data (s : ByteArray) : s.toList = s.data.toList := by first | rfl | exact ByteArray.toList_eq s
theorem ne_toList {a b : ByteArray} (h : a ≠ b) : (a.toList == b.toList) = false := by
  rw [beq_eq_false_iff_ne]
  intro e
  exact h (b_ext (by rw [← toList_data a, ← toList_data b, e]))
set_option maxHeartbeats 4000000 in
set_option maxRecDepth 100000 in
theorem open_ok (s : ByteArray) (n : Nat) (hs : s.size ≤ 1000000) (hn : s.size = n + 4) (hT : Tab W) (he : s.extract n (n + 4) = mark (s.extract 0 n)) : Calls Tryd.prog 47 #[.string s] W fun ex W' => ex = .returned (.tuple #[.string (s.extract 0 n), .int .i64 0]) ∧ Below W.heap.size W W' := by
  have hz : (s.extract 0 n).size = n := by rw [ByteArray.size_extract]; omega
  have HC := Aside0.mk (fun W' h => mark_calls (W := W') (s.extract 0 n) (by rw [hz]; omega) h)
  have hi4 : ¬ ((s.size : Int) < 4) := by omega
  have hw : wrap64 ((s.size : Int) - 4) = (n : Int) := by unfold wrap64; omega
  have hw2 : IntKind.i64.wrap ((s.size : Int) - 4) = (n : Int) := by rw [IntKind.wrap_i64]; omega
  have hn1 : (n : Int) ≤ (s.size : Int) := by omega
  have hn0 := fgeI n
  have hx1 : (n : Int) ≤ (n : Int) + 4 := by omega
  have HT := Aside0.mk hT
  clear hT
  rw [← he] at HC
  clear he
  go_enter Tryd.func47, Tryd.ntmps47
  go_upto_region 4 with fail
  go_region_with (go_at_call 58; refine (HC.out _ (HT.out.below (below_drew (Below.refl _ _)))).mono ?_; rintro e w1 ⟨rfl, h1⟩; have H1 := Aside0.mk h1; clear h1)
  all_goals (go_wp2_with fail; go_ret2; exact ⟨rfl, (below_drew (Below.refl _ _)).trans H1.out⟩)
set_option maxHeartbeats 4000000 in
set_option maxRecDepth 100000 in
theorem open_bad (s : ByteArray) (n : Nat) (hs : s.size ≤ 1000000) (hn : s.size = n + 4) (hT : Tab W) (he : s.extract n (n + 4) ≠ mark (s.extract 0 n)) : Calls Tryd.prog 47 #[.string s] W fun ex W' => ex = .returned (.tuple #[.string ⟨#[]⟩, .int .i64 5]) ∧ Below W.heap.size W W' := by
  have hz : (s.extract 0 n).size = n := by rw [ByteArray.size_extract]; omega
  have HC := Aside0.mk (fun W' h => mark_calls (W := W') (s.extract 0 n) (by rw [hz]; omega) h)
  have hi4 : ¬ ((s.size : Int) < 4) := by omega
  have hw : wrap64 ((s.size : Int) - 4) = (n : Int) := by unfold wrap64; omega
  have hw2 : IntKind.i64.wrap ((s.size : Int) - 4) = (n : Int) := by rw [IntKind.wrap_i64]; omega
  have hn1 : (n : Int) ≤ (s.size : Int) := by omega
  have hn0 := fgeI n
  have hx1 : (n : Int) ≤ (n : Int) + 4 := by omega
  have HT := Aside0.mk hT
  clear hT
  generalize mark (s.extract 0 n) = m at HC he
  have hne := ne_toList he
  go_enter Tryd.func47, Tryd.ntmps47
  go_upto_region 4 with fail
  go_region_with (go_at_call 58; refine (HC.out _ (HT.out.below (below_drew (Below.refl _ _)))).mono ?_; rintro e w1 ⟨rfl, h1⟩; have H1 := Aside0.mk h1; clear h1)
  all_goals (go_wp2_with fail; go_ret2; exact ⟨rfl, (below_drew (Below.refl _ _)).trans H1.out⟩)
/-! A log's master and pieces. -/
def masterB (e h : Int) : ByteArray := sealB ((⟨#[67, 77]⟩ ++ put6 e) ++ put1 h)
def pieceB (e i : Int) (s : ByteArray) : ByteArray := sealB ((((put6 e ++ put2 i) ++ put2 s.size) ++ s) ++ Bld.zs (242 - s.size))
theorem body9 (e h : Int) : (((⟨#[67, 77]⟩ : ByteArray) ++ put6 e) ++ put1 h).size = 9 := by
  rw [ByteArray.size_append, ByteArray.size_append, put6_size, put1_size]; rfl
theorem masterB_size (e h : Int) : (masterB e h).size = 13 := by unfold masterB; rw [sealB_size, body9]
theorem body252 (e i : Int) {s : ByteArray} (hs : s.size ≤ 242) : ((((put6 e ++ put2 i) ++ put2 s.size) ++ s) ++ Bld.zs (242 - s.size)).size = 252 := by
  simp only [ByteArray.size_append, put6_size, put2_size, Bld.zs_size]
  omega
theorem pieceB_size (e i : Int) {s : ByteArray} (hs : s.size ≤ 242) : (pieceB e i s).size = 256 := by
  unfold pieceB
  rw [sealB_size, body252 e i hs]
set_option maxHeartbeats 4000000 in
set_option maxRecDepth 100000 in
theorem master_calls (e h : Int) (h0 : 0 ≤ e) (h1 : e < 281474976710656) (g0 : 0 ≤ h) (g1 : h < 256) (hT : Tab W) : Calls Tryd.prog 38 #[.int .i64 e, .int .i64 h] W fun ex W' => ex = .returned (.string (masterB e h)) ∧ Below W.heap.size W W' := by
  have HP6 := Aside0.mk (fun w => put6_calls e h0 h1 w)
  have HP1 := Aside0.mk (fun w => put1_calls h g0 g1 w)
  have HSL := Aside0.mk (fun W' hT' => seal_calls (W := W') ((⟨#[67, 77]⟩ ++ put6 e) ++ put1 h) (by rw [body9]; decide) hT')
  have s6 := put6_size e
  have s1 := put1_size h
  have HT := Aside0.mk hT
  unfold masterB
  clear hT h0 h1 g0 g1
  generalize put6 e = p6 at HP6 HSL s6 ⊢
  generalize put1 h = p1 at HP1 HSL s1 ⊢
  have sz1 : (⟨#[67, 77]⟩ ++ p6 : ByteArray).size = 8 := by rw [ByteArray.size_append, s6]; rfl
  have l1 : (⟨#[67, 77]⟩ : ByteArray).size + p6.size < 4611686018427387904 := by rw [s6]; decide
  have l2 : (⟨#[67, 77]⟩ ++ p6 : ByteArray).size + p1.size < 4611686018427387904 := by rw [sz1, s1]; decide
  go_enter Tryd.func38, Tryd.ntmps38
  go_wp2_with (first
    | (go_at_call 35; refine (HP6.out _).mono ?_; rintro e w1 ⟨rfl, h1⟩; have H1 := Aside0.mk h1; clear h1 HP6)
    | (go_at_call 35; refine (HP1.out _).mono ?_; rintro e w2 ⟨rfl, h2⟩; have H2 := Aside0.mk (H1.out.trans (h2.mono H1.out.size)); clear h2 H1 HP1)
    | (go_at_call 52; refine (HSL.out _ (HT.out.below H2.out)).mono ?_; rintro e w3 ⟨rfl, h3⟩; have H3 := Aside0.mk (H2.out.trans (h3.mono H2.out.size)); clear h3 H2 HSL))
  go_ret
  exact ⟨rfl, H3.out⟩
set_option maxHeartbeats 4000000 in
set_option maxRecDepth 100000 in
theorem piece_calls (e i : Int) (s : ByteArray) (h0 : 0 ≤ e) (h1 : e < 281474976710656) (g0 : 0 ≤ i) (g1 : i < 65536) (hs : s.size ≤ 242) (hT : Tab W) : Calls Tryd.prog 50 #[.int .i64 e, .int .i64 i, .string s] W fun ex W' => ex = .returned (.string (pieceB e i s)) ∧ Below W.heap.size W W' := by
  have HP6 := Aside0.mk (fun w => put6_calls e h0 h1 w)
  have HPI := Aside0.mk (fun w => put2_calls i g0 g1 w)
  have HPL := Aside0.mk (fun w => put2_calls (s.size : Int) (by omega) (by omega) w)
  have HRP : Aside0 (∀ w, Calls Tryd.prog 46 #[.string ⟨#[0]⟩, .int .i64 (242 - (s.size : Int))] w fun e w' => e = .returned (.string (Bld.zs (242 - s.size))) ∧ Below w.heap.size w w') := ⟨fun w => by
    have h := Bld.rep_calls (242 - s.size) (by omega) w
    rwa [show ((242 - s.size : Nat) : Int) = 242 - (s.size : Int) by omega] at h⟩
  have HSL := Aside0.mk (fun W' hT' => seal_calls (W := W') ((((put6 e ++ put2 i) ++ put2 s.size) ++ s) ++ Bld.zs (242 - s.size)) (by rw [body252 e i hs]; decide) hT')
  have s6 := put6_size e
  have si := put2_size i
  have sl := put2_size (s.size : Int)
  have sz := Bld.zs_size (242 - s.size)
  have HT := Aside0.mk hT
  unfold pieceB
  clear hT h0 h1 g0 g1
  generalize put6 e = p6 at HP6 HSL s6 ⊢
  generalize put2 i = pi at HPI HSL si ⊢
  generalize put2 (s.size : Int) = pl at HPL HSL sl ⊢
  generalize Bld.zs (242 - s.size) = z at HRP HSL sz ⊢
  have hw : wrap64 (242 - (s.size : Int)) = 242 - (s.size : Int) := by unfold wrap64; omega
  obtain ⟨q, hq2, sz⟩ : ∃ q, q ≤ 242 ∧ z.size = q := ⟨_, by omega, sz⟩
  have z1 : (p6 ++ pi).size = 8 := by rw [ByteArray.size_append, s6, si]
  have z2 : (p6 ++ pi ++ pl).size = 10 := by rw [ByteArray.size_append, z1, sl]
  have z3 : (p6 ++ pi ++ pl ++ s).size = 10 + s.size := by rw [ByteArray.size_append, z2]
  have l1 : p6.size + pi.size < 4611686018427387904 := by omega
  have l2 : (p6 ++ pi).size + pl.size < 4611686018427387904 := by omega
  have l3 : (p6 ++ pi ++ pl).size + s.size < 4611686018427387904 := by omega
  have l4 : (p6 ++ pi ++ pl ++ s).size + z.size < 4611686018427387904 := by omega
  go_enter Tryd.func50, Tryd.ntmps50
  go_wp2_with (first
    | (go_at_call 35; refine (HP6.out _).mono ?_; rintro e w1 ⟨rfl, h1⟩; have H1 := Aside0.mk h1; clear h1 HP6)
    | (go_at_call 35; refine (HPI.out _).mono ?_; rintro e w2 ⟨rfl, h2⟩; have H2 := Aside0.mk (H1.out.trans (h2.mono H1.out.size)); clear h2 H1 HPI)
    | (go_at_call 35; refine (HPL.out _).mono ?_; rintro e w3 ⟨rfl, h3⟩; have H3 := Aside0.mk (H2.out.trans (h3.mono H2.out.size)); clear h3 H2 HPL)
    | (go_at_call 46; refine (HRP.out _).mono ?_; rintro e w4 ⟨rfl, h4⟩; have H4 := Aside0.mk (H3.out.trans (h4.mono H3.out.size)); clear h4 H3 HRP)
    | (go_at_call 52; refine (HSL.out _ (HT.out.below H4.out)).mono ?_; rintro e w5 ⟨rfl, h5⟩; have H5 := Aside0.mk (H4.out.trans (h5.mono H4.out.size)); clear h5 H4 HSL))
  go_ret
  exact ⟨rfl, H5.out⟩
end Go.Proofs.YtegeaemkkbenfaaDoor.Ownd
