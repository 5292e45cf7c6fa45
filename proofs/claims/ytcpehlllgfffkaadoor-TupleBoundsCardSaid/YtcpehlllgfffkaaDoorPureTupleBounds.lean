/- TupleBounds in plain Lean: the bounds hold just the keys of the values between; what is shown is the document's; of one value the rows' numbers rise. Conditions: the numbers are int64. -/
import Derived.Test.YtcpehlllgfffkaaDoorTRefShow
import Derived.Test.YtcpehlllgfffkaaDoorGTx15
namespace Go.Proofs.YtcpehlllgfffkaaDoor.GT
open Go.RowKit Go.Proofs.YtcpehlllgfffkaaDoorW.PrintWords Go.Proofs.YtcpehlllgfffkaaDoorW.PrintLast
set_option linter.unusedVariables false
set_option linter.unusedSimpArgs false

theorem and_small (a : Int) : 0 ≤ Go.bits .and .i64 a 1023 ∧ Go.bits .and .i64 a 1023 ≤ 1023 := by
  have h1 : (BitVec.ofInt 64 a &&& BitVec.ofInt 64 1023).toNat ≤ 1023 := by
    rw [BitVec.toNat_and]
    exact Nat.and_le_right
  have h : Go.bits .and .i64 a 1023 = ((BitVec.ofInt 64 a &&& BitVec.ofInt 64 1023).toNat : Int) := by
    show IntKind.i64.wrap ((BitVec.ofInt 64 a &&& BitVec.ofInt 64 1023).toNat : Int) = _
    exact Lib.wrap_i64_small _ (by omega)
  rw [h]
  omega
theorem one_bounds (s : ByteArray) (n : Int) (t : Bool) (h1 : n ≤ 9223372036854775807) : ∃ (s' : ByteArray) (n' : Int), s'.size ≤ 50 ∧ -1125899906842624 ≤ n' ∧ n' ≤ 9223372036854775807 ∧ concordancelaw19_one.f s n t = some (s', n', t, s', n', t) := by
  have hm : mn (s.size : Int) 50 = ((min s.size 50 : Nat) : Int) := by
    unfold mn
    by_cases h : (50 : Int) < (s.size : Int)
    · rw [if_pos h]; omega
    · rw [if_neg h]; omega
  have hsz : (s.extract 0 (min s.size 50)).size ≤ 50 := by rw [ByteArray.size_extract]; omega
  unfold concordancelaw19_one.f
  rw [hm, if_pos (by omega), if_pos (by omega), Int.toNat_natCast]
  by_cases hn : n < -1125899906842624
  · rw [if_pos hn]
    exact ⟨_, _, hsz, by omega, by omega, rfl⟩
  · rw [if_neg hn]
    exact ⟨_, _, hsz, by omega, h1, rfl⟩
theorem rd_V (l : List S23) (i : Nat) (h : i < l.length) : rd_T23 l (i : Int) = l[i] := by simp [rd_T23, List.getD_eq_getElem?_getD, List.getElem?_eq_getElem h]
theorem arr_list (L : List UInt8) : (⟨L.toArray⟩ : ByteArray).toList = L := by
  rw [toListD]
theorem oneL_ok (s : ByteArray) (n : Int) (t : Bool) (h : errV s n t = 0) : oneL s n t = (⟨(bodyV s n t).toArray⟩, 0) := by unfold oneL; rw [if_pos h]
theorem oneL_no (s : ByteArray) (n : Int) (t : Bool) (h : ¬ errV s n t = 0) : oneL s n t = (⟨#[]⟩, errV s n t) := by unfold oneL; rw [if_neg h]
theorem body_cons (s : ByteArray) (n : Int) (t : Bool) : ∃ b L, bodyV s n t = b :: L ∧ b.toNat ≠ 255 := by
  unfold bodyV
  split
  · exact ⟨32, _, rfl, by decide⟩
  · exact ⟨16, _, rfl, by decide⟩
theorem entry_end (s : ByteArray) (n : Int) (t : Bool) (hs : s.size ≤ 50) (r : errV s n t = 0) (i1 i2 : Int) (k : Nat) (hk : 100 ≤ k) :
    ((tuple_Entry.f k s n t (wrap64 (1 + (Go.bits .and .i64 i2 1023)))).bind fun bt => some ((Op.bytesLess (⟨(bodyV s n t ++ be6 (1 + Go.bits .and .i64 i1 1023)).toArray⟩ : ByteArray).toList bt.1.toList) == (decide ((Go.bits .and .i64 i1 1023) < (Go.bits .and .i64 i2 1023))))) = some true := by
  obtain ⟨a0, a1⟩ := and_small i1
  obtain ⟨b0, b1⟩ := and_small i2
  generalize Go.bits .and .i64 i1 1023 = x at *
  generalize Go.bits .and .i64 i2 1023 = y at *
  have hw : wrap64 (1 + y) = 1 + y := wid _ (by omega) (by omega)
  rw [hw, entry_tells s n t (1 + y) (by omega) k (by omega), Option.bind_some]
  unfold entryL
  rw [if_pos r, if_pos (by omega)]
  show some (Op.bytesLess (⟨(bodyV s n t ++ be6 (1 + x)).toArray⟩ : ByteArray).toList (⟨(bodyV s n t ++ be6 (1 + y)).toArray⟩ : ByteArray).toList == decide (x < y)) = some true
  rw [arr_list, arr_list, less_pre, show Op.bytesLess (be6 (1 + x)) (be6 (1 + y)) = decide (1 + x < 1 + y) from Pure.less_ids (1 + x) (1 + y) (by omega) (by omega) (by omega) (by omega)]
  congr 1
  rw [beq_iff_eq, decide_eq_decide]
  omega
/-- With right bounds and a right value. -/
theorem bounds_j2 (lo hi : ByteArray) (s0 : ByteArray) (n0 : Int) (t0 : Bool) (s1 : ByteArray) (n1 : Int) (t1 : Bool) (s2 : ByteArray) (n2 : Int) (t2 : Bool) (h0 : s0.size ≤ 50) (h1 : s1.size ≤ 50) (h2 : s2.size ≤ 50) (r0 : errV s0 n0 t0 = 0) (r1 : errV s1 n1 t1 = 0) (r2 : errV s2 n2 t2 = 0)
    (H : List UInt8) (hlo : lo = ⟨(bodyV s0 n0 t0).toArray⟩) (hhi : hi = ⟨H.toArray⟩) (hB : Behind (bodyV s1 n1 t1) H) (i1 i2 : Int) (k : Nat) (hk : 2100 ≤ k) :
    concordancelaw19_TupleBounds.j2 k lo hi ⟨(bodyV s2 n2 t2 ++ be6 (1 + Go.bits .and .i64 i1 1023)).toArray⟩ false i1 i2 s0 n0 t0 s1 n1 t1 s2 n2 t2 s2 n2 t2 = some true := by
  subst hlo
  subst hhi
  obtain ⟨k, rfl⟩ : ∃ m, k = m + 1 := ⟨k - 1, by omega⟩
  obtain ⟨c, hc, hcc⟩ := cmp_tells s2 n2 t2 s0 n0 t0 (by omega) (by omega) r2 r0 k (by omega)
  obtain ⟨c', hc', hcc'⟩ := cmp_tells s2 n2 t2 s1 n1 t1 (by omega) (by omega) r2 r1 k (by omega)
  have hend := entry_end s2 n2 t2 h2 r2 i1 i2 k (by omega)
  have hlt : (Op.bytesLess (⟨(bodyV s2 n2 t2 ++ be6 (1 + Go.bits .and .i64 i1 1023)).toArray⟩ : ByteArray).toList (⟨H.toArray⟩ : ByteArray).toList != decide (c' ≤ 0)) = false := by
    rw [arr_list, arr_list]
    rcases hcc' with ⟨e, h⟩ | ⟨e, h⟩ | ⟨e, h⟩
    · rw [behind_lt hB (.inl h), decide_eq_true (by omega)]; rfl
    · rw [behind_lt hB (.inr h), decide_eq_true (by omega)]; rfl
    · rw [behind_gt hB h, decide_eq_false (by omega)]; rfl
  rw [concordancelaw19_TupleBounds.j2.eq_2, if_neg (by decide), hc, Option.bind_some]
  rcases hcc with ⟨e, h⟩ | ⟨e, h⟩ | ⟨e, h⟩
  · have hge : Op.bytesLess (⟨(bodyV s2 n2 t2 ++ be6 (1 + Go.bits .and .i64 i1 1023)).toArray⟩ : ByteArray).toList (⟨(bodyV s0 n0 t0).toArray⟩ : ByteArray).toList = false := by
      rw [arr_list, arr_list, h]
      have := less_pre (bodyV s0 n0 t0) (be6 (1 + Go.bits .and .i64 i1 1023)) []
      rw [less_nil, List.append_nil] at this
      exact this
    rw [if_pos (by omega), hc', Option.bind_some, if_neg (by rw [hge]; decide), if_neg (by rw [hlt]; decide)]
    exact hend
  · have hge : Op.bytesLess (⟨(bodyV s2 n2 t2 ++ be6 (1 + Go.bits .and .i64 i1 1023)).toArray⟩ : ByteArray).toList (⟨(bodyV s0 n0 t0).toArray⟩ : ByteArray).toList = true := by
      rw [arr_list, arr_list]
      have := less_lt2 h (be6 (1 + Go.bits .and .i64 i1 1023)) []
      rw [List.append_nil] at this
      exact this
    rw [if_neg (by omega), if_pos hge, if_neg (by decide)]
    exact hend
  · have hge : Op.bytesLess (⟨(bodyV s2 n2 t2 ++ be6 (1 + Go.bits .and .i64 i1 1023)).toArray⟩ : ByteArray).toList (⟨(bodyV s0 n0 t0).toArray⟩ : ByteArray).toList = false := by
      rw [arr_list, arr_list]
      have := less_gt2 h (be6 (1 + Go.bits .and .i64 i1 1023)) []
      rw [List.append_nil] at this
      exact this
    rw [if_pos (by omega), hc', Option.bind_some, if_neg (by rw [hge]; decide), if_neg (by rw [hlt]; decide)]
    exact hend
/-- From where both errors are known. -/
theorem bounds_j0 (lo hi : ByteArray) (e : Int) (s0 : ByteArray) (n0 : Int) (t0 : Bool) (s1 : ByteArray) (n1 : Int) (t1 : Bool) (s2 : ByteArray) (n2 : Int) (t2 : Bool) (h2 : s2.size ≤ 50) (m0 : -1125899906842624 ≤ n2) (m1 : n2 ≤ 9223372036854775807) (i1 i2 : Int) (k : Nat) (hk : 2103 ≤ k)
    (h : e = 0 → errV s2 n2 t2 = 0 → concordancelaw19_TupleBounds.j2 (k - 2) lo hi ⟨(bodyV s2 n2 t2 ++ be6 (1 + Go.bits .and .i64 i1 1023)).toArray⟩ false i1 i2 s0 n0 t0 s1 n1 t1 s2 n2 t2 s2 n2 t2 = some true) :
    concordancelaw19_TupleBounds.j0 k lo hi e e i1 i2 s0 n0 t0 s1 n1 t1 s2 n2 t2 s2 n2 t2 = some true := by
  obtain ⟨k, rfl⟩ : ∃ m, k = m + 2 := ⟨k - 2, by omega⟩
  rw [show k + 2 - 2 = k by omega] at h
  obtain ⟨hs, r, hr⟩ := refShow_tells s2 n2 t2 (by omega) (by omega) m1 (k + 1) (by omega)
  obtain ⟨a0, a1⟩ := and_small i1
  have hw : wrap64 (1 + Go.bits .and .i64 i1 1023) = 1 + Go.bits .and .i64 i1 1023 := wid _ (by omega) (by omega)
  have hno : (r.toList != r.toList) = false := by simp
  rw [concordancelaw19_TupleBounds.j0.eq_2, if_pos rfl, hs, hr, Option.bind_some, Option.bind_some, hno, concordancelaw19_TupleBounds.j1.eq_2, if_neg (by decide), hw, entry_tells s2 n2 t2 _ (by omega) k (by omega), Option.bind_some]
  have hj2 : ∀ (x : ByteArray), concordancelaw19_TupleBounds.j2 k lo hi x true i1 i2 s0 n0 t0 s1 n1 t1 s2 n2 t2 s2 n2 t2 = some true := by
    intro x
    obtain ⟨k, rfl⟩ : ∃ m, k = m + 1 := ⟨k - 1, by omega⟩
    rw [concordancelaw19_TupleBounds.j2.eq_2, if_pos rfl]
  by_cases he : e = 0
  · rw [if_pos he]
    unfold entryL
    by_cases r2 : errV s2 n2 t2 = 0
    · rw [if_pos r2, if_pos (by omega)]
      exact h he r2
    · rw [if_neg r2]
      have hb : (errV s2 n2 t2 != 0) = true := by rw [bne_iff_ne]; exact r2
      show concordancelaw19_TupleBounds.j2 k lo hi _ (errV s2 n2 t2 != 0) i1 i2 s0 n0 t0 s1 n1 t1 s2 n2 t2 s2 n2 t2 = some true
      rw [hb]
      exact hj2 _
  · rw [if_neg he]
    exact hj2 _
theorem bounds_true (l : List S23) (hl : ∀ x ∈ l, x.f1 ≤ 9223372036854775807) (i1 i2 : Int) : concordancelaw19_TupleBounds.f 5000 l i1 i2 = some true := by
  unfold concordancelaw19_TupleBounds.f
  rw [Pure.speaks_tells 5000 (by omega), Option.bind_some, if_pos (show true = true from rfl)]
  by_cases h3 : (l.length : Int) < 3
  · rw [if_pos h3]
  have g0 := rd_V l 0 (by omega)
  have g1 := rd_V l 1 (by omega)
  have g2 := rd_V l 2 (by omega)
  obtain ⟨s0, n0, z0, lo0, hi0, e0⟩ := one_bounds (l[0]'(by omega)).f0 (l[0]'(by omega)).f1 (l[0]'(by omega)).f2 (hl _ (List.getElem_mem _))
  obtain ⟨s1, n1, z1, lo1, hi1, e1⟩ := one_bounds (l[1]'(by omega)).f0 (l[1]'(by omega)).f1 (l[1]'(by omega)).f2 (hl _ (List.getElem_mem _))
  obtain ⟨s2, n2, z2, lo2, hi2, e2⟩ := one_bounds (l[2]'(by omega)).f0 (l[2]'(by omega)).f1 (l[2]'(by omega)).f2 (hl _ (List.getElem_mem _))
  rw [if_neg h3, if_pos (by omega), show rd_T23 l 0 = _ from g0, e0, Option.bind_some, if_pos (by omega), show rd_T23 l 1 = _ from g1, e1, Option.bind_some, if_pos (by omega), show rd_T23 l 2 = _ from g2, e2, Option.bind_some]
  generalize (l[0]'(by omega)).f2 = t0
  generalize (l[1]'(by omega)).f2 = t1
  generalize (l[2]'(by omega)).f2 = t2
  show ((tuple_Bounds.f 5000 s0 n0 t0 s1 n1 t1).bind fun bt351 => ((concordanceref01_One.f 5000 s0 n0 t0).bind fun bt354 => (if bt354.2 = 0 then ((concordanceref01_One.f 5000 s1 n1 t1).bind fun bt356 => (concordancelaw19_TupleBounds.j0 5000 bt351.1 bt351.2.1 bt351.2.2 bt356.2 i1 i2 s0 n0 t0 s1 n1 t1 s2 n2 t2 s2 n2 t2)) else (concordancelaw19_TupleBounds.j0 5000 bt351.1 bt351.2.1 bt351.2.2 bt354.2 i1 i2 s0 n0 t0 s1 n1 t1 s2 n2 t2 s2 n2 t2)))) = some true
  rw [refOne_tells s0 n0 t0 (by omega) 5000 (by omega), refOne_tells s1 n1 t1 (by omega) 5000 (by omega)]
  unfold tuple_Bounds.f
  rw [put_tells s0 n0 t0 (by omega) 5000 (by omega), put_tells s1 n1 t1 (by omega) 5000 (by omega), Option.bind_some, Option.bind_some]
  by_cases r0 : errV s0 n0 t0 = 0
  · rw [oneL_ok s0 n0 t0 r0]
    by_cases r1 : errV s1 n1 t1 = 0
    · obtain ⟨b, L, hbL, hb⟩ := body_cons s1 n1 t1
      have hlen := body_len s1 n1 t1
      rw [hbL, List.length_cons] at hlen
      obtain ⟨H, hA, hB⟩ := after_tells b L hb (by rw [List.length_cons]; omega) 5000 (by omega)
      rw [oneL_ok s1 n1 t1 r1, hbL]
      show (((keys_After.f 5000 ⟨(b :: L).toArray⟩).bind fun t310 => some ((⟨(bodyV s0 n0 t0).toArray⟩ : ByteArray), t310, (0 : Int))).bind fun bt351 => concordancelaw19_TupleBounds.j0 5000 bt351.1 bt351.2.1 bt351.2.2 0 i1 i2 s0 n0 t0 s1 n1 t1 s2 n2 t2 s2 n2 t2) = some true
      rw [hA, Option.bind_some, Option.bind_some]
      refine bounds_j0 _ _ 0 s0 n0 t0 s1 n1 t1 s2 n2 t2 z2 lo2 hi2 i1 i2 5000 (by omega) (fun _ r2 => ?_)
      exact bounds_j2 _ _ s0 n0 t0 s1 n1 t1 s2 n2 t2 z0 z1 z2 r0 r1 r2 H rfl rfl (by rw [hbL]; exact hB) i1 i2 _ (by omega)
    · rw [oneL_no s1 n1 t1 r1]
      show ((if errV s1 n1 t1 = 0 then _ else some ((⟨#[]⟩ : ByteArray), (⟨#[]⟩ : ByteArray), errV s1 n1 t1)).bind fun bt351 => concordancelaw19_TupleBounds.j0 5000 bt351.1 bt351.2.1 bt351.2.2 (errV s1 n1 t1) i1 i2 s0 n0 t0 s1 n1 t1 s2 n2 t2 s2 n2 t2) = some true
      rw [if_neg r1, Option.bind_some]
      exact bounds_j0 _ _ (errV s1 n1 t1) s0 n0 t0 s1 n1 t1 s2 n2 t2 z2 lo2 hi2 i1 i2 5000 (by omega) (fun h => absurd h r1)
  · rw [oneL_no s0 n0 t0 r0]
    show ((if errV s0 n0 t0 = 0 then _ else some ((⟨#[]⟩ : ByteArray), (⟨#[]⟩ : ByteArray), errV s0 n0 t0)).bind fun bt351 => (if errV s0 n0 t0 = 0 then _ else concordancelaw19_TupleBounds.j0 5000 bt351.1 bt351.2.1 bt351.2.2 (errV s0 n0 t0) i1 i2 s0 n0 t0 s1 n1 t1 s2 n2 t2 s2 n2 t2)) = some true
    rw [if_neg r0, Option.bind_some, if_neg r0]
    exact bounds_j0 _ _ (errV s0 n0 t0) s0 n0 t0 s1 n1 t1 s2 n2 t2 z2 lo2 hi2 i1 i2 5000 (by omega) (fun h => absurd h r0)
end Go.Proofs.YtcpehlllgfffkaaDoor.GT
