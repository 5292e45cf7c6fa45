/- A log in memory beside its device: ready, failed, Room, Append. Condition: the table lies as the program lays it. -/
import Derived.Test.YtegeaemkkbenfaaDoorWFind
namespace Go.Proofs.YtegeaemkkbenfaaDoor.Ownd
open Go.RowKit Go.Proofs.YtegeaemkkbenfaaDoorW.PrintWords Go.Proofs.YtegeaemkkbenfaaDoorW.PrintLast Go.Proofs.YtegeaemkkbenfaaDoorW.PrintMore
set_option linter.unusedVariables false
set_option linter.unusedSimpArgs false
/-- A log, plainly. -/
structure LG where
  at_ : Int
  half : Nat
  epoch : Int
  which : Int
  greatest : Int
  bytes : ByteArray
  lasting : Int
  last : Int
  flushed : Int
  awaits : Bool
  off : Bool
def LT (g d : Nat) (L : LG) : Thing := .box g (.cells #[.pointer (some ⟨d, 0, none⟩), .int .i64 L.at_, .int .i64 L.half, .int .i64 L.epoch, .int .i64 L.which, .int .i64 L.greatest, .string L.bytes, .int .i64 L.lasting, .int .i64 L.last, .int .i64 L.flushed, .bool L.awaits, .bool L.off] 67 (0, 0))
variable {w W : World} {l1 l2 : List (Nat × Dev)} {rest : List Thing} {g d : Nat} {T : TD} {L : LG}
def readyE (L : LG) (T : TD) (app : Bool) : Int := if L.off = true ∨ T.off = true then 7 else if app = true ∧ L.awaits = true then 17 else 0
set_option maxHeartbeats 4000000 in
set_option maxRecDepth 100000 in
theorem ready_calls (h : HL w W (l1 ++ (d, T.dev) :: l2) (LT g d L :: rest)) (app : Bool) : Calls Tryd.prog 34 #[.pointer (some ⟨g, 0, none⟩), .bool app] W fun ex W' => ex = .returned (.int .i64 (readyE L T app)) ∧ W' = W := by
  have c0 : W.cell? ⟨g, 0, none⟩ = some (.pointer (some ⟨d, 0, none⟩)) := h.cell 0 rfl 0
  have c10 : W.cell? ⟨g, 10, none⟩ = some (.bool L.awaits) := h.cell 0 rfl 10
  have c11 : W.cell? ⟨g, 11, none⟩ = some (.bool L.off) := h.cell 0 rfl 11
  have HOF : Aside0 (Calls Tryd.prog 24 #[.pointer (some ⟨d, 0, none⟩)] W fun ex W' => ex = .returned (.bool T.off) ∧ W' = W) := ⟨off_HL h⟩
  unfold readyE
  clear h
  generalize L.off = lo at c11 ⊢
  generalize L.awaits = la at c10 ⊢
  generalize T.off = tf at HOF ⊢
  cases lo with
  | true =>
    rw [if_pos (Or.inl rfl)]
    go_enter Tryd.func34, Tryd.ntmps34
    go_wp2_with fail
    go_ret
    exact ⟨rfl, rfl⟩
  | false =>
    cases tf with
    | true =>
      rw [if_pos (Or.inr rfl)]
      go_enter Tryd.func34, Tryd.ntmps34
      go_wp2_with (go_at_call 24; refine HOF.out.mono ?_; rintro e w1 ⟨rfl, h1⟩; rw [h1]; clear h1)
      go_ret
      exact ⟨rfl, rfl⟩
    | false =>
      rw [if_neg (by simp)]
      cases app with
      | true =>
        cases la with
        | true =>
          rw [if_pos ⟨rfl, rfl⟩]
          go_enter Tryd.func34, Tryd.ntmps34
          go_wp2_with (go_at_call 24; refine HOF.out.mono ?_; rintro e w1 ⟨rfl, h1⟩; rw [h1]; clear h1)
          go_ret
          exact ⟨rfl, rfl⟩
        | false =>
          rw [if_neg (by simp)]
          go_enter Tryd.func34, Tryd.ntmps34
          go_wp2_with (go_at_call 24; refine HOF.out.mono ?_; rintro e w1 ⟨rfl, h1⟩; rw [h1]; clear h1)
          go_ret
          exact ⟨rfl, rfl⟩
      | false =>
        rw [if_neg (by simp)]
        go_enter Tryd.func34, Tryd.ntmps34
        go_wp2_with (go_at_call 24; refine HOF.out.mono ?_; rintro e w1 ⟨rfl, h1⟩; rw [h1]; clear h1)
        go_ret
        exact ⟨rfl, rfl⟩
set_option maxHeartbeats 4000000 in
set_option maxRecDepth 100000 in
theorem ready_nil (app : Bool) : Calls Tryd.prog 34 #[.pointer none, .bool app] W fun ex W' => ex = .returned (.int .i64 1) ∧ W' = W := by
  go_enter Tryd.func34, Tryd.ntmps34
  go_wp2_with fail
  go_ret
  exact ⟨rfl, rfl⟩
def LG.failed (L : LG) (e : Int) : LG := { L with off := L.off || e != 0 }
set_option maxHeartbeats 4000000 in
set_option maxRecDepth 100000 in
theorem failed_calls {ds : List (Nat × Dev)} (h : HL w W ds (LT g d L :: rest)) (e : Int) : Calls Tryd.prog 40 #[.pointer (some ⟨g, 0, none⟩), .int .i64 e] W fun ex W' => ex = .returned (.int .i64 e) ∧ HL w W' ds (LT g d (L.failed e) :: rest) := by
  have c11 : W.cell? ⟨g, 11, none⟩ = some (.bool L.off) := h.cell 0 rfl 11
  have f11 : W.frozen? ⟨g, 11, none⟩ = false := h.frozen 0 rfl 11
  have H2 : Aside0 (HL w (W.setCell ⟨g, 11, none⟩ (.bool (L.off || e != 0))) ds (LT g d (L.failed e) :: rest)) := ⟨h.store 0 rfl 11 (.bool (L.off || e != 0)) rfl⟩
  clear h
  generalize L.off = lo at c11 H2
  cases lo with
  | true =>
    go_enter Tryd.func40, Tryd.ntmps40
    go_wp2_with fail
    go_ret
    exact ⟨rfl, H2.out⟩
  | false =>
    rw [show (false || e != 0) = (e != 0) from Bool.false_or _] at H2
    go_enter Tryd.func40, Tryd.ntmps40
    go_wp2_with fail
    go_ret
    exact ⟨rfl, H2.out⟩
def roomE (L : LG) : Int := if L.awaits = true then 0 else (L.half : Int) * 242 - L.bytes.size
set_option maxHeartbeats 4000000 in
set_option maxRecDepth 100000 in
theorem room_calls {ds : List (Nat × Dev)} (h : HL w W ds (LT g d L :: rest)) (hh : L.half ≤ 512) (hb : L.bytes.size ≤ 1000000) : Calls Tryd.prog 16 #[.pointer (some ⟨g, 0, none⟩)] W fun ex W' => ex = .returned (.int .i64 (roomE L)) ∧ HL w W' ds (LT g d L :: rest) := by
  have c10 : W.cell? ⟨g, 10, none⟩ = some (.bool L.awaits) := h.cell 0 rfl 10
  have c2 : W.cell? ⟨g, 2, none⟩ = some (.int .i64 L.half) := h.cell 0 rfl 2
  have c6 : W.cell? ⟨g, 6, none⟩ = some (.string L.bytes) := h.cell 0 rfl 6
  have H := Aside0.mk h
  unfold roomE
  clear h
  generalize L.awaits = la at c10 ⊢
  cases la with
  | true =>
    rw [if_pos rfl]
    go_enter Tryd.func16, Tryd.ntmps16
    go_wp2_with fail
    go_ret
    exact ⟨rfl, H.out⟩
  | false =>
    rw [if_neg (by simp)]
    have w1 : IntKind.i64.wrap ((L.half : Int) * 242) = (L.half : Int) * 242 := by rw [IntKind.wrap_i64]; omega
    have w2 : IntKind.i64.wrap ((L.half : Int) * 242 - L.bytes.size) = (L.half : Int) * 242 - L.bytes.size := by rw [IntKind.wrap_i64]; omega
    generalize L.half = hf at c2 w1 w2 ⊢
    generalize L.bytes = bs at c6 w2 ⊢
    go_enter Tryd.func16, Tryd.ntmps16
    go_upto_region 3 with fail
    go_quiet (fail)
    go_wp2_with fail
    go_ret
    exact ⟨rfl, H.out.below (pw_below_drewN (Below.refl _ _) nq)⟩
set_option maxHeartbeats 4000000 in
set_option maxRecDepth 100000 in
theorem room_nil : Calls Tryd.prog 16 #[.pointer none] W fun ex W' => ex = .returned (.int .i64 0) ∧ W' = W := by
  go_enter Tryd.func16, Tryd.ntmps16
  go_wp2_with fail
  go_ret
  exact ⟨rfl, rfl⟩
/-- A text with its length ahead. -/
def textB (s : ByteArray) : ByteArray := put2 s.size ++ s
def LG.append (L : LG) (T : TD) (lsn : Int) (s : ByteArray) : Int × LG :=
  if readyE L T true ≠ 0 then (readyE L T true, L) else if s.size = 0 ∨ 16384 < s.size then (6, L) else if roomE L < s.size + 2 then (9, L) else
    (0, { L with bytes := L.bytes ++ textB s, last := lsn })
theorem ne_nil_of {s : ByteArray} (h : ¬ s.size = 0) : (s.toList == ([] : List UInt8)) = false := by
  rw [beq_eq_false_iff_ne, toList_data]
  intro e
  apply h
  rw [← b_len, e]; rfl
set_option maxHeartbeats 8000000 in
set_option maxRecDepth 100000 in
theorem append_calls (h : HL w W (l1 ++ (d, T.dev) :: l2) (LT g d L :: rest)) (hh : L.half ≤ 512) (hb : L.bytes.size ≤ 1000000) (lsn : Int) (s : ByteArray) (hs : s.size ≤ 1000000) : Calls Tryd.prog 13 #[.pointer (some ⟨g, 0, none⟩), .int .i64 lsn, .string s] W fun ex W' => ex = .returned (.int .i64 (L.append T lsn s).1) ∧ HL w W' (l1 ++ (d, T.dev) :: l2) (LT g d (L.append T lsn s).2 :: rest) := by
  have HR := Aside0.mk (ready_calls h true)
  have HM := Aside0.mk (room_calls h hh hb)
  have H := Aside0.mk h
  unfold LG.append
  clear h
  by_cases hr : readyE L T true = 0
  · rw [if_neg (by simpa using hr)]
    rw [hr] at HR
    by_cases hz : s.size = 0
    · rw [if_pos (Or.inl hz)]
      obtain rfl : s = ⟨#[]⟩ := b_ext (List.eq_nil_of_length_eq_zero (by rw [b_len]; exact hz))
      go_enter Tryd.func13, Tryd.ntmps13
      go_wp2_with (go_at_call 34; refine HR.out.mono ?_; rintro e w1 ⟨rfl, h1⟩; rw [h1]; clear h1)
      go_ret
      exact ⟨rfl, H.out⟩
    · have hne := ne_nil_of hz
      by_cases hbig : 16384 < s.size
      · rw [if_pos (Or.inr hbig)]
        have hb2 : (16384 : Int) < (s.size : Int) := by omega
        go_enter Tryd.func13, Tryd.ntmps13
        go_wp2_with (go_at_call 34; refine HR.out.mono ?_; rintro e w1 ⟨rfl, h1⟩; rw [h1]; clear h1)
        go_ret
        exact ⟨rfl, H.out⟩
      · rw [if_neg (by omega)]
        have hb2 : ¬ ((16384 : Int) < (s.size : Int)) := by omega
        have w1 : wrap64 ((s.size : Int) + 2) = (s.size : Int) + 2 := by unfold wrap64; omega
        by_cases hrm : roomE L < s.size + 2
        · rw [if_pos hrm]
          go_enter Tryd.func13, Tryd.ntmps13
          go_wp2_with (first
            | (go_at_call 34; refine HR.out.mono ?_; rintro e w1 ⟨rfl, h1⟩; rw [h1]; clear h1)
            | (go_at_call 16; refine HM.out.mono ?_; rintro e w2 ⟨rfl, h2⟩; have H2 := Aside0.mk h2; clear h2))
          go_ret
          exact ⟨rfl, H2.out⟩
        · rw [if_neg hrm]
          have HP := Aside0.mk (fun w => put2_calls (s.size : Int) (by omega) (by omega) w)
          have sl := put2_size (s.size : Int)
          have HD : Aside0 (textB s = put2 s.size ++ s) := ⟨rfl⟩
          generalize put2 (s.size : Int) = p at HP sl HD
          have k1 : p.size + s.size < 4611686018427387904 := by omega
          have k2 : L.bytes.size + (p ++ s).size < 4611686018427387904 := by rw [ByteArray.size_append]; omega
          go_enter Tryd.func13, Tryd.ntmps13
          go_upto_region 8 with (first
            | (go_at_call 34; refine HR.out.mono ?_; rintro e w1 ⟨rfl, h1⟩; rw [h1]; clear h1)
            | (go_at_call 16; refine HM.out.mono ?_; rintro e w2 ⟨rfl, h2⟩; have H2 := Aside0.mk h2; clear h2))
          clear HR HM H hr
          have c6 : w2.cell? ⟨g, 6, none⟩ = some (.string L.bytes) := H2.out.cell 0 rfl 6
          have f6 : w2.frozen? ⟨g, 6, none⟩ = false := H2.out.frozen 0 rfl 6
          go_region_with (go_at_call 35; refine (HP.out _).mono ?_; rintro e w3 ⟨rfl, h3⟩; have H3 := Aside0.mk (H2.out.below ((below_drew (Below.refl _ _)).trans h3)); clear h3; have c6 : w3.cell? ⟨g, 6, none⟩ = some (.string L.bytes) := H3.out.cell 0 rfl 6; have f6 : w3.frozen? ⟨g, 6, none⟩ = false := H3.out.frozen 0 rfl 6; have c8 : w3.cell? ⟨g, 8, none⟩ = some (.int .i64 L.last) := H3.out.cell 0 rfl 8; have f8 : w3.frozen? ⟨g, 8, none⟩ = false := H3.out.frozen 0 rfl 8)
          all_goals (
            have H5 : Aside0 (HL w ((w3.setCell ⟨g, 6, none⟩ (.string (L.bytes ++ (p ++ s)))).setCell ⟨g, 8, none⟩ (.int .i64 lsn)) (l1 ++ (d, T.dev) :: l2) (LT g d { L with bytes := L.bytes ++ (p ++ s), last := lsn } :: rest)) := ⟨(H3.out.store 0 rfl 6 (.string (L.bytes ++ (p ++ s))) rfl).store 0 rfl 8 (.int .i64 lsn) rfl⟩
            go_wp2_with fail
            go_ret
            exact ⟨rfl, by rw [HD.out]; exact H5.out⟩)
  · rw [if_pos (by simpa using hr)]
    have hne : (readyE L T true != 0) = true := by simpa using hr
    go_enter Tryd.func13, Tryd.ntmps13
    go_wp2_with (go_at_call 34; refine HR.out.mono ?_; rintro e w1 ⟨rfl, h1⟩; rw [h1]; clear h1)
    go_ret
    exact ⟨rfl, H.out⟩
end Go.Proofs.YtegeaemkkbenfaaDoor.Ownd
