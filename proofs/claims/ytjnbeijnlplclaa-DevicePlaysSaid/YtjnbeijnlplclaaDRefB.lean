/- concordanceref03.Read. Conditions: at most 1000000 writes wait. -/
import Derived.Test.YtjnbeijnlplclaaDRefA
namespace Go.Proofs.Ytjnbeijnlplclaa.Ownd
open Go.RowKit Go.Proofs.YtjnbeijnlplclaaW.PrintWords Go.Proofs.YtjnbeijnlplclaaW.PrintLast Go.Proofs.YtjnbeijnlplclaaW.PrintMore
set_option linter.unusedVariables false
set_option linter.unusedSimpArgs false
variable {w W : World} {post : List Thing} {d : Nat} {R : RD}
def getR (l : List PW) (i : Int) (s : ByteArray) : ByteArray := l.foldl (fun s p => if p.1 = i then p.2 else s) s
def RD.read (R : RD) (i : Int) : ByteArray × Int := if R.off = true then (⟨#[]⟩, 7) else if i < 0 ∨ (R.last.length : Int) ≤ i then (⟨#[]⟩, 1) else (getR R.wait i (R.last.getD i.toNat ⟨#[]⟩), 0)
theorem take_get (i : Int) (s : ByteArray) {l : List PW} {k : Nat} (h : k < l.length) : getR (l.take (k + 1)) i s = if l[k].1 = i then l[k].2 else getR (l.take k) i s := by
  rw [List.take_succ_eq_append_getElem h]
  unfold getR
  rw [List.foldl_append]
  rfl
/-- The cells of a document's device. -/
structure RCells (w W : World) (d : Nat) (R : RD) : Prop where
  cells : ∃ Al cl Aa ca Ad cd Ak ck, (W.cell? ⟨d, 0, none⟩ = some (.slice Al R.last.length cl) ∧ W.cell? ⟨d, 1, none⟩ = some (.slice Aa R.wait.length ca) ∧ W.cell? ⟨d, 2, none⟩ = some (.slice Ad R.wait.length cd) ∧ W.cell? ⟨d, 3, none⟩ = some (.bool R.off) ∧ W.cell? ⟨d, 4, none⟩ = some (.int .i64 R.fuse) ∧ W.cell? ⟨d, 5, none⟩ = some (.slice Ak R.keep.length ck) ∧ W.cell? ⟨d, 6, none⟩ = some (.int .i64 R.cmds)) ∧
    (∀ k (h : k < R.last.length), ∃ g, Al = some ⟨g, 0, none⟩ ∧ W.cell? ⟨g, k, none⟩ = some (.string R.last[k])) ∧
    (∀ k (h : k < R.wait.length), ∃ g, Aa = some ⟨g, 0, none⟩ ∧ W.cell? ⟨g, k, none⟩ = some (.int .i64 R.wait[k].1)) ∧
    (∀ k (h : k < R.wait.length), ∃ g, Ad = some ⟨g, 0, none⟩ ∧ W.cell? ⟨g, k, none⟩ = some (.string R.wait[k].2))
theorem RCells.of {vl va vd vk : Value} (hO : Own w W (RV d vl va vd vk R ++ post)) : ∃ Al cl Aa ca Ad cd Ak ck, vl = .slice Al R.last.length cl ∧ va = .slice Aa R.wait.length ca ∧ vd = .slice Ad R.wait.length cd ∧ vk = .slice Ak R.keep.length ck ∧
    (∀ k (h : k < R.last.length), ∃ g, Al = some ⟨g, 0, none⟩ ∧ W.cell? ⟨g, k, none⟩ = some (.string R.last[k])) ∧
    (∀ k (h : k < R.wait.length), ∃ g, Aa = some ⟨g, 0, none⟩ ∧ W.cell? ⟨g, k, none⟩ = some (.int .i64 R.wait[k].1)) ∧
    (∀ k (h : k < R.wait.length), ∃ g, Ad = some ⟨g, 0, none⟩ ∧ W.cell? ⟨g, k, none⟩ = some (.string R.wait[k].2)) := by
  obtain ⟨Al, cl, e1, -, -⟩ := hO.reads 1 rfl
  obtain ⟨Aa, ca, e2, -, -⟩ := hO.reads 2 rfl
  obtain ⟨Ad, cd, e3, -, -⟩ := hO.reads 3 rfl
  obtain ⟨Ak, ck, e4, -, -⟩ := hO.reads 4 rfl
  rw [List.length_map] at e2 e3
  refine ⟨Al, cl, Aa, ca, Ad, cd, Ak, ck, e1, e2, e3, e4, fun k h => ?_, fun k h => ?_, fun k h => ?_⟩
  · obtain ⟨g, c, e, -, hx, -⟩ := hO.str_at 1 rfl k h
    rw [e1] at e
    simp only [Value.slice.injEq] at e
    exact ⟨g, e.1, hx⟩
  · obtain ⟨g, c, e, -, hx⟩ := hO.int_at 2 rfl k (by rw [List.length_map]; exact h)
    rw [e2] at e
    simp only [Value.slice.injEq] at e
    rw [List.getElem_map] at hx
    exact ⟨g, e.1, hx⟩
  · obtain ⟨g, c, e, -, hx, -⟩ := hO.str_at 3 rfl k (by rw [List.length_map]; exact h)
    rw [e3] at e
    simp only [Value.slice.injEq] at e
    rw [List.getElem_map] at hx
    exact ⟨g, e.1, hx⟩
set_option maxHeartbeats 4000000 in
set_option maxRecDepth 100000 in
theorem readR (h : HasR w W post d R) (hl : R.wait.length ≤ 1000000) (i : Int) : Calls Try.prog 33 #[.pointer (some ⟨d, 0, none⟩), .int .i64 i] W fun ex W' => ex = .returned (.tuple #[.string (R.read i).1, .int .i64 (R.read i).2]) ∧ W' = W := by
  obtain ⟨vl, va, vd, vk, hO⟩ := h
  obtain ⟨Al, cl, Aa, ca, Ad, cd, Ak, ck, rfl, rfl, rfl, rfl, xl, xa, xd⟩ := RCells.of hO
  have c0 : W.cell? ⟨d, 0, none⟩ = some (.slice Al R.last.length cl) := hO.cell 0 rfl 0
  have c1 : W.cell? ⟨d, 1, none⟩ = some (.slice Aa R.wait.length ca) := hO.cell 0 rfl 1
  have c2 : W.cell? ⟨d, 2, none⟩ = some (.slice Ad R.wait.length cd) := hO.cell 0 rfl 2
  have c3 : W.cell? ⟨d, 3, none⟩ = some (.bool R.off) := hO.cell 0 rfl 3
  clear hO
  have XL := Aside0.mk xl
  have XA := Aside0.mk xa
  have XD := Aside0.mk xd
  clear xl xa xd
  unfold RD.read
  cases hoff : R.off with
  | true =>
    rw [hoff] at c3
    rw [if_pos rfl]
    go_enter Try.func33, Try.ntmps33
    go_wp2
    go_ret2
    exact ⟨rfl, rfl⟩
  | false =>
    rw [hoff] at c3
    rw [if_neg (by simp)]
    by_cases h0 : i < 0
    · rw [if_pos (Or.inl h0)]
      go_enter Try.func33, Try.ntmps33
      go_wp2
      go_ret2
      exact ⟨rfl, rfl⟩
    · by_cases h1 : (R.last.length : Int) ≤ i
      · rw [if_pos (Or.inr h1)]
        go_enter Try.func33, Try.ntmps33
        go_wp2
        go_ret2
        exact ⟨rfl, rfl⟩
      · rw [if_neg (fun h => h.elim h0 h1)]
        have hi1 : i < (R.last.length : Int) := by omega
        have hi0 : 0 ≤ i := by omega
        obtain ⟨n, rfl⟩ : ∃ n : Nat, i = (n : Int) := ⟨i.toNat, by omega⟩
        have hn : n < R.last.length := by omega
        obtain ⟨gl, rfl, y0⟩ := XL.out n hn
        rw [Int.toNat_natCast, List.getD_eq_getElem?_getD, List.getElem?_eq_getElem hn, Option.getD_some]
        generalize R.last[n] = s0 at y0 ⊢
        clear XL
        go_enter Try.func33, Try.ntmps33
        go_wp2_with fail
        go_loopg [6, 7] R.wait.length (fun gg s6 s7 wr => ∃ k : Nat, k ≤ R.wait.length ∧ R.wait.length - k ≤ gg ∧ s6 = .string (getR (R.wait.take k) (n : Int) s0) ∧ s7 = .int .i64 k ∧ wr = W)
        case atStart => exact ⟨0, Nat.zero_le _, Nat.le_refl _, by rw [List.take_zero]; rfl, rfl, rfl⟩
        case round =>
          obtain ⟨k, hk, hg, rfl, rfl, rfl⟩ := hrel
          clear c0 c3 y0 hi1 hi0 h0 h1
          by_cases hlt : k < R.wait.length
          · have d1 := fdlt hlt
            have hw := fwr hlt hl
            have hi1 := fltI hlt
            have hi0 := fgeI k
            obtain ⟨ga, rfl, ya⟩ := XA.out k hlt
            obtain ⟨gd, rfl, yd⟩ := XD.out k hlt
            have HT := Aside0.mk (take_get (n : Int) s0 hlt)
            generalize (R.wait[k]).1 = sec at ya HT
            generalize (R.wait[k]).2 = data at yd HT
            clear XA XD
            by_cases he : sec = (n : Int)
            · subst he
              go_upto_region 10 with fail
              go_wp2_with fail
              go_roundg (R.wait.length - (k + 1))
              case measure => exact fmeas hlt hg
              case rel => exact ⟨k + 1, hlt, Nat.le_refl _, by rw [HT.out]; simp, by first | rfl | rw [hw], rfl⟩
            · have de : decide (sec = (n : Int)) = false := decide_eq_false he
              go_upto_region 8 with fail
              go_wp2_with fail
              go_roundg (R.wait.length - (k + 1))
              case measure => exact fmeas hlt hg
              case rel => exact ⟨k + 1, hlt, Nat.le_refl _, by rw [HT.out, if_neg he], by first | rfl | rw [hw], rfl⟩
          · obtain rfl : k = R.wait.length := Nat.le_antisymm hk (Nat.not_lt.mp hlt)
            have d1 := fdno hlt
            rw [List.take_length]
            go_wp2
            go_ret2
            exact ⟨rfl, rfl⟩
end Go.Proofs.Ytjnbeijnlplclaa.Ownd
