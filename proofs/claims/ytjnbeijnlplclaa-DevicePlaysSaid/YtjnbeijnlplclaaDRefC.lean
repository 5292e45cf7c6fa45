/- concordanceref03.Fail and Step. Conditions: at most 1000000 writes wait, at most 1000000 sectors, each write to a sector. -/
import Derived.Test.YtjnbeijnlplclaaDRefB
namespace Go.Proofs.Ytjnbeijnlplclaa.Ownd
open Go.RowKit Go.Proofs.YtjnbeijnlplclaaW.PrintWords Go.Proofs.YtjnbeijnlplclaaW.PrintLast Go.Proofs.YtjnbeijnlplclaaW.PrintMore
set_option linter.unusedVariables false
set_option linter.unusedSimpArgs false
section
variable {P : Program} {ops : Array Oper} {rest : List Oper} {o : Oper} {a : Act} {Q : Exit → Act → World → Prop} {α : Type} {W : World}
/-- append([]T{}, xs...), behind 'at_builtin': what is read, copied into a new row. -/
theorem fresh_row (d : Kd α) (hheap : Kd.Heap d) (hflat : ∀ (W W' : World) (x : α) (c : List Value), d.K W x c → d.K W' x c) {A : Option Addr} {m c : Nat} {xs : List α} {e : TypeId} (hC : Kd.C d W A m xs) (hgd : o.guard = none) (s x : Operand) (t : TypeId) (z : Value) (bytes : Nat)
    (ho : o.op = .call { callee := .builtin .append, args := #[s, x], argTypes := #[t, t] })
    (ht : P.underlying t = some (.slice e)) (hinfo : (P.info? e).map (fun i => (i.zero, i.size, i.bytes)) = some (some z, d.sz, bytes)) (hz : z.cells.size = d.sz) (hsz : 0 < d.sz) (hb0 : 0 < bytes)
    (hs : a.eval s = .slice (some ⟨W.heap.size, 0, none⟩) 0 0) (hx : a.eval x = .slice A m c) (hl : m * bytes ≤ 140737488355328)
    (h : ∀ A1 c1 w1, Own W w1 [.row d e (.slice A1 xs.length c1) xs] → wpList P ops Q rest (a.put o.dst (.slice A1 xs.length c1)) w1) :
    wpList P ops Q (o :: rest) a (W.alloc (.cells #[] e)) := by
  refine Kd.N_append_rows d (w0 := W) W.heap.size hgd s x t e z bytes ho ht hinfo hz hsz hb0 (.slice (some ⟨W.heap.size, 0, none⟩) 0 0) [] xs A m c (fun k => W.heap.size ≤ k ∨ k < W.heap.size) (fun k => k < W.heap.size) hs hx (N_empty d e W _ (Or.inl (Nat.le_refl _))) (Kd.F_alloc (Kd.C_F hheap hC) _) (fun k hk => ⟨Or.inr hk, fun he => by simp [Value.ownBlock] at he; omega⟩) (fun k hk => Or.inl (by simp at hk; omega)) (below_alloc (Below.refl _ _) _) (by simp) (by simpa using hl) ?_
  intro v1 w1 hN1 hb1 _ _
  rw [List.nil_append] at hN1
  have hO : Own W w1 [.row d e v1 xs] := (Own.start W 1).row_new 0 rfl hb1 (N_flat hflat hN1 (fun k hk => Kd.N_base hN1 k hk)) (fun k hk => hk)
  obtain ⟨A1, c1, rfl⟩ := hO.row 0 rfl
  exact h A1 c1 w1 hO
/-- A whole variable is written. -/
theorem Own.store_all {w : World} {l : List Thing} (hO : Own w W l) (j : Nat) {g : Nat} {t : TypeId} {old : Array Value} (hj : l[j]? = some (.box g (.cells old t (0, 0)))) (hgd : o.guard = none) (hN : o.dst = none) (ty : TypeId) (x y : Operand) (ho : o.op = .store ty x y) (cells : Array Value)
    (hx : a.eval x = .pointer (some ⟨g, 0, none⟩)) (hy : a.eval y = .agg cells) (hi : (P.info? ty).map (·.size) = some cells.size) (hold : old.size = cells.size) (h1 : cells.all (·.oneCell') = true)
    (h : ∀ w1, Own w w1 (l.set j (.box g (.cells cells t (0, 0)))) → wpList P ops Q rest a w1) : wpList P ops Q (o :: rest) a W := by
  refine wpList_plain hgd fun K hK => ?_
  have hb := hO.box j hj
  refine wp_store_row ty x y ho g cells hx hy t old hb hi hold h1 ?_
  have e : W.setRow g cells = { W with heap := W.heap.setIfInBounds g (.cells cells t (0, 0)) } := by
    unfold World.setRow
    congr 1
    apply Array.ext_getElem?
    intro k
    rw [Array.getElem?_modify, Array.getElem?_setIfInBounds]
    by_cases hk : g = k
    · subst hk
      rw [if_pos rfl, if_pos rfl, hb]
      simp [blk_lt hb]
    · rw [if_neg hk, if_neg hk]
  rw [e]
  have hp := hO.put j hj (.cells cells t (0, 0))
  rw [hN]
  exact hK _ _ (h _ hp)
end
/-- A row that was made since is the call's own, too; in place of thing s. -/
theorem Own.add {α : Type} {w W W1 : World} {l : List Thing} (h : Own w W l) {d : Kd α} {e : Nat} {v : Value} {xs : List α} (h2 : Own W W1 [.row d e v xs]) (s : Nat) (hs : s < l.length) : Own w W1 (l.set s (.row d e v xs)) := by
  obtain ⟨hB2, col2, hc2⟩ := h2
  have hN : Kd.N d e W1 W.heap.size (okc W.heap.size W1 col2 0) v xs := hc2 0 _ rfl
  have h3 := (h.drop s).row_new s (by simp [hs]) hB2 hN (fun k hk => hk.1)
  rwa [List.set_set] at h3
theorem int_base {W : World} {A : Option Addr} {n : Nat} {xs : List Int} (hC : Kd.C (Kd.int .i64) W A n xs) (k : Nat) (hk : k < xs.length) : ∃ ad : Addr, A = some ad ∧ W.cell? (ad.add k) = some (.int .i64 xs[k]) := by
  obtain ⟨ad, c, e, _, hK, hc0⟩ := Kd.C_get hC xs[k] (k : Int) (by omega) (by have := hC.1; omega)
  rw [Int.toNat_natCast] at hK hc0
  rw [List.getD_eq_getElem?_getD, List.getElem?_eq_getElem hk, Option.getD_some] at hK
  have hK' : c = [.int .i64 xs[k]] := hK
  have h2 := hc0 0 (.int .i64 xs[k]) (by rw [hK']; rfl)
  rw [show k * (Kd.int .i64).sz + 0 = k from Nat.mul_one k] at h2
  exact ⟨ad, e, h2⟩
theorem size_RD : (Try.prog.info? 46).map (·.size) = some 7 := by kernel_rfl
def failL (keep : List Int) : Nat → List PW → List ByteArray → List ByteArray
  | _, [], l => l
  | i, p :: r, l => failL keep (i + 1) r (if keptAt keep i then l.set p.1.toNat p.2 else l)
theorem failL_snoc (keep : List Int) : ∀ (l : List PW) (i : Nat) (f : List ByteArray) (p : PW), failL keep i (l ++ [p]) f = (if keptAt keep (i + l.length) then (failL keep i l f).set p.1.toNat p.2 else failL keep i l f)
  | [], i, f, p => rfl
  | q :: r, i, f, p => by
    rw [List.cons_append]
    show failL keep (i + 1) (r ++ [p]) _ = _
    rw [failL_snoc keep r (i + 1), List.length_cons, show i + 1 + r.length = i + (r.length + 1) by omega]
    rfl
theorem failL_length (keep : List Int) : ∀ (l : List PW) (i : Nat) (f : List ByteArray), (failL keep i l f).length = f.length
  | [], i, f => rfl
  | p :: r, i, f => by
    show (failL keep (i + 1) r _).length = _
    rw [failL_length keep r]
    split
    · rw [List.length_set]
    · rfl
theorem take_failL (keep : List Int) (f : List ByteArray) {l : List PW} {k : Nat} (h : k < l.length) : failL keep 0 (l.take (k + 1)) f = (if keptAt keep k then (failL keep 0 (l.take k) f).set l[k].1.toNat l[k].2 else failL keep 0 (l.take k) f) := by
  rw [List.take_succ_eq_append_getElem h, failL_snoc, List.length_take, Nat.min_eq_left (Nat.le_of_lt h), Nat.zero_add]
def RD.fail (R : RD) (keep : List Int) : RD := { last := failL keep 0 R.wait R.last, wait := [], off := true, fuse := 0, keep := [], cmds := R.cmds }
/-- What the walks want to know of a document's device. -/
structure RD.Ok (R : RD) : Prop where
  wait : R.wait.length ≤ 1000000
  last : R.last.length ≤ 1000000
  at_ : ∀ p ∈ R.wait, 0 ≤ p.1 ∧ p.1 < (R.last.length : Int)
set_option maxHeartbeats 8000000 in
set_option maxRecDepth 100000 in
theorem failR {w W : World} {post : List Thing} {d : Nat} {R : RD} (h : HasR w W post d R) (hok : R.Ok) (A : Option Addr) (c : Nat) (keep : List Int) (hK : Kd.C (Kd.int .i64) W A keep.length keep) :
    Calls Try.prog 35 #[.pointer (some ⟨d, 0, none⟩), .slice A keep.length c] W fun ex W' => ex = .returned (.tuple #[]) ∧ HasR w W' post d (R.fail keep) := by
  obtain ⟨vl, va, vd, vk, hO⟩ := h
  obtain ⟨Al, cl, Aa, ca, Ad, cd, Ak, ck, rfl, rfl, rfl, rfl, -, xa, xd⟩ := RCells.of hO
  obtain ⟨Al', cl', e, -, hC⟩ := hO.reads 1 rfl
  simp only [Value.slice.injEq] at e
  obtain ⟨rfl, -, rfl⟩ := e
  have c0 : (W.alloc (.cells #[] 9)).cell? ⟨d, 0, none⟩ = some (.slice Al R.last.length cl) := (hO.below (below_alloc (Below.refl _ _) (.cells #[] 9))).cell 0 rfl 0
  have HO := Aside0.mk hO
  have HC := Aside0.mk hC
  have HK := Aside0.mk hK
  have XA := Aside0.mk xa
  have XD := Aside0.mk xd
  have HOK := Aside0.mk hok
  have hl := hok.wait
  have HL : Aside0 (R.last.length * 16 ≤ 140737488355328) := ⟨by have := hok.last; omega⟩
  clear hO hC hK xa xd hok
  go_enter Try.func35, Try.ntmps35
  go_upto_block 0 with (at_builtin; refine fresh_row Kd.string Kd.heap_string flatS HC.out rfl (.tmp 6) (.tmp 10) 44 (.string ⟨#[]⟩) 16 rfl Try.underlying44 infoS rfl (by decide) (by decide) rfl rfl HL.out ?_; intro A1 c1 w1 h1; have H1 := Aside0.mk h1; clear h1)
  clear c0
  go_cut [] (fun wx => Aside0 (Own W wx [.row Kd.string 9 (.slice A1 R.last.length c1) (failL keep 0 R.wait R.last)]))
  case first =>
    go_wp2_with fail
    go_loopg [5] R.wait.length (fun gg s5 wr => ∃ k : Nat, k ≤ R.wait.length ∧ R.wait.length - k ≤ gg ∧ s5 = .int .i64 k ∧ Aside0 (Own W wr [.row Kd.string 9 (.slice A1 R.last.length c1) (failL keep 0 (R.wait.take k) R.last)]))
    case atStart => exact ⟨0, Nat.zero_le _, Nat.le_refl _, rfl, ⟨by rw [List.take_zero]; exact H1.out⟩⟩
    case round =>
      clear H1
      obtain ⟨k, hk, hg, rfl, hO1⟩ := hrel
      have hb := hO1.out.1
      have c1' : wr.cell? ⟨d, 1, none⟩ = some (.slice Aa R.wait.length ca) := (HO.out.below hb).cell 0 rfl 1
      by_cases hlt : k < R.wait.length
      · have d1 := fdlt hlt
        have hw := fwr hlt hl
        have hi1 := fltI hlt
        have hi0 := fgeI k
        have HT := Aside0.mk (take_failL keep R.last hlt)
        cases hkp : keptAt keep k with
        | false =>
          rw [hkp] at HT
          by_cases hk0 : 0 < keep.length
          · have dk : decide ((0 : Int) < (keep.length : Int)) = true := fdlt hk0
            have hkn := kept_no hkp hk0
            have hrem := rem_nat k keep.length
            have hnz := pos_ne hk0
            have hjl := Nat.mod_lt k hk0
            obtain ⟨ad, rfl, hx⟩ := int_base HK.out (k % keep.length) hjl
            replace hx := (hb.cell (World.block_lt_of_cell? W _ hx)).trans hx
            have hi1 := fltI hjl
            have hi0 := fgeI (k % keep.length)
            generalize keep[k % keep.length] = kv at hx hkn
            subst hkn
            generalize k % keep.length = kr at hrem hx hi1 hi0 hjl
            clear hb
            go_upto_region 3 with fail
            go_wp2_with fail
            go_roundg (R.wait.length - (k + 1))
            case measure => exact fmeas hlt hg
            case rel => exact ⟨k + 1, hlt, Nat.le_refl _, by first | rfl | rw [hw], ⟨by rw [HT.out]; exact hO1.out⟩⟩
          · have dk : decide ((0 : Int) < (keep.length : Int)) = false := fdno hk0
            clear hb
            go_upto_region 3 with fail
            go_wp2_with fail
            go_roundg (R.wait.length - (k + 1))
            case measure => exact fmeas hlt hg
            case rel => exact ⟨k + 1, hlt, Nat.le_refl _, by first | rfl | rw [hw], ⟨by rw [HT.out]; exact hO1.out⟩⟩
        | true =>
          rw [hkp] at HT
          obtain ⟨hk0, hkn⟩ := kept_yes hkp
          have dk : decide ((0 : Int) < (keep.length : Int)) = true := fdlt hk0
          have hrem := rem_nat k keep.length
          have hnz := pos_ne hk0
          have hjl := Nat.mod_lt k hk0
          obtain ⟨ad, rfl, hx⟩ := int_base HK.out (k % keep.length) hjl
          replace hx := (hb.cell (World.block_lt_of_cell? W _ hx)).trans hx
          have hi1 := fltI hjl
          have hi0 := fgeI (k % keep.length)
          generalize keep[k % keep.length] = kv at hx hkn
          generalize k % keep.length = kr at hrem hx hi1 hi0 hjl
          go_upto_region 5 with fail
          clear hx hrem hi1 hi0 hnz dk
          have hi1 := fltI hlt
          have hi0 := fgeI k
          have hin := HOK.out.at_ _ (List.getElem_mem hlt)
          obtain ⟨ga, rfl, ya⟩ := XA.out k hlt
          obtain ⟨gd, rfl, yd⟩ := XD.out k hlt
          replace ya := (hb.cell (World.block_lt_of_cell? W _ ya)).trans ya
          replace yd := (hb.cell (World.block_lt_of_cell? W _ yd)).trans yd
          have c2' : wr.cell? ⟨d, 2, none⟩ = some (.slice (some ⟨gd, 0, none⟩) R.wait.length cd) := (HO.out.below hb).cell 0 rfl 2
          generalize (R.wait[k]).1 = sec at ya HT hin
          generalize (R.wait[k]).2 = data at yd HT
          obtain ⟨n, rfl⟩ : ∃ n : Nat, sec = (n : Int) := ⟨sec.toNat, by omega⟩
          have hn : n < R.last.length := by omega
          rw [Int.toNat_natCast] at HT
          have hj1 := fltI hn
          have hj0 := fgeI n
          have hle : (failL keep 0 (R.wait.take k) R.last).length = R.last.length := failL_length _ _ _ _
          obtain ⟨g1, c1'', e, -, -, -⟩ := hO1.out.str_at 0 rfl n (by rw [hle]; exact hn)
          simp only [Value.slice.injEq] at e
          obtain ⟨rfl, -, -⟩ := e
          have HLE := Aside0.mk hle
          clear hle hb hin XA XD
          go_still_tail 16, (by kernel_rfl)
          change wpList _ _ _ _ _ wr.drew
          refine Own.set_str (hO1.out.below (below_drew (Below.refl _ _))) 0 rfl rfl rfl 9 (.tmp 49) (.tmp 48) rfl size_str n data rfl rfl (by rw [HLE.out]; exact hn) ?_
          intro wz hz
          have HZ := Aside0.mk hz
          clear hz
          go_wp2_with fail
          go_roundg (R.wait.length - (k + 1))
          case measure => exact fmeas hlt hg
          case rel => exact ⟨k + 1, hlt, Nat.le_refl _, by first | rfl | rw [hw], ⟨by rw [HT.out]; exact HZ.out⟩⟩
      · obtain rfl : k = R.wait.length := Nat.le_antisymm hk (Nat.not_lt.mp hlt)
        have d1 := fdno hlt
        clear hb
        rw [List.take_length] at hO1
        go_wp2
        go_meet
        case rel => exact hO1
  case rest =>
    have H3 := Aside0.mk (((HO.out.add hcut.out 1 (by simp [RV])).nil 2 (Kd.int .i64) 3).nil 3 Kd.string 9 |>.nil 4 (Kd.int .i64) 3)
    have c6 : wc.cell? ⟨d, 6, none⟩ = some (.int .i64 R.cmds) := H3.out.cell 0 rfl 6
    clear HO HC HK XA XD hcut H1
    go_wp2_with (refine gate_ (.store 46 (.tmp 57) (.tmp 56)) rfl ?_; refine Aside0.out ?_)
    refine ⟨?_⟩
    refine Own.store_all H3.out 0 rfl rfl rfl 46 (.tmp 57) (.tmp 56) rfl #[.slice A1 R.last.length c1, .slice none 0 0, .slice none 0 0, .bool true, .int .i64 0, .slice none 0 0, .int .i64 R.cmds] rfl rfl size_RD rfl (by simp [Value.oneCell']) ?_
    intro wz hz; have HZ := Aside0.mk hz; clear hz
    go_wp2_with fail
    go_end0
    exact ⟨rfl, _, _, _, _, HZ.out⟩
end Go.Proofs.Ytjnbeijnlplclaa.Ownd
