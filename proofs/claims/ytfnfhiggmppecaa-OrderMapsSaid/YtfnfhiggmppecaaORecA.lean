/- slices.Delete and slices.Clone at whole numbers, over rows of the call's own: an element is taken out; a row is copied. Conditions: the element is there; the row's bytes fit. -/
import Derived.Test.YtfnfhiggmppecaaOMem
import Derived.Test.YtfnfhiggmppecaaProg
import Derived.Deep.RegionLaw
import Derived.Lib.SliceRun
import Derived.Lib.Walk
import Derived.WalkKit
import Derived.KernelRfl
namespace Go.Proofs.Ytfnfhiggmppecaa.GO
open Go.RowKit Go.Proofs.Ytfnfhiggmppecaa.Ownd Go.Proofs.YtfnfhiggmppecaaW.PrintWords Go.Proofs.YtfnfhiggmppecaaW.PrintLast Go.Proofs.YtfnfhiggmppecaaW.PrintMore
set_option linter.unusedVariables false
set_option linter.unusedSimpArgs false
theorem infoI : (Try.prog.info? 3).map (fun i => (i.zero, i.size, i.bytes)) = some (some (.int .i64 0), 1, 8) := by kernel_rfl
theorem sizeI : (Try.prog.info? 3).map (·.size) = some (Kd.int .i64).sz := by kernel_rfl
set_option maxHeartbeats 2000000 in
set_option maxRecDepth 100000 in
theorem deleteI_N {W : World} {base g n c k : Nat} {xs : List Int} {ok : Nat → Prop} (hN : Kd.N (Kd.int .i64) 3 W base ok (.slice (some ⟨g, 0, none⟩) n c) xs) (hk : k < n) (hbase : base ≤ W.heap.size) (hc : c ≤ 9223372036854775807) :
    Calls Try.prog 32 #[.slice (some ⟨g, 0, none⟩) n c, .int .i64 (k : Nat), .int .i64 ((k : Int) + 1)] W fun ex W' => ex = .returned (.slice (some ⟨g, 0, none⟩) (n - 1) c) ∧ Kd.N (Kd.int .i64) 3 W' base ok (.slice (some ⟨g, 0, none⟩) (n - 1) c) (xs.eraseIdx k) ∧ W.grownBy W' (some g) := by
  obtain ⟨q, rfl⟩ : ∃ q, n = q + 1 := ⟨n - 1, by omega⟩
  have hnc := (Kd.N_reads' hN).2.1
  have HN := Aside0.mk (Kd.N_drew hN)
  have HBd := Aside0.mk (Below.refl base W.drew)
  have HG0 := Aside0.mk (show W.grownBy W.drew (some g) from ⟨rfl, rfl, rfl, Nat.le_refl _, fun _ _ _ => rfl⟩)
  clear hN
  have hkc : k ≤ c := by omega
  have hkc1 : k + 1 ≤ c := by omega
  have hkn1 : k + 1 ≤ q + 1 := by omega
  have hkq : k ≤ q := by omega
  have hkz : 0 ≤ (k : Int) + 1 ∧ (k : Int) + 1 ≤ ((q + 1 : Nat) : Int) := by omega
  obtain ⟨A, hA, HA⟩ : ∃ A : Option Addr, (if c = k + 1 then some (⟨g, 0, none⟩ : Addr) else some ⟨g, k + 1, none⟩) = A ∧ Aside0 (A = if c = k + 1 then some (⟨g, 0, none⟩ : Addr) else (some (⟨g, 0, none⟩ : Addr)).map (·.add ((k + 1) * (Kd.int .i64).sz))) := by
    refine ⟨_, rfl, ⟨?_⟩⟩
    by_cases h : c = k + 1
    · rw [if_pos h, if_pos h]
    · rw [if_neg h, if_neg h, Option.map_some, show (k + 1) * (Kd.int .i64).sz = k + 1 from Nat.mul_one _, Addr.add_lit, Nat.zero_add]
  go_enter Try.func32, Try.ntmps32
  go_wp2_with fail
  go_region_law? (refine Kd.N_delete_step (Kd.int .i64) (w0 := W.drew) base (by simp [Region.wanted]) (.tmp 22) (.tmp 25) 24 3 rfl Try.underlying24 sizeI (g := g) (n := q + 1) (c := c) (k := k) (m := q - k) (c2 := c - (k + 1)) (A := A) (by simp [Act.eval, Act.put]) (by simp [Act.eval, Act.put]) HA.out (by omega) HN.out hk HBd.out hbase ?_; intro w1 hN1 hb1 hg1; rw [Nat.add_sub_cancel] at hN1 ⊢; have HN1 := Aside0.mk hN1; have HG1 := Aside0.mk hg1; clear hN1 hb1 hg1)
  have hcq : ¬ c = q := by omega
  have hcl : ∀ ty, (Builtin.clear_ #[24] ty #[.slice (some ⟨g, q, none⟩) 1 (c - q)]).run Try.prog w1 = .ok (.tuple #[]) (w1.setCells g q [.int .i64 0]) := fun ty =>
    run_clear_one w1 24 3 ty (.int .i64 0) Try.underlying24 Try.zeroValue3 (by decide) (by decide) g q (c - q) (fun j hj => N_room HN1.out (q + j) (by
      have : j = 0 := by have : j < 1 := hj; omega
      show q + j < c * 1
      omega))
  go_wp2
  go_ret
  obtain ⟨h2, h3⟩ := N_spare HN1.out [.int .i64 0] q (by show q * 1 ≤ q; omega)
  exact ⟨rfl, h2, ⟨h3.os.trans (HG1.out.os.trans HG0.out.os), h3.tape.trans (HG1.out.tape.trans HG0.out.tape), h3.output.trans (HG1.out.output.trans HG0.out.output), Nat.le_trans HG0.out.size (Nat.le_trans HG1.out.size h3.size), fun b hb hne => (h3.block b (Nat.lt_of_lt_of_le hb (Nat.le_trans HG0.out.size HG1.out.size)) hne).trans ((HG1.out.block b (Nat.lt_of_lt_of_le hb HG0.out.size) hne).trans (HG0.out.block b hb hne))⟩⟩
set_option maxHeartbeats 2000000 in
set_option maxRecDepth 100000 in
/-- A row is copied: what is read, into a new row. -/
theorem cloneI_N {W : World} {A : Option Addr} {n c : Nat} {xs : List Int} (hC : Kd.C (Kd.int .i64) W A n xs) (hl : n * 8 ≤ 140737488355328) (hnil : A = none → n = 0) :
    Calls Try.prog 33 #[.slice A n c] W fun ex W' => ∃ v', ex = .returned v' ∧ Kd.N (Kd.int .i64) 3 W' W.heap.size (fun k => W.heap.size ≤ k) v' xs ∧ Below W.heap.size W W' := by
  have q22 : ∀ (w : World) (a : Option Addr) (n c n' c' : Nat), (binOp .eql 24 (.slice a n c) (.slice none n' c')).run Try.prog w = .ok (.bool a.isNone) w := fun w a n c n' c' => Lib.run_eql_slice_nil w _ _ a n c n' c' Try.underlying24
  have HC := Aside0.mk hC
  have HL := Aside0.mk hl
  clear hC hl
  rcases A with _ | A
  · have hn := hnil rfl
    subst hn
    have hxs : xs = [] := List.eq_nil_of_length_eq_zero HC.out.1
    subst hxs
    go_enter Try.func33, Try.ntmps33
    go_wp2
    go_ret
    exact ⟨_, rfl, Kd.N_nil _ _ _ _ _, Below.refl _ _⟩
  · clear hnil
    have HS := Aside0.mk (rfl : W.heap.size = W.heap.size)
    go_enter Try.func33, Try.ntmps33
    have HR := Aside0.mk (Kd.F_alloc (Kd.C_F (Kd.heap_int _) HC.out) (.cells #[] 3))
    go_wp2_with (at_builtin; refine Kd.N_append_rows (Kd.int .i64) (w0 := W) W.heap.size rfl (.tmp 5) (.tmp 6) 24 3 (.int .i64 0) 8 rfl Try.underlying24 infoI rfl (by decide) (by decide) (.slice (some ⟨W.heap.size, 0, none⟩) 0 0) [] xs (some A) n c (fun k => W.heap.size ≤ k ∨ k < W.heap.size) (fun k => k < W.heap.size) rfl rfl (N_empty (Kd.int .i64) 3 W (fun k => W.heap.size ≤ k ∨ k < W.heap.size) (Or.inl (Nat.le_refl _))) HR.out (fun k hk => ⟨Or.inr hk, fun he => by simp [Value.ownBlock] at he; omega⟩) (fun k hk => Or.inl (by simp at hk; omega)) (below_alloc (Below.refl _ _) _) (by simp) (by have := HL.out; simpa using this) ?_; intro v1 w1 hN1 hb1 hg1 hat1; have HN1 := Aside0.mk hN1; have HB1 := Aside0.mk hb1; clear hN1 hb1 hg1 hat1)
    go_ret
    exact ⟨v1, rfl, N_flat flat_int HN1.out (fun k hk => Kd.N_base HN1.out k hk), HB1.out⟩
end Go.Proofs.Ytfnfhiggmppecaa.GO
