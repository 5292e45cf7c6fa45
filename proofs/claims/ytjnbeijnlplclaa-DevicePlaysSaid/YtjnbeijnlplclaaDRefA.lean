/- The document's device in memory: its sectors, its writes (two rows) and its keeps as rows of the call's own; Full. Conditions: texts of at most 256 bytes. -/
import Derived.Test.YtjnbeijnlplclaaDHL
import Derived.Test.YtjnbeijnlplclaaHCopy
namespace Go.Proofs.Ytjnbeijnlplclaa.Ownd
open Go.RowKit Go.Proofs.YtjnbeijnlplclaaW.PrintWords Go.Proofs.YtjnbeijnlplclaaW.PrintLast Go.Proofs.YtjnbeijnlplclaaW.PrintMore
set_option linter.unusedVariables false
set_option linter.unusedSimpArgs false
/-- The document's device, plainly. -/
structure RD where
  last : List ByteArray
  wait : List PW
  off : Bool
  fuse : Int
  keep : List Int
  cmds : Int
def RV (d : Nat) (vl va vd vk : Value) (R : RD) : List Thing :=
  [.box d (.cells #[vl, va, vd, .bool R.off, .int .i64 R.fuse, vk, .int .i64 R.cmds] 46 (0, 0)), .row Kd.string 9 vl R.last, .row (Kd.int .i64) 3 va (R.wait.map (·.1)), .row Kd.string 9 vd (R.wait.map (·.2)), .row (Kd.int .i64) 3 vk R.keep]
def HasR (w W : World) (post : List Thing) (d : Nat) (R : RD) : Prop := ∃ vl va vd vk, Own w W (RV d vl va vd vk R ++ post)
theorem HasR.below {w W W1 : World} {post : List Thing} {d : Nat} {R : RD} (h : HasR w W post d R) (hb : Below W.heap.size W W1) : HasR w W1 post d R := by
  obtain ⟨vl, va, vd, vk, hO⟩ := h
  exact ⟨vl, va, vd, vk, hO.below hb⟩
theorem flatS (W W' : World) (x : ByteArray) (c : List Value) (h : Kd.string.K W x c) : Kd.string.K W' x c := h
theorem infoS : (Try.prog.info? 9).map (fun i => (i.zero, i.size, i.bytes)) = some (some (.string ⟨#[]⟩), 1, 16) := by kernel_rfl
theorem Own.str_at {w W : World} {l : List Thing} {e : Nat} {v : Value} {zs : List ByteArray} (h : Own w W l) (j : Nat) (hj : l[j]? = some (.row Kd.string e v zs)) (i : Nat) (hi : i < zs.length) : ∃ g c, v = .slice (some ⟨g, 0, none⟩) zs.length c ∧ zs.length ≤ c ∧ W.cell? ⟨g, i, none⟩ = some (.string zs[i]) ∧ W.frozen? ⟨g, i, none⟩ = false := by
  obtain ⟨g, c, cs, h1, h2, _, hK, hcell, hf⟩ := h.elem j hj i hi
  have hK' : cs = [.string zs[i]] := hK
  have h3 := hcell 0 (.string zs[i]) (by rw [hK']; rfl)
  have h4 := hf 0
  rw [show i * Kd.string.sz + 0 = i from Nat.mul_one i] at h3 h4
  exact ⟨g, c, h1, h2, h3, h4⟩
section
variable {P : Program} {ops : Array Oper} {rest : List Oper} {o : Oper} {a : Act} {Q : Exit → Act → World → Prop} {α : Type}
/-- append([]T{}, xs...), behind 'at_builtin': a row of the call's own, copied into a new one. -/
theorem Own.fresh (d : Kd α) (hflat : ∀ (W W' : World) (x : α) (c : List Value), d.K W x c → d.K W' x c) {w W : World} {l : List Thing} (hO : Own w W l) (j s0 : Nat) {A : Option Addr} {m c : Nat} {xs : List α} {e : TypeId} (hj : l[j]? = some (.row d e (.slice A m c) xs)) (hs0 : l[s0]? = some .gone) (hgd : o.guard = none) (s x : Operand) (t : TypeId) (z : Value) (bytes : Nat)
    (ho : o.op = .call { callee := .builtin .append, args := #[s, x], argTypes := #[t, t] })
    (ht : P.underlying t = some (.slice e)) (hinfo : (P.info? e).map (fun i => (i.zero, i.size, i.bytes)) = some (some z, d.sz, bytes)) (hz : z.cells.size = d.sz) (hsz : 0 < d.sz) (hb0 : 0 < bytes)
    (hs : a.eval s = .slice (some ⟨W.heap.size, 0, none⟩) 0 0) (hx : a.eval x = .slice A m c) (hl : m * bytes ≤ 140737488355328)
    (h : ∀ v1 w1, Own w w1 (l.set s0 (.row d e v1 xs)) → wpList P ops Q rest (a.put o.dst v1) w1) :
    wpList P ops Q (o :: rest) a (W.alloc (.cells #[] e)) := by
  obtain ⟨ok, hN⟩ := hO.N j hj
  refine Kd.N_append_rows d (w0 := W) W.heap.size hgd s x t e z bytes ho ht hinfo hz hsz hb0 (.slice (some ⟨W.heap.size, 0, none⟩) 0 0) [] xs A m c (fun k => W.heap.size ≤ k ∨ k < W.heap.size) (fun k => ok k ∧ k < W.heap.size) hs hx (N_empty d e W _ (Or.inl (Nat.le_refl _))) (Kd.F_alloc (Kd.N_F (Kd.N_bound hN)) _) (fun k hk => ⟨Or.inr hk.2, fun he => by simp [Value.ownBlock] at he; omega⟩) (fun k hk => Or.inl (by simp at hk; omega)) (below_alloc (Below.refl _ _) _) (by simp) (by simpa using hl) ?_
  intro v1 w1 hN1 hb1 _ _
  rw [List.nil_append] at hN1
  exact h v1 w1 (hO.row_new s0 hs0 hb1 (N_flat hflat hN1 (fun k hk => Kd.N_base hN1 k hk)) (fun k hk => hk))
/-- xs[i] = s, of a row of texts. -/
theorem Own.set_str {w W : World} {l : List Thing} (hO : Own w W l) (j : Nat) {e g n cap : Nat} {xs : List ByteArray} (hj : l[j]? = some (.row Kd.string e (.slice (some ⟨g, 0, none⟩) n cap) xs)) (hN : o.dst = none) (hgd : o.guard = none) (t : TypeId) (p x : Operand) (ho : o.op = .store t p x) (ht : (P.info? t).map (·.size) = some 1)
    (i : Nat) (s : ByteArray) (hp : a.eval p = .pointer (some ⟨g, i, none⟩)) (hx : a.eval x = .string s) (hi : i < xs.length)
    (h : ∀ w1, Own w w1 (l.set j (.row Kd.string e (.slice (some ⟨g, 0, none⟩) n cap) (xs.set i s))) → wpList P ops Q rest a w1) : wpList P ops Q (o :: rest) a W := by
  obtain ⟨g', c', e1, h2, h3, h4⟩ := hO.str_at j hj i hi
  simp only [Value.slice.injEq, Option.some.injEq, Addr.mk.injEq] at e1
  obtain ⟨⟨rfl, -, -⟩, rfl, rfl⟩ := e1
  obtain ⟨hB, col, hc⟩ := hO
  refine Kd.N_store Kd.string (w0 := w) w.heap.size hN hgd t p x ho e (i : Int) 0 xs s (.string s) [.string s] [.string xs[i]] (okc w.heap.size W col j) (fun _ => False) hp (by rw [Int.toNat_natCast]; exact (Nat.mul_one i).symm) hx rfl ht (by simp [Value.oneCell']) (hc j _ hj) (by omega) (by omega) rfl ?_ (Nat.le_refl 1) ?_ (fun _ hk => hk.elim) hB ?_
  · intro t u hu
    have ht0 : t = 0 := by
      have := (List.getElem?_eq_some_iff.1 hu).1
      simpa using this
    subst ht0
    have hu' : Value.string xs[i] = u := by simpa using hu
    rw [Int.toNat_natCast, show i * Kd.string.sz + 0 = i from Nat.mul_one i, ← hu']
    exact h3
  · exact fun _ _ => rfl
  · intro w1 hr _ hg
    rw [Int.toNat_natCast] at hr
    exact h w1 (own_row hB hc j hj (by simpa [Value.ownBlock] using hg) hr)
end
theorem size8 : (Try.prog.info? 5).map (·.size) = some 1 := by kernel_rfl
theorem size_str : (Try.prog.info? 9).map (·.size) = some 1 := by kernel_rfl
open Copy in
theorem made_at (W : World) (n : Nat) : BytesAt (W.alloc (.cells (madeCells #[Value.int .u8 0] n) 5)) W.heap.size (List.replicate n 0) := by
  intro j hj
  have hj' : j < n := by simpa using hj
  have hb := blk_new W (.cells (madeCells #[Value.int .u8 0] n) 5)
  refine ⟨?_, ?_⟩
  · rw [blk_cell hb j]
    simp [madeCells, hj', List.getD_eq_getElem?_getD, Nat.mod_one]
  · exact blk_frozen hb j
theorem make256 : ∀ W : World, (Instr.makeSlice 83 (.int .i64 256) (.int .i64 256)).run Try.prog W = .ok (.slice (some ⟨W.heap.size, 0, none⟩) 256 256) (W.alloc (.cells (madeCells #[.int .u8 0] 256) 5)) :=
  fun W => print_make (P := Try.prog) 83 5 .u8 1 Try.underlying83 (by kernel_rfl) (by omega) 256 (by omega) W
theorem pad_list (n : Nat) {s : ByteArray} : splice (List.replicate n (0 : UInt8)) 0 s.data.toList = (s ++ Bld.zs (n - s.size)).data.toList := by
  have hs : s.data.toList.length = s.size := by simp
  unfold splice
  rw [ByteArray.data_append, Array.toList_append, Bld.zs_data, hs, List.take_zero, List.nil_append, Nat.zero_add, List.drop_replicate]
theorem str_of_bytes (L : List UInt8) : strOfNums (L.map fun b => (b.toNat : Int)) = ⟨L.toArray⟩ := by
  unfold strOfNums
  congr 2
  rw [List.map_map]
  conv => rhs; rw [← List.map_id L]
  apply List.map_congr_left
  intro b _
  simp
set_option maxHeartbeats 2000000 in
set_option maxRecDepth 100000 in
open Copy in
theorem full_calls (s : ByteArray) (h : s.size ≤ 256) (w : World) : Calls Try.prog 32 #[.string s] w fun ex w' => ex = .returned (.string (pad s)) ∧ Below w.heap.size w w' := by
  have hmk := make256
  have hB0 := made_at w 256
  have hb1 := bytesAt_set s hB0 (off := 0) (by simpa using h)
  rw [pad_list 256] at hb1
  change BytesAt _ _ (pad s).data.toList at hb1
  have hcp : ∀ ty, (Builtin.copy_ #[83, 9] ty #[.slice (some ⟨w.heap.size, 0, none⟩) 256 256, .string s]).run Try.prog (w.alloc (.cells (madeCells #[.int .u8 0] 256) 5)) = _ := fun ty => run_copy_str (P := Try.prog) _ 83 9 ty 5 w.heap.size 0 256 256 s Try.underlying83 size8 h _ hB0 (by simpa using h)
  have hbl : Below w.heap.size w ((w.alloc (.cells (madeCells #[.int .u8 0] 256) 5)).setCells w.heap.size 0 (Lib.strCells s)) := below_setCells (Nat.le_refl _) _ _ (below_alloc (Below.refl _ _) _)
  have hps := pad_size h
  generalize (w.alloc (.cells (madeCells #[.int .u8 0] 256) 5)).setCells w.heap.size 0 (Lib.strCells s) = w2 at hb1 hcp hbl
  have hcv := run_convert_bytes_arg (P := Try.prog) w2 83 5 Try.underlying83 Try.underlying5 w.heap.size 0 256 256 ((pad s).data.toList.map fun b => (b.toNat : Int)) (by rw [List.length_map]; exact hps) (fun i hi => by
    have hi' : i < (pad s).data.toList.length := by rw [show (pad s).data.toList.length = 256 from hps]; exact hi
    rw [(hb1 (0 + i) (by omega)).1]
    simp [List.getD_eq_getElem?_getD, List.getElem?_eq_getElem hi']) 9 Try.underlying9
  rw [str_of_bytes] at hcv
  clear hB0 hb1 hps
  have HB := Aside0.mk hbl
  clear hbl
  go_enter Try.func32, Try.ntmps32
  go_wp2
  go_ret
  exact ⟨rfl, HB.out⟩
end Go.Proofs.Ytjnbeijnlplclaa.Ownd
