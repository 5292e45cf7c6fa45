/- law04.told, walked: it says true of a range over a map's pairs from a key on. Conditions: the map and the document's are alike; at most 900 pairs. -/
import Derived.Test.YtfnfhiggmppecaaOTold
namespace Go.Proofs.Ytfnfhiggmppecaa.GO.Ref
open Go.RowKit Go.Proofs.Ytfnfhiggmppecaa.Ownd Go.Proofs.YtfnfhiggmppecaaW.PrintWords Go.Proofs.YtfnfhiggmppecaaW.PrintLast Go.Proofs.YtfnfhiggmppecaaW.PrintMore
set_option linter.unusedVariables false
set_option linter.unusedSimpArgs false
def BL (g b : Nat) (v vk vv v7 : Value) (xs zs m : List MS.P2) (rest : List Thing) : List Thing :=
  [.box g (.cells #[v] 48 (0, 0)), .row MS.kP 79 v xs, .row Kd.string 9 vk (m.map (·.1)), .row (Kd.int .i64) 3 vv (m.map (·.2)), .row MS.kP 79 v7 zs, .box b (.cells #[v7] 46 (0, 0)), .gone, .gone, .gone, .gone, .gone, .gone] ++ rest
theorem range43_O {w W : World} {g gm gw gt ga gr b : Nat} {v vk vv v7 vt : Value} {xs m : List MS.P2} {from_ : ByteArray} {rest : List Thing} (h : Own w W (TL g gm gw gt ga gr b v vk vv v7 vt xs (xs.drop (MS.pos xs from_)) m ((xs.drop (MS.pos xs from_)).map (·.1)) 0 rest)) (ha : Alike xs m) (hl : xs.length ≤ 900) :
    Calls Try.prog 57 #[.func (.func 43) #[] #[.pointer (some ⟨ga, 0, none⟩), .pointer (some ⟨gt, 0, none⟩), .pointer (some ⟨gr, 0, none⟩), .pointer (some ⟨gw, 0, none⟩), .pointer (some ⟨gm, 0, none⟩)], .pointer (some ⟨b, 0, none⟩)] W fun ex W' =>
      ex = .returned (.tuple #[]) ∧ ∃ v', Own w W' (TL g gm gw gt ga gr b v' vk vv v7 vt xs (xs.drop (MS.pos xs from_)) m ((xs.drop (MS.pos xs from_)).map (·.1)) (xs.drop (MS.pos xs from_)).length rest) := by
  have hzl : (xs.drop (MS.pos xs from_)).length ≤ 900 := by rw [List.length_drop]; omega
  have hzm : ∀ p ∈ xs.drop (MS.pos xs from_), p ∈ xs := fun p hp => List.mem_of_mem_drop hp
  generalize xs.drop (MS.pos xs from_) = zs at h hzl hzm ⊢
  obtain ⟨A7, c7, rfl, _, _⟩ := h.reads 4 rfl
  have hb : W.cell? ⟨b, 0, none⟩ = some (.slice A7 zs.length c7) := h.cell 5 rfl 0
  refine (MS.each1_calls (xs := zs) 43 #[.pointer (some ⟨ga, 0, none⟩), .pointer (some ⟨gt, 0, none⟩), .pointer (some ⟨gr, 0, none⟩), .pointer (some ⟨gw, 0, none⟩), .pointer (some ⟨gm, 0, none⟩)] (Go.Proofs.enters_of Try.func43 (by kernel_rfl) rfl)
    (fun k w' => ∃ v', Own w w' (TL g gm gw gt ga gr b v' vk vv (.slice A7 zs.length c7) vt xs zs m (zs.map (·.1)) k rest)) (fun _ => False) (by omega) A7 c7 hb ?_ ?_ ?_ ⟨v, h⟩).mono ?_
  · rintro k w1 w2 hb2 ⟨v', h1⟩
    exact ⟨v', h1.below hb2⟩
  · rintro k w1 hk ⟨v', h1⟩
    obtain ⟨g7, c7', e, e1, e2⟩ := MS.pair_at h1 4 rfl k hk
    simp only [Value.slice.injEq] at e
    obtain ⟨rfl, _, _⟩ := e
    exact ⟨g7, rfl, e1, e2⟩
  · rintro k w1 hk ⟨v', h1⟩
    have hk2 : k < (zs.map (·.1)).length := by rw [List.length_map]; exact hk
    have hc := clos43_O h1 ha hl hk2 (by rw [List.length_map]; exact hzl) zs[k].2 (by rw [List.getElem_map]; exact hzm _ (List.getElem_mem hk))
    rw [List.getElem_map] at hc
    refine hc.mono ?_
    rintro e w2 ⟨rfl, h2⟩
    exact Or.inl ⟨rfl, h2⟩
  · rintro e w2 ⟨rfl, h2⟩
    exact ⟨rfl, h2.resolve_right id⟩
set_option maxHeartbeats 8000000 in
set_option maxRecDepth 100000 in
theorem told_O {w W : World} {g b : Nat} {v vk vv v7 : Value} {xs m : List MS.P2} {from_ : ByteArray} {rest : List Thing} (h : Own w W (BL g b v vk vv v7 xs (xs.drop (MS.pos xs from_)) m rest)) (ha : Alike xs m) (hl : xs.length ≤ 900) :
    Calls Try.prog 28 #[.pointer (some ⟨g, 0, none⟩), .func (.func 57) #[] #[.pointer (some ⟨b, 0, none⟩)], .agg #[vk, vv], .string from_] W fun ex W' =>
      ex = .returned (.bool true) ∧ ∃ v', Own w W' (BL g b v' vk vv v7 xs (xs.drop (MS.pos xs from_)) m rest) := by
  have hml : m.length ≤ 900 := by rw [← alike_len ha]; exact hl
  obtain ⟨A0, c0, rfl, hc0, -⟩ := h.reads 2 rfl
  obtain ⟨A1, c1, rfl, hc1, -⟩ := h.reads 3 rfl
  have H1 : Aside0 (Own w ((W.alloc (.cells #[.pointer (some ⟨g, 0, none⟩)] 65)).alloc (.cells #[.slice A0 (m.map (·.1)).length c0, .slice A1 (m.map (·.2)).length c1] 56)) ((((BL g b v (.slice A0 (m.map (·.1)).length c0) (.slice A1 (m.map (·.2)).length c1) v7 xs (xs.drop (MS.pos xs from_)) m rest)).set 6 (.box W.heap.size (.cells #[.pointer (some ⟨g, 0, none⟩)] 65 (0, 0)))).set 7 (.box (W.heap.size + 1) (.cells #[.slice A0 (m.map (·.1)).length c0, .slice A1 (m.map (·.2)).length c1] 56 (0, 0))))) := ⟨by
    have h := (h.alloc 6 rfl (.cells #[.pointer (some ⟨g, 0, none⟩)] 65)).alloc 7 rfl (.cells #[.slice A0 (m.map (·.1)).length c0, .slice A1 (m.map (·.2)).length c1] 56)
    rw [show (W.alloc (.cells #[.pointer (some ⟨g, 0, none⟩)] 65)).heap.size = W.heap.size + 1 by simp] at h
    exact h⟩
  have hA := H1.out.reads 2 rfl
  have hB := H1.out.reads 3 rfl
  obtain ⟨_, _, e1, _, hC0⟩ := hA
  cases e1
  obtain ⟨_, _, e2, _, hC1⟩ := hB
  cases e2
  have HF := concordanceref04_From.calls 1004000 A0 c0 (m.map (·.1)) A1 c1 (m.map (·.2)) from_ _ _ hC0 hc0 hC1 hc1 (from_f m from_ (by omega))
  rw [alike_from ha] at HF
  have q0 : (m.map (·.1)).length = m.length := List.length_map ..
  have q1 : (m.map (·.2)).length = m.length := List.length_map ..
  have HFR := Aside0.mk HF
  have HA := Aside0.mk ha
  clear HF ha hC0 hC1 h
  rw [q0, q1] at H1 HFR ⊢
  clear q0 q1 hc0 hc1
  go_enter Try.func28, Try.ntmps28
  go_upto_region 4 with (go_at_call 42; refine HFR.out.mono ?_; rintro e w1 ⟨v0, rfl, hR, hb1⟩; have H2 := Aside0.mk (H1.out.row_new 8 rfl hb1 (ok := fun k => _ ≤ k) (N_flat (fun _ _ _ _ h => h) (Kd.R_N hR) (fun k hk => Kd.N_base (Kd.R_N hR) k hk)) (fun k hk => hk)); clear hR hb1; obtain ⟨At, nt, ct, rfl⟩ := H2.out.isSlice 8 rfl)
  have H3 : Aside0 (Own w (((w1.alloc (.cells #[.slice At nt ct] 45)).alloc (.cells #[.int .i64 0] 3)).alloc (.cells #[.bool true] 4)) (TL g W.heap.size (W.heap.size + 1) w1.heap.size (w1.heap.size + 1) (w1.heap.size + 1 + 1) b v (.slice A0 m.length c0) (.slice A1 m.length c1) v7 (.slice At nt ct) xs (xs.drop (MS.pos xs from_)) m ((xs.drop (MS.pos xs from_)).map (·.1)) 0 rest)) := ⟨by
    have h := ((H2.out.alloc 9 rfl (.cells #[.slice At nt ct] 45)).alloc 10 rfl (.cells #[.int .i64 0] 3)).alloc 11 rfl (.cells #[.bool true] 4)
    rw [show ((w1.alloc (.cells #[.slice At nt ct] 45)).alloc (.cells #[.int .i64 0] 3)).heap.size = w1.heap.size + 1 + 1 by simp, show (w1.alloc (.cells #[.slice At nt ct] 45)).heap.size = w1.heap.size + 1 by simp] at h
    exact h⟩
  clear H2 H1 HFR
  generalize ((w1.alloc (.cells #[.slice At nt ct] 45)).alloc (.cells #[.int .i64 0] 3)).alloc (.cells #[.bool true] 4) = w3 at H3 ⊢
  generalize w1.heap.size + 1 + 1 = gr at H3 ⊢
  generalize w1.heap.size + 1 = ga at H3 ⊢
  generalize w1.heap.size = gt at H3 ⊢
  generalize W.heap.size + 1 = gw at H3 ⊢
  generalize W.heap.size = gm at H3 ⊢
  go_upto_region 5 with (go_at_call 57; refine (range43_O H3.out HA.out hl).mono ?_; rintro e w4 ⟨rfl, v', hO4⟩; have H4 := Aside0.mk hO4; clear hO4)
  obtain ⟨_, _, e8, _, _⟩ := H4.out.reads 8 rfl
  cases e8
  have z1 : w4.cell? ⟨gr, 0, none⟩ = some (.bool true) := H4.out.cell 11 rfl 0
  have z2 : w4.cell? ⟨ga, 0, none⟩ = some (.int .i64 ((xs.drop (MS.pos xs from_)).length : Nat)) := H4.out.cell 10 rfl 0
  have z3 : w4.cell? ⟨gt, 0, none⟩ = some (.slice At ((xs.drop (MS.pos xs from_)).map (·.1)).length ct) := H4.out.cell 9 rfl 0
  rw [List.length_map] at z3
  have H5 := Aside0.mk ((((((H4.out.drop 6).drop 7).drop 8).drop 9).drop 10).drop 11)
  clear H4 H3
  generalize (xs.drop (MS.pos xs from_)).length = nz at z2 z3
  go_wp2_with fail
  go_ret
  exact ⟨by simp, v', H5.out⟩
end Go.Proofs.Ytfnfhiggmppecaa.GO.Ref
