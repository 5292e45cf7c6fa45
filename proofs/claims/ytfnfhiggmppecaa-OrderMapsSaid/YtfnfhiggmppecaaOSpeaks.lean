/- law04.speaks: true, whatever the memory. No condition. -/
import Derived.Test.YtfnfhiggmppecaaORecB
import Derived.Test.YtfnfhiggmppecaaOMSC
namespace Go.Proofs.Ytfnfhiggmppecaa.GO
open Go.RowKit Go.Proofs.Ytfnfhiggmppecaa.Ownd Go.Proofs.YtfnfhiggmppecaaW.PrintWords Go.Proofs.YtfnfhiggmppecaaW.PrintLast Go.Proofs.YtfnfhiggmppecaaW.PrintMore
set_option linter.unusedVariables false
set_option linter.unusedSimpArgs false
set_option maxHeartbeats 1000000 in
set_option maxRecDepth 100000 in
theorem clos_O {w W : World} {l : List Thing} (h : Own w W l) (i g : Nat) (a x : Int) (hi : l[i]? = some (.box g (.cells #[.int .i64 a] 3 (0, 0)))) :
    Calls Try.prog 30 #[.int .i64 x, .pointer (some ⟨g, 0, none⟩)] W fun ex W' => ex = .returned (.bool false) ∧ Own w W' (l.set i (.box g (.cells #[.int .i64 x] 3 (0, 0)))) := by
  have hc := h.cell i hi 0
  have hf := h.frozen i hi 0
  replace hc : W.cell? ⟨g, 0, none⟩ = some (.int .i64 a) := hc
  have HO := Aside0.mk h
  clear h
  go_enter Try.func30, Try.ntmps30
  go_wp2
  go_ret
  exact ⟨rfl, HO.out.store i hi 0 (.int .i64 x) rfl⟩
theorem run_eql_func_nil {P : Program} (w : World) {t : TypeId} {a b : Array TypeId} {c : Bool} (f : Fn) (x y : Array Value) (ht : P.underlying t = some (.func a b c)) : (binOp .eql t (.func f x y) .nilFunc).run P w = .ok (.bool false) w := by
  have h : ∀ d : Nat, (Op.equalIn (d + 1) t (.func f x y) .nilFunc).run P w = .ok false w := fun d => by
    simp [Op.equalIn, run_underlying ht]
  simp only [binOp]
  simp [Op.equal, Op.maxDepth, h 9999]
def strA : ByteArray := ⟨#[97]⟩
set_option maxHeartbeats 4000000 in
set_option maxRecDepth 100000 in
theorem speaks_calls (W : World) : Calls Try.prog 7 #[] W fun ex W' => ex = .returned (.bool true) ∧ Below W.heap.size W W' := by
  have H0 : Own W (W.alloc (.cells #[.slice none 0 0] 26)) [.box W.heap.size (.cells #[.slice none 0 0] 26 (0, 0)), .row (Kd.int .i64) 3 (.slice none 0 0) ([] : List Int), .gone, .gone, .gone, .gone, .gone] :=
    ((Own.start W 7).alloc 0 rfl (.cells #[.slice none 0 0] 26)).nil 1 (Kd.int .i64) 3
  have H := Aside0.mk H0
  clear H0
  have heq : ∀ (w : World) (x y : Array Value), (binOp .eql 31 (.func (.func 34) x y) .nilFunc).run Try.prog w = .ok (.bool false) w := fun w x y => run_eql_func_nil w _ x y Try.underlying31
  go_enter Try.func7, Try.ntmps7
  go_wp2_with fail
  refine (use_O H.out (i := 0) (j := 1) (g := W.heap.size) (v := .slice none 0 0) (xs := []) ⟨rfl, rfl, by decide⟩ (by decide) 1).mono ?_
  rintro e w1 ⟨v1, rfl, h1⟩
  have H1 := Aside0.mk (show Own W w1 [.box W.heap.size (.cells #[v1] 26 (0, 0)), .row (Kd.int .i64) 3 v1 [1], .gone, .gone, .gone, .gone, .gone] from h1)
  clear h1 H
  go_wp2_with fail
  refine (use_O H1.out (i := 0) (j := 1) (g := W.heap.size) (v := v1) (xs := [1]) ⟨rfl, rfl, by decide⟩ (by decide) 2).mono ?_
  rintro e w2 ⟨v2, rfl, h2⟩
  have H2 := Aside0.mk (show Own W w2 [.box W.heap.size (.cells #[v2] 26 (0, 0)), .row (Kd.int .i64) 3 v2 [1, 2], .gone, .gone, .gone, .gone, .gone] from h2)
  clear h2 H1
  go_wp2_with fail
  refine (use_O H2.out (i := 0) (j := 1) (g := W.heap.size) (v := v2) (xs := [1, 2]) ⟨rfl, rfl, by decide⟩ (by decide) 1).mono ?_
  rintro e w3 ⟨v3, rfl, h3⟩
  have H3 := Aside0.mk (show Own W w3 [.box W.heap.size (.cells #[v3] 26 (0, 0)), .row (Kd.int .i64) 3 v3 [2, 1], .gone, .gone, .gone, .gone, .gone] from h3)
  clear h3 H2
  have H4 := Aside0.mk (show Own W (w3.alloc (.cells #[.int .i64 0] 3)) [.box W.heap.size (.cells #[v3] 26 (0, 0)), .row (Kd.int .i64) 3 v3 [2, 1], .box w3.heap.size (.cells #[.int .i64 0] 3 (0, 0)), .gone, .gone, .gone, .gone] from H3.out.alloc 2 rfl (.cells #[.int .i64 0] 3))
  clear H3
  go_wp2_with fail
  refine (oldest_O H4.out (i := 0) (j := 1) (g := W.heap.size) (v := v3) (xs := [2, 1]) ⟨rfl, rfl, by decide⟩ (by decide) 3 4 rfl rfl (by decide)).mono ?_
  rintro e w5 ⟨b, v5, rfl, h5⟩
  have h5' : Own W w5 [.box W.heap.size (.cells #[v3] 26 (0, 0)), .row (Kd.int .i64) 3 v3 [2, 1], .box w3.heap.size (.cells #[.int .i64 0] 3 (0, 0)), .row (Kd.int .i64) 3 v5 [2, 1], .box b (.cells #[v5] 24 (0, 0)), .gone, .gone] := h5
  obtain ⟨A5, c5, rfl, _, _⟩ := h5'.reads 3 rfl
  have H5 := Aside0.mk h5'
  clear h5 h5' H4
  have hb : w5.cell? ⟨b, 0, none⟩ = some (.slice A5 2 c5) := H5.out.cell 4 rfl 0
  have HB := Aside0.mk hb
  clear hb heq
  have heq : ∀ (w : World) (x y : Array Value), (binOp .eql 31 (.func (.func 34) x y) .nilFunc).run Try.prog w = .ok (.bool false) w := fun w x y => run_eql_func_nil w _ x y Try.underlying31
  go_wp2_with fail
  refine (each_calls (xs := [2, 1]) 30 #[.pointer (some ⟨w3.heap.size, 0, none⟩)] (Go.Proofs.enters_of Try.func30 (by kernel_rfl) rfl)
    (fun k w' => k = 0 ∧ Own W w' [.box W.heap.size (.cells #[v3] 26 (0, 0)), .row (Kd.int .i64) 3 v3 [2, 1], .box w3.heap.size (.cells #[.int .i64 0] 3 (0, 0)), .row (Kd.int .i64) 3 (.slice A5 2 c5) [2, 1], .box b (.cells #[.slice A5 2 c5] 24 (0, 0)), .gone, .gone])
    (fun w' => Own W w' [.box W.heap.size (.cells #[v3] 26 (0, 0)), .row (Kd.int .i64) 3 v3 [2, 1], .box w3.heap.size (.cells #[.int .i64 2] 3 (0, 0)), .row (Kd.int .i64) 3 (.slice A5 2 c5) [2, 1], .box b (.cells #[.slice A5 2 c5] 24 (0, 0)), .gone, .gone])
    (by decide) A5 c5 HB.out ?_ ?_ ⟨rfl, H5.out⟩).mono ?_
  · rintro k w' hk ⟨rfl, hO⟩
    obtain ⟨g, c, e, _, hx⟩ := hO.int_at 3 rfl 0 (by decide)
    simp only [Value.slice.injEq] at e
    obtain ⟨rfl, _, _⟩ := e
    exact ⟨g, rfl, hx⟩
  · rintro k w' hk ⟨rfl, hO⟩
    refine (clos_O hO 2 w3.heap.size 0 2 rfl).mono ?_
    rintro e w2' ⟨rfl, h⟩
    exact Or.inr ⟨rfl, h⟩
  rintro e w6 ⟨rfl, h6⟩
  replace h6 : Own W w6 [.box W.heap.size (.cells #[v3] 26 (0, 0)), .row (Kd.int .i64) 3 v3 [2, 1], .box w3.heap.size (.cells #[.int .i64 2] 3 (0, 0)), .row (Kd.int .i64) 3 (.slice A5 2 c5) [2, 1], .box b (.cells #[.slice A5 2 c5] 24 (0, 0)), .gone, .gone] := by
    rcases h6 with ⟨h, _⟩ | h
    · cases h
    · exact h
  have H6 := Aside0.mk h6
  clear h6 H5 HB heq
  have H7 := Aside0.mk (show Own W (w6.alloc (.cells #[.slice none 0 0] 48)) [.box W.heap.size (.cells #[v3] 26 (0, 0)), .row (Kd.int .i64) 3 v3 [2, 1], .box w3.heap.size (.cells #[.int .i64 2] 3 (0, 0)), .row (Kd.int .i64) 3 (.slice A5 2 c5) [2, 1], .box b (.cells #[.slice A5 2 c5] 24 (0, 0)), .box w6.heap.size (.cells #[.slice none 0 0] 48 (0, 0)), .row MS.kP 79 (.slice none 0 0) ([] : List MS.P2)] from (H6.out.alloc 5 rfl (.cells #[.slice none 0 0] 48)).nil 6 MS.kP 79)
  clear H6
  go_wp2_with fail
  refine (MS.set_O H7.out (i := 5) (j := 6) (g := w6.heap.size) (v := .slice none 0 0) (xs := []) ⟨rfl, rfl, by decide⟩ List.Pairwise.nil (by decide) strA 1).mono ?_
  rintro e w8 ⟨v8, rfl, h8⟩
  have H8 := Aside0.mk (show Own W w8 [.box W.heap.size (.cells #[v3] 26 (0, 0)), .row (Kd.int .i64) 3 v3 [2, 1], .box w3.heap.size (.cells #[.int .i64 2] 3 (0, 0)), .row (Kd.int .i64) 3 (.slice A5 2 c5) [2, 1], .box b (.cells #[.slice A5 2 c5] 24 (0, 0)), .box w6.heap.size (.cells #[v8] 48 (0, 0)), .row MS.kP 79 v8 [(strA, 1)]] from h8)
  clear h8 H7
  go_wp2_with fail
  have hh : MS.has [(strA, (1 : Int))] strA = true := by decide +kernel
  have hv : MS.valL [(strA, (1 : Int))] strA = 1 := by decide +kernel
  refine (MS.get_O H8.out (i := 5) (j := 6) (g := w6.heap.size) (v := v8) (xs := [(strA, 1)]) ⟨rfl, rfl, by decide⟩ (List.pairwise_singleton _ _) (by decide) strA).mono ?_
  rintro e w9 ⟨rfl, h9⟩
  rw [hh, hv]
  clear hh hv
  have H9 := Aside0.mk (H8.out.below h9)
  clear h9 H8
  have hc9 : w9.cell? ⟨w3.heap.size, 0, none⟩ = some (.int .i64 2) := H9.out.cell 2 rfl 0
  go_wp2_with (first
    | (go_at_call 13; refine (len_O H9.out (i := 0) (j := 1) (g := W.heap.size) (v := v3) (xs := [2, 1]) ⟨rfl, rfl, by decide⟩).mono ?_; rintro e w' ⟨rfl, rfl⟩)
    | (go_at_call 22; refine (MS.len_O H9.out (i := 5) (j := 6) (g := w6.heap.size) (v := v8) (xs := [(strA, 1)]) ⟨rfl, rfl, by decide⟩).mono ?_; rintro e w' ⟨rfl, rfl⟩))
  go_ret
  exact ⟨rfl, H9.out.1⟩
end Go.Proofs.Ytfnfhiggmppecaa.GO
