/- law03.DeviceNil, walked: it says true. Condition: none. -/
import Derived.Test.YtjnbeijnlplclaaDSpeaks
namespace Go.Proofs.Ytjnbeijnlplclaa.Ownd
open Go.RowKit Go.Proofs.YtjnbeijnlplclaaW.PrintWords Go.Proofs.YtjnbeijnlplclaaW.PrintLast Go.Proofs.YtjnbeijnlplclaaW.PrintMore
set_option linter.unusedVariables false
set_option linter.unusedSimpArgs false
set_option maxHeartbeats 4000000 in
set_option maxRecDepth 100000 in
theorem nil_calls (i : Int) (s : ByteArray) (W : World) : Calls Try.prog 7 #[.int .i64 i, .string s] W fun ex W' => ex = .returned (.bool true) ∧ Below W.heap.size W W' := by
  go_enter Try.func7, Try.ntmps7
  go_wp2_with (first
    | (go_at_call 8; refine (speaks_calls W).mono ?_; rintro e w1 ⟨rfl, hb1⟩; have HB1 := Aside0.mk hb1; clear hb1)
    | (go_at_call 14; refine (read_nil i).mono ?_; rintro e w2 ⟨rfl, hb2⟩; have HB2 := Aside0.mk (HB1.out.trans (hb2.mono HB1.out.size)); clear hb2 HB1)
    | (go_at_call 16; refine (fuse_nil i _).mono ?_; rintro e w3 ⟨rfl, hw⟩; rw [hw]; clear hw)
    | (go_at_call 12; refine (blow_nil _).mono ?_; rintro e w3 ⟨rfl, hw⟩; rw [hw]; clear hw)
    | (go_at_call 13; refine on_nil.mono ?_; rintro e w3 ⟨rfl, hw⟩; rw [hw]; clear hw)
    | (go_at_call 23; refine open_nil.mono ?_; rintro e w3 ⟨rfl, hw⟩; rw [hw]; clear hw)
    | (go_at_call 10; refine (write_nil i s).mono ?_; rintro e w3 ⟨rfl, hw⟩; rw [hw]; clear hw)
    | (go_at_call 11; refine sync_nil.mono ?_; rintro e w3 ⟨rfl, hw⟩; rw [hw]; clear hw)
    | (go_at_call 24; refine size_nil.mono ?_; rintro e w3 ⟨rfl, hw⟩; rw [hw]; clear hw)
    | (go_at_call 18; refine off_nil.mono ?_; rintro e w3 ⟨rfl, hw⟩; rw [hw]; clear hw)
    | (go_at_call 15; refine copy_nil.mono ?_; rintro e w3 ⟨rfl, hw⟩; rw [hw]; clear hw))
  trace_state
  go_ret
  exact ⟨rfl, HB2.out⟩
end Go.Proofs.Ytjnbeijnlplclaa.Ownd
