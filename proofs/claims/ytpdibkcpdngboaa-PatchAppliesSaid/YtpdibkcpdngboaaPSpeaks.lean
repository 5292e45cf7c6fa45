/- What the law's own first call says: true. Plain Lean over the printed functions. -/
import Derived.Test.YtpdibkcpdngboaaGPx7
import Derived.Test.YtpdibkcpdngboaaPDiff
namespace Go.Proofs.Ytpdibkcpdngboaa.GP
open Go.RowKit Go.Proofs.YtpdibkcpdngboaaW.PrintWords Go.Proofs.YtpdibkcpdngboaaW.PrintLast Go.Proofs.YtpdibkcpdngboaaW.PrintMore Go.Proofs.Ytpdibkcpdngboaa.Copy
set_option linter.unusedVariables false
set_option linter.unusedSimpArgs false

theorem toList_data (s : ByteArray) : s.toList = s.data.toList := by first | rfl | exact ByteArray.toList_eq s
theorem speaks_diff : diffL (⟨#[97, 98, 99, 100, 101, 102, 103, 104]⟩ : ByteArray) (⟨#[120, 98, 99, 100, 101, 102, 103, 121]⟩ : ByteArray) = [⟨0, ⟨#[120]⟩⟩, ⟨7, ⟨#[121]⟩⟩] := rfl
theorem speaks_tells (k : Nat) (hk : 20 ≤ k) : concordancelaw06_speaks.f k = some true := by
  have h1 := diff_tells (⟨#[97, 98, 99, 100, 101, 102, 103, 104]⟩ : ByteArray) (⟨#[120, 98, 99, 100, 101, 102, 103, 121]⟩ : ByteArray) rfl (by decide) k (by show 2 * 8 + 2 < k; omega)
  have h2 := apply_diff (⟨#[97, 98, 99, 100, 101, 102, 103, 104]⟩ : ByteArray) (⟨#[120, 98, 99, 100, 101, 102, 103, 121]⟩ : ByteArray) rfl (by decide)
  rw [speaks_diff] at h1 h2
  unfold concordancelaw06_speaks.f
  rw [h1, Option.bind_some, h2, Option.bind_some]
  have e1 : rd_T31 [⟨0, ⟨#[120]⟩⟩, ⟨7, ⟨#[121]⟩⟩] 1 = ⟨7, ⟨#[121]⟩⟩ := rfl
  rw [e1, if_pos (by simp), if_pos (by simp), if_pos (by rw [toList_data]; rfl), if_pos (by rw [toList_data])]
  rfl
end Go.Proofs.Ytpdibkcpdngboaa.GP
