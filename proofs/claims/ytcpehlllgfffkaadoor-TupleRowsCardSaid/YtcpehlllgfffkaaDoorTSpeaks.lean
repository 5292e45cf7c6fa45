/- What the Tuple laws' guard says: it is true, with fourteen rounds or more. No condition. -/
import Derived.Test.YtcpehlllgfffkaaDoorGTx12
import Derived.Lib.QuoteBits
import Derived.Laws.Strings
namespace Go.Proofs.YtcpehlllgfffkaaDoor.Pure
open Go.RowKit Go.Proofs.YtcpehlllgfffkaaDoor.GT Go.Proofs.YtcpehlllgfffkaaDoorW.PrintWords Go.Proofs.YtcpehlllgfffkaaDoorW.PrintLast
set_option linter.unusedVariables false
set_option linter.unusedSimpArgs false

theorem toList_data (s : ByteArray) : s.toList = s.data.toList := by first | rfl | exact ByteArray.toList_eq s
theorem wid (n : Int) (h0 : 0 ≤ n) (h1 : n < 9223372036854775808) : wrap64 n = n := by unfold wrap64; omega
def be6 (n : Int) : List UInt8 := [UInt8.ofNat (n / 1099511627776).toNat, UInt8.ofNat (n / 4294967296 % 256).toNat, UInt8.ofNat (n / 16777216 % 256).toNat, UInt8.ofNat (n / 65536 % 256).toNat, UInt8.ofNat (n / 256 % 256).toNat, UInt8.ofNat (n % 256).toNat]
set_option maxRecDepth 100000 in
theorem entry_once : tuple_Entry.f 14 (⟨#[]⟩ : ByteArray) 1 false 2 = some ((⟨#[16, 1, 0, 0, 0, 0, 1, 0, 0, 0, 0, 0, 2]⟩ : ByteArray), 0) := by decide +kernel
set_option maxRecDepth 100000 in
theorem split_once : tuple_Split.f 14 (⟨#[16, 1, 0, 0, 0, 0, 1, 0, 0, 0, 0, 0, 2]⟩ : ByteArray) = some ((⟨#[]⟩ : ByteArray), 1, false, 2, 0) := by decide +kernel
set_option maxRecDepth 100000 in
theorem show_once : tuple_Show.f (⟨#[97, 39]⟩ : ByteArray) 0 true = some (⟨#[39, 97, 92, 50, 55, 39]⟩ : ByteArray) := by decide +kernel
set_option maxRecDepth 100000 in
theorem speaks_once : concordancelaw19_speaks.f 14 = some true := by
  unfold concordancelaw19_speaks.f
  rw [show keys_Number.f 1 = some ((⟨#[]⟩ : ByteArray), 1, false) from rfl, Option.bind_some]
  show (Option.bind (tuple_Entry.f 14 (⟨#[]⟩ : ByteArray) 1 false 2) _) = _
  rw [entry_once, Option.bind_some]
  refine Eq.trans (congrArg (fun x => Option.bind x _) split_once) ?_
  rw [Option.bind_some]
  simp only [toList_data]
  rw [if_pos (by decide), if_pos (by decide), if_pos (by decide), Option.bind_some, if_pos (by decide), if_pos (by decide), show keys_Text.f (⟨#[97, 39]⟩ : ByteArray) = some ((⟨#[97, 39]⟩ : ByteArray), 0, true) from rfl, Option.bind_some]
  refine Eq.trans (congrArg (fun x => Option.bind x _) show_once) ?_
  rw [Option.bind_some]
  decide
theorem speaks_tells : ∀ k, 14 ≤ k → concordancelaw19_speaks.f k = some true := by
  intro k hk
  induction k with
  | zero => omega
  | succ k ih =>
    by_cases h : 14 ≤ k
    · exact concordancelaw19_speaks.mono k _ (ih h)
    · have : k = 13 := by omega
      subst this
      exact speaks_once
end Go.Proofs.YtcpehlllgfffkaaDoor.Pure
