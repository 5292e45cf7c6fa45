-- Written by a program of this session (wip/pv.py, which turns the kit's print.py in a scratch copy): see NOTES.md.
import Derived.Test.YtchpagboglomoaaProg
import Derived.Below
import Derived.Deep.Draws
import Derived.Deep.AppendLies
import Derived.Maps.AppendAt
import Derived.OwnWalk
import Derived.Laws.BytesArg
import Derived.Laws.MakeOwn
import Derived.Laws.OwnMore
import Derived.Deep.OwnRows
import Derived.Tactics
import Derived.Lib.ConvBytes
import Derived.Laws.Slices
import Derived.WalkKit
import Derived.KernelRfl
import Derived.RowKit3
import Derived.Deep.LoopGhost
import Derived.Deep.QuietTactic
import Derived.BigQuiet
import Derived.WideLaws
import Derived.Deep.DeepCutAuto
import Derived.Deep.CutBlock
import Derived.Deep.RegionHeld3
import Derived.Laws.Rows
import Derived.Lib.AppendStr
import Derived.ArgAppend
import Derived.Laws.IdiomCopy
import Derived.OrdersHeld
import Derived.Laws.BitsLemmas
import Derived.RowKit
import Derived.Test.YtchpagboglomoaaWWords
import Derived.Test.YtchpagboglomoaaWLast
import Derived.Test.YtchpagboglomoaaWTab
import Derived.Test.YtchpagboglomoaaWQPut
import Derived.Test.YtchpagboglomoaaWApart
import Derived.Test.YtchpagboglomoaaWArr
import Derived.Test.YtchpagboglomoaaWZeros
import Derived.Test.YtchpagboglomoaaWFoot
import Derived.Test.YtchpagboglomoaaWKept
import Derived.Test.YtchpagboglomoaaWShare
import Derived.Test.YtchpagboglomoaaWN
import Derived.Test.YtchpagboglomoaaWEqStruct
import Derived.Test.YtchpagboglomoaaWRepsOne
import Derived.Test.YtchpagboglomoaaWGuard
import Derived.Test.YtchpagboglomoaaWNEv
import Derived.Test.YtchpagboglomoaaWMore
namespace Go.Proofs.Ytchpagboglomoaa.GP
open Go.RowKit Go.Proofs.YtchpagboglomoaaW.PrintWords Go.Proofs.YtchpagboglomoaaW.PrintLast Go.Proofs.YtchpagboglomoaaW.PrintMore
attribute [local go_sem] max2_int min2_int max_two min_two max_three min_three max_four min_four   -- for this text's walks alone
set_option linter.unusedVariables false
set_option linter.unusedSimpArgs false



def errW : Option Int → Value
 | none => .nilIface
 | some c => .iface 0 (.int .i64 c)
theorem errW_none : errW none = .nilIface := rfl
theorem errW_some (c : Int) : errW (some c) = .iface 0 (.int .i64 c) := rfl

theorem info5 : (Try.prog.info? 5).map (fun i => (i.zero, i.size, i.bytes)) = some (some (.int .u8 0), 1, 1) := by kernel_rfl
theorem info9 : (Try.prog.info? 9).map (fun i => (i.zero, i.size, i.bytes)) = some (some (.string ⟨#[]⟩), 1, 16) := by kernel_rfl
-- the values' own types

end Go.Proofs.Ytchpagboglomoaa.GP
