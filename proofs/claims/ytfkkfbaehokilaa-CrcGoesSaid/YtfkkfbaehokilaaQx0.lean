/- Walks of Go functions, each against a plain function over numbers and lists; written by this session's program printx.py over the kit's print; no condition but those that each theorem states. -/
import Derived.Test.YtfkkfbaehokilaaProg
import Derived.Below
import Derived.Deep.Draws
import Derived.Deep.AppendLies
import Derived.Maps.AppendAt
import Derived.OwnWalk
import Derived.Laws.BytesArg
import Derived.Laws.MakeOwn
import Derived.Laws.OwnMore
import Derived.Deep.OwnRows
import Derived.Tactics
import Derived.Lib.ConvBytes
import Derived.Laws.Slices
import Derived.WalkKit
import Derived.KernelRfl
import Derived.RowKit3
import Derived.Deep.LoopGhost
import Derived.Deep.QuietTactic
import Derived.BigQuiet
import Derived.WideLaws
import Derived.Deep.DeepCutAuto
import Derived.Deep.CutBlock
import Derived.Deep.RegionHeld3
import Derived.Laws.Rows
import Derived.Lib.AppendStr
import Derived.ArgAppend
import Derived.Laws.IdiomCopy
import Derived.OrdersHeld
import Derived.Laws.BitsLemmas
import Derived.RowKit
import Derived.Test.YtfkkfbaehokilaaM
import Derived.Test.YtfkkfbaehokilaaWWords
import Derived.Test.YtfkkfbaehokilaaWLast
import Derived.Test.YtfkkfbaehokilaaWTab
import Derived.Test.YtfkkfbaehokilaaWFour
import Derived.Test.YtfkkfbaehokilaaWQPut
import Derived.Test.YtfkkfbaehokilaaWApart
import Derived.Test.YtfkkfbaehokilaaWArr
import Derived.Test.YtfkkfbaehokilaaWZeros
import Derived.Test.YtfkkfbaehokilaaWFoot
import Derived.Test.YtfkkfbaehokilaaWKept
import Derived.Test.YtfkkfbaehokilaaWShare
import Derived.Test.YtfkkfbaehokilaaWN
import Derived.Test.YtfkkfbaehokilaaWFootNe
import Derived.Test.YtfkkfbaehokilaaWAt
import Derived.Test.YtfkkfbaehokilaaWEqStruct
import Derived.Test.YtfkkfbaehokilaaWRepsOne
import Derived.Test.YtfkkfbaehokilaaWInv
import Derived.Test.YtfkkfbaehokilaaWInvWords
import Derived.Test.YtfkkfbaehokilaaWGuard
import Derived.Test.YtfkkfbaehokilaaWNEv
import Derived.Test.YtfkkfbaehokilaaWMore
namespace Go.Proofs.Ytfkkfbaehokilaa.Q
open Go.RowKit Go.Proofs.YtfkkfbaehokilaaW.PrintWords Go.Proofs.YtfkkfbaehokilaaW.PrintLast Go.Proofs.YtfkkfbaehokilaaW.PrintMore
attribute [local go_sem] max2_int min2_int max_two min_two max_three min_three max_four min_four   -- for this text's walks alone
set_option linter.unusedVariables false
set_option linter.unusedSimpArgs false



def errW : Option Int → Value
  | none => .nilIface
  | some c => .iface 0 (.int .i64 c)
theorem errW_none : errW none = .nilIface := rfl
theorem errW_some (c : Int) : errW (some c) = .iface 0 (.int .i64 c) := rfl

theorem info5 : (Try.prog.info? 5).map (fun i => (i.zero, i.size, i.bytes)) = some (some (.int .u8 0), 1, 1) := by kernel_rfl
-- the values' own types

end Go.Proofs.Ytfkkfbaehokilaa.Q
