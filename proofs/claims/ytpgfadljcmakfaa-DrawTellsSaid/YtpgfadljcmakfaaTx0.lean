/- Walks of Go functions, each against a plain function over numbers and lists; written by this session's program printx.py over the kit's print; no condition but those that each theorem states. -/
import Derived.Test.YtpgfadljcmakfaaProg
import Derived.Below
import Derived.Deep.Draws
import Derived.Deep.AppendLies
import Derived.Maps.AppendAt
import Derived.OwnWalk
import Derived.Laws.BytesArg
import Derived.Laws.MakeOwn
import Derived.Laws.OwnMore
import Derived.Deep.OwnRows
import Derived.Tactics
import Derived.Lib.ConvBytes
import Derived.Laws.Slices
import Derived.WalkKit
import Derived.KernelRfl
import Derived.RowKit3
import Derived.Deep.LoopGhost
import Derived.Deep.QuietTactic
import Derived.BigQuiet
import Derived.WideLaws
import Derived.Deep.DeepCutAuto
import Derived.Deep.CutBlock
import Derived.Deep.RegionHeld3
import Derived.Laws.Rows
import Derived.Lib.AppendStr
import Derived.ArgAppend
import Derived.Laws.IdiomCopy
import Derived.OrdersHeld
import Derived.Laws.BitsLemmas
import Derived.RowKit
import Derived.Test.YtpgfadljcmakfaaM
import Derived.Test.YtpgfadljcmakfaaWWords
import Derived.Test.YtpgfadljcmakfaaWLast
import Derived.Test.YtpgfadljcmakfaaWTab
import Derived.Test.YtpgfadljcmakfaaWQPut
import Derived.Test.YtpgfadljcmakfaaWApart
import Derived.Test.YtpgfadljcmakfaaWArr
import Derived.Test.YtpgfadljcmakfaaWZeros
import Derived.Test.YtpgfadljcmakfaaWFoot
import Derived.Test.YtpgfadljcmakfaaWKept
import Derived.Test.YtpgfadljcmakfaaWShare
import Derived.Test.YtpgfadljcmakfaaWN
import Derived.Test.YtpgfadljcmakfaaWRepsOne
import Derived.Test.YtpgfadljcmakfaaWGuard
import Derived.Test.YtpgfadljcmakfaaWNEv
import Derived.Test.YtpgfadljcmakfaaWMore
import Derived.Test.YtpgfadljcmakfaaWb
namespace Go.Proofs.Ytpgfadljcmakfaa.T
open Go.RowKit Go.Proofs.YtpgfadljcmakfaaW.PrintWords Go.Proofs.YtpgfadljcmakfaaW.PrintLast Go.Proofs.YtpgfadljcmakfaaW.PrintMore
attribute [local go_sem] max2_int min2_int max_two min_two max_three min_three max_four min_four   -- for this text's walks alone
set_option linter.unusedVariables false
set_option linter.unusedSimpArgs false



def errW : Option Int → Value
  | none => .nilIface
  | some c => .iface 0 (.int .i64 c)
theorem errW_none : errW none = .nilIface := rfl
theorem errW_some (c : Int) : errW (some c) = .iface 0 (.int .i64 c) := rfl

theorem info23 : (Try.prog.info? 23).map (fun i => (i.zero, i.size, i.bytes)) = some (some (.int .u64 0), 1, 8) := by kernel_rfl
theorem info48 : (Try.prog.info? 48).map (fun i => (i.zero, i.size, i.bytes)) = some (some (.int .u32 0), 1, 4) := by kernel_rfl
-- the values' own types

end Go.Proofs.Ytpgfadljcmakfaa.T
