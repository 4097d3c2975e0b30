/- Walks of Go functions, each against a plain function over numbers and lists; written by this session's program printx.py over the kit's print; no condition but those that each theorem states. -/
import Derived.Test.YtjmcdnhbiamokaaProg
import Derived.Below
import Derived.Deep.Draws
import Derived.Deep.AppendLies
import Derived.Maps.AppendAt
import Derived.OwnWalk
import Derived.Laws.BytesArg
import Derived.Laws.MakeOwn
import Derived.Laws.OwnMore
import Derived.Deep.OwnRows
import Derived.Tactics
import Derived.Lib.ConvBytes
import Derived.Laws.Slices
import Derived.WalkKit
import Derived.KernelRfl
import Derived.RowKit3
import Derived.Deep.LoopGhost
import Derived.Deep.QuietTactic
import Derived.BigQuiet
import Derived.WideLaws
import Derived.Deep.DeepCutAuto
import Derived.Deep.CutBlock
import Derived.Deep.RegionHeld3
import Derived.Laws.Rows
import Derived.Lib.AppendStr
import Derived.ArgAppend
import Derived.Laws.IdiomCopy
import Derived.OrdersHeld
import Derived.Laws.BitsLemmas
import Derived.RowKit
import Derived.Test.YtjmcdnhbiamokaaM
import Derived.Test.YtjmcdnhbiamokaaWWords
import Derived.Test.YtjmcdnhbiamokaaWLast
import Derived.Test.YtjmcdnhbiamokaaWTab
import Derived.Test.YtjmcdnhbiamokaaWFour
import Derived.Test.YtjmcdnhbiamokaaWQPut
import Derived.Test.YtjmcdnhbiamokaaWApart
import Derived.Test.YtjmcdnhbiamokaaWArr
import Derived.Test.YtjmcdnhbiamokaaWZeros
import Derived.Test.YtjmcdnhbiamokaaWFoot
import Derived.Test.YtjmcdnhbiamokaaWKept
import Derived.Test.YtjmcdnhbiamokaaWShare
import Derived.Test.YtjmcdnhbiamokaaWN
import Derived.Test.YtjmcdnhbiamokaaWFootNe
import Derived.Test.YtjmcdnhbiamokaaWAt
import Derived.Test.YtjmcdnhbiamokaaWEqStruct
import Derived.Test.YtjmcdnhbiamokaaWRepsOne
import Derived.Test.YtjmcdnhbiamokaaWInv
import Derived.Test.YtjmcdnhbiamokaaWInvWords
import Derived.Test.YtjmcdnhbiamokaaWGuard
import Derived.Test.YtjmcdnhbiamokaaWNEv
import Derived.Test.YtjmcdnhbiamokaaWMore
namespace Go.Proofs.Ytjmcdnhbiamokaa.Q
open Go.RowKit Go.Proofs.YtjmcdnhbiamokaaW.PrintWords Go.Proofs.YtjmcdnhbiamokaaW.PrintLast Go.Proofs.YtjmcdnhbiamokaaW.PrintMore
attribute [local go_sem] max2_int min2_int max_two min_two max_three min_three max_four min_four   -- for this text's walks alone
set_option linter.unusedVariables false
set_option linter.unusedSimpArgs false



def errW : Option Int → Value
  | none => .nilIface
  | some c => .iface 0 (.int .i64 c)
theorem errW_none : errW none = .nilIface := rfl
theorem errW_some (c : Int) : errW (some c) = .iface 0 (.int .i64 c) := rfl

theorem info5 : (Try.prog.info? 5).map (fun i => (i.zero, i.size, i.bytes)) = some (some (.int .u8 0), 1, 1) := by kernel_rfl
-- the values' own types

end Go.Proofs.Ytjmcdnhbiamokaa.Q
