/- Walks of Go functions, each against a plain function over numbers and lists; written by this session's program printx.py over the kit's print; no condition but those that each theorem states. -/
import Derived.Test.YtabfaoghacamlaaProg
import Derived.Below
import Derived.Deep.Draws
import Derived.Deep.AppendLies
import Derived.Maps.AppendAt
import Derived.OwnWalk
import Derived.Laws.BytesArg
import Derived.Laws.MakeOwn
import Derived.Laws.OwnMore
import Derived.Deep.OwnRows
import Derived.Tactics
import Derived.Lib.ConvBytes
import Derived.Laws.Slices
import Derived.WalkKit
import Derived.KernelRfl
import Derived.RowKit3
import Derived.Deep.LoopGhost
import Derived.Deep.QuietTactic
import Derived.BigQuiet
import Derived.WideLaws
import Derived.Deep.DeepCutAuto
import Derived.Deep.CutBlock
import Derived.Deep.RegionHeld3
import Derived.Laws.Rows
import Derived.Lib.AppendStr
import Derived.ArgAppend
import Derived.Laws.IdiomCopy
import Derived.OrdersHeld
import Derived.Laws.BitsLemmas
import Derived.RowKit
import Derived.Test.YtabfaoghacamlaaRp
import Derived.Test.YtabfaoghacamlaaWWords
import Derived.Test.YtabfaoghacamlaaWLast
import Derived.Test.YtabfaoghacamlaaWTab
import Derived.Test.YtabfaoghacamlaaWQPut
import Derived.Test.YtabfaoghacamlaaWApart
import Derived.Test.YtabfaoghacamlaaWArr
import Derived.Test.YtabfaoghacamlaaWZeros
import Derived.Test.YtabfaoghacamlaaWFoot
import Derived.Test.YtabfaoghacamlaaWKept
import Derived.Test.YtabfaoghacamlaaWShare
import Derived.Test.YtabfaoghacamlaaWN
import Derived.Test.YtabfaoghacamlaaWEqStruct
import Derived.Test.YtabfaoghacamlaaWRepsOne
import Derived.Test.YtabfaoghacamlaaWGuard
import Derived.Test.YtabfaoghacamlaaWNEv
import Derived.Test.YtabfaoghacamlaaWMore
namespace Go.Proofs.Ytabfaoghacamlaa.F
open Go.Proofs.Ytabfaoghacamlaa.Q
open Go.RowKit Go.Proofs.YtabfaoghacamlaaW.PrintWords Go.Proofs.YtabfaoghacamlaaW.PrintLast Go.Proofs.YtabfaoghacamlaaW.PrintMore
attribute [local go_sem] max2_int min2_int max_two min_two max_three min_three max_four min_four   -- for this text's walks alone
set_option linter.unusedVariables false
set_option linter.unusedSimpArgs false



def errW : Option Int → Value
  | none => .nilIface
  | some c => .iface 0 (.int .i64 c)
theorem errW_none : errW none = .nilIface := rfl
theorem errW_some (c : Int) : errW (some c) = .iface 0 (.int .i64 c) := rfl

theorem info9 : (Try.prog.info? 9).map (fun i => (i.zero, i.size, i.bytes)) = some (some (.string ⟨#[]⟩), 1, 16) := by kernel_rfl
theorem info24 : (Try.prog.info? 24).map (fun i => (i.zero, i.size, i.bytes)) = some (some (.int .u64 0), 1, 8) := by kernel_rfl
-- the values' own types

end Go.Proofs.Ytabfaoghacamlaa.F
