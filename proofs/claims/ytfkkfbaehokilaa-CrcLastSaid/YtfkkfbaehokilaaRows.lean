/-
  No cell of these rows narrows 'for every input' (looked for: loops, veiled, ifaces, maps, wideKeys, modest, calm, conditions, laid).
  DERIVED. THE GIVEN ROWS OF THIS SEAT. 6 by the template 'for every input the law returns true; each argument reads behind the call as it read before'; 0 by the template 'total and deterministic' (their statements: YtfkkfbaehokilaaTotals.lean).
  GIVEN WITH THE SEED: the statements are not yours to turn. If you find one false, say at which input.
  Laid BY PROGRAM, IN A SANDBOX (cutbox-rows.mjs): the forced cells as the released guide's own fill.sh prints them over the translation d932b651aa1fdd4e… (all of the seat's roots in one cut). By AI agents, Wed Nov 11 2026. No macro, syntax, notation, axiom, sorry.
-/
import Derived.Test.YtfkkfbaehokilaaChecked
import GoSem.Claim
import GoSem.ClaimJoined
import GoSem.ClaimMapViews
import Derived.JoinedTies
import Derived.KernelRfl
namespace Go.Proofs.Ytfkkfbaehokilaa
/- THE CELL 'sum', in the pinned program and in every row, IS THE sha256 OF THE DUMP (.gsa) THAT YtfkkfbaehokilaaProg.lean LOADS. Nothing in Lean hashes anything: it is a label: what it is worth is what the hold of that sum in a sandbox is worth. -/
noncomputable def Try.pinned : Pinned := { name := "ytfkkfbaehokilaa", sum := "d932b651aa1fdd4ec80c3e0b1da48ee3ff02ea269ed9fe55f7ce83762a252b5f", checked := Try.checked }
namespace Rows
def none {H : Type} : Left H := { results := [], args := [] }

/-- 'samphirelaw06.CrcTells': WHATEVER THE INPUT: true; the input reads as it did. -/
def crcTellsSpec : ChangeSpec := { name := "crcTells", fn := fun _ => fun
  | [d1, d2, d3] => { results := [.lit (.bool true)], args := [d1, d2, d3] }
  | _ => none }
def crcTellsRow : OpenClaim := { program := "ytfkkfbaehokilaa", sum := "d932b651aa1fdd4ec80c3e0b1da48ee3ff02ea269ed9fe55f7ce83762a252b5f", func := "samphire/samphirelaw06.CrcTells", spec := "crcTells", apart := false }
def CrcTellsSaid : Prop := crcTellsRow.holds Try.pinned (OpenSpec.ofChange crcTellsSpec)

/-- ITS FALSE NEIGHBOUR: 'it returns false'. Refute it at one input. -/
def crcTellsWrong : ChangeSpec := { name := "crcTells", fn := fun _ => fun
  | [d1, d2, d3] => { results := [.lit (.bool false)], args := [d1, d2, d3] }
  | _ => none }
def CrcTellsWrongFalsely : Prop := crcTellsRow.holds Try.pinned (OpenSpec.ofChange crcTellsWrong)

/-- 'samphirelaw06.CrcGoes': WHATEVER THE INPUT: true; the input reads as it did. -/
def crcGoesSpec : ChangeSpec := { name := "crcGoes", fn := fun _ => fun
  | [d1, d2] => { results := [.lit (.bool true)], args := [d1, d2] }
  | _ => none }
def crcGoesRow : OpenClaim := { program := "ytfkkfbaehokilaa", sum := "d932b651aa1fdd4ec80c3e0b1da48ee3ff02ea269ed9fe55f7ce83762a252b5f", func := "samphire/samphirelaw06.CrcGoes", spec := "crcGoes", apart := false }
def CrcGoesSaid : Prop := crcGoesRow.holds Try.pinned (OpenSpec.ofChange crcGoesSpec)

/-- ITS FALSE NEIGHBOUR: 'it returns false'. Refute it at one input. -/
def crcGoesWrong : ChangeSpec := { name := "crcGoes", fn := fun _ => fun
  | [d1, d2] => { results := [.lit (.bool false)], args := [d1, d2] }
  | _ => none }
def CrcGoesWrongFalsely : Prop := crcGoesRow.holds Try.pinned (OpenSpec.ofChange crcGoesWrong)

/-- 'samphirelaw06.CrcBurst': WHATEVER THE INPUT: true; the input reads as it did. -/
def crcBurstSpec : ChangeSpec := { name := "crcBurst", fn := fun _ => fun
  | [d1, d2, d3] => { results := [.lit (.bool true)], args := [d1, d2, d3] }
  | _ => none }
def crcBurstRow : OpenClaim := { program := "ytfkkfbaehokilaa", sum := "d932b651aa1fdd4ec80c3e0b1da48ee3ff02ea269ed9fe55f7ce83762a252b5f", func := "samphire/samphirelaw06.CrcBurst", spec := "crcBurst", apart := false }
def CrcBurstSaid : Prop := crcBurstRow.holds Try.pinned (OpenSpec.ofChange crcBurstSpec)

/-- ITS FALSE NEIGHBOUR: 'it returns false'. Refute it at one input. -/
def crcBurstWrong : ChangeSpec := { name := "crcBurst", fn := fun _ => fun
  | [d1, d2, d3] => { results := [.lit (.bool false)], args := [d1, d2, d3] }
  | _ => none }
def CrcBurstWrongFalsely : Prop := crcBurstRow.holds Try.pinned (OpenSpec.ofChange crcBurstWrong)

/-- 'samphirelaw06.CrcLast': WHATEVER THE INPUT: true; the input reads as it did. -/
def crcLastSpec : ChangeSpec := { name := "crcLast", fn := fun _ => fun
  | [d1, d2, d3, d4] => { results := [.lit (.bool true)], args := [d1, d2, d3, d4] }
  | _ => none }
def crcLastRow : OpenClaim := { program := "ytfkkfbaehokilaa", sum := "d932b651aa1fdd4ec80c3e0b1da48ee3ff02ea269ed9fe55f7ce83762a252b5f", func := "samphire/samphirelaw06.CrcLast", spec := "crcLast", apart := false }
def CrcLastSaid : Prop := crcLastRow.holds Try.pinned (OpenSpec.ofChange crcLastSpec)

/-- ITS FALSE NEIGHBOUR: 'it returns false'. Refute it at one input. -/
def crcLastWrong : ChangeSpec := { name := "crcLast", fn := fun _ => fun
  | [d1, d2, d3, d4] => { results := [.lit (.bool false)], args := [d1, d2, d3, d4] }
  | _ => none }
def CrcLastWrongFalsely : Prop := crcLastRow.holds Try.pinned (OpenSpec.ofChange crcLastWrong)

/-- 'samphirelaw06.CrcThree': WHATEVER THE INPUT: true; the input reads as it did. -/
def crcThreeSpec : ChangeSpec := { name := "crcThree", fn := fun _ => fun
  | [d1, d2, d3] => { results := [.lit (.bool true)], args := [d1, d2, d3] }
  | _ => none }
def crcThreeRow : OpenClaim := { program := "ytfkkfbaehokilaa", sum := "d932b651aa1fdd4ec80c3e0b1da48ee3ff02ea269ed9fe55f7ce83762a252b5f", func := "samphire/samphirelaw06.CrcThree", spec := "crcThree", apart := false }
def CrcThreeSaid : Prop := crcThreeRow.holds Try.pinned (OpenSpec.ofChange crcThreeSpec)

/-- ITS FALSE NEIGHBOUR: 'it returns false'. Refute it at one input. -/
def crcThreeWrong : ChangeSpec := { name := "crcThree", fn := fun _ => fun
  | [d1, d2, d3] => { results := [.lit (.bool false)], args := [d1, d2, d3] }
  | _ => none }
def CrcThreeWrongFalsely : Prop := crcThreeRow.holds Try.pinned (OpenSpec.ofChange crcThreeWrong)

/-- 'samphirelaw06.CrcTable': WHATEVER THE INPUT: true; the input reads as it did. -/
def crcTableSpec : ChangeSpec := { name := "crcTable", fn := fun _ => fun
  | [d1, d2] => { results := [.lit (.bool true)], args := [d1, d2] }
  | _ => none }
def crcTableRow : OpenClaim := { program := "ytfkkfbaehokilaa", sum := "d932b651aa1fdd4ec80c3e0b1da48ee3ff02ea269ed9fe55f7ce83762a252b5f", func := "samphire/samphirelaw06.CrcTable", spec := "crcTable", apart := false }
def CrcTableSaid : Prop := crcTableRow.holds Try.pinned (OpenSpec.ofChange crcTableSpec)

/-- ITS FALSE NEIGHBOUR: 'it returns false'. Refute it at one input. -/
def crcTableWrong : ChangeSpec := { name := "crcTable", fn := fun _ => fun
  | [d1, d2] => { results := [.lit (.bool false)], args := [d1, d2] }
  | _ => none }
def CrcTableWrongFalsely : Prop := crcTableRow.holds Try.pinned (OpenSpec.ofChange crcTableWrong)

/- THE SECOND FORM. 'bulk': how many values and letters a reading holds, each counted each time it is reached (what is shared counts as often as it is met; a slice's spare places count too). A statement '..UptoSaid' is the law's where the arguments, and the package variables that the reading takes, are together of bulk at most 1048576: NARROWER than '..Said'. Prove '..Said' where nothing that the law and all that it calls make is longer than what came in: it says more and counts as full. Else prove '..UptoSaid'. A law counts once. -/
mutual
def uptoBulk {H : Type} : DataW H → Nat
  | .lit (.string bytes) => bytes.length + 1
  | .lit _ => 1
  | .nil => 1
  | .ptr d => uptoBulk d + 1
  | .slice elems spare => uptoBulkAll elems + uptoBulkAll spare + 1
  | .agg parts => uptoBulkAll parts + 1
  | .iface _ d => uptoBulk d + 1
  | .map entries => uptoBulkEntries entries + 1
  | .held _ => 1
def uptoBulkAll {H : Type} : List (DataW H) → Nat
  | [] => 0
  | d :: r => uptoBulk d + uptoBulkAll r
def uptoBulkEntries {H : Type} : List (Lit × DataW H) → Nat
  | [] => 0
  | x :: r => uptoBulkEntry x + uptoBulkEntries r
def uptoBulkEntry {H : Type} : Lit × DataW H → Nat
  | (.string bytes, d) => bytes.length + uptoBulk d + 1
  | (_, d) => uptoBulk d + 1
 end
def uptoSmall : (H : Type) → List (DataW H) → Bool := fun _ ds => decide (uptoBulkAll ds ≤ 1048576)
def OpenSpec.upto (s : _root_.Go.ChangeSpec) : _root_.Go.OpenSpec := { _root_.Go.OpenSpec.ofChange s with cond := some uptoSmall }

/-- 'samphirelaw06.CrcTells', WHERE WHAT IT READS IS OF BULK AT MOST 1048576: true; the input reads as it did. -/
def crcTellsUptoRow : OpenClaim := { program := "ytfkkfbaehokilaa", sum := "d932b651aa1fdd4ec80c3e0b1da48ee3ff02ea269ed9fe55f7ce83762a252b5f", func := "samphire/samphirelaw06.CrcTells", spec := "crcTells", apart := false, narrowed := true }
def CrcTellsUptoSaid : Prop := crcTellsUptoRow.holds Try.pinned (OpenSpec.upto crcTellsSpec)

/-- 'samphirelaw06.CrcGoes', WHERE WHAT IT READS IS OF BULK AT MOST 1048576: true; the input reads as it did. -/
def crcGoesUptoRow : OpenClaim := { program := "ytfkkfbaehokilaa", sum := "d932b651aa1fdd4ec80c3e0b1da48ee3ff02ea269ed9fe55f7ce83762a252b5f", func := "samphire/samphirelaw06.CrcGoes", spec := "crcGoes", apart := false, narrowed := true }
def CrcGoesUptoSaid : Prop := crcGoesUptoRow.holds Try.pinned (OpenSpec.upto crcGoesSpec)

/-- 'samphirelaw06.CrcBurst', WHERE WHAT IT READS IS OF BULK AT MOST 1048576: true; the input reads as it did. -/
def crcBurstUptoRow : OpenClaim := { program := "ytfkkfbaehokilaa", sum := "d932b651aa1fdd4ec80c3e0b1da48ee3ff02ea269ed9fe55f7ce83762a252b5f", func := "samphire/samphirelaw06.CrcBurst", spec := "crcBurst", apart := false, narrowed := true }
def CrcBurstUptoSaid : Prop := crcBurstUptoRow.holds Try.pinned (OpenSpec.upto crcBurstSpec)

/-- 'samphirelaw06.CrcLast', WHERE WHAT IT READS IS OF BULK AT MOST 1048576: true; the input reads as it did. -/
def crcLastUptoRow : OpenClaim := { program := "ytfkkfbaehokilaa", sum := "d932b651aa1fdd4ec80c3e0b1da48ee3ff02ea269ed9fe55f7ce83762a252b5f", func := "samphire/samphirelaw06.CrcLast", spec := "crcLast", apart := false, narrowed := true }
def CrcLastUptoSaid : Prop := crcLastUptoRow.holds Try.pinned (OpenSpec.upto crcLastSpec)

/-- 'samphirelaw06.CrcThree', WHERE WHAT IT READS IS OF BULK AT MOST 1048576: true; the input reads as it did. -/
def crcThreeUptoRow : OpenClaim := { program := "ytfkkfbaehokilaa", sum := "d932b651aa1fdd4ec80c3e0b1da48ee3ff02ea269ed9fe55f7ce83762a252b5f", func := "samphire/samphirelaw06.CrcThree", spec := "crcThree", apart := false, narrowed := true }
def CrcThreeUptoSaid : Prop := crcThreeUptoRow.holds Try.pinned (OpenSpec.upto crcThreeSpec)

/-- 'samphirelaw06.CrcTable', WHERE WHAT IT READS IS OF BULK AT MOST 1048576: true; the input reads as it did. -/
def crcTableUptoRow : OpenClaim := { program := "ytfkkfbaehokilaa", sum := "d932b651aa1fdd4ec80c3e0b1da48ee3ff02ea269ed9fe55f7ce83762a252b5f", func := "samphire/samphirelaw06.CrcTable", spec := "crcTable", apart := false, narrowed := true }
def CrcTableUptoSaid : Prop := crcTableUptoRow.holds Try.pinned (OpenSpec.upto crcTableSpec)

end Rows
end Go.Proofs.Ytfkkfbaehokilaa
