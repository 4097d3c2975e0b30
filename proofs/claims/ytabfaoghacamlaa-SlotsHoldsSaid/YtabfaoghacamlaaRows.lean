/-
  No cell of these rows narrows 'for every input' (looked for: loops, veiled, ifaces, maps, wideKeys, modest, calm, conditions, laid).
  DERIVED. THE GIVEN ROWS OF THIS SEAT. 5 by the template 'for every input the law returns true; each argument reads behind the call as it read before'; 0 by the template 'total and deterministic' (their statements: YtabfaoghacamlaaTotals.lean).
  GIVEN WITH THE SEED: the statements are not yours to turn. If you find one false, say at which input.
  Laid BY PROGRAM, IN A SANDBOX (cutbox-rows.mjs): the forced cells as the released guide's own fill.sh prints them over the translation 663bca8559bde648… (all of the seat's roots in one cut). By AI agents, Wed Nov 11 2026. No macro, syntax, notation, axiom, sorry.
-/
import Derived.Test.YtabfaoghacamlaaChecked
import GoSem.Claim
import GoSem.ClaimJoined
import GoSem.ClaimMapViews
import Derived.JoinedTies
import Derived.KernelRfl
namespace Go.Proofs.Ytabfaoghacamlaa
/- THE CELL 'sum', in the pinned program and in every row, IS THE sha256 OF THE DUMP (.gsa) THAT YtabfaoghacamlaaProg.lean LOADS. Nothing in Lean hashes anything: it is a label: what it is worth is what the hold of that sum in a sandbox is worth. -/
noncomputable def Try.pinned : Pinned := { name := "ytabfaoghacamlaa", sum := "663bca8559bde6487ecea546636ad7b5a1d901ccf12e66b7240c68aa57348184", checked := Try.checked }
namespace Rows
def none {H : Type} : Left H := { results := [], args := [] }

/-- 'samphirelaw17.SlotsHolds': WHATEVER THE INPUT: true; the input reads as it did. -/
def slotsHoldsSpec : ChangeSpec := { name := "slotsHolds", fn := fun _ => fun
  | [d1, d2, d3] => { results := [.lit (.bool true)], args := [d1, d2, d3] }
  | _ => none }
def slotsHoldsRow : OpenClaim := { program := "ytabfaoghacamlaa", sum := "663bca8559bde6487ecea546636ad7b5a1d901ccf12e66b7240c68aa57348184", func := "samphire/samphirelaw17.SlotsHolds", spec := "slotsHolds", unfollowed := true, recurses := true, apart := false }
def SlotsHoldsSaid : Prop := slotsHoldsRow.holds Try.pinned (OpenSpec.ofChange slotsHoldsSpec)

/-- ITS FALSE NEIGHBOUR: 'it returns false'. Refute it at one input. -/
def slotsHoldsWrong : ChangeSpec := { name := "slotsHolds", fn := fun _ => fun
  | [d1, d2, d3] => { results := [.lit (.bool false)], args := [d1, d2, d3] }
  | _ => none }
def SlotsHoldsWrongFalsely : Prop := slotsHoldsRow.holds Try.pinned (OpenSpec.ofChange slotsHoldsWrong)

/-- 'samphirelaw17.SlotsPlaces': WHATEVER THE INPUT: true; the input reads as it did. -/
def slotsPlacesSpec : ChangeSpec := { name := "slotsPlaces", fn := fun _ => fun
  | [d1, d2, d3] => { results := [.lit (.bool true)], args := [d1, d2, d3] }
  | _ => none }
def slotsPlacesRow : OpenClaim := { program := "ytabfaoghacamlaa", sum := "663bca8559bde6487ecea546636ad7b5a1d901ccf12e66b7240c68aa57348184", func := "samphire/samphirelaw17.SlotsPlaces", spec := "slotsPlaces", unfollowed := true, recurses := true, apart := false }
def SlotsPlacesSaid : Prop := slotsPlacesRow.holds Try.pinned (OpenSpec.ofChange slotsPlacesSpec)

/-- ITS FALSE NEIGHBOUR: 'it returns false'. Refute it at one input. -/
def slotsPlacesWrong : ChangeSpec := { name := "slotsPlaces", fn := fun _ => fun
  | [d1, d2, d3] => { results := [.lit (.bool false)], args := [d1, d2, d3] }
  | _ => none }
def SlotsPlacesWrongFalsely : Prop := slotsPlacesRow.holds Try.pinned (OpenSpec.ofChange slotsPlacesWrong)

/-- 'samphirelaw17.SlotsTells': WHATEVER THE INPUT: true; the input reads as it did. -/
def slotsTellsSpec : ChangeSpec := { name := "slotsTells", fn := fun _ => fun
  | [d1, d2, d3, d4, d5] => { results := [.lit (.bool true)], args := [d1, d2, d3, d4, d5] }
  | _ => none }
def slotsTellsRow : OpenClaim := { program := "ytabfaoghacamlaa", sum := "663bca8559bde6487ecea546636ad7b5a1d901ccf12e66b7240c68aa57348184", func := "samphire/samphirelaw17.SlotsTells", spec := "slotsTells", unfollowed := true, recurses := true, apart := false }
def SlotsTellsSaid : Prop := slotsTellsRow.holds Try.pinned (OpenSpec.ofChange slotsTellsSpec)

/-- ITS FALSE NEIGHBOUR: 'it returns false'. Refute it at one input. -/
def slotsTellsWrong : ChangeSpec := { name := "slotsTells", fn := fun _ => fun
  | [d1, d2, d3, d4, d5] => { results := [.lit (.bool false)], args := [d1, d2, d3, d4, d5] }
  | _ => none }
def SlotsTellsWrongFalsely : Prop := slotsTellsRow.holds Try.pinned (OpenSpec.ofChange slotsTellsWrong)

/-- 'samphirelaw17.SlotsShare': WHATEVER THE INPUT: true; the input reads as it did. -/
def slotsShareSpec : ChangeSpec := { name := "slotsShare", fn := fun _ => fun
  | [d1, d2] => { results := [.lit (.bool true)], args := [d1, d2] }
  | _ => none }
def slotsShareRow : OpenClaim := { program := "ytabfaoghacamlaa", sum := "663bca8559bde6487ecea546636ad7b5a1d901ccf12e66b7240c68aa57348184", func := "samphire/samphirelaw17.SlotsShare", spec := "slotsShare", unfollowed := true, recurses := true, apart := false }
def SlotsShareSaid : Prop := slotsShareRow.holds Try.pinned (OpenSpec.ofChange slotsShareSpec)

/-- ITS FALSE NEIGHBOUR: 'it returns false'. Refute it at one input. -/
def slotsShareWrong : ChangeSpec := { name := "slotsShare", fn := fun _ => fun
  | [d1, d2] => { results := [.lit (.bool false)], args := [d1, d2] }
  | _ => none }
def SlotsShareWrongFalsely : Prop := slotsShareRow.holds Try.pinned (OpenSpec.ofChange slotsShareWrong)

/-- 'samphirelaw17.SlotsFirst': WHATEVER THE INPUT: true; the input reads as it did. -/
def slotsFirstSpec : ChangeSpec := { name := "slotsFirst", fn := fun _ => fun
  | [d1, d2, d3] => { results := [.lit (.bool true)], args := [d1, d2, d3] }
  | _ => none }
def slotsFirstRow : OpenClaim := { program := "ytabfaoghacamlaa", sum := "663bca8559bde6487ecea546636ad7b5a1d901ccf12e66b7240c68aa57348184", func := "samphire/samphirelaw17.SlotsFirst", spec := "slotsFirst", unfollowed := true, recurses := true, apart := false }
def SlotsFirstSaid : Prop := slotsFirstRow.holds Try.pinned (OpenSpec.ofChange slotsFirstSpec)

/-- ITS FALSE NEIGHBOUR: 'it returns false'. Refute it at one input. -/
def slotsFirstWrong : ChangeSpec := { name := "slotsFirst", fn := fun _ => fun
  | [d1, d2, d3] => { results := [.lit (.bool false)], args := [d1, d2, d3] }
  | _ => none }
def SlotsFirstWrongFalsely : Prop := slotsFirstRow.holds Try.pinned (OpenSpec.ofChange slotsFirstWrong)

/- THE SECOND FORM. 'bulk': how many values and letters a reading holds, each counted each time it is reached (what is shared counts as often as it is met; a slice's spare places count too). A statement '..UptoSaid' is the law's where the arguments, and the package variables that the reading takes, are together of bulk at most 1048576: NARROWER than '..Said'. Prove '..Said' where nothing that the law and all that it calls make is longer than what came in: it says more and counts as full. Else prove '..UptoSaid'. A law counts once. -/
mutual
def uptoBulk {H : Type} : DataW H → Nat
  | .lit (.string bytes) => bytes.length + 1
  | .lit _ => 1
  | .nil => 1
  | .ptr d => uptoBulk d + 1
  | .slice elems spare => uptoBulkAll elems + uptoBulkAll spare + 1
  | .agg parts => uptoBulkAll parts + 1
  | .iface _ d => uptoBulk d + 1
  | .map entries => uptoBulkEntries entries + 1
  | .held _ => 1
def uptoBulkAll {H : Type} : List (DataW H) → Nat
  | [] => 0
  | d :: r => uptoBulk d + uptoBulkAll r
def uptoBulkEntries {H : Type} : List (Lit × DataW H) → Nat
  | [] => 0
  | x :: r => uptoBulkEntry x + uptoBulkEntries r
def uptoBulkEntry {H : Type} : Lit × DataW H → Nat
  | (.string bytes, d) => bytes.length + uptoBulk d + 1
  | (_, d) => uptoBulk d + 1
 end
def uptoSmall : (H : Type) → List (DataW H) → Bool := fun _ ds => decide (uptoBulkAll ds ≤ 1048576)
def OpenSpec.upto (s : _root_.Go.ChangeSpec) : _root_.Go.OpenSpec := { _root_.Go.OpenSpec.ofChange s with cond := some uptoSmall }

/-- 'samphirelaw17.SlotsHolds', WHERE WHAT IT READS IS OF BULK AT MOST 1048576: true; the input reads as it did. -/
def slotsHoldsUptoRow : OpenClaim := { program := "ytabfaoghacamlaa", sum := "663bca8559bde6487ecea546636ad7b5a1d901ccf12e66b7240c68aa57348184", func := "samphire/samphirelaw17.SlotsHolds", spec := "slotsHolds", unfollowed := true, recurses := true, apart := false, narrowed := true }
def SlotsHoldsUptoSaid : Prop := slotsHoldsUptoRow.holds Try.pinned (OpenSpec.upto slotsHoldsSpec)

/-- 'samphirelaw17.SlotsPlaces', WHERE WHAT IT READS IS OF BULK AT MOST 1048576: true; the input reads as it did. -/
def slotsPlacesUptoRow : OpenClaim := { program := "ytabfaoghacamlaa", sum := "663bca8559bde6487ecea546636ad7b5a1d901ccf12e66b7240c68aa57348184", func := "samphire/samphirelaw17.SlotsPlaces", spec := "slotsPlaces", unfollowed := true, recurses := true, apart := false, narrowed := true }
def SlotsPlacesUptoSaid : Prop := slotsPlacesUptoRow.holds Try.pinned (OpenSpec.upto slotsPlacesSpec)

/-- 'samphirelaw17.SlotsTells', WHERE WHAT IT READS IS OF BULK AT MOST 1048576: true; the input reads as it did. -/
def slotsTellsUptoRow : OpenClaim := { program := "ytabfaoghacamlaa", sum := "663bca8559bde6487ecea546636ad7b5a1d901ccf12e66b7240c68aa57348184", func := "samphire/samphirelaw17.SlotsTells", spec := "slotsTells", unfollowed := true, recurses := true, apart := false, narrowed := true }
def SlotsTellsUptoSaid : Prop := slotsTellsUptoRow.holds Try.pinned (OpenSpec.upto slotsTellsSpec)

/-- 'samphirelaw17.SlotsShare', WHERE WHAT IT READS IS OF BULK AT MOST 1048576: true; the input reads as it did. -/
def slotsShareUptoRow : OpenClaim := { program := "ytabfaoghacamlaa", sum := "663bca8559bde6487ecea546636ad7b5a1d901ccf12e66b7240c68aa57348184", func := "samphire/samphirelaw17.SlotsShare", spec := "slotsShare", unfollowed := true, recurses := true, apart := false, narrowed := true }
def SlotsShareUptoSaid : Prop := slotsShareUptoRow.holds Try.pinned (OpenSpec.upto slotsShareSpec)

/-- 'samphirelaw17.SlotsFirst', WHERE WHAT IT READS IS OF BULK AT MOST 1048576: true; the input reads as it did. -/
def slotsFirstUptoRow : OpenClaim := { program := "ytabfaoghacamlaa", sum := "663bca8559bde6487ecea546636ad7b5a1d901ccf12e66b7240c68aa57348184", func := "samphire/samphirelaw17.SlotsFirst", spec := "slotsFirst", unfollowed := true, recurses := true, apart := false, narrowed := true }
def SlotsFirstUptoSaid : Prop := slotsFirstUptoRow.holds Try.pinned (OpenSpec.upto slotsFirstSpec)

end Rows
end Go.Proofs.Ytabfaoghacamlaa
