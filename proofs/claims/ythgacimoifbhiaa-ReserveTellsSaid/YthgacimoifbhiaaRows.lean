/-
  No cell of these rows narrows 'for every input' (looked for: loops, veiled, ifaces, maps, wideKeys, modest, calm, conditions, laid).
  DERIVED. THE GIVEN ROWS OF THIS SEAT. 6 by the template 'for every input the law returns true; each argument reads behind the call as it read before'; 0 by the template 'total and deterministic' (their statements: YthgacimoifbhiaaTotals.lean).
  GIVEN WITH THE SEED: the statements are not yours to turn. If you find one false, say at which input.
  Laid BY PROGRAM, IN A SANDBOX (cutbox-rows.mjs): the forced cells as the released guide's own fill.sh prints them over the translation 2ed7a9745455a135… (all of the seat's roots in one cut). By AI agents, Wed Nov 11 2026. No macro, syntax, notation, axiom, sorry.
-/
import Derived.Test.YthgacimoifbhiaaChecked
import GoSem.Claim
import GoSem.ClaimJoined
import GoSem.ClaimMapViews
import Derived.JoinedTies
import Derived.KernelRfl
namespace Go.Proofs.Ythgacimoifbhiaa
/- THE CELL 'sum', in the pinned program and in every row, IS THE sha256 OF THE DUMP (.gsa) THAT YthgacimoifbhiaaProg.lean LOADS. Nothing in Lean hashes anything: it is a label: what it is worth is what the hold of that sum in a sandbox is worth. -/
noncomputable def Try.pinned : Pinned := { name := "ythgacimoifbhiaa", sum := "2ed7a9745455a1353b706f108f7f9ef9c21d705025c6da0cbdf5d9e7a30c0f87", checked := Try.checked }
namespace Rows
def none {H : Type} : Left H := { results := [], args := [] }

/-- 'samphirelaw16.ReserveEven': WHATEVER THE INPUT: true; the input reads as it did. -/
def reserveEvenSpec : ChangeSpec := { name := "reserveEven", fn := fun _ => fun
  | [d1, d2] => { results := [.lit (.bool true)], args := [d1, d2] }
  | _ => none }
def reserveEvenRow : OpenClaim := { program := "ythgacimoifbhiaa", sum := "2ed7a9745455a1353b706f108f7f9ef9c21d705025c6da0cbdf5d9e7a30c0f87", func := "samphire/samphirelaw16.ReserveEven", spec := "reserveEven", unfollowed := true, recurses := true, apart := false }
def ReserveEvenSaid : Prop := reserveEvenRow.holds Try.pinned (OpenSpec.ofChange reserveEvenSpec)

/-- ITS FALSE NEIGHBOUR: 'it returns false'. Refute it at one input. -/
def reserveEvenWrong : ChangeSpec := { name := "reserveEven", fn := fun _ => fun
  | [d1, d2] => { results := [.lit (.bool false)], args := [d1, d2] }
  | _ => none }
def ReserveEvenWrongFalsely : Prop := reserveEvenRow.holds Try.pinned (OpenSpec.ofChange reserveEvenWrong)

/-- 'samphirelaw16.ReserveFew': WHATEVER THE INPUT: true; the input reads as it did. -/
def reserveFewSpec : ChangeSpec := { name := "reserveFew", fn := fun _ => fun
  | [d] => { results := [.lit (.bool true)], args := [d] }
  | _ => none }
def reserveFewRow : OpenClaim := { program := "ythgacimoifbhiaa", sum := "2ed7a9745455a1353b706f108f7f9ef9c21d705025c6da0cbdf5d9e7a30c0f87", func := "samphire/samphirelaw16.ReserveFew", spec := "reserveFew", unfollowed := true, recurses := true, apart := false }
def ReserveFewSaid : Prop := reserveFewRow.holds Try.pinned (OpenSpec.ofChange reserveFewSpec)

/-- ITS FALSE NEIGHBOUR: 'it returns false'. Refute it at one input. -/
def reserveFewWrong : ChangeSpec := { name := "reserveFew", fn := fun _ => fun
  | [d] => { results := [.lit (.bool false)], args := [d] }
  | _ => none }
def ReserveFewWrongFalsely : Prop := reserveFewRow.holds Try.pinned (OpenSpec.ofChange reserveFewWrong)

/-- 'samphirelaw16.ReserveTells': WHATEVER THE INPUT: true; the input reads as it did. -/
def reserveTellsSpec : ChangeSpec := { name := "reserveTells", fn := fun _ => fun
  | [d1, d2, d3, d4, d5] => { results := [.lit (.bool true)], args := [d1, d2, d3, d4, d5] }
  | _ => none }
def reserveTellsRow : OpenClaim := { program := "ythgacimoifbhiaa", sum := "2ed7a9745455a1353b706f108f7f9ef9c21d705025c6da0cbdf5d9e7a30c0f87", func := "samphire/samphirelaw16.ReserveTells", spec := "reserveTells", unfollowed := true, recurses := true, apart := false }
def ReserveTellsSaid : Prop := reserveTellsRow.holds Try.pinned (OpenSpec.ofChange reserveTellsSpec)

/-- ITS FALSE NEIGHBOUR: 'it returns false'. Refute it at one input. -/
def reserveTellsWrong : ChangeSpec := { name := "reserveTells", fn := fun _ => fun
  | [d1, d2, d3, d4, d5] => { results := [.lit (.bool false)], args := [d1, d2, d3, d4, d5] }
  | _ => none }
def ReserveTellsWrongFalsely : Prop := reserveTellsRow.holds Try.pinned (OpenSpec.ofChange reserveTellsWrong)

/-- 'samphirelaw16.ReserveHolds': WHATEVER THE INPUT: true; the input reads as it did. -/
def reserveHoldsSpec : ChangeSpec := { name := "reserveHolds", fn := fun _ => fun
  | [d1, d2, d3, d4] => { results := [.lit (.bool true)], args := [d1, d2, d3, d4] }
  | _ => none }
def reserveHoldsRow : OpenClaim := { program := "ythgacimoifbhiaa", sum := "2ed7a9745455a1353b706f108f7f9ef9c21d705025c6da0cbdf5d9e7a30c0f87", func := "samphire/samphirelaw16.ReserveHolds", spec := "reserveHolds", unfollowed := true, recurses := true, apart := false }
def ReserveHoldsSaid : Prop := reserveHoldsRow.holds Try.pinned (OpenSpec.ofChange reserveHoldsSpec)

/-- ITS FALSE NEIGHBOUR: 'it returns false'. Refute it at one input. -/
def reserveHoldsWrong : ChangeSpec := { name := "reserveHolds", fn := fun _ => fun
  | [d1, d2, d3, d4] => { results := [.lit (.bool false)], args := [d1, d2, d3, d4] }
  | _ => none }
def ReserveHoldsWrongFalsely : Prop := reserveHoldsRow.holds Try.pinned (OpenSpec.ofChange reserveHoldsWrong)

/-- 'samphirelaw16.ReserveNone': WHATEVER THE INPUT: true; the input reads as it did. -/
def reserveNoneSpec : ChangeSpec := { name := "reserveNone", fn := fun _ => fun
  | [d1, d2, d3] => { results := [.lit (.bool true)], args := [d1, d2, d3] }
  | _ => none }
def reserveNoneRow : OpenClaim := { program := "ythgacimoifbhiaa", sum := "2ed7a9745455a1353b706f108f7f9ef9c21d705025c6da0cbdf5d9e7a30c0f87", func := "samphire/samphirelaw16.ReserveNone", spec := "reserveNone", unfollowed := true, recurses := true, apart := false }
def ReserveNoneSaid : Prop := reserveNoneRow.holds Try.pinned (OpenSpec.ofChange reserveNoneSpec)

/-- ITS FALSE NEIGHBOUR: 'it returns false'. Refute it at one input. -/
def reserveNoneWrong : ChangeSpec := { name := "reserveNone", fn := fun _ => fun
  | [d1, d2, d3] => { results := [.lit (.bool false)], args := [d1, d2, d3] }
  | _ => none }
def ReserveNoneWrongFalsely : Prop := reserveNoneRow.holds Try.pinned (OpenSpec.ofChange reserveNoneWrong)

/-- 'samphirelaw16.ReserveShare': WHATEVER THE INPUT: true; the input reads as it did. -/
def reserveShareSpec : ChangeSpec := { name := "reserveShare", fn := fun _ => fun
  | [d1, d2] => { results := [.lit (.bool true)], args := [d1, d2] }
  | _ => none }
def reserveShareRow : OpenClaim := { program := "ythgacimoifbhiaa", sum := "2ed7a9745455a1353b706f108f7f9ef9c21d705025c6da0cbdf5d9e7a30c0f87", func := "samphire/samphirelaw16.ReserveShare", spec := "reserveShare", unfollowed := true, recurses := true, apart := false }
def ReserveShareSaid : Prop := reserveShareRow.holds Try.pinned (OpenSpec.ofChange reserveShareSpec)

/-- ITS FALSE NEIGHBOUR: 'it returns false'. Refute it at one input. -/
def reserveShareWrong : ChangeSpec := { name := "reserveShare", fn := fun _ => fun
  | [d1, d2] => { results := [.lit (.bool false)], args := [d1, d2] }
  | _ => none }
def ReserveShareWrongFalsely : Prop := reserveShareRow.holds Try.pinned (OpenSpec.ofChange reserveShareWrong)

/- THE SECOND FORM. 'bulk': how many values and letters a reading holds, each counted each time it is reached (what is shared counts as often as it is met; a slice's spare places count too). A statement '..UptoSaid' is the law's where the arguments, and the package variables that the reading takes, are together of bulk at most 1048576: NARROWER than '..Said'. Prove '..Said' where nothing that the law and all that it calls make is longer than what came in: it says more and counts as full. Else prove '..UptoSaid'. A law counts once. -/
mutual
def uptoBulk {H : Type} : DataW H → Nat
  | .lit (.string bytes) => bytes.length + 1
  | .lit _ => 1
  | .nil => 1
  | .ptr d => uptoBulk d + 1
  | .slice elems spare => uptoBulkAll elems + uptoBulkAll spare + 1
  | .agg parts => uptoBulkAll parts + 1
  | .iface _ d => uptoBulk d + 1
  | .map entries => uptoBulkEntries entries + 1
  | .held _ => 1
def uptoBulkAll {H : Type} : List (DataW H) → Nat
  | [] => 0
  | d :: r => uptoBulk d + uptoBulkAll r
def uptoBulkEntries {H : Type} : List (Lit × DataW H) → Nat
  | [] => 0
  | x :: r => uptoBulkEntry x + uptoBulkEntries r
def uptoBulkEntry {H : Type} : Lit × DataW H → Nat
  | (.string bytes, d) => bytes.length + uptoBulk d + 1
  | (_, d) => uptoBulk d + 1
 end
def uptoSmall : (H : Type) → List (DataW H) → Bool := fun _ ds => decide (uptoBulkAll ds ≤ 1048576)
def OpenSpec.upto (s : _root_.Go.ChangeSpec) : _root_.Go.OpenSpec := { _root_.Go.OpenSpec.ofChange s with cond := some uptoSmall }

/-- 'samphirelaw16.ReserveEven', WHERE WHAT IT READS IS OF BULK AT MOST 1048576: true; the input reads as it did. -/
def reserveEvenUptoRow : OpenClaim := { program := "ythgacimoifbhiaa", sum := "2ed7a9745455a1353b706f108f7f9ef9c21d705025c6da0cbdf5d9e7a30c0f87", func := "samphire/samphirelaw16.ReserveEven", spec := "reserveEven", unfollowed := true, recurses := true, apart := false, narrowed := true }
def ReserveEvenUptoSaid : Prop := reserveEvenUptoRow.holds Try.pinned (OpenSpec.upto reserveEvenSpec)

/-- 'samphirelaw16.ReserveFew', WHERE WHAT IT READS IS OF BULK AT MOST 1048576: true; the input reads as it did. -/
def reserveFewUptoRow : OpenClaim := { program := "ythgacimoifbhiaa", sum := "2ed7a9745455a1353b706f108f7f9ef9c21d705025c6da0cbdf5d9e7a30c0f87", func := "samphire/samphirelaw16.ReserveFew", spec := "reserveFew", unfollowed := true, recurses := true, apart := false, narrowed := true }
def ReserveFewUptoSaid : Prop := reserveFewUptoRow.holds Try.pinned (OpenSpec.upto reserveFewSpec)

/-- 'samphirelaw16.ReserveTells', WHERE WHAT IT READS IS OF BULK AT MOST 1048576: true; the input reads as it did. -/
def reserveTellsUptoRow : OpenClaim := { program := "ythgacimoifbhiaa", sum := "2ed7a9745455a1353b706f108f7f9ef9c21d705025c6da0cbdf5d9e7a30c0f87", func := "samphire/samphirelaw16.ReserveTells", spec := "reserveTells", unfollowed := true, recurses := true, apart := false, narrowed := true }
def ReserveTellsUptoSaid : Prop := reserveTellsUptoRow.holds Try.pinned (OpenSpec.upto reserveTellsSpec)

/-- 'samphirelaw16.ReserveHolds', WHERE WHAT IT READS IS OF BULK AT MOST 1048576: true; the input reads as it did. -/
def reserveHoldsUptoRow : OpenClaim := { program := "ythgacimoifbhiaa", sum := "2ed7a9745455a1353b706f108f7f9ef9c21d705025c6da0cbdf5d9e7a30c0f87", func := "samphire/samphirelaw16.ReserveHolds", spec := "reserveHolds", unfollowed := true, recurses := true, apart := false, narrowed := true }
def ReserveHoldsUptoSaid : Prop := reserveHoldsUptoRow.holds Try.pinned (OpenSpec.upto reserveHoldsSpec)

/-- 'samphirelaw16.ReserveNone', WHERE WHAT IT READS IS OF BULK AT MOST 1048576: true; the input reads as it did. -/
def reserveNoneUptoRow : OpenClaim := { program := "ythgacimoifbhiaa", sum := "2ed7a9745455a1353b706f108f7f9ef9c21d705025c6da0cbdf5d9e7a30c0f87", func := "samphire/samphirelaw16.ReserveNone", spec := "reserveNone", unfollowed := true, recurses := true, apart := false, narrowed := true }
def ReserveNoneUptoSaid : Prop := reserveNoneUptoRow.holds Try.pinned (OpenSpec.upto reserveNoneSpec)

/-- 'samphirelaw16.ReserveShare', WHERE WHAT IT READS IS OF BULK AT MOST 1048576: true; the input reads as it did. -/
def reserveShareUptoRow : OpenClaim := { program := "ythgacimoifbhiaa", sum := "2ed7a9745455a1353b706f108f7f9ef9c21d705025c6da0cbdf5d9e7a30c0f87", func := "samphire/samphirelaw16.ReserveShare", spec := "reserveShare", unfollowed := true, recurses := true, apart := false, narrowed := true }
def ReserveShareUptoSaid : Prop := reserveShareUptoRow.holds Try.pinned (OpenSpec.upto reserveShareSpec)

end Rows
end Go.Proofs.Ythgacimoifbhiaa
