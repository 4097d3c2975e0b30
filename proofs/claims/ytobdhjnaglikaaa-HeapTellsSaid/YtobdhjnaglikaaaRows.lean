/-
  No cell of these rows narrows 'for every input' (looked for: loops, veiled, ifaces, maps, wideKeys, modest, calm, conditions, laid).
  DERIVED. THE GIVEN ROWS OF THIS SEAT. 5 by the template 'for every input the law returns true; each argument reads behind the call as it read before'; 0 by the template 'total and deterministic' (their statements: YtobdhjnaglikaaaTotals.lean).
  GIVEN WITH THE SEED: the statements are not yours to turn. If you find one false, say at which input.
  Laid BY PROGRAM, IN A SANDBOX (cutbox-rows.mjs): the forced cells as the released guide's own fill.sh prints them over the translation f6e41bcb97b8cf64… (all of the seat's roots in one cut). By AI agents, Wed Nov 11 2026. No macro, syntax, notation, axiom, sorry.
-/
import Derived.Test.YtobdhjnaglikaaaChecked
import GoSem.Claim
import GoSem.ClaimJoined
import GoSem.ClaimMapViews
import Derived.JoinedTies
import Derived.KernelRfl
namespace Go.Proofs.Ytobdhjnaglikaaa
/- THE CELL 'sum', in the pinned program and in every row, IS THE sha256 OF THE DUMP (.gsa) THAT YtobdhjnaglikaaaProg.lean LOADS. Nothing in Lean hashes anything: it is a label: what it is worth is what the hold of that sum in a sandbox is worth. -/
noncomputable def Try.pinned : Pinned := { name := "ytobdhjnaglikaaa", sum := "f6e41bcb97b8cf641461741f927f46232fe299a85e070dee8ff3c7fcd6cf2f9b", checked := Try.checked }
namespace Rows
def none {H : Type} : Left H := { results := [], args := [] }

/-- 'samphirelaw11.HeapTells': WHATEVER THE INPUT: true; the input reads as it did. -/
def heapTellsSpec : ChangeSpec := { name := "heapTells", fn := fun _ => fun
  | [d1, d2, d3, d4] => { results := [.lit (.bool true)], args := [d1, d2, d3, d4] }
  | _ => none }
def heapTellsRow : OpenClaim := { program := "ytobdhjnaglikaaa", sum := "f6e41bcb97b8cf641461741f927f46232fe299a85e070dee8ff3c7fcd6cf2f9b", func := "samphire/samphirelaw11.HeapTells", spec := "heapTells", inPlace := ["internal/bytealg.abigen_runtime_cmpstring"], unfollowed := true, recurses := true, apart := false }
def HeapTellsSaid : Prop := heapTellsRow.holds Try.pinned (OpenSpec.ofChange heapTellsSpec)

/-- ITS FALSE NEIGHBOUR: 'it returns false'. Refute it at one input. -/
def heapTellsWrong : ChangeSpec := { name := "heapTells", fn := fun _ => fun
  | [d1, d2, d3, d4] => { results := [.lit (.bool false)], args := [d1, d2, d3, d4] }
  | _ => none }
def HeapTellsWrongFalsely : Prop := heapTellsRow.holds Try.pinned (OpenSpec.ofChange heapTellsWrong)

/-- 'samphirelaw11.HeapKeeps': WHATEVER THE INPUT: true; the input reads as it did. -/
def heapKeepsSpec : ChangeSpec := { name := "heapKeeps", fn := fun _ => fun
  | [d] => { results := [.lit (.bool true)], args := [d] }
  | _ => none }
def heapKeepsRow : OpenClaim := { program := "ytobdhjnaglikaaa", sum := "f6e41bcb97b8cf641461741f927f46232fe299a85e070dee8ff3c7fcd6cf2f9b", func := "samphire/samphirelaw11.HeapKeeps", spec := "heapKeeps", inPlace := ["internal/bytealg.abigen_runtime_cmpstring"], unfollowed := true, recurses := true, apart := false }
def HeapKeepsSaid : Prop := heapKeepsRow.holds Try.pinned (OpenSpec.ofChange heapKeepsSpec)

/-- ITS FALSE NEIGHBOUR: 'it returns false'. Refute it at one input. -/
def heapKeepsWrong : ChangeSpec := { name := "heapKeeps", fn := fun _ => fun
  | [d] => { results := [.lit (.bool false)], args := [d] }
  | _ => none }
def HeapKeepsWrongFalsely : Prop := heapKeepsRow.holds Try.pinned (OpenSpec.ofChange heapKeepsWrong)

/-- 'samphirelaw11.HeapDown': WHATEVER THE INPUT: true; the input reads as it did. -/
def heapDownSpec : ChangeSpec := { name := "heapDown", fn := fun _ => fun
  | [d] => { results := [.lit (.bool true)], args := [d] }
  | _ => none }
def heapDownRow : OpenClaim := { program := "ytobdhjnaglikaaa", sum := "f6e41bcb97b8cf641461741f927f46232fe299a85e070dee8ff3c7fcd6cf2f9b", func := "samphire/samphirelaw11.HeapDown", spec := "heapDown", inPlace := ["internal/bytealg.abigen_runtime_cmpstring"], unfollowed := true, recurses := true, apart := false }
def HeapDownSaid : Prop := heapDownRow.holds Try.pinned (OpenSpec.ofChange heapDownSpec)

/-- ITS FALSE NEIGHBOUR: 'it returns false'. Refute it at one input. -/
def heapDownWrong : ChangeSpec := { name := "heapDown", fn := fun _ => fun
  | [d] => { results := [.lit (.bool false)], args := [d] }
  | _ => none }
def HeapDownWrongFalsely : Prop := heapDownRow.holds Try.pinned (OpenSpec.ofChange heapDownWrong)

/-- 'samphirelaw11.HeapStays': WHATEVER THE INPUT: true; the input reads as it did. -/
def heapStaysSpec : ChangeSpec := { name := "heapStays", fn := fun _ => fun
  | [d1, d2, d3] => { results := [.lit (.bool true)], args := [d1, d2, d3] }
  | _ => none }
def heapStaysRow : OpenClaim := { program := "ytobdhjnaglikaaa", sum := "f6e41bcb97b8cf641461741f927f46232fe299a85e070dee8ff3c7fcd6cf2f9b", func := "samphire/samphirelaw11.HeapStays", spec := "heapStays", inPlace := ["internal/bytealg.abigen_runtime_cmpstring"], unfollowed := true, recurses := true, apart := false }
def HeapStaysSaid : Prop := heapStaysRow.holds Try.pinned (OpenSpec.ofChange heapStaysSpec)

/-- ITS FALSE NEIGHBOUR: 'it returns false'. Refute it at one input. -/
def heapStaysWrong : ChangeSpec := { name := "heapStays", fn := fun _ => fun
  | [d1, d2, d3] => { results := [.lit (.bool false)], args := [d1, d2, d3] }
  | _ => none }
def HeapStaysWrongFalsely : Prop := heapStaysRow.holds Try.pinned (OpenSpec.ofChange heapStaysWrong)

/-- 'samphirelaw11.HeapTop': WHATEVER THE INPUT: true; the input reads as it did. -/
def heapTopSpec : ChangeSpec := { name := "heapTop", fn := fun _ => fun
  | [d] => { results := [.lit (.bool true)], args := [d] }
  | _ => none }
def heapTopRow : OpenClaim := { program := "ytobdhjnaglikaaa", sum := "f6e41bcb97b8cf641461741f927f46232fe299a85e070dee8ff3c7fcd6cf2f9b", func := "samphire/samphirelaw11.HeapTop", spec := "heapTop", inPlace := ["internal/bytealg.abigen_runtime_cmpstring"], unfollowed := true, recurses := true, apart := false }
def HeapTopSaid : Prop := heapTopRow.holds Try.pinned (OpenSpec.ofChange heapTopSpec)

/-- ITS FALSE NEIGHBOUR: 'it returns false'. Refute it at one input. -/
def heapTopWrong : ChangeSpec := { name := "heapTop", fn := fun _ => fun
  | [d] => { results := [.lit (.bool false)], args := [d] }
  | _ => none }
def HeapTopWrongFalsely : Prop := heapTopRow.holds Try.pinned (OpenSpec.ofChange heapTopWrong)

/- THE SECOND FORM. 'bulk': how many values and letters a reading holds, each counted each time it is reached (what is shared counts as often as it is met; a slice's spare places count too). A statement '..UptoSaid' is the law's where the arguments, and the package variables that the reading takes, are together of bulk at most 1048576: NARROWER than '..Said'. Prove '..Said' where nothing that the law and all that it calls make is longer than what came in: it says more and counts as full. Else prove '..UptoSaid'. A law counts once. -/
mutual
def uptoBulk {H : Type} : DataW H → Nat
  | .lit (.string bytes) => bytes.length + 1
  | .lit _ => 1
  | .nil => 1
  | .ptr d => uptoBulk d + 1
  | .slice elems spare => uptoBulkAll elems + uptoBulkAll spare + 1
  | .agg parts => uptoBulkAll parts + 1
  | .iface _ d => uptoBulk d + 1
  | .map entries => uptoBulkEntries entries + 1
  | .held _ => 1
def uptoBulkAll {H : Type} : List (DataW H) → Nat
  | [] => 0
  | d :: r => uptoBulk d + uptoBulkAll r
def uptoBulkEntries {H : Type} : List (Lit × DataW H) → Nat
  | [] => 0
  | x :: r => uptoBulkEntry x + uptoBulkEntries r
def uptoBulkEntry {H : Type} : Lit × DataW H → Nat
  | (.string bytes, d) => bytes.length + uptoBulk d + 1
  | (_, d) => uptoBulk d + 1
 end
def uptoSmall : (H : Type) → List (DataW H) → Bool := fun _ ds => decide (uptoBulkAll ds ≤ 1048576)
def OpenSpec.upto (s : _root_.Go.ChangeSpec) : _root_.Go.OpenSpec := { _root_.Go.OpenSpec.ofChange s with cond := some uptoSmall }

/-- 'samphirelaw11.HeapTells', WHERE WHAT IT READS IS OF BULK AT MOST 1048576: true; the input reads as it did. -/
def heapTellsUptoRow : OpenClaim := { program := "ytobdhjnaglikaaa", sum := "f6e41bcb97b8cf641461741f927f46232fe299a85e070dee8ff3c7fcd6cf2f9b", func := "samphire/samphirelaw11.HeapTells", spec := "heapTells", inPlace := ["internal/bytealg.abigen_runtime_cmpstring"], unfollowed := true, recurses := true, apart := false, narrowed := true }
def HeapTellsUptoSaid : Prop := heapTellsUptoRow.holds Try.pinned (OpenSpec.upto heapTellsSpec)

/-- 'samphirelaw11.HeapKeeps', WHERE WHAT IT READS IS OF BULK AT MOST 1048576: true; the input reads as it did. -/
def heapKeepsUptoRow : OpenClaim := { program := "ytobdhjnaglikaaa", sum := "f6e41bcb97b8cf641461741f927f46232fe299a85e070dee8ff3c7fcd6cf2f9b", func := "samphire/samphirelaw11.HeapKeeps", spec := "heapKeeps", inPlace := ["internal/bytealg.abigen_runtime_cmpstring"], unfollowed := true, recurses := true, apart := false, narrowed := true }
def HeapKeepsUptoSaid : Prop := heapKeepsUptoRow.holds Try.pinned (OpenSpec.upto heapKeepsSpec)

/-- 'samphirelaw11.HeapDown', WHERE WHAT IT READS IS OF BULK AT MOST 1048576: true; the input reads as it did. -/
def heapDownUptoRow : OpenClaim := { program := "ytobdhjnaglikaaa", sum := "f6e41bcb97b8cf641461741f927f46232fe299a85e070dee8ff3c7fcd6cf2f9b", func := "samphire/samphirelaw11.HeapDown", spec := "heapDown", inPlace := ["internal/bytealg.abigen_runtime_cmpstring"], unfollowed := true, recurses := true, apart := false, narrowed := true }
def HeapDownUptoSaid : Prop := heapDownUptoRow.holds Try.pinned (OpenSpec.upto heapDownSpec)

/-- 'samphirelaw11.HeapStays', WHERE WHAT IT READS IS OF BULK AT MOST 1048576: true; the input reads as it did. -/
def heapStaysUptoRow : OpenClaim := { program := "ytobdhjnaglikaaa", sum := "f6e41bcb97b8cf641461741f927f46232fe299a85e070dee8ff3c7fcd6cf2f9b", func := "samphire/samphirelaw11.HeapStays", spec := "heapStays", inPlace := ["internal/bytealg.abigen_runtime_cmpstring"], unfollowed := true, recurses := true, apart := false, narrowed := true }
def HeapStaysUptoSaid : Prop := heapStaysUptoRow.holds Try.pinned (OpenSpec.upto heapStaysSpec)

/-- 'samphirelaw11.HeapTop', WHERE WHAT IT READS IS OF BULK AT MOST 1048576: true; the input reads as it did. -/
def heapTopUptoRow : OpenClaim := { program := "ytobdhjnaglikaaa", sum := "f6e41bcb97b8cf641461741f927f46232fe299a85e070dee8ff3c7fcd6cf2f9b", func := "samphire/samphirelaw11.HeapTop", spec := "heapTop", inPlace := ["internal/bytealg.abigen_runtime_cmpstring"], unfollowed := true, recurses := true, apart := false, narrowed := true }
def HeapTopUptoSaid : Prop := heapTopUptoRow.holds Try.pinned (OpenSpec.upto heapTopSpec)

end Rows
end Go.Proofs.Ytobdhjnaglikaaa
