/-
  No cell of these rows narrows 'for every input' (looked for: loops, veiled, ifaces, maps, wideKeys, modest, calm, conditions, laid).
  DERIVED. THE GIVEN ROWS OF THIS SEAT. 6 by the template 'for every input the law returns true; each argument reads behind the call as it read before'; 0 by the template 'total and deterministic' (their statements: YtpgfadljcmakfaaTotals.lean).
  GIVEN WITH THE SEED: the statements are not yours to turn. If you find one false, say at which input.
  Laid BY PROGRAM, IN A SANDBOX (cutbox-rows.mjs): the forced cells as the released guide's own fill.sh prints them over the translation 302ece2ee1b4d92a… (all of the seat's roots in one cut). By AI agents, Wed Nov 11 2026. No macro, syntax, notation, axiom, sorry.
-/
import Derived.Test.YtpgfadljcmakfaaChecked
import GoSem.Claim
import GoSem.ClaimJoined
import GoSem.ClaimMapViews
import Derived.JoinedTies
import Derived.KernelRfl
namespace Go.Proofs.Ytpgfadljcmakfaa
/- THE CELL 'sum', in the pinned program and in every row, IS THE sha256 OF THE DUMP (.gsa) THAT YtpgfadljcmakfaaProg.lean LOADS. Nothing in Lean hashes anything: it is a label: what it is worth is what the hold of that sum in a sandbox is worth. -/
noncomputable def Try.pinned : Pinned := { name := "ytpgfadljcmakfaa", sum := "302ece2ee1b4d92acd8932672d1ae1340bcd19c4622fbf69b2686780906875e4", checked := Try.checked }
namespace Rows
def none {H : Type} : Left H := { results := [], args := [] }

/-- 'samphirelaw07.DrawTells': WHATEVER THE INPUT: true; the input reads as it did. -/
def drawTellsSpec : ChangeSpec := { name := "drawTells", fn := fun _ => fun
  | [d1, d2, d3, d4] => { results := [.lit (.bool true)], args := [d1, d2, d3, d4] }
  | _ => none }
def drawTellsRow : OpenClaim := { program := "ytpgfadljcmakfaa", sum := "302ece2ee1b4d92acd8932672d1ae1340bcd19c4622fbf69b2686780906875e4", func := "samphire/samphirelaw07.DrawTells", spec := "drawTells", apart := false }
def DrawTellsSaid : Prop := drawTellsRow.holds Try.pinned (OpenSpec.ofChange drawTellsSpec)

/-- ITS FALSE NEIGHBOUR: 'it returns false'. Refute it at one input. -/
def drawTellsWrong : ChangeSpec := { name := "drawTells", fn := fun _ => fun
  | [d1, d2, d3, d4] => { results := [.lit (.bool false)], args := [d1, d2, d3, d4] }
  | _ => none }
def DrawTellsWrongFalsely : Prop := drawTellsRow.holds Try.pinned (OpenSpec.ofChange drawTellsWrong)

/-- 'samphirelaw07.DrawEven': WHATEVER THE INPUT: true; the input reads as it did. -/
def drawEvenSpec : ChangeSpec := { name := "drawEven", fn := fun _ => fun
  | [d1, d2] => { results := [.lit (.bool true)], args := [d1, d2] }
  | _ => none }
def drawEvenRow : OpenClaim := { program := "ytpgfadljcmakfaa", sum := "302ece2ee1b4d92acd8932672d1ae1340bcd19c4622fbf69b2686780906875e4", func := "samphire/samphirelaw07.DrawEven", spec := "drawEven", apart := false }
def DrawEvenSaid : Prop := drawEvenRow.holds Try.pinned (OpenSpec.ofChange drawEvenSpec)

/-- ITS FALSE NEIGHBOUR: 'it returns false'. Refute it at one input. -/
def drawEvenWrong : ChangeSpec := { name := "drawEven", fn := fun _ => fun
  | [d1, d2] => { results := [.lit (.bool false)], args := [d1, d2] }
  | _ => none }
def DrawEvenWrongFalsely : Prop := drawEvenRow.holds Try.pinned (OpenSpec.ofChange drawEvenWrong)

/-- 'samphirelaw07.DrawBoth': WHATEVER THE INPUT: true; the input reads as it did. -/
def drawBothSpec : ChangeSpec := { name := "drawBoth", fn := fun _ => fun
  | [d1, d2] => { results := [.lit (.bool true)], args := [d1, d2] }
  | _ => none }
def drawBothRow : OpenClaim := { program := "ytpgfadljcmakfaa", sum := "302ece2ee1b4d92acd8932672d1ae1340bcd19c4622fbf69b2686780906875e4", func := "samphire/samphirelaw07.DrawBoth", spec := "drawBoth", apart := false }
def DrawBothSaid : Prop := drawBothRow.holds Try.pinned (OpenSpec.ofChange drawBothSpec)

/-- ITS FALSE NEIGHBOUR: 'it returns false'. Refute it at one input. -/
def drawBothWrong : ChangeSpec := { name := "drawBoth", fn := fun _ => fun
  | [d1, d2] => { results := [.lit (.bool false)], args := [d1, d2] }
  | _ => none }
def DrawBothWrongFalsely : Prop := drawBothRow.holds Try.pinned (OpenSpec.ofChange drawBothWrong)

/-- 'samphirelaw07.DrawOn': WHATEVER THE INPUT: true; the input reads as it did. -/
def drawOnSpec : ChangeSpec := { name := "drawOn", fn := fun _ => fun
  | [d1, d2, d3] => { results := [.lit (.bool true)], args := [d1, d2, d3] }
  | _ => none }
def drawOnRow : OpenClaim := { program := "ytpgfadljcmakfaa", sum := "302ece2ee1b4d92acd8932672d1ae1340bcd19c4622fbf69b2686780906875e4", func := "samphire/samphirelaw07.DrawOn", spec := "drawOn", apart := false }
def DrawOnSaid : Prop := drawOnRow.holds Try.pinned (OpenSpec.ofChange drawOnSpec)

/-- ITS FALSE NEIGHBOUR: 'it returns false'. Refute it at one input. -/
def drawOnWrong : ChangeSpec := { name := "drawOn", fn := fun _ => fun
  | [d1, d2, d3] => { results := [.lit (.bool false)], args := [d1, d2, d3] }
  | _ => none }
def DrawOnWrongFalsely : Prop := drawOnRow.holds Try.pinned (OpenSpec.ofChange drawOnWrong)

/-- 'samphirelaw07.DrawPower': WHATEVER THE INPUT: true; the input reads as it did. -/
def drawPowerSpec : ChangeSpec := { name := "drawPower", fn := fun _ => fun
  | [d1, d2] => { results := [.lit (.bool true)], args := [d1, d2] }
  | _ => none }
def drawPowerRow : OpenClaim := { program := "ytpgfadljcmakfaa", sum := "302ece2ee1b4d92acd8932672d1ae1340bcd19c4622fbf69b2686780906875e4", func := "samphire/samphirelaw07.DrawPower", spec := "drawPower", apart := false }
def DrawPowerSaid : Prop := drawPowerRow.holds Try.pinned (OpenSpec.ofChange drawPowerSpec)

/-- ITS FALSE NEIGHBOUR: 'it returns false'. Refute it at one input. -/
def drawPowerWrong : ChangeSpec := { name := "drawPower", fn := fun _ => fun
  | [d1, d2] => { results := [.lit (.bool false)], args := [d1, d2] }
  | _ => none }
def DrawPowerWrongFalsely : Prop := drawPowerRow.holds Try.pinned (OpenSpec.ofChange drawPowerWrong)

/-- 'samphirelaw07.DrawBig': WHATEVER THE INPUT: true; the input reads as it did. -/
def drawBigSpec : ChangeSpec := { name := "drawBig", fn := fun _ => fun
  | [d] => { results := [.lit (.bool true)], args := [d] }
  | _ => none }
def drawBigRow : OpenClaim := { program := "ytpgfadljcmakfaa", sum := "302ece2ee1b4d92acd8932672d1ae1340bcd19c4622fbf69b2686780906875e4", func := "samphire/samphirelaw07.DrawBig", spec := "drawBig", apart := false }
def DrawBigSaid : Prop := drawBigRow.holds Try.pinned (OpenSpec.ofChange drawBigSpec)

/-- ITS FALSE NEIGHBOUR: 'it returns false'. Refute it at one input. -/
def drawBigWrong : ChangeSpec := { name := "drawBig", fn := fun _ => fun
  | [d] => { results := [.lit (.bool false)], args := [d] }
  | _ => none }
def DrawBigWrongFalsely : Prop := drawBigRow.holds Try.pinned (OpenSpec.ofChange drawBigWrong)

/- THE SECOND FORM. 'bulk': how many values and letters a reading holds, each counted each time it is reached (what is shared counts as often as it is met; a slice's spare places count too). A statement '..UptoSaid' is the law's where the arguments, and the package variables that the reading takes, are together of bulk at most 1048576: NARROWER than '..Said'. Prove '..Said' where nothing that the law and all that it calls make is longer than what came in: it says more and counts as full. Else prove '..UptoSaid'. A law counts once. -/
mutual
def uptoBulk {H : Type} : DataW H → Nat
  | .lit (.string bytes) => bytes.length + 1
  | .lit _ => 1
  | .nil => 1
  | .ptr d => uptoBulk d + 1
  | .slice elems spare => uptoBulkAll elems + uptoBulkAll spare + 1
  | .agg parts => uptoBulkAll parts + 1
  | .iface _ d => uptoBulk d + 1
  | .map entries => uptoBulkEntries entries + 1
  | .held _ => 1
def uptoBulkAll {H : Type} : List (DataW H) → Nat
  | [] => 0
  | d :: r => uptoBulk d + uptoBulkAll r
def uptoBulkEntries {H : Type} : List (Lit × DataW H) → Nat
  | [] => 0
  | x :: r => uptoBulkEntry x + uptoBulkEntries r
def uptoBulkEntry {H : Type} : Lit × DataW H → Nat
  | (.string bytes, d) => bytes.length + uptoBulk d + 1
  | (_, d) => uptoBulk d + 1
 end
def uptoSmall : (H : Type) → List (DataW H) → Bool := fun _ ds => decide (uptoBulkAll ds ≤ 1048576)
def OpenSpec.upto (s : _root_.Go.ChangeSpec) : _root_.Go.OpenSpec := { _root_.Go.OpenSpec.ofChange s with cond := some uptoSmall }

/-- 'samphirelaw07.DrawTells', WHERE WHAT IT READS IS OF BULK AT MOST 1048576: true; the input reads as it did. -/
def drawTellsUptoRow : OpenClaim := { program := "ytpgfadljcmakfaa", sum := "302ece2ee1b4d92acd8932672d1ae1340bcd19c4622fbf69b2686780906875e4", func := "samphire/samphirelaw07.DrawTells", spec := "drawTells", apart := false, narrowed := true }
def DrawTellsUptoSaid : Prop := drawTellsUptoRow.holds Try.pinned (OpenSpec.upto drawTellsSpec)

/-- 'samphirelaw07.DrawEven', WHERE WHAT IT READS IS OF BULK AT MOST 1048576: true; the input reads as it did. -/
def drawEvenUptoRow : OpenClaim := { program := "ytpgfadljcmakfaa", sum := "302ece2ee1b4d92acd8932672d1ae1340bcd19c4622fbf69b2686780906875e4", func := "samphire/samphirelaw07.DrawEven", spec := "drawEven", apart := false, narrowed := true }
def DrawEvenUptoSaid : Prop := drawEvenUptoRow.holds Try.pinned (OpenSpec.upto drawEvenSpec)

/-- 'samphirelaw07.DrawBoth', WHERE WHAT IT READS IS OF BULK AT MOST 1048576: true; the input reads as it did. -/
def drawBothUptoRow : OpenClaim := { program := "ytpgfadljcmakfaa", sum := "302ece2ee1b4d92acd8932672d1ae1340bcd19c4622fbf69b2686780906875e4", func := "samphire/samphirelaw07.DrawBoth", spec := "drawBoth", apart := false, narrowed := true }
def DrawBothUptoSaid : Prop := drawBothUptoRow.holds Try.pinned (OpenSpec.upto drawBothSpec)

/-- 'samphirelaw07.DrawOn', WHERE WHAT IT READS IS OF BULK AT MOST 1048576: true; the input reads as it did. -/
def drawOnUptoRow : OpenClaim := { program := "ytpgfadljcmakfaa", sum := "302ece2ee1b4d92acd8932672d1ae1340bcd19c4622fbf69b2686780906875e4", func := "samphire/samphirelaw07.DrawOn", spec := "drawOn", apart := false, narrowed := true }
def DrawOnUptoSaid : Prop := drawOnUptoRow.holds Try.pinned (OpenSpec.upto drawOnSpec)

/-- 'samphirelaw07.DrawPower', WHERE WHAT IT READS IS OF BULK AT MOST 1048576: true; the input reads as it did. -/
def drawPowerUptoRow : OpenClaim := { program := "ytpgfadljcmakfaa", sum := "302ece2ee1b4d92acd8932672d1ae1340bcd19c4622fbf69b2686780906875e4", func := "samphire/samphirelaw07.DrawPower", spec := "drawPower", apart := false, narrowed := true }
def DrawPowerUptoSaid : Prop := drawPowerUptoRow.holds Try.pinned (OpenSpec.upto drawPowerSpec)

/-- 'samphirelaw07.DrawBig', WHERE WHAT IT READS IS OF BULK AT MOST 1048576: true; the input reads as it did. -/
def drawBigUptoRow : OpenClaim := { program := "ytpgfadljcmakfaa", sum := "302ece2ee1b4d92acd8932672d1ae1340bcd19c4622fbf69b2686780906875e4", func := "samphire/samphirelaw07.DrawBig", spec := "drawBig", apart := false, narrowed := true }
def DrawBigUptoSaid : Prop := drawBigUptoRow.holds Try.pinned (OpenSpec.upto drawBigSpec)

end Rows
end Go.Proofs.Ytpgfadljcmakfaa
