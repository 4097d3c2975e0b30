import Derived.Test.YtobdhjnaglikaaaProg
import Derived.Below
import Derived.WalkKit
import Derived.WalkSpells
import Derived.RowKit3
import Derived.Lib.Hide
namespace Go.Proofs.Ytobdhjnaglikaaa
open Go.RowKit
set_option linter.unusedVariables false
def HI (n : Nat) : Nat := n / 18446744073709551616
def LO (n : Nat) : Nat := n % 18446744073709551616
def V (h l : Nat) : Nat := h * 18446744073709551616 + l
abbrev W64 (n : Nat) : Prop := n < 18446744073709551616
theorem V_HILO (n : Nat) : V (HI n) (LO n) = n := by unfold HI LO V; omega
theorem LO_lt (n : Nat) : LO n < 18446744073709551616 := by unfold LO; omega
theorem HI_lt {n : Nat} (h : n < 340282366920938463463374607431768211456) : HI n < 18446744073709551616 := by unfold HI; omega
abbrev U (h l : Nat) : Value := .agg #[.int .u64 (h : Int), .int .u64 (l : Int)]
theorem ba {a b : World} (h : Below a.heap.size a b) (o : Obj) : Below a.heap.size a (b.alloc o) := h.alloc h.size _
theorem bset {a b : World} (h : Below a.heap.size a b) (v : Value) {p : Addr} (hp : a.heap.size ≤ p.block) : Below a.heap.size a (b.setCell p v) := h.setCell hp v
theorem bd {a b : World} (h : Below a.heap.size a b) : Below a.heap.size a b.drew := h.drew
def cmpR (m n : Nat) : Int := if m < n then -1 else if n < m then 1 else 0
end Go.Proofs.Ytobdhjnaglikaaa
