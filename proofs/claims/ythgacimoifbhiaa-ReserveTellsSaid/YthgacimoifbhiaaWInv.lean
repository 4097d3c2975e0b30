import Derived.Test.YthgacimoifbhiaaWTab
namespace Go.Proofs.YthgacimoifbhiaaW.PrintLast
def up (b : Nat → Bool) (i : Nat) : Nat → Bool := fun j => if j = i then true else b j
end Go.Proofs.YthgacimoifbhiaaW.PrintLast
