import Derived.Test.YthgacimoifbhiaaQx1
namespace Go.Proofs.Ythgacimoifbhiaa.Q
open Go.RowKit Go.Proofs.YthgacimoifbhiaaW.PrintWords Go.Proofs.YthgacimoifbhiaaW.PrintLast
set_option linter.unusedVariables false
def leftOf (X : List ByteArray) (i : Int) : List ByteArray := (X.set i.toNat (rdOf ByteArray.empty X (X.length - 1 : Int))).take (X.length - 1)
def drawn (er : Int) (F : Nat) (l : List Int) (a d : Int) : Option (Option (Int × Int)) :=
  (draw_Below.f F l a d).bind fun t => if t.2.1 = l then (if t.2.2.2 = 0 then some (some (t.1, t.2.2.1)) else if t = (0, l, a, er) then some none else none) else none
def picked (er : Int) (F : Nat) (nx : Int) (X : List ByteArray) (ny : Int) (Y : List ByteArray) (l : List Int) (a : Int) : Option (Bool × Int × Int × Bool) :=
  (drawn er F l a (IntKind.u64.wrap (nx + ny))).bind fun t => match t with
    | none => some (true, 0, a, false)
    | some (j, b1) =>
      if j < nx then (drawn er F l b1 (X.length : Int)).bind fun u => match u with
        | none => some (true, 0, b1, false)
        | some (i, b) => if 0 ≤ i ∧ i < (X.length : Int) then some (true, i, b, true) else none
      else (drawn er F l b1 (Y.length : Int)).bind fun u => match u with
        | none => some (false, 0, b1, false)
        | some (i, b) => if 0 ≤ i ∧ i < (Y.length : Int) then some (false, i, b, true) else none
def rounds (er : Int) (F : Nat) (l : List Int) : Nat → Int → List ByteArray → Int → List ByteArray → Int → List ByteArray → Option (Option (List ByteArray × Int))
  | 0, _, _, _, _, a, items => some (some (items, a))
  | m + 1, nx, X, ny, Y, a, items => (picked er F nx X ny Y l a).bind fun t =>
      if t.2.2.2 = true then
        (if t.1 = true then rounds er F l m (IntKind.u64.wrap (nx - 1)) (leftOf X t.2.1) ny Y t.2.2.1 (items ++ [rdOf ByteArray.empty X t.2.1])
         else rounds er F l m nx X (IntKind.u64.wrap (ny - 1)) (leftOf Y t.2.1) t.2.2.1 (items ++ [rdOf ByteArray.empty Y t.2.1]))
      else some none
def reserve_Merge.f (er : Int) (a0_0 a0_1 : Int) (l0_2 : List ByteArray) (a1_0 a1_1 : Int) (l1_2 : List ByteArray) (l2_0 : List Int) (a2_1 : Int) : Option (Int × Int × List ByteArray × List Int × Int × Int) :=
  (reserve_Right.f a0_0 a0_1 l0_2).bind fun p => (reserve_Right.f a1_0 a1_1 l1_2).bind fun q =>
    if p = true ∧ q = true ∧ a0_0 = a1_0 ∧ IntKind.u64.wrap (a0_1 + a1_1) ≤ 4611686018427387904 then
      (rounds er (l2_0.length + 5) l2_0 (min a0_0 (IntKind.u64.wrap (a0_1 + a1_1))).toNat a0_1 l0_2 a1_1 l1_2 a2_1 []).bind fun t => match t with
        | some (items, a) => some (a0_0, IntKind.u64.wrap (a0_1 + a1_1), items, l2_0, a, 0)
        | none => some (0, 0, [], l2_0, a2_1, er)
    else none
end Go.Proofs.Ythgacimoifbhiaa.Q
