/-
  The package bivariate, by contract, part 5: args, pascal, gap.
-/
import Derived.Test.YtmnojknfjbimdaaGreatWBiv1
import Derived.Test.YtmnojknfjbimdaaGreatWMPa
import Derived.Test.YtmnojknfjbimdaaGreatWGF1
import Derived.Test.YtmnojknfjbimdaaGreatWMSxa
namespace Go.Proofs.YtmnojknfjbimdaaGreat
open Go Go.Sx Go.Pl Go.RowKit Go.Fd Go.Alg
def sn (P : FP) (xs : List Int) (i : Nat) (t : Int) : Bool := (xs.take i).any fun z => decide ((inK P z).1 = t)
def dif (P : FP) (xs : List Int) : Nat → Bool
  | 0 => true
  | i + 1 => dif P xs i && !sn P xs i (inK P (gi xs i)).1
def seenB (P : FP) (xs : List Int) (i : Nat) : List Value := (List.range P.q.toNat).map fun (t : Nat) => .bool (sn P xs i t)
def argsA (P : FP) (xs : List Int) (ny : Nat) (m w l : Int) : Int :=
  if xs.length ≠ ny then 3 else if dif P xs xs.length = false then 18 else if m < 1 ∨ 16 < m ∨ w < 0 ∨ 64 < w ∨ l < 0 ∨ 64 < l then 6 else if 4096 < ((xs.length : Int) * m * (m + 1)) / 2 then 8 else 0
end Go.Proofs.YtmnojknfjbimdaaGreat

