/-
  The reference's Hasse derivatives and multiplicities, by contract.
-/
import Derived.Test.YtmnojknfjbimdaaGreatURBiv2
import Derived.Test.YtmnojknfjbimdaaGreatUMPa
import Derived.Test.YtmnojknfjbimdaaGreatUMSxa
namespace Go.Proofs.YtmnojknfjbimdaaGreat
open Go Go.Sx Go.Pl Go.RowKit Go.Fd Go.Alg
noncomputable def hsRow {P : FP} (F : Pol (Pol (K P))) (a b t n : Nat) : List Int := tab n fun s => (((hs2 a b F).co t).co s).1
def VanP {P : FP} (x y : K P) (F : Pol (Pol (K P))) (m : Nat) : Prop := ∀ a b, a + b < m → val2 (hs2 a b F) x y = 0
end Go.Proofs.YtmnojknfjbimdaaGreat

