/-
  What the laws of the list decoder lean on: the interpolation polynomial's degree, completeness, the list does not hang on the polynomial.
-/
import Derived.Test.YtmnojknfjbimdaaGreatULd3
import Derived.Test.YtmnojknfjbimdaaGreatURGrs
namespace Go.Proofs.YtmnojknfjbimdaaGreat
open Go Go.Sx Go.Pl Go.RowKit Go.Fd Go.Alg Go.Ld
theorem COf.cints {w : World} {x : CRec} (h : COf w x) : CInts w x := ⟨h.s.f.ints, h.s.xs, h.s.ms, h.ws⟩
theorem TkP.deg {P : FP} {x : CRec} {m D L : Int} {X Y : Nat → Go.Fd.K P} {Q : Pol (Pol (Go.Fd.K P))} (hT : TkP P x m D L) (hip : IntP X Y x.s.xs.length m.toNat (wt x.s.k).toNat (L.toNat + 1) Q) : wdg Q (wt x.s.k) < (m.toNat : Int) * (x.s.xs.length - x.t) := by
  have h1 := intP_deg hT.pok hip
  have h2 := hT.pok.hlt
  have hm := hT.pok.hm
  rw [show ((m.toNat : Nat) : Int) = m by omega]
  omega
end Go.Proofs.YtmnojknfjbimdaaGreat

