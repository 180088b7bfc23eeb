/-
  Biv4
-/
import Derived.Test.YtmnojknfjbimdaaZBiv2
namespace Go.Sx
open Go Go.RowKit Go.Pl
structure DR (B : Nat) (w : World) (E : TypeId) (Q : Nat → Prop) (rows : List Value) (L : List (List Int)) : Prop where
  row : ∀ (i : Nat) r zs, rows[i]? = some r → L[i]? = some zs → OwnI B w r E zs ∧ ∀ q, r.ownBlock = some q → Q q
  dist : ∀ (i j : Nat) r s q, i < j → rows[i]? = some r → rows[j]? = some s → r.ownBlock = some q → s.ownBlock ≠ some q
end Go.Sx
namespace Go.Proofs.Ytmnojknfjbimdaa
open Go Go.Sx Go.Pl Go.RowKit Go.Fd Go.Alg
def RJD (P : FP) (w0 : World) (g : Value) (ob gb : Nat) (pre : List (List Int)) (X : List Nat) (w : World) : Prop :=
  ∃ v rows, X = ob :: v.ownBlock.toList ∧ Blk w ob 38 #[v] ∧ Blk w gb 63 #[g] ∧ Sx.Own w0.heap.size w v 31 rows ∧ rows.length = pre.length ∧ DR w0.heap.size w 3 (fun q => q ≠ ob ∧ v.ownBlock ≠ some q) rows (pre.map fun f => cl (pz P f)) ∧ v.ownBlock ≠ some ob ∧ v.ownBlock ≠ some gb
end Go.Proofs.Ytmnojknfjbimdaa

