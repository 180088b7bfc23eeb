/-
  SxApz SxDraw SxRound
-/
import Derived.Test.YtmnojknfjbimdaaZMSxa
import Derived.Lib.AppendZerosOnto
import Derived.RangeFuncWrites
import Derived.RangeFuncRecord
namespace Go.Sx
open Go Go.RowKit Go.Pl
section
variable {P : Program}
end
section
variable {P : Program} {N : Nat} {l : Env} {w : World} {ops : Array Oper} {dr : Bool} {Q : Act → World → Prop} {π : List Nat} {i d : Nat} {v : Value} {op : Op} {ty : TypeId} {pos : String} {after : Array Edge} {g : Option (Nat × Bool)}
variable {x y c p : Operand} {u : Int} {T T' : TypeId}
end
end Go.Sx


namespace Go.Sx
open Go Go.RowKit Go.Pl
section
variable (X : List Nat) (P : Program) (ops : Array Oper)
def RLX (Q : Act → World → Prop) : List Nat → Act → World → Prop
  | [], a, w => Q a w
  | i :: r, a, w => ∃ o, ops[i]? = some o ∧
    if Region.wanted o (yielded ops a.tmps) then
      (isA o.op = true ∧ ∃ v, (∀ w', (isM o.op = true ∨ Gr X w w') → (execOp a.eval o).run P w' = .ok (.value v) w') ∧ RLX Q r (a.put o.dst v) w) ∨
      (isA o.op = false ∧ o.wp P a w (fun a' w' => (∃ v, a' = a.put o.dst v) ∧ (isTail ops i = false → Gr X w w') ∧ RLX Q r a' w') (fun _ _ _ => False))
    else RLX Q r (a.put o.dst undef) w
def wpX (Q : Act → World → Prop) : Nat → Array Bool → Act → World → Prop
  | 0, listed, a, w => Region.ready .any ops listed = [] ∧ Q a w
  | n + 1, listed, a, w => (Region.ready .any ops listed = [] → Q a w) ∧
    ∀ i ∈ Region.ready .any ops listed, opE P ops i (fun a' w' => (isTail ops i = false → Gr X w w') ∧ wpX Q n (listed.setIfInBounds i true) a' w') a w
end
section
variable {X : List Nat} {P : Program} {ops : Array Oper}
def YieldsX (X : List Nat) (P : Program) (ops : Array Oper) (o : Oper) (v : Value) (a : Act) (w : World) : Prop :=
  (Region.wanted o (yielded ops a.tmps) = true ∧ ∀ w', (isM o.op = true ∨ Gr X w w') → (execOp a.eval o).run P w' = .ok (.value v) w') ∨
  (Region.wanted o (yielded ops a.tmps) = false ∧ v = undef)
end
section
variable (X : List Nat) (P : Program) (N : Nat)
def WX (ops : Array Oper) (Q : Act → World → Prop) (π : List Nat) (l : Env) (w : World) : Prop := ∀ a, At N a l → RLX X P ops Q π a w
end
section
variable {X : List Nat} {P : Program} {N : Nat} {Q : Exit → Act → World → Prop} {l : Env} {w : World}
end
section
variable {X : List Nat} {P : Program} {N : Nat} {l : Env} {w : World} {ops : Array Oper} {Q : Act → World → Prop} {π : List Nat} {i d : Nat} {v : Value} {op : Op} {ty : TypeId} {pos : String} {after : Array Edge} {g : Option (Nat × Bool)}
variable {x y c p : Operand} {u z : Int} {T T' : TypeId}
def YX (X : List Nat) (P : Program) (N : Nat) (op : Op) (ty : TypeId) (l : Env) (w : World) (v : Value) : Prop :=
  ∀ a, At N a l → ∀ w', (isM op = true ∨ Gr X w w') → ∀ o : Oper, o.op = op → o.type = ty → (execOp a.eval o).run P w' = .ok (.value v) w'
end
end Go.Sx


namespace Go.Sx
open Go Go.RowKit Go.Pl
def ro (r : Option Nat) : Fence := { Fence.wide with round := r }
section
variable {P : Program} {r : Option Nat} {n : Nat}
def noDefer (ops : Array Oper) : Bool := ops.toList.all fun o => match o.op with
  | .defer _ => false
  | _ => true
end
def AtD (N : Nat) (ds : List Deferred) (a : Act) (l : Env) : Prop := a.defers = ds ∧ At N { a with defers := [] } l
section
variable (P : Program) (r : Option Nat) (n : Nat) (ds : List Deferred) (N : Nat)
def WI (c : Code) (Q : Exit → Act → World → Prop) (l : Env) (w : World) : Prop := ∀ a, AtD N ds a l → c.wpIn (ro r) n P Q a w
def PostD (Q : Exit → Act → World → Prop) (e : Exit) (l : Env) (w : World) : Prop := ∀ a, AtD N ds a l → Q e a w
end
section
variable {P : Program} {r : Option Nat} {n : Nat} {ds : List Deferred} {N : Nat} {Q : Exit → Act → World → Prop} {l : Env} {w : World} {ops : Array Oper}
def RegQ (ds : List Deferred) (Q : Exit → Act → World → Prop) : Exit → Act → World → Prop := fun e a w => Q e { a with defers := ds } w
def YieldQ (P : Program) (r : Option Nat) (n : Nat) (ds : List Deferred) (ops : Array Oper) (Q : Exit → Act → World → Prop) (ρ : List Nat) : Act → World → Prop := fun a w => wpOpsIn (ro r) n P ops Q ρ { a with defers := ds } w
def LoopQD {σ : Type} (ds : List Deferred) (N : Nat) (L : σ → Env) (I : σ → World → Prop) (μ : σ → Nat) (m : Nat) (Q : Exit → Act → World → Prop) : Exit → Act → World → Prop :=
  Exit.then (fun a w => ∃ s, AtD N ds a (L s) ∧ I s w ∧ μ s < m) Q
end
def mark (D : Nat) : List Deferred := [{ target := .collected D, args := #[] }]
section
variable {P : Program} {r : Option Nat} {n : Nat} {ds : List Deferred} {N : Nat} {Q : Exit → Act → World → Prop} {l : Env} {w : World} {fn : Func} {R : Ending → World → Prop}
end
end Go.Sx

