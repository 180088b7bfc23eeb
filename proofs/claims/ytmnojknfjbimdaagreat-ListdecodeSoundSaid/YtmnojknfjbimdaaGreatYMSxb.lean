/-
  The walking framework: calls of function values that let the world only grow; numbers of other kinds; a string's bytes.
-/
import Derived.Test.YtmnojknfjbimdaaGreatYMSxa
namespace Go.Sx
open Go Go.RowKit Go.Pl
section
variable {P : Program} {N : Nat} {l : Env} {w : World} {ops : Array Oper} {dr : Bool} {Q : Act → World → Prop} {π : List Nat} {i d : Nat} {v : Value} {op : Op} {ty : TypeId} {pos : String} {after : Array Edge} {g : Option (Nat × Bool)}
variable {x y c p : Operand} {u z : Int} {T T' : TypeId}
theorem CVX {f : FuncId} {fs cs : List Value} {cl : List Operand} {ats : Array TypeId} {vs : List Value} {Φ : Value → World → Prop} (hi : ops[i]? = some ⟨some d, .call ⟨.value x, cl.toArray, ats⟩, ty, pos, after, g⟩) (hw : Wt ops N l g) (hd : Nat.blt d N = true)
    (hx : ev l x = some (.func (.func f) fs.toArray cs.toArray)) (hv : evs l cl = some vs) (hf : ∀ args w, (callFunc f args).run P w = .ok (.enter f args) w) (hc : Calls P f (fs ++ vs ++ cs).toArray w (RetX w Φ))
    (h : ∀ v w', Ext w w' → Φ v w' → WR P N ops dr Q π ((d, v) :: l) w') : WR P N ops dr Q (i :: π) l w := fun a ha => by
  refine ⟨_, hi, ?_⟩
  rw [if_pos (hw a ha _ rfl)]
  refine .inr ⟨rfl, ?_⟩
  have hm := ha.evals hv
  have hrun : (execOp a.eval ⟨some d, .call ⟨.value x, cl.toArray, ats⟩, ty, pos, after, g⟩).run P w = .ok (.enter f (fs ++ vs ++ cs).toArray) w := by
    simp only [execOp, resolve, List.map_toArray, hm, ha.eval hx, Deferred.ofValue]
    simp [invoke, hf]
  unfold Oper.wp
  rw [hrun, Oper.upon_enter]
  refine hc.mono fun e w' he => ?_
  cases e with
  | returned v => exact ⟨⟨v, rfl⟩, fun _ _ => he.1, h v w' he.1 he.2 _ (ha.put hd v)⟩
  | panicked c => exact he
  | outgrown => exact he.elim
theorem geqK {k : IntKind} (hx : ev l x = some (.int k u)) (hy : ev l y = some (.int k z)) : Yl P N (.binOp .geq T x y T') ty l w (.bool (decide (z ≤ u))) :=
  yl_bin hx hy (fun w => by rw [binOp_geq]; simp) (fun _ _ _ => eqGuard_int)
theorem cvK {k : IntKind} {q : IntKind} (hx : ev l x = some (.int k u)) (hs : (P.underlying T).isSome = true) (hd : P.underlying T' = some (.int q)) : Yl P N (.convert T T' x) ty l w (.int q (q.wrap u)) := fun a ha w' _ o ho _ => by
  have e : P.intKind T' = q := by simp [Program.intKind, hd]
  have h := run_convert_int (P := P) w' T T' k u hs (by rw [e]; exact hd)
  rw [e] at h
  simp [execOp, ho, ha.eval hx, h]
theorem ixS {s : ByteArray} {k : IntKind} (hx : ev l x = some (.string s)) (hy : ev l y = some (.int k u)) (hT : P.underlying T = some .string) (h0 : 0 ≤ u) (h1 : u < s.size) : Yl P N (.index T x y) ty l w (.int .u8 ((s[u.toNat]'(by omega)).toNat : Int)) := fun a ha w' _ o ho _ => by
  have h := run_index_string (P := P) w' T s k u hT
  rw [dif_pos ⟨h0, h1⟩] at h
  simp [execOp, ho, ha.eval hx, ha.eval hy, h]
end
end Go.Sx

