/-
  The walking framework, part 9: functions as values, calls of them, and exclusive or.
-/
import Derived.Test.YtlcokneidokfnaaSxRules
namespace Go.Sx
open Go Go.RowKit Go.Pl
section
variable {P : Program} {N : Nat} {l : Env} {w : World} {ops : Array Oper} {dr : Bool} {Q : Act → World → Prop} {π : List Nat} {i d : Nat} {v : Value} {op : Op} {ty : TypeId} {pos : String} {after : Array Edge} {g : Option (Nat × Bool)}
variable {x y c p : Operand} {u z : Int} {T T' : TypeId}
theorem mkf {fn : Fn} {fs cs : List Operand} {us vs : List Value} (hf : evs l fs = some us) (hc : evs l cs = some vs) : Yl P N (.makeFunc fn fs.toArray cs.toArray) ty l w (.func fn us.toArray vs.toArray) := fun a ha w' _ o ho _ => by
  have h1 := ha.evals hf
  have h2 := ha.evals hc
  simp [execOp, ho, h1, h2, Instr.makeFunc]
/-- A call of a function value. -/
theorem CV {f : FuncId} {fs cs : List Value} {cl : List Operand} {ats : Array TypeId} {vs : List Value} {Φ : Value → World → Prop} (hi : ops[i]? = some ⟨some d, .call ⟨.value x, cl.toArray, ats⟩, ty, pos, after, g⟩) (hw : Wt ops N l g) (hd : Nat.blt d N = true)
    (hx : ev l x = some (.func (.func f) fs.toArray cs.toArray)) (hv : evs l cl = some vs) (hf : ∀ args w, (callFunc f args).run P w = .ok (.enter f args) w) (hc : Calls P f (fs ++ vs ++ cs).toArray w (RetX w Φ))
    (h : ∀ v w', Ext w w' → Φ v w' → WR P N ops dr Q π ((d, v) :: l) w') : WR P N ops dr Q (i :: π) l w := fun a ha => by
  refine ⟨_, hi, ?_⟩
  rw [if_pos (hw a ha _ rfl)]
  refine .inr ⟨rfl, ?_⟩
  have hm := ha.evals hv
  have hrun : (execOp a.eval ⟨some d, .call ⟨.value x, cl.toArray, ats⟩, ty, pos, after, g⟩).run P w = .ok (.enter f (fs ++ vs ++ cs).toArray) w := by
    simp only [execOp, resolve, List.map_toArray, hm, ha.eval hx, Deferred.ofValue]
    simp [invoke, hf]
  unfold Oper.wp
  rw [hrun, Oper.upon_enter]
  refine hc.mono fun e w' he => ?_
  cases e with
  | returned v => exact ⟨⟨v, rfl⟩, fun _ _ => he.1, h v w' he.1 he.2 _ (ha.put hd v)⟩
  | panicked c => exact he
  | outgrown => exact he.elim
theorem binOp_xor' (T : TypeId) (a b : Int) (w : World) : (binOp .xor T (.int .i64 a) (.int .i64 b)).run P w = (Op.intBits .xor .i64 a b).run P w := by
  simp [binOp]
theorem xorI (hx : ev l x = some (.int .i64 u)) (hy : ev l y = some (.int .i64 z)) (hu : 0 ≤ u ∧ u < 256 := by omega) (hz : 0 ≤ z ∧ z < 256 := by omega) :
    Yl P N (.binOp .xor T x y T') ty l w (.int .i64 ((u.toNat ^^^ z.toNat : Nat) : Int)) :=
  yl_bin hx hy (fun w => by
    have hlt : u.toNat ^^^ z.toNat < 2 ^ 8 := Nat.xor_lt_two_pow (by omega) (by omega)
    have e : (BitVec.ofInt IntKind.i64.bits u ^^^ BitVec.ofInt IntKind.i64.bits z).toNat = u.toNat ^^^ z.toNat := by
      have h64 : IntKind.i64.bits = 64 := rfl
      rw [BitVec.toNat_xor]
      congr 1
      · rw [BitVec.toNat_ofInt, h64]; omega
      · rw [BitVec.toNat_ofInt, h64]; omega
    have h3 : IntKind.i64.wrap ((u.toNat ^^^ z.toNat : Nat) : Int) = ((u.toNat ^^^ z.toNat : Nat) : Int) := wrap_in _ (by omega)
    rw [binOp_xor']
    simp only [Op.intBits, e, h3]
    rfl) (fun _ _ _ => eqGuard_int)
/-- 'p == nil' for a pointer that is not nil. -/
theorem eqlP {ad : Addr} {E : TypeId} (hx : ev l x = some (.pointer (some ad))) (hy : ev l y = some (.pointer none)) (hT : P.underlying T = some (.pointer E)) : Yl P N (.binOp .eql T x y T') ty l w (.bool false) := by
  have hd : ∃ d, Op.maxDepth = d + 1 := ⟨Op.maxDepth - 1, rfl⟩
  obtain ⟨d, hd⟩ := hd
  refine yl_bin hx hy (fun w => ?_) (fun w x y => ?_)
  · simp [binOp, Op.equal, hd, Op.equalIn, run_underlying hT]
  · unfold eqGuard
    split <;> rfl
end
end Go.Sx
