import Derived.WalkKit
import Derived.Still
namespace Go.Sx
open Go Go.RowKit
abbrev Env := List (Nat × Value)
def lk : Env → Nat → Option Value
 | [], _ => none
 | (d, v) :: l, t => bif Nat.beq d t then some v else lk l t
def ev (l : Env) : Operand → Option Value
 | .tmp t => lk l t
 | .const v => some v
 | .global g => some (.pointer (some ⟨g, 0, none⟩))
 | .func f => some (.func (.func f) #[] #[])
def evs (l : Env) : List Operand → Option (List Value)
 | [] => some []
 | x :: r => match ev l x, evs l r with
  | some v, some vs => some (v :: vs)
  | _, _ => none
structure At (N : Nat) (a : Act) (l : Env) : Prop where
 defers : a.defers = []
 size : a.tmps.size = N
 slots : ∀ t v, lk l t = some v → a.tmps[t]? = some v
def Sub (l : Env) : Env → Prop
 | [] => True
 | (t, v) :: r => lk l t = some v ∧ Sub l r
theorem Xa (d : Nat) (v : Value) (l : Env) (t : Nat) : lk ((d, v) :: l) t = if d = t then some v else lk l t := by
 show (bif Nat.beq d t then some v else lk l t) = _
 by_cases h : d = t
 ·subst h; simp
 ·have : Nat.beq d t = false := by
   cases hb : Nat.beq d t
   ·rfl
   ·exact absurd (Nat.eq_of_beq_eq_true hb) h
  simp [this, h]
theorem lk_sub {l : Env} : ∀ {m : Env}, Sub l m → ∀ t v, lk m t = some v → lk l t = some v
 | [], _, t, v, h => by simp [lk] at h
 | (d, u) :: m, ⟨h1, h2⟩, t, v, h => by
  rw [Xa] at h
  split at h
  ·rename_i e; subst e; rw [h1, h]
  ·exact lk_sub h2 t v h
theorem At.sub {N : Nat} {a : Act} {l m : Env} (h : At N a l) (hs : Sub l m) : At N a m :=
 ⟨h.defers, h.size, fun t v ht => h.slots t v (lk_sub hs t v ht)⟩
theorem At.put {N : Nat} {a : Act} {l : Env} (h : At N a l) {d : Nat} (hd : Nat.blt d N = true) (v : Value) : At N (a.put (some d) v) ((d, v) :: l) := by
 have hd' : d < N := by rw [Nat.blt_eq] at hd; exact hd
 refine ⟨h.defers, by simpa [Act.put] using h.size, fun t u ht => ?_⟩
 rw [Xa] at ht
 by_cases e : d = t
 ·subst e
  rw [if_pos rfl] at ht
  have hsz : d < a.tmps.size := by rw [h.size]; exact hd'
  simp [Act.put, hsz]
  simpa using ht
 ·rw [if_neg e] at ht
  simpa [Act.put, Array.getElem?_setIfInBounds_ne e] using h.slots t u ht
theorem At.eval {N : Nat} {a : Act} {l : Env} (h : At N a l) {x : Operand} {v : Value} (hx : ev l x = some v) : a.eval x = v := by
 cases x with
 | tmp t =>
  have := h.slots t v hx
  simp [Act.eval, this]
 | const c => simpa [ev, Act.eval] using hx
 | global g => simpa [ev, Act.eval] using hx
 | func f => simpa [ev, Act.eval] using hx
theorem At.evals {N : Nat} {a : Act} {l : Env} (h : At N a l) : ∀ {xs : List Operand} {vs : List Value}, evs l xs = some vs → xs.map a.eval = vs
 | [], vs, hx => by simpa [evs] using hx
 | x :: r, vs, hx => by
  simp only [evs] at hx
  cases h1 : ev l x with
  | none => simp [h1] at hx
  | some v =>
   cases h2 : evs l r with
   | none => simp [h1, h2] at hx
   | some us =>
    simp [h1, h2] at hx
    subst hx
    simp [h.eval h1, h.evals h2]
def Ext (w w' : World) : Prop := Below w.heap.size w w'
theorem Ext.refl (w : World) : Ext w w := Below.refl _ _
theorem Ext.trans {a b c : World} (h : Ext a b) (k : Ext b c) : Ext a c := Below.trans h (Below.mono k h.size)
theorem Ext.size {a b : World} (h : Ext a b) : a.heap.size ≤ b.heap.size := Below.size h
theorem Ext.cell {a b : World} (h : Ext a b) {p : Addr} {v : Value} (hc : a.cell? p = some v) : b.cell? p = some v :=
 (Below.cell h (World.block_lt_of_cell? a p hc)).trans hc
theorem Ext.alloc (w : World) (o : Obj) : Ext w (w.alloc o) := (Below.refl _ _).alloc (Nat.le_refl _) o
theorem Ext.drew (w : World) : Ext w w.drew := (Below.refl _ _).drew
def isA : Op → Bool
 | .move _ | .assign _ | .pick .. | .load .. | .nilCheck _ | .binOp .. | .unOp .. | .convert .. | .makeFunc .. | .slice .. | .fieldAddr .. | .field ..
 | .indexAddr .. | .index .. | .lookup .. | .extract .. | .build .. | .makeInterface .. => true
 | .call c => match c.callee with
  | .builtin .len | .builtin .cap | .builtin .max | .builtin .min => true
  | _ => false
 | _ => false
def isM : Op → Bool
 | .load .. | .lookup .. | .index .. | .convert .. => false
 | op => isA op
def ancs (ops : Array Oper) : Nat → List Nat → List Nat
 | 0, s => s
 | f + 1, s => s ++ ancs ops f ((s.map fun k => match ops[k]? with
  | some o => (o.after.toList.filter (Region.binds .any)).map (·.on)
  | none => []).flatten)
def isTail (ops : Array Oper) (j : Nat) : Bool :=
 match ops[j]? with
 | none => false
 | some oj => (List.range ops.size).all fun k => k == j || oj.after.any (fun e => Region.binds .any e && e.on == k) ||
   (match ops[k]? with
    | some ok => ok.after.any (fun e => Region.binds .any e && e.on == j)
    | none => true) || (ancs ops 6 [j]).contains k || (match ops[k]? with
    | some ok => isM ok.op
    | none => true)
section
variable (P : Program) (ops : Array Oper)
def RL (dr : Bool) (Q : Act → World → Prop) : List Nat → Act → World → Prop
 | [], a, w => Q a w
 | i :: r, a, w => ∃ o, ops[i]? = some o ∧
  if Region.wanted o (yielded ops a.tmps) then
   (isA o.op = true ∧ ∃ v, (∀ w', (isM o.op = true ∨ Ext w w') → (execOp a.eval o).run P w' = .ok (.value v) w') ∧ RL dr Q r (a.put o.dst v) w) ∨
   (isA o.op = false ∧ o.wp P a w (fun a' w' => (∃ v, a' = a.put o.dst v) ∧ (dr = true → isTail ops i = false → Ext w w') ∧ RL dr Q r a' w') (fun _ _ _ => False))
  else RL dr Q r (a.put o.dst undef) w
def opE (i : Nat) (K : Act → World → Prop) (a : Act) (w : World) : Prop :=
 match ops[i]? with
 | none => K a w
 | some o => if Region.wanted o (yielded ops a.tmps) then o.wp P a w K (fun _ _ _ => False) else K (a.put o.dst undef) w
def wpE (Q : Act → World → Prop) : Nat → Array Bool → Act → World → Prop
 | 0, listed, a, w => Region.ready .any ops listed = [] ∧ Q a w
 | n + 1, listed, a, w => (Region.ready .any ops listed = [] → Q a w) ∧
  ∀ i ∈ Region.ready .any ops listed, opE P ops i (fun a' w' => (isTail ops i = false → Ext w w') ∧ wpE Q n (listed.setIfInBounds i true) a' w') a w
end
section
variable {P : Program} {ops : Array Oper}
theorem Zv {o : Oper} {a : Act} {w : World} {K K' : Act → World → Prop} {Q : Exit → Act → World → Prop} (h : ∀ a w, K a w → K' a w)
  (hh : o.wp P a w K (fun _ _ _ => False)) : o.wp P a w K' Q := by
 unfold Oper.wp at *
 generalize (execOp a.eval o).run P w = r at *
 cases r with
 | ok n w' =>
  cases n <;> simp only [Oper.upon] at hh ⊢ <;>
   first
    | exact h _ _ hh
    | exact Calls.mono hh (fun e w'' he => by
      cases e with
      | returned v => exact h _ _ he
      | panicked c => exact he.elim
      | outgrown => obtain ⟨_, _, hf⟩ := he; exact hf.elim)
    | exact Rows.mono hh (fun _ _ he => h _ _ he)
    | exact hh.elim
 | halt x w' => cases x <;> simp only [Oper.upon] at hh ⊢
theorem QaQ {i : Nat} {a : Act} {w : World} {K K' : Act → World → Prop} (h : ∀ a w, K a w → K' a w) (hh : opE P ops i K a w) : opE P ops i K' a w := by
 unfold opE at *
 split
 ·rename_i ho; simp only [ho] at hh; exact h _ _ hh
 ·rename_i o ho
  simp only [ho] at hh
  split
  ·rename_i hw; rw [if_pos hw] at hh; exact Zv h hh
  ·rename_i hw; rw [if_neg hw] at hh; exact h _ _ hh
theorem JX {i : Nat} {a : Act} {w : World} {K K' : Act → World → Prop} {Q : Exit → Act → World → Prop} (h : ∀ a w, K a w → K' a w) (hh : opE P ops i K a w) : wpOp P ops Q i K' a w := by
 unfold opE at hh
 unfold wpOp
 split
 ·rename_i ho; simp only [ho] at hh; exact h _ _ hh
 ·rename_i o ho
  simp only [ho] at hh
  split
  ·rename_i hw; rw [if_pos hw] at hh; exact .inl (Zv h hh)
  ·rename_i hw; rw [if_neg hw] at hh; exact h _ _ hh
theorem Jd {Q : Act → World → Prop} {Q' : Exit → Act → World → Prop} (hQ : ∀ a w, Q a w → Q' .normal a w) : ∀ (n : Nat) (listed : Array Bool) (a : Act) (w : World),
  wpE P ops Q n listed a w → wpAny P .any ops Q' n listed a w
 | 0, _, _, _, h => ⟨h.1, hQ _ _ h.2⟩
 | n + 1, _, _, _, h => ⟨fun h0 => hQ _ _ (h.1 h0), fun i hi => JX (fun a' w' hh => Jd hQ n _ a' w' hh.2) (h.2 i hi)⟩
def YieldsE (P : Program) (ops : Array Oper) (o : Oper) (v : Value) (a : Act) (w : World) : Prop :=
 (Region.wanted o (yielded ops a.tmps) = true ∧ ∀ w', (isM o.op = true ∨ Ext w w') → (execOp a.eval o).run P w' = .ok (.value v) w') ∨
 (Region.wanted o (yielded ops a.tmps) = false ∧ v = undef)
theorem YieldsE.ext {o : Oper} {v : Value} {a : Act} {w w' : World} (h : YieldsE P ops o v a w) (hw : Ext w w') : YieldsE P ops o v a w' := by
 rcases h with ⟨h1, h2⟩ | h
 ·exact .inl ⟨h1, fun w'' hE => h2 _ (hE.imp id hw.trans)⟩
 ·exact .inr h
theorem YieldsE.any {o : Oper} {v : Value} {a : Act} {w w' : World} (h : YieldsE P ops o v a w) (hM : isM o.op = true) : YieldsE P ops o v a w' := by
 rcases h with ⟨h1, h2⟩ | h
 ·exact .inl ⟨h1, fun w'' _ => h2 _ (.inl hM)⟩
 ·exact .inr h
theorem YieldsE.opE {i : Nat} {o : Oper} {v : Value} {a : Act} {w : World} (hi : ops[i]? = some o) (hy : YieldsE P ops o v a w) {K : Act → World → Prop} (h : K (a.put o.dst v) w) : opE P ops i K a w := by
 unfold Go.Sx.opE
 simp only [hi]
 rcases hy with ⟨hw, hv⟩ | ⟨hw, rfl⟩
 ·rw [if_pos hw]
  unfold Oper.wp
  rw [hv w (.inr (Ext.refl w))]
  exact h
 ·rw [if_neg (by simp [hw])]; exact h
theorem YieldsE.of_same {o : Oper} {v : Value} {a a' : Act} {w : World} (hy : YieldsE P ops o v a w) (he : execOp a'.eval o = execOp a.eval o)
  (hw : Region.wanted o (yielded ops a'.tmps) = Region.wanted o (yielded ops a.tmps)) : YieldsE P ops o v a' w := by
 unfold YieldsE at *
 rw [he, hw]
 exact hy
theorem opE_put {j : Nat} {oi oj : Oper} {v : Value} (hj : ops[j]? = some oj) (hap : oi.apart ops oj = true)
  (hsi : ∀ cs b, oi.op ≠ .select cs b) (hsj : ∀ cs b, oj.op ≠ .select cs b) {K : Act → World → Prop} {a : Act} {w : World}
  (hy : YieldsE P ops oi v a w) (h : opE P ops j K (a.put oi.dst v) w) :
  opE P ops j (fun a' w' => YieldsE P ops oi v a' w ∧ K (a'.put oi.dst v) w') a w := by
 obtain ⟨h1, h2, h3⟩ := Oper.apart_spec hap
 have keep : ∀ (a : Act), YieldsE P ops oi v a w → ∀ u, YieldsE P ops oi v (a.put oj.dst u) w := fun a hy u =>
  hy.of_same (execOp_put oi hsi a oj.dst u h3) (wanted_put oi a oj.dst u h3)
 have keepD : ∀ d, YieldsE P ops oi v { a with defers := d :: a.defers } w := fun d => hy.of_same rfl rfl
 unfold opE at *
 simp only [hj] at *
 rw [wanted_put oj a oi.dst v h1] at h
 split
 ·rename_i hw
  rw [if_pos hw] at h
  unfold Oper.wp at *
  rw [execOp_put oj hsj a oi.dst v h1] at h
  generalize (execOp a.eval oj).run P w = r at *
  cases r with
  | ok n w' =>
   cases n <;> simp only [Oper.upon] at h ⊢
   case value u => exact ⟨keep a hy u, by rw [← Act.put_comm a v u h2]; exact h⟩
   case skip => exact ⟨keep a hy _, by rw [← Act.put_comm a v undef h2]; exact h⟩
   case defer d =>
    refine ⟨keep _ (keepD d) _, ?_⟩
    rw [← Act.put_comm _ v undef h2, ← Act.put_defers]
    exact h
   case enter f args =>
    refine Calls.mono h fun e w'' he => ?_
    cases e with
    | returned u => exact ⟨keep a hy u, by rw [← Act.put_comm a v u h2]; exact he⟩
    | panicked c => exact he
    | outgrown => exact he
   case row row args => exact Rows.mono h fun u w'' he => ⟨keep a hy u, by rw [← Act.put_comm a v u h2]; exact he⟩
  | halt x w' =>
   cases x <;> simp only [Oper.upon] at h ⊢
 ·rename_i hw
  rw [if_neg hw] at h
  exact ⟨keep a hy _, by rw [← Act.put_comm a v undef h2]; exact h⟩
def Closed (ops : Array Oper) (listed : Array Bool) : Prop := ∀ k o, ops[k]? = some o → listed.getD k false = true → ∀ e ∈ o.after, Region.binds .any e = true → listed.getD e.on false = true
theorem QaV {listed : Array Bool} {j : Nat} {b : Bool} : (listed.setIfInBounds j true).getD j b = if j < listed.size then true else b := by
 by_cases h : j < listed.size
 ·simp [h]
 ·simp [h]
theorem Closed.set {listed : Array Bool} (h : Closed ops listed) {j : Nat} (hj : j ∈ Region.ready .any ops listed) : Closed ops (listed.setIfInBounds j true) := by
 intro k o hk hl e he hb
 have hmono : ∀ x, listed.getD x false = true → (listed.setIfInBounds j true).getD x false = true := fun x hx => by
  by_cases hxj : j = x
  ·subst hxj
   rw [QaV]
   split
   ·rfl
   ·rename_i hlt
    rw [Array.getD_eq_getD_getElem?, Array.getElem?_eq_none (by omega)] at hx
    cases hx
  ·rw [getD_set_ne false hxj]; exact hx
 refine hmono _ ?_
 by_cases hkj : j = k
 ·subst hkj
  obtain ⟨_, oj, hoj, hall⟩ := mem_ready.1 hj
  rw [hk] at hoj
  cases hoj
  exact hall e he hb
 ·rw [getD_set_ne false hkj] at hl
  exact h k o hk hl e he hb
theorem Closed.none {n : Nat} : Closed ops (Array.replicate n false) := fun k o _ hl => by
 simp [Array.getD_eq_getD_getElem?, Array.getElem?_replicate] at hl
 split at hl <;> simp at hl
theorem KS {listed : Array Bool} (hcl : Closed ops listed) {j : Nat} (hj : j ∈ Region.ready .any ops listed) : ∀ (f : Nat) (s : List Nat), (∀ x ∈ s, x = j ∨ listed.getD x false = true) → ∀ k ∈ ancs ops f s, k = j ∨ listed.getD k false = true
 | 0, s, hs, k, hk => hs k hk
 | f + 1, s, hs, k, hk => by
  simp only [ancs, List.mem_append] at hk
  rcases hk with hk | hk
  ·exact hs k hk
  ·refine KS hcl hj f _ (fun x hx => ?_) k hk
   simp only [List.mem_flatten, List.mem_map] at hx
   obtain ⟨l, ⟨y, hy, rfl⟩, hxl⟩ := hx
   cases ho : ops[y]? with
   | none => simp [ho] at hxl
   | some o =>
    simp only [ho, List.mem_map, List.mem_filter, Array.mem_toList_iff] at hxl
    obtain ⟨e, ⟨he, hb⟩, rfl⟩ := hxl
    refine .inr ?_
    rcases hs y hy with rfl | hl
    ·obtain ⟨_, oj, hoj, hall⟩ := mem_ready.1 hj
     rw [ho] at hoj
     cases hoj
     exact hall e he hb
    ·exact hcl y o ho hl e he hb
theorem Kp {i j : Nat} {oi : Oper} {listed : Array Bool} (hj : j ∈ Region.ready .any ops listed) (hi : ops[i]? = some oi) (hne : i ≠ j) (hun : listed.getD i true = false) (hir : i ∈ Region.ready .any ops listed) (hcl : Closed ops listed) (hM : ¬ isM oi.op = true) :
  isTail ops j = false := by
 cases ht : isTail ops j
 ·rfl
 ·exfalso
  obtain ⟨hjun, oj, hoj, hall⟩ := mem_ready.1 hj
  obtain ⟨_, oi', hoi', halli⟩ := mem_ready.1 hir
  unfold isTail at ht
  simp only [hoj, List.all_eq_true, List.mem_range] at ht
  have h1 := ht i (Array.getElem?_eq_some_iff.1 hi).1
  have hlt : ∀ {k : Nat}, listed.getD k true = false → listed.getD k false = true → False := by
   intro k h0 h1
   rcases Nat.lt_or_ge k listed.size with h' | h'
   ·simp [h'] at h0 h1; rw [h0] at h1; cases h1
   ·simp [Array.getElem?_eq_none h'] at h1
  simp only [hi, Bool.or_eq_true, beq_iff_eq] at h1
  rcases h1 with (((h1 | h1) | h1) | h1) | h1
  ·exact hne h1
  ·obtain ⟨e, he, hh⟩ := Array.any_eq_true'.1 h1
   simp only [Bool.and_eq_true, beq_iff_eq] at hh
   have := hall e he hh.1
   rw [hh.2] at this
   exact hlt hun this
  ·obtain ⟨e, he, hh⟩ := Array.any_eq_true'.1 h1
   simp only [Bool.and_eq_true, beq_iff_eq] at hh
   rw [hi] at hoi'
   cases hoi'
   have := halli e he hh.1
   rw [hh.2] at this
   exact hlt hjun this
  ·have := KS hcl hj 6 [j] (fun x hx => .inl (by simpa using hx)) i (by simpa using h1)
   rcases this with e | e
   ·exact hne e
   ·exact hlt hun e
  ·exact hM h1
theorem Qbf {Q : Act → World → Prop} {i : Nat} {oi : Oper} {v : Value} (hi : ops[i]? = some oi) (hsel : ∀ (j : Nat) (o : Oper) cs b, ops[j]? = some o → o.op ≠ .select cs b) :
  ∀ (fuel : Nat) (listed : Array Bool) (a : Act) (w : World), Closed ops listed →
   (∀ j oj, ops[j]? = some oj → j ≠ i → listed.getD j true = false → (∀ e ∈ oj.after, Region.binds .any e = true → e.on ≠ i) → oi.apart ops oj = true) →
   i ∈ Region.ready .any ops listed → YieldsE P ops oi v a w →
   wpE P ops Q fuel (listed.setIfInBounds i true) (a.put oi.dst v) w → wpE P ops Q (fuel + 1) listed a w := by
 intro fuel
 induction fuel with
 | zero =>
  intro listed a w _ _ hr hy H
  refine ⟨fun h => (by rw [h] at hr; cases hr), fun j hj => ?_⟩
  by_cases hji : j = i
  ·subst hji; exact hy.opE hi ⟨fun _ => Ext.refl w, H⟩
  ·have := ready_mono hj hji
   rw [H.1] at this
   cases this
 | succ fuel ih =>
  intro listed a w hcl hfree hr hy H
  refine ⟨fun h => (by rw [h] at hr; cases hr), fun j hj => ?_⟩
  by_cases hji : j = i
  ·subst hji; exact hy.opE hi ⟨fun _ => Ext.refl w, H⟩
  ·have h1 := H.2 j (ready_mono hj hji)
   obtain ⟨hjun, oj, hoj, hall⟩ := mem_ready.1 hj
   have hiun := (mem_ready.1 hr).1
   have hnot : ∀ e ∈ oj.after, Region.binds .any e = true → e.on ≠ i := fun e he hb heq => by
    have h1 := hall e he hb
    have h0 := (mem_ready.1 hr).1
    rw [heq] at h1
    rcases Nat.lt_or_ge i listed.size with h' | h'
    ·simp [h'] at h0 h1; rw [h0] at h1; cases h1
    ·simp [Array.getElem?_eq_none h'] at h1
   have h2 := opE_put hoj (hfree j oj hoj hji hjun hnot) (fun cs b => hsel i oi cs b hi) (fun cs b => hsel j oj cs b hoj) hy h1
   have hfree' : ∀ k ok, ops[k]? = some ok → k ≠ i → (listed.setIfInBounds j true).getD k true = false →
     (∀ e ∈ ok.after, Region.binds .any e = true → e.on ≠ i) → oi.apart ops ok = true := fun k ok hk hki hun hno => by
    refine hfree k ok hk hki ?_ hno
    by_cases hjk : j = k
    ·subst hjk; exact hjun
    ·rw [getD_set_ne true hjk] at hun; exact hun
   refine QaQ (fun a' w' h3 => ?_) h2
   obtain ⟨hya, hE, hrest⟩ := h3
   have hyw : YieldsE P ops oi v a' w' := by
    by_cases hM : isM oi.op = true
    ·exact hya.any hM
    ·exact hya.ext (hE (Kp hj hi (Ne.symm hji) hiun hr hcl hM))
   refine ⟨hE, ih (listed.setIfInBounds j true) a' w' (hcl.set hj) hfree' (ready_mono hr (Ne.symm hji)) hyw ?_⟩
   rw [Array.setIfInBounds_comm _ _ hji]
   exact hrest
def okFrom (ops : Array Oper) : List Nat → Array Bool → Bool
 | [], listed => (Region.ready .any ops listed).isEmpty
 | i :: r, listed => (Region.ready .any ops listed).contains i &&
   (match ops[i]? with
    | some o => if isA o.op then Region.free .any ops listed i else (Region.ready .any ops listed).all (· == i)
    | none => false) && okFrom ops r (listed.setIfInBounds i true)
def okOrd (ops : Array Oper) (l : List Nat) : Bool := l.length == ops.size && (Region.noSelect ops && okFrom ops l (Array.replicate ops.size false))
theorem Jy {Q : Act → World → Prop} (hs : Region.noSelect ops = true) : ∀ (l : List Nat) (listed : Array Bool) (a : Act) (w : World), Closed ops listed →
  okFrom ops l listed = true → RL P ops true Q l a w → wpE P ops Q l.length listed a w
 | [], listed, a, w, _, hB, h => ⟨by simpa [okFrom] using hB, h⟩
 | i :: r, listed, a, w, hcl, hB, h => by
  obtain ⟨o, ho, h⟩ := h
  simp only [okFrom, Bool.and_eq_true, ho] at hB
  obtain ⟨⟨hr, hk⟩, hrest⟩ := hB
  have hr' : i ∈ Region.ready .any ops listed := by simpa using hr
  have first : ∀ v, isA o.op = true → YieldsE P ops o v a w → RL P ops true Q r (a.put o.dst v) w → wpE P ops Q (r.length + 1) listed a w := fun v hA hy hq => by
   rw [if_pos hA] at hk
   exact Qbf ho (Region.noSelect_spec hs) r.length listed a w hcl (Region.free_spec ho hk) hr' hy (Jy hs r _ _ _ (hcl.set hr') hrest hq)
  by_cases hA : isA o.op = true
  ·by_cases hw : Region.wanted o (yielded ops a.tmps) = true
   ·rw [if_pos hw] at h
    rcases h with ⟨_, v, hv, hq⟩ | ⟨hn, _⟩
    ·exact first v hA (.inl ⟨hw, hv⟩) hq
    ·rw [hn] at hA; cases hA
   ·rw [if_neg hw] at h
    exact first undef hA (.inr ⟨by simpa using hw, rfl⟩) h
  ·rw [if_neg hA] at hk
   refine ⟨fun h0 => (by rw [h0] at hr'; cases hr'), fun j hj => ?_⟩
   have hji : j = i := by
    have := List.all_eq_true.1 hk j hj
    simpa using this
   subst hji
   unfold opE
   simp only [ho]
   split
   ·rename_i hw
    rw [if_pos hw] at h
    rcases h with ⟨h1, _⟩ | ⟨_, hq⟩
    ·exact absurd h1 hA
    ·exact Zv (fun a' w' hh => ⟨hh.2.1 rfl, Jy hs r _ _ _ (hcl.set hr') hrest hh.2.2⟩) hq
   ·rename_i hw
    rw [if_neg hw] at h
    exact ⟨fun _ => Ext.refl w, Jy hs r _ _ _ (hcl.set hr') hrest h⟩
theorem ZW {Q : Act → World → Prop} {Q' : Exit → Act → World → Prop} (hQ : ∀ a w, Q a w → Q' .normal a w) : ∀ (l : List Nat) (a : Act) (w : World),
  RL P ops false Q l a w → wpOps P ops Q' l a w
 | [], a, w, h => hQ _ _ h
 | i :: r, a, w, h => by
  obtain ⟨o, ho, h⟩ := h
  simp only [wpOps, ho]
  split
  ·rename_i hw
   rw [if_pos hw] at h
   refine .inl ?_
   rcases h with ⟨_, v, hv, hq⟩ | ⟨_, hq⟩
   ·unfold Oper.wp
    rw [hv w (.inr (Ext.refl w))]
    exact ZW hQ r _ _ hq
   ·exact Zv (fun a' w' hh => ZW hQ r _ _ hh.2.2) hq
  ·rename_i hw
   rw [if_neg hw] at h
   exact ZW hQ r _ _ h
end
section
variable (P : Program) (N : Nat)
def WC (c : Code) (Q : Exit → Act → World → Prop) (l : Env) (w : World) : Prop := ∀ a, At N a l → c.wp P Q a w
def WR (ops : Array Oper) (dr : Bool) (Q : Act → World → Prop) (π : List Nat) (l : Env) (w : World) : Prop := ∀ a, At N a l → RL P ops dr Q π a w
def Post (Q : Exit → Act → World → Prop) (e : Exit) (l : Env) (w : World) : Prop := ∀ a, At N a l → Q e a w
end
def Ret (Φ : Value → World → Prop) : Ending → World → Prop
 | .returned v, w => Φ v w
 | _, _ => False
section
variable {P : Program} {N : Nat} {Q : Exit → Act → World → Prop} {l : Env} {w : World}
theorem Qb {id : Nat} {ops : Array Oper} (π : List Nat) (hπ : List.range ops.size = π) (h : WR P N ops false (Q .normal) π l w) : WC P N (.region id ops false) Q l w := by
 intro a ha
 refine wp_region ?_
 rw [hπ]
 exact ZW (fun _ _ h => h) π a w (h a ha)
theorem Qx {id : Nat} {ops : Array Oper} (hm : P.follows .mixedOrders = true) (π : List Nat) (hB : okOrd ops π = true) (h : ∀ w', Ext w w' → w' = w.drew → WR P N ops true (Q .normal) π l w') : WC P N (.region id ops true) Q l w := by
 intro a ha
 simp only [okOrd, Bool.and_eq_true, beq_iff_eq] at hB
 refine wp_region_any hm ?_
 have := Jy (P := P) (Q := Q .normal) hB.2.1 π (Array.replicate ops.size false) a w.drew Closed.none hB.2.2 (h w.drew (Ext.drew w) rfl a ha)
 rw [hB.1] at this
 exact Jd (fun _ _ h => h) _ _ _ _ this
theorem Qd {ops : Array Oper} {dr : Bool} {Q : Exit → Act → World → Prop} (h : Post N Q .normal l w) : WR P N ops dr (Q .normal) [] l w := h
theorem Qc {x y : Code} (h : WC P N x (Exit.then (fun a w => y.wp P Q a w) Q) l w) : WC P N (.seq x y) Q l w := fun a ha => wp_seq (h a ha)
theorem Qe (h : Post N Q .normal l w) : WC P N .skip Q l w := fun a ha => wp_skip (h a ha)
theorem Qq (h : Post N Q .ret l w) : WC P N .ret Q l w := fun a ha => wp_ret (h a ha)
theorem Qt {id : Nat} (h : Post N Q (.exit id) l w) : WC P N (.exit id) Q l w := fun a ha => wp_exit (h a ha)
theorem Qf {id : Nat} {c : Code} (h : WC P N c (Exit.inBlock id Q) l w) : WC P N (.block id c) Q l w := fun a ha => wp_block (h a ha)
theorem Qo {c : Operand} {x y : Code} {b : Bool} (hc : ev l c = some (.bool b)) (ht : b = true → WC P N x Q l w) (hf : b = false → WC P N y Q l w) : WC P N (.cond c x y) Q l w :=
 fun a ha => wp_cond_split (ha.eval hc) (fun h => ht h a ha) (fun h => hf h a ha)
theorem QC {c : Operand} {x y : Code} {b : Bool} (hc : ev l c = some (.bool b)) (hb : b = true) (ht : WC P N x Q l w) : WC P N (.cond c x y) Q l w :=
 Qo hc (fun _ => ht) (fun h => by rw [hb] at h; cases h)
theorem Qn {c : Operand} {x y : Code} {b : Bool} (hc : ev l c = some (.bool b)) (hb : b = false) (hf : WC P N y Q l w) : WC P N (.cond c x y) Q l w :=
 Qo hc (fun h => by rw [hb] at h; cases h) (fun _ => hf)
theorem QbP {c : Code} (J : Nat → Act → World → Prop) (round : ∀ n a w, J n a w → c.wp P (Exit.then (fun a' w' => ∃ m, m < n ∧ J m a' w') Q) a w) :
  ∀ n a w, J n a w → (Code.loop c).wp P Q a w := by
 intro n a w h b k cs
 have key : ∀ n a w, J n a w → ∃ e a' w', Q e a' w' ∧ Arrives P (lone (b.at a (.code c :: .inLoop c :: k)) cs w) b k cs e a' w' := by
  intro n
  induction n using Nat.strongRecOn with
  | _ n ih =>
   intro a w h
   obtain ⟨e, a₁, w₁, hq, harr⟩ := round n a w h b (.inLoop c :: k) cs
   cases e with
   | normal =>
    obtain ⟨m, hm, hJ⟩ := hq
    obtain ⟨e₂, a₂, w₂, hq₂, harr₂⟩ := ih m hm a₁ w₁ hJ
    exact ⟨e₂, a₂, w₂, hq₂, .of_steps (Steps.trans harr (.one step_inLoop)) harr₂⟩
   | exit id => exact ⟨_, a₁, w₁, hq, .pass (x := .inLoop c) rfl (fun _ _ => .inl (by simp)) harr⟩
   | goto l => exact ⟨_, a₁, w₁, hq, .pass (x := .inLoop c) rfl (fun _ _ => .inl (by simp)) harr⟩
   | ret => exact ⟨_, a₁, w₁, hq, .pass (x := .inLoop c) rfl (fun _ _ => .inl (by simp)) harr⟩
   | panic ch => exact ⟨_, a₁, w₁, hq, .pass (x := .inLoop c) rfl (fun _ _ => .inl (by simp)) harr⟩
   | outgrown => exact ⟨_, a₁, w₁, hq, .pass (x := .inLoop c) rfl (fun _ _ => .inl (by simp)) harr⟩
 obtain ⟨e, a', w', hq, harr⟩ := key n a w h
 exact ⟨e, a', w', hq, .of_steps (.one step_loop) harr⟩
def LoopQ {σ : Type} (N : Nat) (L : σ → Env) (I : σ → World → Prop) (μ : σ → Nat) (m : Nat) (Q : Exit → Act → World → Prop) : Exit → Act → World → Prop :=
 Exit.then (fun a w => ∃ s, At N a (L s) ∧ I s w ∧ μ s < m) Q
theorem Qv {σ : Type} (L : σ → Env) (I : σ → World → Prop) (μ : σ → Nat) (s0 : σ) {body : Code} (hL : Sub l (L s0)) (hI : I s0 w)
  (round : ∀ s w, I s w → WC P N body (LoopQ N L I μ (μ s) Q) (L s) w) : WC P N (.loop body) Q l w := by
 intro a ha
 refine QbP (P := P) (Q := Q) (fun n a w => ∃ s, At N a (L s) ∧ I s w ∧ μ s = n) ?_ (μ s0) a w ⟨s0, ha.sub hL, hI, rfl⟩
 rintro n a w ⟨s, hA, hI, rfl⟩
 refine wp_mono (round s w hI a hA) (fun e a' w' hq => ?_)
 cases e with
 | normal => obtain ⟨s', h1, h2, h3⟩ := hq; exact ⟨μ s', h3, s', h1, h2, rfl⟩
 | _ => exact hq
theorem Qa {y : Code} {Q' : Exit → Act → World → Prop} (h : WC P N y Q l w) : Post N (Exit.then (fun a w => y.wp P Q a w) Q') .normal l w := h
theorem Ql {K : Act → World → Prop} {id : Nat} (h : Post N Q (.exit id) l w) : Post N (Exit.then K Q) (.exit id) l w := h
theorem Qp {K : Act → World → Prop} (h : Post N Q .ret l w) : Post N (Exit.then K Q) .ret l w := h
theorem Qi {σ : Type} {L : σ → Env} {I : σ → World → Prop} {μ : σ → Nat} {m : Nat} (s' : σ) (hL : Sub l (L s')) (hI : I s' w) (hm : μ s' < m) : Post N (LoopQ N L I μ m Q) .normal l w :=
 fun _ ha => ⟨s', ha.sub hL, hI, hm⟩
theorem Qm {σ : Type} {L : σ → Env} {I : σ → World → Prop} {μ : σ → Nat} {m : Nat} {id : Nat} (h : Post N Q (.exit id) l w) : Post N (LoopQ N L I μ m Q) (.exit id) l w := h
theorem QE {σ : Type} {L : σ → Env} {I : σ → World → Prop} {μ : σ → Nat} {m : Nat} (h : Post N Q .ret l w) : Post N (LoopQ N L I μ m Q) .ret l w := h
theorem Qg {id : Nat} (h : Post N Q .normal l w) : Post N (Exit.inBlock id Q) .normal l w := h
theorem Qu {id : Nat} (h : Post N Q .ret l w) : Post N (Exit.inBlock id Q) .ret l w := h
theorem Qh {id : Nat} (h : Post N Q .normal l w) : Post N (Exit.inBlock id Q) (.exit id) l w := fun a ha => by
 show (if id = id then Q .normal a w else Q (.exit id) a w)
 rw [if_pos rfl]
 exact h a ha
theorem ZB {id id' : Nat} (hne : Nat.beq id' id = false) (h : Post N Q (.exit id') l w) : Post N (Exit.inBlock id Q) (.exit id') l w := fun a ha => by
 show (if id' = id then Q .normal a w else Q (.exit id') a w)
 rw [if_neg (fun e => by subst e; simp at hne)]
 exact h a ha
theorem XO {c y : Code} {Q' : Exit → Act → World → Prop} {σ : Type} (L : σ → Env) (I : σ → World → Prop)
  (h : WC P N c (Exit.then (fun a w => ∃ s, At N a (L s) ∧ I s w) Q') l w) (hy : ∀ s w, I s w → WC P N y Q (L s) w) :
  WC P N c (Exit.then (fun a w => y.wp P Q a w) Q') l w := fun a ha => wp_mono (h a ha) (fun e a' w' hq => by
 cases e with
 | normal => obtain ⟨s, h1, h2⟩ := hq; exact hy s w' h2 a' h1
 | _ => exact hq)
theorem Zb {σ : Type} {L : σ → Env} {I : σ → World → Prop} {Q' : Exit → Act → World → Prop} (s : σ) (hL : Sub l (L s)) (hI : I s w) :
  Post N (Exit.then (fun a w => ∃ s, At N a (L s) ∧ I s w) Q') .normal l w := fun _ ha => ⟨s, ha.sub hL, hI⟩
theorem Js {f : FuncId} {fn : Func} {c : Code} {args : List Value} {R : Ending → World → Prop} (l : Env)
  (hf : P.funcs[f]? = some fn) (hb : fn.body = some c) (hN : fn.ntmps = N) (hlen : Nat.ble args.length N = true) (hl : ∀ t v, lk l t = some v → args[t]? = some v)
  (h : WC P N c (bodyPost P fn R) l w) : Calls P f args.toArray w R := by
 refine calls_of_wp hf hb (h _ ⟨rfl, ?_, ?_⟩)
 ·have : args.length ≤ N := Nat.le_of_ble_eq_true hlen
  simp [hN]; omega
 ·intro t v ht
  have := hl t v ht
  have hlt : t < args.length := (List.getElem?_eq_some_iff.1 this).1
  simp [Array.getElem?_append, hlt]
  simpa [List.getElem?_eq_getElem hlt] using this
theorem Qj {fn : Func} {t : Tmp} {v : Value} {R : Ending → World → Prop} (hr : fn.results = #[.tmp t]) (hv : lk l t = some v) (hR : R (.returned v) w) :
  Post N (bodyPost P fn R) .ret l w := fun a ha => by
 refine ⟨ha.defers, v, ?_, hR⟩
 rw [results_tmp hr]
 have := ha.slots t v hv
 simp [this]
theorem QH {fn : Func} {t u : Tmp} {v x : Value} {R : Ending → World → Prop} (hr : fn.results = #[.tmp t, .tmp u]) (hv : lk l t = some v) (hx : lk l u = some x)
  (hR : R (.returned (.tuple #[v, x])) w) : Post N (bodyPost P fn R) .ret l w := fun a ha => by
 refine ⟨ha.defers, .tuple #[v, x], ?_, hR⟩
 rw [results_tmp2 hr]
 have h1 := ha.slots t v hv
 have h2 := ha.slots u x hx
 simp [h1, h2]
theorem Qbr {fn : Func} {t u s : Tmp} {v x y : Value} {R : Ending → World → Prop} (hr : fn.results = #[.tmp t, .tmp u, .tmp s]) (hv : lk l t = some v) (hx : lk l u = some x) (hy : lk l s = some y)
  (hR : R (.returned (.tuple #[v, x, y])) w) : Post N (bodyPost P fn R) .ret l w := fun a ha => by
 refine ⟨ha.defers, .tuple #[v, x, y], ?_, hR⟩
 rw [results_tmp3 hr]
 have h1 := ha.slots t v hv
 have h2 := ha.slots u x hx
 have h3 := ha.slots s y hy
 simp [h1, h2, h3]
theorem Xl {fn : Func} {R : Ending → World → Prop} (hr : fn.results = #[]) (hR : R (.returned (.tuple #[])) w) : Post N (bodyPost P fn R) .ret l w := fun _ ha =>
 ⟨ha.defers, .tuple #[], results_none hr _ _ _, hR⟩
theorem QX {fn : Func} {R : Ending → World → Prop} (hr : fn.results = #[]) (hR : R (.returned (.tuple #[])) w) : Post N (bodyPost P fn R) .normal l w := fun _ ha =>
 ⟨ha.defers, .tuple #[], results_none hr _ _ _, hR⟩
end
end Go.Sx
