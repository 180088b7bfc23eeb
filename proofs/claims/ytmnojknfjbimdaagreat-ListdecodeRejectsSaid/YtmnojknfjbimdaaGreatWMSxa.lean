/-
  The walking framework of these proofs, part 1: environments as association lists, the judgements over code and regions, and that they are sound, also for a region that draws its order. Plain lists and numbers: tables of a function, binomial coefficients. No program in sight. The walking framework, part 2: one lemma for each operation; slices that read as lists, slices of the call's own. The walking framework, part 3: slice literals, append, make with a capacity, slice expressions, bools. The walking framework, part 4: variables of a struct type in blocks of their own, results in memory, comparison of structs, max. The walking framework, part 5: slices of slices whose rows lie apart from what is still written. The walking framework, part 6: regions that draw their order and in which several operations that make memory are free to come in several orders: each order is walked. The walking framework, part 7: slice expressions, copy into the call's own slice, the fields of structs. The walking framework, part 17: parts of the call's own slices from the beginning, and slices of slices of ints that are written row by row. The walking framework, part 8: append onto an empty literal; nothing that was there is written. The walking framework, part 9: functions as values, calls of them, and exclusive or. The walking framework, part 13: regions in which up to three operations are free to come in several orders: each order is walked. The walking framework, part 10: slices of structs of ints: reading, literals of one element, append. The walking framework, part 12: calls that write into blocks that the caller names. The walking framework, part 18: what lies outside of the blocks that a function value writes; append onto a slice that is full; calls of function values that write. The walking framework, part 19: a slice of slices of slices of ints that a function writes, element by element, into blocks that its caller names. The walking framework, part 11: scopes without jumps, labels, elements of array values, a result in memory. From the rows' data to the framework's words: an argument that is read as data gives lists of ints. From the rows' data to the framework's words: arguments of struct types, a field's description, lists of lists. From the rows' data to the framework's words: lists of lists, arrays. The walking framework: calls of function values that let the world only grow; numbers of other kinds; a string's bytes.
-/
import Derived.WalkKit
import Derived.Still
import Derived.Maps.AppendAt
import Derived.Laws.Slices
import Derived.Laws.IdiomCopy
import Derived.Deep.AppendSrc
import Derived.Scope
import Derived.ProofKit
import Derived.OpenShut
import Derived.ShutString
import Derived.ChangeOld
import Derived.SizedLaws
import Derived.Deep.Matrix
namespace Go.Sx
open Go Go.RowKit
abbrev Env := List (Nat × Value)
def lk : Env → Nat → Option Value
  | [], _ => none
  | (d, v) :: l, t => bif Nat.beq d t then some v else lk l t
def ev (l : Env) : Operand → Option Value
  | .tmp t => lk l t
  | .const v => some v
  | .global g => some (.pointer (some ⟨g, 0, none⟩))
  | .func f => some (.func (.func f) #[] #[])
def evs (l : Env) : List Operand → Option (List Value)
  | [] => some []
  | x :: r => match ev l x, evs l r with
    | some v, some vs => some (v :: vs)
    | _, _ => none
structure At (N : Nat) (a : Act) (l : Env) : Prop where
  defers : a.defers = []
  size : a.tmps.size = N
  slots : ∀ t v, lk l t = some v → a.tmps[t]? = some v
def Sub (l : Env) : Env → Prop
  | [] => True
  | (t, v) :: r => lk l t = some v ∧ Sub l r
theorem lk_cons (d : Nat) (v : Value) (l : Env) (t : Nat) : lk ((d, v) :: l) t = if d = t then some v else lk l t := by
  show (bif Nat.beq d t then some v else lk l t) = _
  by_cases h : d = t
  · subst h; simp
  · have : Nat.beq d t = false := by
      cases hb : Nat.beq d t
      · rfl
      · exact absurd (Nat.eq_of_beq_eq_true hb) h
    simp [this, h]
theorem lk_sub {l : Env} : ∀ {m : Env}, Sub l m → ∀ t v, lk m t = some v → lk l t = some v
  | [], _, t, v, h => by simp [lk] at h
  | (d, u) :: m, ⟨h1, h2⟩, t, v, h => by
    rw [lk_cons] at h
    split at h
    · rename_i e; subst e; rw [h1, h]
    · exact lk_sub h2 t v h
theorem At.sub {N : Nat} {a : Act} {l m : Env} (h : At N a l) (hs : Sub l m) : At N a m :=
  ⟨h.defers, h.size, fun t v ht => h.slots t v (lk_sub hs t v ht)⟩
theorem At.put {N : Nat} {a : Act} {l : Env} (h : At N a l) {d : Nat} (hd : Nat.blt d N = true) (v : Value) : At N (a.put (some d) v) ((d, v) :: l) := by
  have hd' : d < N := by rw [Nat.blt_eq] at hd; exact hd
  refine ⟨h.defers, by simpa [Act.put] using h.size, fun t u ht => ?_⟩
  rw [lk_cons] at ht
  by_cases e : d = t
  · subst e
    rw [if_pos rfl] at ht
    have hsz : d < a.tmps.size := by rw [h.size]; exact hd'
    simp [Act.put, hsz]
    simpa using ht
  · rw [if_neg e] at ht
    simpa [Act.put, Array.getElem?_setIfInBounds_ne e] using h.slots t u ht
theorem At.eval {N : Nat} {a : Act} {l : Env} (h : At N a l) {x : Operand} {v : Value} (hx : ev l x = some v) : a.eval x = v := by
  cases x with
  | tmp t =>
    have := h.slots t v hx
    simp [Act.eval, this]
  | const c => simpa [ev, Act.eval] using hx
  | global g => simpa [ev, Act.eval] using hx
  | func f => simpa [ev, Act.eval] using hx
theorem At.evals {N : Nat} {a : Act} {l : Env} (h : At N a l) : ∀ {xs : List Operand} {vs : List Value}, evs l xs = some vs → xs.map a.eval = vs
  | [], vs, hx => by simpa [evs] using hx
  | x :: r, vs, hx => by
    simp only [evs] at hx
    cases h1 : ev l x with
    | none => simp [h1] at hx
    | some v =>
      cases h2 : evs l r with
      | none => simp [h1, h2] at hx
      | some us =>
        simp [h1, h2] at hx
        subst hx
        simp [h.eval h1, h.evals h2]
def Ext (w w' : World) : Prop := Below w.heap.size w w'
theorem Ext.refl (w : World) : Ext w w := Below.refl _ _
theorem Ext.trans {a b c : World} (h : Ext a b) (k : Ext b c) : Ext a c := Below.trans h (Below.mono k h.size)
theorem Ext.size {a b : World} (h : Ext a b) : a.heap.size ≤ b.heap.size := Below.size h
theorem Ext.cell {a b : World} (h : Ext a b) {p : Addr} {v : Value} (hc : a.cell? p = some v) : b.cell? p = some v :=
  (Below.cell h (World.block_lt_of_cell? a p hc)).trans hc
theorem Ext.alloc (w : World) (o : Obj) : Ext w (w.alloc o) := (Below.refl _ _).alloc (Nat.le_refl _) o
theorem Ext.drew (w : World) : Ext w w.drew := (Below.refl _ _).drew
def isA : Op → Bool
  | .move _ | .assign _ | .pick .. | .load .. | .nilCheck _ | .binOp .. | .unOp .. | .convert .. | .makeFunc .. | .slice .. | .fieldAddr .. | .field ..
  | .indexAddr .. | .index .. | .lookup .. | .extract .. | .build .. | .makeInterface .. => true
  | .call c => match c.callee with
    | .builtin .len | .builtin .cap | .builtin .max | .builtin .min => true
    | _ => false
  | _ => false
def isM : Op → Bool
  | .load .. | .lookup .. | .index .. => false
  | op => isA op
def ancs (ops : Array Oper) : Nat → List Nat → List Nat
  | 0, s => s
  | f + 1, s => s ++ ancs ops f ((s.map fun k => match ops[k]? with
    | some o => (o.after.toList.filter (Region.binds .any)).map (·.on)
    | none => []).flatten)
def isTail (ops : Array Oper) (j : Nat) : Bool :=
  match ops[j]? with
  | none => false
  | some oj => (List.range ops.size).all fun k => k == j || oj.after.any (fun e => Region.binds .any e && e.on == k) ||
      (match ops[k]? with
       | some ok => ok.after.any (fun e => Region.binds .any e && e.on == j)
       | none => true) || (ancs ops 6 [j]).contains k || (match ops[k]? with
       | some ok => isM ok.op
       | none => true)
section
variable (P : Program) (ops : Array Oper)
def RL (dr : Bool) (Q : Act → World → Prop) : List Nat → Act → World → Prop
  | [], a, w => Q a w
  | i :: r, a, w => ∃ o, ops[i]? = some o ∧
    if Region.wanted o (yielded ops a.tmps) then
      (isA o.op = true ∧ ∃ v, (∀ w', (isM o.op = true ∨ Ext w w') → (execOp a.eval o).run P w' = .ok (.value v) w') ∧ RL dr Q r (a.put o.dst v) w) ∨
      (isA o.op = false ∧ o.wp P a w (fun a' w' => (∃ v, a' = a.put o.dst v) ∧ (dr = true → isTail ops i = false → Ext w w') ∧ RL dr Q r a' w') (fun _ _ _ => False))
    else RL dr Q r (a.put o.dst undef) w
def opE (i : Nat) (K : Act → World → Prop) (a : Act) (w : World) : Prop :=
  match ops[i]? with
  | none => K a w
  | some o => if Region.wanted o (yielded ops a.tmps) then o.wp P a w K (fun _ _ _ => False) else K (a.put o.dst undef) w
def wpE (Q : Act → World → Prop) : Nat → Array Bool → Act → World → Prop
  | 0, listed, a, w => Region.ready .any ops listed = [] ∧ Q a w
  | n + 1, listed, a, w => (Region.ready .any ops listed = [] → Q a w) ∧
    ∀ i ∈ Region.ready .any ops listed, opE P ops i (fun a' w' => (isTail ops i = false → Ext w w') ∧ wpE Q n (listed.setIfInBounds i true) a' w') a w
end
section
variable {P : Program} {ops : Array Oper}
theorem wp_mono2 {o : Oper} {a : Act} {w : World} {K K' : Act → World → Prop} {Q : Exit → Act → World → Prop} (h : ∀ a w, K a w → K' a w)
    (hh : o.wp P a w K (fun _ _ _ => False)) : o.wp P a w K' Q := by
  unfold Oper.wp at *
  generalize (execOp a.eval o).run P w = r at *
  cases r with
  | ok n w' =>
    cases n <;> simp only [Oper.upon] at hh ⊢ <;>
      first
        | exact h _ _ hh
        | exact Calls.mono hh (fun e w'' he => by
            cases e with
            | returned v => exact h _ _ he
            | panicked c => exact he.elim
            | outgrown => obtain ⟨_, _, hf⟩ := he; exact hf.elim)
        | exact Rows.mono hh (fun _ _ he => h _ _ he)
        | exact hh.elim
  | halt x w' => cases x <;> simp only [Oper.upon] at hh ⊢
theorem opE_mono {i : Nat} {a : Act} {w : World} {K K' : Act → World → Prop} (h : ∀ a w, K a w → K' a w) (hh : opE P ops i K a w) : opE P ops i K' a w := by
  unfold opE at *
  split
  · rename_i ho; simp only [ho] at hh; exact h _ _ hh
  · rename_i o ho
    simp only [ho] at hh
    split
    · rename_i hw; rw [if_pos hw] at hh; exact wp_mono2 h hh
    · rename_i hw; rw [if_neg hw] at hh; exact h _ _ hh
theorem wpOp_of_opE {i : Nat} {a : Act} {w : World} {K K' : Act → World → Prop} {Q : Exit → Act → World → Prop} (h : ∀ a w, K a w → K' a w) (hh : opE P ops i K a w) : wpOp P ops Q i K' a w := by
  unfold opE at hh
  unfold wpOp
  split
  · rename_i ho; simp only [ho] at hh; exact h _ _ hh
  · rename_i o ho
    simp only [ho] at hh
    split
    · rename_i hw; rw [if_pos hw] at hh; exact .inl (wp_mono2 h hh)
    · rename_i hw; rw [if_neg hw] at hh; exact h _ _ hh
theorem wpAny_of_wpE {Q : Act → World → Prop} {Q' : Exit → Act → World → Prop} (hQ : ∀ a w, Q a w → Q' .normal a w) : ∀ (n : Nat) (listed : Array Bool) (a : Act) (w : World),
    wpE P ops Q n listed a w → wpAny P .any ops Q' n listed a w
  | 0, _, _, _, h => ⟨h.1, hQ _ _ h.2⟩
  | n + 1, _, _, _, h => ⟨fun h0 => hQ _ _ (h.1 h0), fun i hi => wpOp_of_opE (fun a' w' hh => wpAny_of_wpE hQ n _ a' w' hh.2) (h.2 i hi)⟩
def YieldsE (P : Program) (ops : Array Oper) (o : Oper) (v : Value) (a : Act) (w : World) : Prop :=
  (Region.wanted o (yielded ops a.tmps) = true ∧ ∀ w', (isM o.op = true ∨ Ext w w') → (execOp a.eval o).run P w' = .ok (.value v) w') ∨
  (Region.wanted o (yielded ops a.tmps) = false ∧ v = undef)
theorem YieldsE.ext {o : Oper} {v : Value} {a : Act} {w w' : World} (h : YieldsE P ops o v a w) (hw : Ext w w') : YieldsE P ops o v a w' := by
  rcases h with ⟨h1, h2⟩ | h
  · exact .inl ⟨h1, fun w'' hE => h2 _ (hE.imp id hw.trans)⟩
  · exact .inr h
theorem YieldsE.any {o : Oper} {v : Value} {a : Act} {w w' : World} (h : YieldsE P ops o v a w) (hM : isM o.op = true) : YieldsE P ops o v a w' := by
  rcases h with ⟨h1, h2⟩ | h
  · exact .inl ⟨h1, fun w'' _ => h2 _ (.inl hM)⟩
  · exact .inr h
theorem YieldsE.opE {i : Nat} {o : Oper} {v : Value} {a : Act} {w : World} (hi : ops[i]? = some o) (hy : YieldsE P ops o v a w) {K : Act → World → Prop} (h : K (a.put o.dst v) w) : opE P ops i K a w := by
  unfold Go.Sx.opE
  simp only [hi]
  rcases hy with ⟨hw, hv⟩ | ⟨hw, rfl⟩
  · rw [if_pos hw]
    unfold Oper.wp
    rw [hv w (.inr (Ext.refl w))]
    exact h
  · rw [if_neg (by simp [hw])]; exact h
theorem YieldsE.of_same {o : Oper} {v : Value} {a a' : Act} {w : World} (hy : YieldsE P ops o v a w) (he : execOp a'.eval o = execOp a.eval o)
    (hw : Region.wanted o (yielded ops a'.tmps) = Region.wanted o (yielded ops a.tmps)) : YieldsE P ops o v a' w := by
  unfold YieldsE at *
  rw [he, hw]
  exact hy
theorem opE_put {j : Nat} {oi oj : Oper} {v : Value} (hj : ops[j]? = some oj) (hap : oi.apart ops oj = true)
    (hsi : ∀ cs b, oi.op ≠ .select cs b) (hsj : ∀ cs b, oj.op ≠ .select cs b) {K : Act → World → Prop} {a : Act} {w : World}
    (hy : YieldsE P ops oi v a w) (h : opE P ops j K (a.put oi.dst v) w) :
    opE P ops j (fun a' w' => YieldsE P ops oi v a' w ∧ K (a'.put oi.dst v) w') a w := by
  obtain ⟨h1, h2, h3⟩ := Oper.apart_spec hap
  have keep : ∀ (a : Act), YieldsE P ops oi v a w → ∀ u, YieldsE P ops oi v (a.put oj.dst u) w := fun a hy u =>
    hy.of_same (execOp_put oi hsi a oj.dst u h3) (wanted_put oi a oj.dst u h3)
  have keepD : ∀ d, YieldsE P ops oi v { a with defers := d :: a.defers } w := fun d => hy.of_same rfl rfl
  unfold opE at *
  simp only [hj] at *
  rw [wanted_put oj a oi.dst v h1] at h
  split
  · rename_i hw
    rw [if_pos hw] at h
    unfold Oper.wp at *
    rw [execOp_put oj hsj a oi.dst v h1] at h
    generalize (execOp a.eval oj).run P w = r at *
    cases r with
    | ok n w' =>
      cases n <;> simp only [Oper.upon] at h ⊢
      case value u => exact ⟨keep a hy u, by rw [← Act.put_comm a v u h2]; exact h⟩
      case skip => exact ⟨keep a hy _, by rw [← Act.put_comm a v undef h2]; exact h⟩
      case defer d =>
        refine ⟨keep _ (keepD d) _, ?_⟩
        rw [← Act.put_comm _ v undef h2, ← Act.put_defers]
        exact h
      case enter f args =>
        refine Calls.mono h fun e w'' he => ?_
        cases e with
        | returned u => exact ⟨keep a hy u, by rw [← Act.put_comm a v u h2]; exact he⟩
        | panicked c => exact he
        | outgrown => exact he
      case row row args => exact Rows.mono h fun u w'' he => ⟨keep a hy u, by rw [← Act.put_comm a v u h2]; exact he⟩
    | halt x w' =>
      cases x <;> simp only [Oper.upon] at h ⊢
  · rename_i hw
    rw [if_neg hw] at h
    exact ⟨keep a hy _, by rw [← Act.put_comm a v undef h2]; exact h⟩
def Closed (ops : Array Oper) (listed : Array Bool) : Prop := ∀ k o, ops[k]? = some o → listed.getD k false = true → ∀ e ∈ o.after, Region.binds .any e = true → listed.getD e.on false = true
theorem getD_set_self {listed : Array Bool} {j : Nat} {b : Bool} : (listed.setIfInBounds j true).getD j b = if j < listed.size then true else b := by
  by_cases h : j < listed.size
  · simp [h]
  · simp [h]
theorem Closed.set {listed : Array Bool} (h : Closed ops listed) {j : Nat} (hj : j ∈ Region.ready .any ops listed) : Closed ops (listed.setIfInBounds j true) := by
  intro k o hk hl e he hb
  have hmono : ∀ x, listed.getD x false = true → (listed.setIfInBounds j true).getD x false = true := fun x hx => by
    by_cases hxj : j = x
    · subst hxj
      rw [getD_set_self]
      split
      · rfl
      · rename_i hlt
        rw [Array.getD_eq_getD_getElem?, Array.getElem?_eq_none (by omega)] at hx
        cases hx
    · rw [getD_set_ne false hxj]; exact hx
  refine hmono _ ?_
  by_cases hkj : j = k
  · subst hkj
    obtain ⟨_, oj, hoj, hall⟩ := mem_ready.1 hj
    rw [hk] at hoj
    cases hoj
    exact hall e he hb
  · rw [getD_set_ne false hkj] at hl
    exact h k o hk hl e he hb
theorem Closed.none {n : Nat} : Closed ops (Array.replicate n false) := fun k o _ hl => by
  simp [Array.getD_eq_getD_getElem?, Array.getElem?_replicate] at hl
  split at hl <;> simp at hl
theorem ancs_listed {listed : Array Bool} (hcl : Closed ops listed) {j : Nat} (hj : j ∈ Region.ready .any ops listed) : ∀ (f : Nat) (s : List Nat), (∀ x ∈ s, x = j ∨ listed.getD x false = true) → ∀ k ∈ ancs ops f s, k = j ∨ listed.getD k false = true
  | 0, s, hs, k, hk => hs k hk
  | f + 1, s, hs, k, hk => by
    simp only [ancs, List.mem_append] at hk
    rcases hk with hk | hk
    · exact hs k hk
    · refine ancs_listed hcl hj f _ (fun x hx => ?_) k hk
      simp only [List.mem_flatten, List.mem_map] at hx
      obtain ⟨l, ⟨y, hy, rfl⟩, hxl⟩ := hx
      cases ho : ops[y]? with
      | none => simp [ho] at hxl
      | some o =>
        simp only [ho, List.mem_map, List.mem_filter, Array.mem_toList_iff] at hxl
        obtain ⟨e, ⟨he, hb⟩, rfl⟩ := hxl
        refine .inr ?_
        rcases hs y hy with rfl | hl
        · obtain ⟨_, oj, hoj, hall⟩ := mem_ready.1 hj
          rw [ho] at hoj
          cases hoj
          exact hall e he hb
        · exact hcl y o ho hl e he hb
theorem tail_spec {i j : Nat} {oi : Oper} {listed : Array Bool} (hj : j ∈ Region.ready .any ops listed) (hi : ops[i]? = some oi) (hne : i ≠ j) (hun : listed.getD i true = false) (hir : i ∈ Region.ready .any ops listed) (hcl : Closed ops listed) (hM : ¬ isM oi.op = true) :
    isTail ops j = false := by
  cases ht : isTail ops j
  · rfl
  · exfalso
    obtain ⟨hjun, oj, hoj, hall⟩ := mem_ready.1 hj
    obtain ⟨_, oi', hoi', halli⟩ := mem_ready.1 hir
    unfold isTail at ht
    simp only [hoj, List.all_eq_true, List.mem_range] at ht
    have h1 := ht i (Array.getElem?_eq_some_iff.1 hi).1
    have hlt : ∀ {k : Nat}, listed.getD k true = false → listed.getD k false = true → False := by
      intro k h0 h1
      rcases Nat.lt_or_ge k listed.size with h' | h'
      · simp [h'] at h0 h1; rw [h0] at h1; cases h1
      · simp [Array.getElem?_eq_none h'] at h1
    simp only [hi, Bool.or_eq_true, beq_iff_eq] at h1
    rcases h1 with (((h1 | h1) | h1) | h1) | h1
    · exact hne h1
    · obtain ⟨e, he, hh⟩ := Array.any_eq_true'.1 h1
      simp only [Bool.and_eq_true, beq_iff_eq] at hh
      have := hall e he hh.1
      rw [hh.2] at this
      exact hlt hun this
    · obtain ⟨e, he, hh⟩ := Array.any_eq_true'.1 h1
      simp only [Bool.and_eq_true, beq_iff_eq] at hh
      rw [hi] at hoi'
      cases hoi'
      have := halli e he hh.1
      rw [hh.2] at this
      exact hlt hjun this
    · have := ancs_listed hcl hj 6 [j] (fun x hx => .inl (by simpa using hx)) i (by simpa using h1)
      rcases this with e | e
      · exact hne e
      · exact hlt hun e
    · exact hM h1
theorem wpE_first {Q : Act → World → Prop} {i : Nat} {oi : Oper} {v : Value} (hi : ops[i]? = some oi) (hsel : ∀ (j : Nat) (o : Oper) cs b, ops[j]? = some o → o.op ≠ .select cs b) :
    ∀ (fuel : Nat) (listed : Array Bool) (a : Act) (w : World), Closed ops listed →
      (∀ j oj, ops[j]? = some oj → j ≠ i → listed.getD j true = false → (∀ e ∈ oj.after, Region.binds .any e = true → e.on ≠ i) → oi.apart ops oj = true) →
      i ∈ Region.ready .any ops listed → YieldsE P ops oi v a w →
      wpE P ops Q fuel (listed.setIfInBounds i true) (a.put oi.dst v) w → wpE P ops Q (fuel + 1) listed a w := by
  intro fuel
  induction fuel with
  | zero =>
    intro listed a w _ _ hr hy H
    refine ⟨fun h => (by rw [h] at hr; cases hr), fun j hj => ?_⟩
    by_cases hji : j = i
    · subst hji; exact hy.opE hi ⟨fun _ => Ext.refl w, H⟩
    · have := ready_mono hj hji
      rw [H.1] at this
      cases this
  | succ fuel ih =>
    intro listed a w hcl hfree hr hy H
    refine ⟨fun h => (by rw [h] at hr; cases hr), fun j hj => ?_⟩
    by_cases hji : j = i
    · subst hji; exact hy.opE hi ⟨fun _ => Ext.refl w, H⟩
    · have h1 := H.2 j (ready_mono hj hji)
      obtain ⟨hjun, oj, hoj, hall⟩ := mem_ready.1 hj
      have hiun := (mem_ready.1 hr).1
      have hnot : ∀ e ∈ oj.after, Region.binds .any e = true → e.on ≠ i := fun e he hb heq => by
        have h1 := hall e he hb
        have h0 := (mem_ready.1 hr).1
        rw [heq] at h1
        rcases Nat.lt_or_ge i listed.size with h' | h'
        · simp [h'] at h0 h1; rw [h0] at h1; cases h1
        · simp [Array.getElem?_eq_none h'] at h1
      have h2 := opE_put hoj (hfree j oj hoj hji hjun hnot) (fun cs b => hsel i oi cs b hi) (fun cs b => hsel j oj cs b hoj) hy h1
      have hfree' : ∀ k ok, ops[k]? = some ok → k ≠ i → (listed.setIfInBounds j true).getD k true = false →
          (∀ e ∈ ok.after, Region.binds .any e = true → e.on ≠ i) → oi.apart ops ok = true := fun k ok hk hki hun hno => by
        refine hfree k ok hk hki ?_ hno
        by_cases hjk : j = k
        · subst hjk; exact hjun
        · rw [getD_set_ne true hjk] at hun; exact hun
      refine opE_mono (fun a' w' h3 => ?_) h2
      obtain ⟨hya, hE, hrest⟩ := h3
      have hyw : YieldsE P ops oi v a' w' := by
        by_cases hM : isM oi.op = true
        · exact hya.any hM
        · exact hya.ext (hE (tail_spec hj hi (Ne.symm hji) hiun hr hcl hM))
      refine ⟨hE, ih (listed.setIfInBounds j true) a' w' (hcl.set hj) hfree' (ready_mono hr (Ne.symm hji)) hyw ?_⟩
      rw [Array.setIfInBounds_comm _ _ hji]
      exact hrest
def okFrom (ops : Array Oper) : List Nat → Array Bool → Bool
  | [], listed => (Region.ready .any ops listed).isEmpty
  | i :: r, listed => (Region.ready .any ops listed).contains i &&
      (match ops[i]? with
       | some o => if isA o.op then Region.free .any ops listed i else (Region.ready .any ops listed).all (· == i)
       | none => false) && okFrom ops r (listed.setIfInBounds i true)
def okOrd (ops : Array Oper) (l : List Nat) : Bool := l.length == ops.size && (Region.noSelect ops && okFrom ops l (Array.replicate ops.size false))
theorem wpE_of_RL {Q : Act → World → Prop} (hs : Region.noSelect ops = true) : ∀ (l : List Nat) (listed : Array Bool) (a : Act) (w : World), Closed ops listed →
    okFrom ops l listed = true → RL P ops true Q l a w → wpE P ops Q l.length listed a w
  | [], listed, a, w, _, hB, h => ⟨by simpa [okFrom] using hB, h⟩
  | i :: r, listed, a, w, hcl, hB, h => by
    obtain ⟨o, ho, h⟩ := h
    simp only [okFrom, Bool.and_eq_true, ho] at hB
    obtain ⟨⟨hr, hk⟩, hrest⟩ := hB
    have hr' : i ∈ Region.ready .any ops listed := by simpa using hr
    have first : ∀ v, isA o.op = true → YieldsE P ops o v a w → RL P ops true Q r (a.put o.dst v) w → wpE P ops Q (r.length + 1) listed a w := fun v hA hy hq => by
      rw [if_pos hA] at hk
      exact wpE_first ho (Region.noSelect_spec hs) r.length listed a w hcl (Region.free_spec ho hk) hr' hy (wpE_of_RL hs r _ _ _ (hcl.set hr') hrest hq)
    by_cases hA : isA o.op = true
    · by_cases hw : Region.wanted o (yielded ops a.tmps) = true
      · rw [if_pos hw] at h
        rcases h with ⟨_, v, hv, hq⟩ | ⟨hn, _⟩
        · exact first v hA (.inl ⟨hw, hv⟩) hq
        · rw [hn] at hA; cases hA
      · rw [if_neg hw] at h
        exact first undef hA (.inr ⟨by simpa using hw, rfl⟩) h
    · rw [if_neg hA] at hk
      refine ⟨fun h0 => (by rw [h0] at hr'; cases hr'), fun j hj => ?_⟩
      have hji : j = i := by
        have := List.all_eq_true.1 hk j hj
        simpa using this
      subst hji
      unfold opE
      simp only [ho]
      split
      · rename_i hw
        rw [if_pos hw] at h
        rcases h with ⟨h1, _⟩ | ⟨_, hq⟩
        · exact absurd h1 hA
        · exact wp_mono2 (fun a' w' hh => ⟨hh.2.1 rfl, wpE_of_RL hs r _ _ _ (hcl.set hr') hrest hh.2.2⟩) hq
      · rename_i hw
        rw [if_neg hw] at h
        exact ⟨fun _ => Ext.refl w, wpE_of_RL hs r _ _ _ (hcl.set hr') hrest h⟩
theorem wpOps_of_RL {Q : Act → World → Prop} {Q' : Exit → Act → World → Prop} (hQ : ∀ a w, Q a w → Q' .normal a w) : ∀ (l : List Nat) (a : Act) (w : World),
    RL P ops false Q l a w → wpOps P ops Q' l a w
  | [], a, w, h => hQ _ _ h
  | i :: r, a, w, h => by
    obtain ⟨o, ho, h⟩ := h
    simp only [wpOps, ho]
    split
    · rename_i hw
      rw [if_pos hw] at h
      refine .inl ?_
      rcases h with ⟨_, v, hv, hq⟩ | ⟨_, hq⟩
      · unfold Oper.wp
        rw [hv w (.inr (Ext.refl w))]
        exact wpOps_of_RL hQ r _ _ hq
      · exact wp_mono2 (fun a' w' hh => wpOps_of_RL hQ r _ _ hh.2.2) hq
    · rename_i hw
      rw [if_neg hw] at h
      exact wpOps_of_RL hQ r _ _ h
end
section
variable (P : Program) (N : Nat)
def WC (c : Code) (Q : Exit → Act → World → Prop) (l : Env) (w : World) : Prop := ∀ a, At N a l → c.wp P Q a w
def WR (ops : Array Oper) (dr : Bool) (Q : Act → World → Prop) (π : List Nat) (l : Env) (w : World) : Prop := ∀ a, At N a l → RL P ops dr Q π a w
def Post (Q : Exit → Act → World → Prop) (e : Exit) (l : Env) (w : World) : Prop := ∀ a, At N a l → Q e a w
end
def Ret (Φ : Value → World → Prop) : Ending → World → Prop
  | .returned v, w => Φ v w
  | _, _ => False
section
variable {P : Program} {N : Nat} {Q : Exit → Act → World → Prop} {l : Env} {w : World}
theorem wc_region {id : Nat} {ops : Array Oper} (π : List Nat) (hπ : List.range ops.size = π) (h : WR P N ops false (Q .normal) π l w) : WC P N (.region id ops false) Q l w := by
  intro a ha
  refine wp_region ?_
  rw [hπ]
  exact wpOps_of_RL (fun _ _ h => h) π a w (h a ha)
theorem wc_draw {id : Nat} {ops : Array Oper} (hm : P.follows .mixedOrders = true) (π : List Nat) (hB : okOrd ops π = true) (h : ∀ w', Ext w w' → w' = w.drew → WR P N ops true (Q .normal) π l w') : WC P N (.region id ops true) Q l w := by
  intro a ha
  simp only [okOrd, Bool.and_eq_true, beq_iff_eq] at hB
  refine wp_region_any hm ?_
  have := wpE_of_RL (P := P) (Q := Q .normal) hB.2.1 π (Array.replicate ops.size false) a w.drew Closed.none hB.2.2 (h w.drew (Ext.drew w) rfl a ha)
  rw [hB.1] at this
  exact wpAny_of_wpE (fun _ _ h => h) _ _ _ _ this
theorem wr_nil {ops : Array Oper} {dr : Bool} {Q : Exit → Act → World → Prop} (h : Post N Q .normal l w) : WR P N ops dr (Q .normal) [] l w := h
theorem wc_seq {x y : Code} (h : WC P N x (Exit.then (fun a w => y.wp P Q a w) Q) l w) : WC P N (.seq x y) Q l w := fun a ha => wp_seq (h a ha)
theorem wc_skip (h : Post N Q .normal l w) : WC P N .skip Q l w := fun a ha => wp_skip (h a ha)
theorem wc_ret (h : Post N Q .ret l w) : WC P N .ret Q l w := fun a ha => wp_ret (h a ha)
theorem wc_exit {id : Nat} (h : Post N Q (.exit id) l w) : WC P N (.exit id) Q l w := fun a ha => wp_exit (h a ha)
theorem wc_block {id : Nat} {c : Code} (h : WC P N c (Exit.inBlock id Q) l w) : WC P N (.block id c) Q l w := fun a ha => wp_block (h a ha)
theorem wc_cond {c : Operand} {x y : Code} {b : Bool} (hc : ev l c = some (.bool b)) (ht : b = true → WC P N x Q l w) (hf : b = false → WC P N y Q l w) : WC P N (.cond c x y) Q l w :=
  fun a ha => wp_cond_split (ha.eval hc) (fun h => ht h a ha) (fun h => hf h a ha)
theorem wc_condT {c : Operand} {x y : Code} {b : Bool} (hc : ev l c = some (.bool b)) (hb : b = true) (ht : WC P N x Q l w) : WC P N (.cond c x y) Q l w :=
  wc_cond hc (fun _ => ht) (fun h => by rw [hb] at h; cases h)
theorem wc_condF {c : Operand} {x y : Code} {b : Bool} (hc : ev l c = some (.bool b)) (hb : b = false) (hf : WC P N y Q l w) : WC P N (.cond c x y) Q l w :=
  wc_cond hc (fun h => by rw [hb] at h; cases h) (fun _ => hf)
theorem wp_loop_ind {c : Code} (J : Nat → Act → World → Prop) (round : ∀ n a w, J n a w → c.wp P (Exit.then (fun a' w' => ∃ m, m < n ∧ J m a' w') Q) a w) :
    ∀ n a w, J n a w → (Code.loop c).wp P Q a w := by
  intro n a w h b k cs
  have key : ∀ n a w, J n a w → ∃ e a' w', Q e a' w' ∧ Arrives P (lone (b.at a (.code c :: .inLoop c :: k)) cs w) b k cs e a' w' := by
    intro n
    induction n using Nat.strongRecOn with
    | _ n ih =>
      intro a w h
      obtain ⟨e, a₁, w₁, hq, harr⟩ := round n a w h b (.inLoop c :: k) cs
      cases e with
      | normal =>
        obtain ⟨m, hm, hJ⟩ := hq
        obtain ⟨e₂, a₂, w₂, hq₂, harr₂⟩ := ih m hm a₁ w₁ hJ
        exact ⟨e₂, a₂, w₂, hq₂, .of_steps (Steps.trans harr (.one step_inLoop)) harr₂⟩
      | exit id => exact ⟨_, a₁, w₁, hq, .pass (x := .inLoop c) rfl (fun _ _ => .inl (by simp)) harr⟩
      | goto l => exact ⟨_, a₁, w₁, hq, .pass (x := .inLoop c) rfl (fun _ _ => .inl (by simp)) harr⟩
      | ret => exact ⟨_, a₁, w₁, hq, .pass (x := .inLoop c) rfl (fun _ _ => .inl (by simp)) harr⟩
      | panic ch => exact ⟨_, a₁, w₁, hq, .pass (x := .inLoop c) rfl (fun _ _ => .inl (by simp)) harr⟩
      | outgrown => exact ⟨_, a₁, w₁, hq, .pass (x := .inLoop c) rfl (fun _ _ => .inl (by simp)) harr⟩
  obtain ⟨e, a', w', hq, harr⟩ := key n a w h
  exact ⟨e, a', w', hq, .of_steps (.one step_loop) harr⟩
def LoopQ {σ : Type} (N : Nat) (L : σ → Env) (I : σ → World → Prop) (μ : σ → Nat) (m : Nat) (Q : Exit → Act → World → Prop) : Exit → Act → World → Prop :=
  Exit.then (fun a w => ∃ s, At N a (L s) ∧ I s w ∧ μ s < m) Q
theorem wc_loop {σ : Type} (L : σ → Env) (I : σ → World → Prop) (μ : σ → Nat) (s0 : σ) {body : Code} (hL : Sub l (L s0)) (hI : I s0 w)
    (round : ∀ s w, I s w → WC P N body (LoopQ N L I μ (μ s) Q) (L s) w) : WC P N (.loop body) Q l w := by
  intro a ha
  refine wp_loop_ind (P := P) (Q := Q) (fun n a w => ∃ s, At N a (L s) ∧ I s w ∧ μ s = n) ?_ (μ s0) a w ⟨s0, ha.sub hL, hI, rfl⟩
  rintro n a w ⟨s, hA, hI, rfl⟩
  refine wp_mono (round s w hI a hA) (fun e a' w' hq => ?_)
  cases e with
  | normal => obtain ⟨s', h1, h2, h3⟩ := hq; exact ⟨μ s', h3, s', h1, h2, rfl⟩
  | _ => exact hq
theorem post_thenN {y : Code} {Q' : Exit → Act → World → Prop} (h : WC P N y Q l w) : Post N (Exit.then (fun a w => y.wp P Q a w) Q') .normal l w := h
theorem post_thenE {K : Act → World → Prop} {id : Nat} (h : Post N Q (.exit id) l w) : Post N (Exit.then K Q) (.exit id) l w := h
theorem post_thenR {K : Act → World → Prop} (h : Post N Q .ret l w) : Post N (Exit.then K Q) .ret l w := h
theorem post_loopN {σ : Type} {L : σ → Env} {I : σ → World → Prop} {μ : σ → Nat} {m : Nat} (s' : σ) (hL : Sub l (L s')) (hI : I s' w) (hm : μ s' < m) : Post N (LoopQ N L I μ m Q) .normal l w :=
  fun _ ha => ⟨s', ha.sub hL, hI, hm⟩
theorem post_loopE {σ : Type} {L : σ → Env} {I : σ → World → Prop} {μ : σ → Nat} {m : Nat} {id : Nat} (h : Post N Q (.exit id) l w) : Post N (LoopQ N L I μ m Q) (.exit id) l w := h
theorem post_loopR {σ : Type} {L : σ → Env} {I : σ → World → Prop} {μ : σ → Nat} {m : Nat} (h : Post N Q .ret l w) : Post N (LoopQ N L I μ m Q) .ret l w := h
theorem post_blockN {id : Nat} (h : Post N Q .normal l w) : Post N (Exit.inBlock id Q) .normal l w := h
theorem post_blockR {id : Nat} (h : Post N Q .ret l w) : Post N (Exit.inBlock id Q) .ret l w := h
theorem post_blockX {id : Nat} (h : Post N Q .normal l w) : Post N (Exit.inBlock id Q) (.exit id) l w := fun a ha => by
  show (if id = id then Q .normal a w else Q (.exit id) a w)
  rw [if_pos rfl]
  exact h a ha
theorem post_blockE {id id' : Nat} (hne : Nat.beq id' id = false) (h : Post N Q (.exit id') l w) : Post N (Exit.inBlock id Q) (.exit id') l w := fun a ha => by
  show (if id' = id then Q .normal a w else Q (.exit id') a w)
  rw [if_neg (fun e => by subst e; simp at hne)]
  exact h a ha
theorem wc_cut {c y : Code} {Q' : Exit → Act → World → Prop} {σ : Type} (L : σ → Env) (I : σ → World → Prop)
    (h : WC P N c (Exit.then (fun a w => ∃ s, At N a (L s) ∧ I s w) Q') l w) (hy : ∀ s w, I s w → WC P N y Q (L s) w) :
    WC P N c (Exit.then (fun a w => y.wp P Q a w) Q') l w := fun a ha => wp_mono (h a ha) (fun e a' w' hq => by
  cases e with
  | normal => obtain ⟨s, h1, h2⟩ := hq; exact hy s w' h2 a' h1
  | _ => exact hq)
theorem post_cutN {σ : Type} {L : σ → Env} {I : σ → World → Prop} {Q' : Exit → Act → World → Prop} (s : σ) (hL : Sub l (L s)) (hI : I s w) :
    Post N (Exit.then (fun a w => ∃ s, At N a (L s) ∧ I s w) Q') .normal l w := fun _ ha => ⟨s, ha.sub hL, hI⟩
theorem calls_of {f : FuncId} {fn : Func} {c : Code} {args : List Value} {R : Ending → World → Prop} (l : Env)
    (hf : P.funcs[f]? = some fn) (hb : fn.body = some c) (hN : fn.ntmps = N) (hlen : Nat.ble args.length N = true) (hl : ∀ t v, lk l t = some v → args[t]? = some v)
    (h : WC P N c (bodyPost P fn R) l w) : Calls P f args.toArray w R := by
  refine calls_of_wp hf hb (h _ ⟨rfl, ?_, ?_⟩)
  · have : args.length ≤ N := Nat.le_of_ble_eq_true hlen
    simp [hN]; omega
  · intro t v ht
    have := hl t v ht
    have hlt : t < args.length := (List.getElem?_eq_some_iff.1 this).1
    simp [Array.getElem?_append, hlt]
    simpa [List.getElem?_eq_getElem hlt] using this
theorem post_ret1 {fn : Func} {t : Tmp} {v : Value} {R : Ending → World → Prop} (hr : fn.results = #[.tmp t]) (hv : lk l t = some v) (hR : R (.returned v) w) :
    Post N (bodyPost P fn R) .ret l w := fun a ha => by
  refine ⟨ha.defers, v, ?_, hR⟩
  rw [results_tmp hr]
  have := ha.slots t v hv
  simp [this]
theorem post_ret2 {fn : Func} {t u : Tmp} {v x : Value} {R : Ending → World → Prop} (hr : fn.results = #[.tmp t, .tmp u]) (hv : lk l t = some v) (hx : lk l u = some x)
    (hR : R (.returned (.tuple #[v, x])) w) : Post N (bodyPost P fn R) .ret l w := fun a ha => by
  refine ⟨ha.defers, .tuple #[v, x], ?_, hR⟩
  rw [results_tmp2 hr]
  have h1 := ha.slots t v hv
  have h2 := ha.slots u x hx
  simp [h1, h2]
theorem post_ret0 {fn : Func} {R : Ending → World → Prop} (hr : fn.results = #[]) (hR : R (.returned (.tuple #[])) w) : Post N (bodyPost P fn R) .ret l w := fun _ ha =>
  ⟨ha.defers, .tuple #[], results_none hr _ _ _, hR⟩
theorem post_end0 {fn : Func} {R : Ending → World → Prop} (hr : fn.results = #[]) (hR : R (.returned (.tuple #[])) w) : Post N (bodyPost P fn R) .normal l w := fun _ ha =>
  ⟨ha.defers, .tuple #[], results_none hr _ _ _, hR⟩
end
end Go.Sx


namespace Go.Pl
def tab {α : Type} (m : Nat) (f : Nat → α) : List α := (List.range m).map f
theorem tab_length {α : Type} (m : Nat) (f : Nat → α) : (tab m f).length = m := by simp [tab]
theorem tab_get {α : Type} {m : Nat} {f : Nat → α} {k : Nat} (h : k < m) : (tab m f)[k]? = some (f k) := by
  simp [tab, h]
theorem tab_set {α : Type} (m : Nat) (f : Nat → α) (k : Nat) (v : α) : (tab m f).set k v = tab m (fun t => if t = k then v else f t) := by
  apply List.ext_getElem?
  intro i
  by_cases hi : i < m
  · rw [List.getElem?_set]
    rw [tab_get hi, tab_get hi]
    by_cases hk : k = i
    · subst hk
      simp [tab_length, hi]
    · simp [hk, Ne.symm hk]
  · have h1 : ((tab m f).set k v)[i]? = none := by
      rw [List.getElem?_eq_none_iff]; simp [tab_length]; omega
    have h2 : (tab m (fun t => if t = k then v else f t))[i]? = none := by
      rw [List.getElem?_eq_none_iff]; simp [tab_length]; omega
    rw [h1, h2]
theorem tab_congr {α : Type} {m : Nat} {f g : Nat → α} (h : ∀ t, t < m → f t = g t) : tab m f = tab m g := by
  apply List.ext_getElem?
  intro i
  by_cases hi : i < m
  · rw [tab_get hi, tab_get hi, h i hi]
  · have h1 : (tab m f)[i]? = none := by rw [List.getElem?_eq_none_iff]; simp [tab_length]; omega
    have h2 : (tab m g)[i]? = none := by rw [List.getElem?_eq_none_iff]; simp [tab_length]; omega
    rw [h1, h2]
theorem replicate_tab {α : Type} (m : Nat) (x : α) : List.replicate m x = tab m (fun _ => x) := by
  apply List.ext_getElem?
  intro i
  by_cases hi : i < m
  · rw [tab_get hi]; simp [hi]
  · have h2 : (tab m (fun _ => x))[i]? = none := by rw [List.getElem?_eq_none_iff]; simp [tab_length]; omega
    rw [h2]; simp; omega
theorem map_tab {α β : Type} (m : Nat) (f : Nat → α) (g : α → β) : (tab m f).map g = tab m (fun t => g (f t)) := by
  simp [tab]
theorem list_tab (zs : List Int) : zs = tab zs.length (fun t => zs.getD t 0) := by
  apply List.ext_getElem?
  intro i
  by_cases hi : i < zs.length
  · rw [tab_get hi]; simp [hi]
  · rw [List.getElem?_eq_none (by omega), List.getElem?_eq_none (by rw [tab_length]; omega)]
def gi (zs : List Int) (k : Int) : Int := zs.getD k.toNat 0
def si (zs : List Int) (k u : Int) : List Int := zs.set k.toNat u
theorem gi_tab {m : Nat} {f : Nat → Int} {k : Int} (h1 : k < m) (h0 : 0 ≤ k) : gi (tab m f) k = f k.toNat := by
  have hk : k.toNat < m := by omega
  simp [gi, List.getD, tab_get hk]
theorem si_tab (m : Nat) (f : Nat → Int) (k u : Int) : si (tab m f) k u = tab m (fun t => if t = k.toNat then u else f t) := tab_set _ _ _ _
theorem si_length (zs : List Int) (k u : Int) : (si zs k u).length = zs.length := by simp [si]
def bin : Nat → Nat → Nat
  | _, 0 => 1
  | 0, _ + 1 => 0
  | n + 1, k + 1 => bin n k + bin n (k + 1)
def binZ (n k : Int) : Int := if k < 0 then 0 else bin n.toNat k.toNat
theorem drop_gi {zs : List Int} {i : Int} (h0 : 0 ≤ i) (h1 : i < zs.length) : zs.drop i.toNat = gi zs i :: zs.drop (i + 1).toNat := by
  have hi : i.toNat < zs.length := by omega
  have e : (i + 1).toNat = i.toNat + 1 := by omega
  rw [List.drop_eq_getElem_cons hi, e]
  simp [gi, hi]
def cmpL : List Int → List Int → Int
  | [], [] => 0
  | [], _ :: _ => -1
  | _ :: _, [] => 1
  | a :: as, b :: bs => if a < b then -1 else if b < a then 1 else cmpL as bs
theorem cmpL_self : ∀ a : List Int, cmpL a a = 0
  | [] => rfl
  | x :: a => by simp [cmpL, cmpL_self a]
theorem cmpL_range : ∀ a b : List Int, -1 ≤ cmpL a b ∧ cmpL a b ≤ 1
  | [], [] => by simp [cmpL]
  | [], _ :: _ => by simp [cmpL]
  | _ :: _, [] => by simp [cmpL]
  | a :: as, b :: bs => by
    have := cmpL_range as bs
    simp only [cmpL]
    split
    · omega
    · split <;> omega
theorem cmpL_anti : ∀ a b : List Int, cmpL b a = -cmpL a b
  | [], [] => rfl
  | [], _ :: _ => rfl
  | _ :: _, [] => rfl
  | a :: as, b :: bs => by
    have := cmpL_anti as bs
    simp only [cmpL]
    by_cases h1 : a < b
    · rw [if_pos h1, if_neg (by omega), if_pos h1]; rfl
    · by_cases h2 : b < a
      · rw [if_pos h2, if_neg h1, if_pos h2]
      · rw [if_neg h2, if_neg h1, if_neg h1, if_neg h2, this]
theorem cmpL_trans : ∀ a b c : List Int, cmpL a b ≤ 0 → cmpL b c ≤ 0 → cmpL a c ≤ 0
  | [], _, [], _, _ => by simp [cmpL]
  | [], _, _ :: _, _, _ => by simp [cmpL]
  | _ :: _, [], _, h, _ => by simp [cmpL] at h
  | _ :: _, _ :: _, [], _, h => by simp [cmpL] at h
  | a :: as, b :: bs, c :: cs, h1, h2 => by
    simp only [cmpL] at *
    have ih := cmpL_trans as bs cs
    by_cases e1 : a < b
    · by_cases e2 : b < c
      · rw [if_pos (by omega)]; omega
      · rw [if_neg e2] at h2
        by_cases e3 : c < b
        · rw [if_pos e3] at h2; omega
        · rw [if_pos (by omega)]; omega
    · rw [if_neg e1] at h1
      by_cases e2 : b < a
      · rw [if_pos e2] at h1; omega
      · rw [if_neg e2] at h1
        have : a = b := by omega
        subst this
        by_cases e3 : a < c
        · rw [if_pos e3]; omega
        · rw [if_neg e3] at h2 ⊢
          by_cases e4 : c < a
          · rw [if_pos e4] at h2; omega
          · rw [if_neg e4] at h2 ⊢
            exact ih h1 h2
theorem cmpL_eq : ∀ a b : List Int, cmpL a b = 0 ↔ a = b
  | [], [] => by simp [cmpL]
  | [], _ :: _ => by simp [cmpL]
  | _ :: _, [] => by simp [cmpL]
  | a :: as, b :: bs => by
    have ih := cmpL_eq as bs
    simp only [cmpL, List.cons.injEq]
    by_cases h1 : a < b
    · rw [if_pos h1]; simp; intro h; omega
    · by_cases h2 : b < a
      · rw [if_neg h1, if_pos h2]; simp; intro h; omega
      · rw [if_neg h1, if_neg h2, ih]
        simp; intro _; omega
theorem cmpL_drop {a b : List Int} {i : Int} (h0 : 0 ≤ i) (ha : i < a.length) (hb : i < b.length) :
    cmpL (a.drop i.toNat) (b.drop i.toNat) = if gi a i < gi b i then -1 else if gi b i < gi a i then 1 else cmpL (a.drop (i + 1).toNat) (b.drop (i + 1).toNat) := by
  rw [drop_gi h0 ha, drop_gi h0 hb, cmpL]
theorem cmpL_end {a b : List Int} {i : Int} (ha : a.length ≤ i) (hb : b.length ≤ i) : cmpL (a.drop i.toNat) (b.drop i.toNat) = 0 := by
  rw [List.drop_eq_nil_of_le (by omega), List.drop_eq_nil_of_le (by omega)]; rfl
theorem cmpL_short {a b : List Int} {i : Int} (ha : a.length ≤ i) (h0 : 0 ≤ i) (hb : i < b.length) : cmpL (a.drop i.toNat) (b.drop i.toNat) = -1 := by
  rw [List.drop_eq_nil_of_le (by omega), drop_gi h0 hb]; rfl
theorem cmpL_long {a b : List Int} {i : Int} (h0 : 0 ≤ i) (ha : i < a.length) (hb : b.length ≤ i) : cmpL (a.drop i.toNat) (b.drop i.toNat) = 1 := by
  have e : b.drop i.toNat = [] := List.drop_eq_nil_of_le (by omega)
  rw [drop_gi h0 ha, e]; rfl
def cmpZ (x y : Int) : Int := if x < y then -1 else if y < x then 1 else 0
end Go.Pl


namespace Go.Sx
open Go Go.RowKit Go.Pl
structure Sl (w : World) (v : Value) (xs : List Value) : Prop where
  ex : ∃ a c, v = .slice a xs.length c ∧ xs.length ≤ c ∧ (0 < xs.length → ∃ ad : Addr, a = some ad ∧ ∀ j u, xs[j]? = some u → w.cell? (ad.add j) = some u)
  le : xs.length ≤ 140737488355328
def Ints (w : World) (v : Value) (zs : List Int) : Prop := Sl w v (zs.map (Value.int .i64))
theorem Sl.ext {w w' : World} {v : Value} {xs : List Value} (h : Sl w v xs) (hE : Ext w w') : Sl w' v xs := by
  obtain ⟨⟨a, c, hv, hc, hx⟩, hl⟩ := h
  refine ⟨⟨a, c, hv, hc, fun h0 => ?_⟩, hl⟩
  obtain ⟨ad, ha, hh⟩ := hx h0
  exact ⟨ad, ha, fun j u hu => hE.cell (hh j u hu)⟩
theorem Ints.ext {w w' : World} {v : Value} {zs : List Int} (h : Ints w v zs) (hE : Ext w w') : Ints w' v zs := Sl.ext h hE
theorem Ints.le {w : World} {v : Value} {zs : List Int} (h : Ints w v zs) : zs.length ≤ 140737488355328 := by
  have := Sl.le h
  simpa using this
theorem Sl.nil (w : World) : Sl w (.slice none 0 0) [] := ⟨⟨none, 0, rfl, Nat.le_refl _, fun h => absurd h (by simp)⟩, by simp⟩
theorem Ints.nil (w : World) : Ints w (.slice none 0 0) [] := Sl.nil w
theorem get_gi {zs : List Int} {k : Int} (h0 : 0 ≤ k) (h1 : k < zs.length) : (zs.map (Value.int .i64))[k.toNat]? = some (.int .i64 (gi zs k)) := by
  have hk : k.toNat < zs.length := by omega
  simp [gi, hk]
def eptr (v : Value) (s : Nat) (k : Int) : Value :=
  match v with
  | .slice (some a) _ _ => .pointer (some (a.add (k.toNat * s)))
  | _ => undef
structure Own (B : Nat) (w : World) (v : Value) (E : TypeId) (xs : List Value) : Prop where
  row : w.ownsRow B E 1 v xs.length xs
  le : xs.length ≤ 140737488355328
theorem Own.sl {B : Nat} {w : World} {v : Value} {E : TypeId} {xs : List Value} (h : Own B w v E xs) : Sl w v xs := by
  obtain ⟨h1, h2⟩ := h
  refine ⟨?_, h2⟩
  rcases h1.2 with ⟨rfl, hn⟩ | ⟨g, cap, cur, rfl, _, hg, hnc, _⟩
  · exact ⟨none, 0, by rw [hn], by omega, fun h => absurd h (by omega)⟩
  · exact ⟨some ⟨g, 0, none⟩, cap, rfl, hnc, fun _ => ⟨_, rfl, h1.cells rfl⟩⟩
theorem Own.kept {B : Nat} {w w' : World} {v v2 : Value} {E : TypeId} {xs : List Value} (h : Own B w v E xs) (hg : w.grownBy w' v2.ownBlock) (hne : v.ownBlock ≠ v2.ownBlock ∨ v.ownBlock = none) : Own B w' v E xs :=
  ⟨h.row.kept hg (by rcases hne with h | h; exact .inr h; exact .inl h), h.le⟩
theorem Own.ext {B : Nat} {w w' : World} {v : Value} {E : TypeId} {xs : List Value} (h : Own B w v E xs) (hE : Ext w w') : Own B w' v E xs := by
  refine ⟨h.row.kept (row := none) ⟨hE.os, hE.tape, hE.output, hE.size, fun k hk _ => hE.block k hk⟩ ?_, h.le⟩
  cases v.ownBlock <;> simp
theorem Own.mono {B B' : Nat} {w : World} {v : Value} {E : TypeId} {xs : List Value} (h : Own B w v E xs) (hB : B' ≤ B) : Own B' w v E xs := by
  obtain ⟨⟨h0, h1⟩, h2⟩ := h
  refine ⟨⟨h0, ?_⟩, h2⟩
  rcases h1 with h1 | ⟨g, cap, cur, hv, hg, r⟩
  · exact .inl h1
  · exact .inr ⟨g, cap, cur, hv, by omega, r⟩
theorem Own.nil (B : Nat) (w : World) (E : TypeId) : Own B w (.slice none 0 0) E [] := ⟨World.ownsRow_nil w B E 1, by simp⟩
theorem Own.lt {B : Nat} {w : World} {v : Value} {E : TypeId} {xs : List Value} (h : Own B w v E xs) : ∀ k, v.ownBlock = some k → B ≤ k ∧ k < w.heap.size := h.row.lt
theorem Ext.grown {w0 w w' : World} {v : Value} {B : Nat} {E : TypeId} {xs : List Value} (h : Ext w0 w) (hg : w.grownBy w' v.ownBlock) (ho : Own B w v E xs) (hB : w0.heap.size ≤ B) : Ext w0 w' :=
  Below.grown h hg h.size (fun k hk => by have := (ho.lt k hk).1; omega)
theorem Ext.of_grown {w w' : World} (hg : w.grownBy w' none) : Ext w w' := ⟨hg.os, hg.tape, hg.output, hg.size, fun k hk => hg.block k hk (by simp)⟩
def OwnI (B : Nat) (w : World) (v : Value) (E : TypeId) (zs : List Int) : Prop := Own B w v E (zs.map (Value.int .i64))
theorem OwnI.ints {B : Nat} {w : World} {v : Value} {E : TypeId} {zs : List Int} (h : OwnI B w v E zs) : Ints w v zs := Own.sl h
theorem OwnI.ext {B : Nat} {w w' : World} {v : Value} {E : TypeId} {zs : List Int} (h : OwnI B w v E zs) (hE : Ext w w') : OwnI B w' v E zs := Own.ext h hE
theorem OwnI.nil (B : Nat) (w : World) (E : TypeId) : OwnI B w (.slice none 0 0) E [] := Own.nil B w E
theorem Ext.grownI {w0 w w' : World} {v : Value} {B : Nat} {E : TypeId} {zs : List Int} (h : Ext w0 w) (hg : w.grownBy w' v.ownBlock) (ho : OwnI B w v E zs) (hB : w0.heap.size ≤ B) : Ext w0 w' :=
  h.grown hg ho hB
def Blk (w : World) (g : Nat) (t : TypeId) (cs : Array Value) : Prop := w.heap[g]? = some (.cells cs t (0, 0))
theorem Blk.lt {w : World} {g : Nat} {t : TypeId} {cs : Array Value} (h : Blk w g t cs) : g < w.heap.size := (Array.getElem?_eq_some_iff.1 h).1
theorem Blk.ext {w w' : World} {g : Nat} {t : TypeId} {cs : Array Value} (h : Blk w g t cs) (hE : Ext w w') : Blk w' g t cs := (hE.block g h.lt).trans h
theorem Blk.cell {w : World} {g : Nat} {t : TypeId} {cs : Array Value} (h : Blk w g t cs) {k : Nat} {v : Value} (hc : cs[k]? = some v) : w.cell? ⟨g, k, none⟩ = some v := by
  rw [cell_of_row w g k cs t (0, 0) h]; exact hc
theorem Blk.grown {w w' : World} {g : Nat} {t : TypeId} {cs : Array Value} {row : Option Nat} (h : Blk w g t cs) (hg : w.grownBy w' row) (hne : row ≠ some g) : Blk w' g t cs := (hg.block g h.lt (Ne.symm hne)).trans h
structure SlT (P : Program) (T E : TypeId) (z : Value) (s bytes : Nat) : Prop where
  und : P.underlying T = some (.slice E)
  inf : (P.info? E).map (fun i => (i.zero, i.size, i.bytes)) = some (some z, s, bytes)
section
variable (P : Program) (N : Nat)
def Yl (op : Op) (ty : TypeId) (l : Env) (w : World) (v : Value) : Prop :=
  ∀ a, At N a l → ∀ w', (isM op = true ∨ Ext w w') → ∀ o : Oper, o.op = op → o.type = ty → (execOp a.eval o).run P w' = .ok (.value v) w'
end
section
variable {P : Program} {N : Nat} {l : Env} {w : World} {ops : Array Oper} {dr : Bool} {Q : Act → World → Prop} {π : List Nat} {i d : Nat} {v : Value} {op : Op} {ty : TypeId} {pos : String} {after : Array Edge} {g : Option (Nat × Bool)}
theorem wanted_guard {a : Act} {o : Oper} {j t : Nat} {want b : Bool} (ha : At N a l) (hg : o.guard = some (j, want)) (hj : (ops[j]?).bind (·.dst) = some t) (hb : lk l t = some (.bool b)) :
    Region.wanted o (yielded ops a.tmps) = (b == want) := by
  simp [Region.wanted, hg, yielded, hj, ha.slots t _ hb]
def Wt (ops : Array Oper) (N : Nat) (l : Env) (g : Option (Nat × Bool)) : Prop := ∀ a, At N a l → ∀ o : Oper, o.guard = g → Region.wanted o (yielded ops a.tmps) = true
theorem wu : Wt ops N l none := fun _ _ o ho => by simp [Region.wanted, ho]
theorem wg {j t : Nat} {want : Bool} (hj : (ops[j]?).bind (·.dst) = some t) (hb : lk l t = some (.bool want)) : Wt ops N l (some (j, want)) := fun _ ha o ho => by
  rw [wanted_guard ha ho hj hb]; simp
theorem V (hi : ops[i]? = some ⟨some d, op, ty, pos, after, g⟩) (hw : Wt ops N l g) (hA : isA op = true) (hd : Nat.blt d N = true) (hy : Yl P N op ty l w v)
    (h : WR P N ops dr Q π ((d, v) :: l) w) : WR P N ops dr Q (i :: π) l w := fun a ha => by
  refine ⟨_, hi, ?_⟩
  rw [if_pos (hw a ha _ rfl)]
  exact .inl ⟨hA, v, fun w' hE => hy a ha w' hE _ rfl rfl, h _ (ha.put hd v)⟩
theorem KB (t : Nat) (b : Bool) {b' : Bool} (hb : lk l t = some (.bool b')) (hk : b' = b) (h : WR P N ops dr Q π ((t, .bool b) :: l) w) : WR P N ops dr Q π l w := fun a ha => by
  subst hk
  exact h a ⟨ha.defers, ha.size, fun u x hu => by
    rw [lk_cons] at hu
    split at hu
    · rename_i e; subst e; exact ha.slots _ x (hb.trans hu)
    · exact ha.slots u x hu⟩
theorem SK {j t : Nat} {want b : Bool} (hi : ops[i]? = some ⟨some d, op, ty, pos, after, some (j, want)⟩) (hj : (ops[j]?).bind (·.dst) = some t) (hb : lk l t = some (.bool b)) (hne : (b == want) = false)
    (hd : Nat.blt d N = true) (h : WR P N ops dr Q π ((d, undef) :: l) w) : WR P N ops dr Q (i :: π) l w := fun a ha => by
  refine ⟨_, hi, ?_⟩
  rw [if_neg (by rw [wanted_guard ha rfl hj hb]; simp [hne])]
  exact h _ (ha.put hd undef)
theorem SP (t : Nat) {b : Bool} (hb : lk l t = some (.bool b)) (ht : b = true → WR P N ops dr Q π ((t, .bool true) :: l) w) (hf : b = false → WR P N ops dr Q π ((t, .bool false) :: l) w) :
    WR P N ops dr Q π l w := fun a ha => by
  have key : ∀ c, b = c → At N a ((t, .bool c) :: l) := fun c hc => ⟨ha.defers, ha.size, fun u x hu => by
    rw [lk_cons] at hu
    split at hu
    · rename_i e; subst e; rw [← hc] at hu; exact ha.slots t x (hb.trans hu)
    · exact ha.slots u x hu⟩
  cases hc : b
  · exact hf hc a (key false hc)
  · exact ht hc a (key true hc)
theorem At.put_fresh {a : Act} (h : At N a l) {d : Nat} (hd : lk l d = none) (v : Value) : At N (a.put (some d) v) l := by
  refine ⟨h.defers, by simpa [Act.put] using h.size, fun t u ht => ?_⟩
  by_cases e : d = t
  · subst e; rw [hd] at ht; cases ht
  · simpa [Act.put, Array.getElem?_setIfInBounds_ne e] using h.slots t u ht
def freshIn (ops : Array Oper) (l : Env) (π : List Nat) : Bool := π.all fun i =>
  match ops[i]? with
  | some o => (match o.dst with
    | some d => (lk l d).isNone
    | none => true)
  | none => false
theorem RL_keeps : ∀ (π : List Nat) (a : Act) (w : World), freshIn ops l π = true → At N a l → RL P ops dr Q π a w → RL P ops dr (fun a' w' => Q a' w' ∧ At N a' l) π a w
  | [], a, _, _, ha, h => ⟨h, ha⟩
  | i :: r, a, w, hf, ha, h => by
    obtain ⟨o, ho, h⟩ := h
    simp only [freshIn, List.all_cons, Bool.and_eq_true, ho] at hf
    obtain ⟨hd, hr⟩ := hf
    have hput : ∀ v, At N (a.put o.dst v) l := fun v => by
      cases hdst : o.dst with
      | none => exact ha
      | some d => simp only [hdst, Option.isNone_iff_eq_none] at hd; exact ha.put_fresh hd v
    refine ⟨o, ho, ?_⟩
    split
    · rename_i hw
      rw [if_pos hw] at h
      rcases h with ⟨h1, v, hv, h2⟩ | ⟨h1, h2⟩
      · exact .inl ⟨h1, v, hv, RL_keeps r _ _ hr (hput v) h2⟩
      · refine .inr ⟨h1, wp_mono2 (fun a' w' hh => ⟨hh.1, hh.2.1, ?_⟩) h2⟩
        obtain ⟨⟨v, rfl⟩, _, hh2⟩ := hh
        exact RL_keeps r _ _ hr (hput v) hh2
    · rename_i hw
      rw [if_neg hw] at h
      exact RL_keeps r _ _ hr (hput undef) h
theorem RL_append : ∀ (π1 : List Nat) (π2 : List Nat) (a : Act) (w : World), RL P ops dr (RL P ops dr Q π2) π1 a w → RL P ops dr Q (π1 ++ π2) a w
  | [], _, _, _, h => h
  | i :: r, π2, a, w, h => by
    obtain ⟨o, ho, h⟩ := h
    refine ⟨o, ho, ?_⟩
    split
    · rename_i hw
      rw [if_pos hw] at h
      rcases h with ⟨h1, v, hv, h2⟩ | ⟨h1, h2⟩
      · exact .inl ⟨h1, v, hv, RL_append r π2 _ _ h2⟩
      · exact .inr ⟨h1, wp_mono2 (fun a' w' hh => ⟨hh.1, hh.2.1, RL_append r π2 _ _ hh.2.2⟩) h2⟩
    · rename_i hw
      rw [if_neg hw] at h
      exact RL_append r π2 _ _ h
theorem RL_monoQ {Q' : Act → World → Prop} (hQ : ∀ a w, Q a w → Q' a w) : ∀ (π : List Nat) (a : Act) (w : World), RL P ops dr Q π a w → RL P ops dr Q' π a w
  | [], _, _, h => hQ _ _ h
  | i :: r, a, w, h => by
    obtain ⟨o, ho, h⟩ := h
    refine ⟨o, ho, ?_⟩
    split
    · rename_i hw
      rw [if_pos hw] at h
      rcases h with ⟨h1, v, hv, h2⟩ | ⟨h1, h2⟩
      · exact .inl ⟨h1, v, hv, RL_monoQ hQ r _ _ h2⟩
      · exact .inr ⟨h1, wp_mono2 (fun a' w' hh => ⟨hh.1, hh.2.1, RL_monoQ hQ r _ _ hh.2.2⟩) h2⟩
    · rename_i hw
      rw [if_neg hw] at h
      exact RL_monoQ hQ r _ _ h
def Slot (t : Nat) (v : Value) (w : World) : Act → World → Prop := fun a' w' => a'.tmps[t]? = some v ∧ w' = w
def SlotX (t : Nat) (v : Value) (w : World) : Act → World → Prop := fun a' w' => a'.tmps[t]? = some v ∧ Ext w w'
theorem join {t : Nat} (h : lk l t = some v) : WR P N ops dr (Slot t v w) [] l w := fun _ ha => ⟨ha.slots t v h, rfl⟩
theorem joinX {t : Nat} {w0 : World} (h : lk l t = some v) (hE : Ext w0 w := by first | exact Ext.refl _ | assumption) : WR P N ops dr (SlotX t v w0) [] l w := fun _ ha => ⟨ha.slots t v h, hE⟩
theorem wr_joinX {π1 π2 : List Nat} {tc tp : Nat} {b : Bool} {vt vf : Value} (hπ : π = π1 ++ π2) (hb : lk l tc = some (.bool b)) (hfr : freshIn ops l π1 = true)
    (ht : b = true → WR P N ops dr (SlotX tp vt w) π1 ((tc, .bool true) :: l) w) (hf : b = false → WR P N ops dr (SlotX tp vf w) π1 ((tc, .bool false) :: l) w)
    (h : ∀ w', Ext w w' → WR P N ops dr Q π2 ((tp, if b then vt else vf) :: l) w') : WR P N ops dr Q π l w := by
  have key : WR P N ops dr (SlotX tp (if b then vt else vf) w) π1 l w := by
    refine SP tc hb (fun hc => ?_) (fun hc => ?_)
    · have := ht hc; simpa [hc] using this
    · have := hf hc; simpa [hc] using this
  subst hπ
  intro a ha
  refine RL_append π1 π2 a w (RL_monoQ ?_ π1 a w (RL_keeps π1 a w hfr ha (key a ha)))
  rintro a' w' ⟨⟨h1, hE⟩, h2⟩
  refine h w' hE a' ⟨h2.defers, h2.size, fun u x hu => ?_⟩
  rw [lk_cons] at hu
  split at hu
  · rename_i e; subst e; rw [← hu]; exact h1
  · exact h2.slots u x hu
theorem wr_join {π1 π2 : List Nat} {tc tp : Nat} {b : Bool} {vt vf : Value} (hπ : π = π1 ++ π2) (hb : lk l tc = some (.bool b)) (hfr : freshIn ops l π1 = true)
    (ht : b = true → WR P N ops dr (Slot tp vt w) π1 ((tc, .bool true) :: l) w) (hf : b = false → WR P N ops dr (Slot tp vf w) π1 ((tc, .bool false) :: l) w)
    (h : WR P N ops dr Q π2 ((tp, if b then vt else vf) :: l) w) : WR P N ops dr Q π l w := by
  have key : WR P N ops dr (Slot tp (if b then vt else vf) w) π1 l w := by
    refine SP tc hb (fun hc => ?_) (fun hc => ?_)
    · have := ht hc; simpa [hc] using this
    · have := hf hc; simpa [hc] using this
  subst hπ
  intro a ha
  refine RL_append π1 π2 a w (RL_monoQ ?_ π1 a w (RL_keeps π1 a w hfr ha (key a ha)))
  rintro a' w' ⟨⟨h1, rfl⟩, h2⟩
  refine h a' ⟨h2.defers, h2.size, fun u x hu => ?_⟩
  rw [lk_cons] at hu
  split at hu
  · rename_i e; subst e; rw [← hu]; exact h1
  · exact h2.slots u x hu
theorem ite_or (b b2 : Bool) : (if b = true then Value.bool true else .bool b2) = .bool (b || b2) := by cases b <;> rfl
theorem ite_and (b b2 : Bool) : (if b = true then Value.bool b2 else .bool false) = .bool (b && b2) := by cases b <;> rfl
theorem ORX {π1 π2 : List Nat} {tc tp : Nat} {b b2 : Bool} (hπ : π = π1 ++ π2) (hb : lk l tc = some (.bool b)) (hfr : freshIn ops l π1 = true)
    (ht : b = true → WR P N ops dr (SlotX tp (.bool true) w) π1 ((tc, .bool true) :: l) w) (hf : b = false → WR P N ops dr (SlotX tp (.bool b2) w) π1 ((tc, .bool false) :: l) w)
    (h : ∀ w', Ext w w' → WR P N ops dr Q π2 ((tp, .bool (b || b2)) :: l) w') : WR P N ops dr Q π l w :=
  wr_joinX hπ hb hfr ht hf (fun w' hE => by rw [ite_or]; exact h w' hE)
theorem ANDX {π1 π2 : List Nat} {tc tp : Nat} {b b2 : Bool} (hπ : π = π1 ++ π2) (hb : lk l tc = some (.bool b)) (hfr : freshIn ops l π1 = true)
    (ht : b = true → WR P N ops dr (SlotX tp (.bool b2) w) π1 ((tc, .bool true) :: l) w) (hf : b = false → WR P N ops dr (SlotX tp (.bool false) w) π1 ((tc, .bool false) :: l) w)
    (h : ∀ w', Ext w w' → WR P N ops dr Q π2 ((tp, .bool (b && b2)) :: l) w') : WR P N ops dr Q π l w :=
  wr_joinX hπ hb hfr ht hf (fun w' hE => by rw [ite_and]; exact h w' hE)
theorem OR {π1 π2 : List Nat} {tc tp : Nat} {b b2 : Bool} (hπ : π = π1 ++ π2) (hb : lk l tc = some (.bool b)) (hfr : freshIn ops l π1 = true)
    (ht : b = true → WR P N ops dr (Slot tp (.bool true) w) π1 ((tc, .bool true) :: l) w) (hf : b = false → WR P N ops dr (Slot tp (.bool b2) w) π1 ((tc, .bool false) :: l) w)
    (h : WR P N ops dr Q π2 ((tp, .bool (b || b2)) :: l) w) : WR P N ops dr Q π l w :=
  wr_join hπ hb hfr ht hf (by
    rw [ite_or]; exact h)
theorem AND {π1 π2 : List Nat} {tc tp : Nat} {b b2 : Bool} (hπ : π = π1 ++ π2) (hb : lk l tc = some (.bool b)) (hfr : freshIn ops l π1 = true)
    (ht : b = true → WR P N ops dr (Slot tp (.bool b2) w) π1 ((tc, .bool true) :: l) w) (hf : b = false → WR P N ops dr (Slot tp (.bool false) w) π1 ((tc, .bool false) :: l) w)
    (h : WR P N ops dr Q π2 ((tp, .bool (b && b2)) :: l) w) : WR P N ops dr Q π l w :=
  wr_join hπ hb hfr ht hf (by
    rw [ite_and]; exact h)
variable {x y c p : Operand} {u z : Int} {T T' : TypeId}
theorem mv (hx : ev l x = some v) : Yl P N (.move x) ty l w v := fun a ha w' _ o ho _ => by
  simp [execOp, ho, ha.eval hx]
theorem asg (hx : ev l x = some v) : Yl P N (.assign x) ty l w v := fun a ha w' _ o ho _ => by
  simp [execOp, ho, ha.eval hx]
theorem pk {b : Bool} (hc : ev l c = some (.bool b)) (hx : ev l (bif b then x else y) = some v) : Yl P N (.pick c x y) ty l w v := fun a ha w' _ o ho _ => by
  have := ha.eval hx
  cases b <;> simp_all [execOp, ha.eval hc, asBool]
theorem ext {xs : Array Value} {k : Nat} (hx : ev l x = some (.tuple xs)) (hv : xs[k]? = some v) : Yl P N (.extract x k) ty l w v := fun a ha w' _ o ho _ => by
  simp [execOp, ho, ha.eval hx, Instr.extract, hv]
theorem eqGuard_int {op : BinOp} {k k' : IntKind} {a b : Int} {x y : Operand} : (eqGuard op T x y (.int k a) (.int k' b)).run P w = .ok () w := by
  unfold eqGuard
  split <;> rfl
theorem yl_bin {op : BinOp} {a b r : Value} (hx : ev l x = some a) (hy : ev l y = some b) (hop : ∀ w, (binOp op T a b).run P w = .ok r w) (h1 : ∀ w x y, (eqGuard op T x y a b).run P w = .ok () w) :
    Yl P N (.binOp op T x y T') ty l w r := fun f ha w' _ o ho _ => by
  simp [execOp, ho, ha.eval hx, ha.eval hy, h1, hop]
theorem wrap_in (n : Int) (h : -9223372036854775808 ≤ n ∧ n ≤ 9223372036854775807) : IntKind.i64.wrap n = n := by
  rw [IntKind.wrap_i64]
  omega
theorem addI (hx : ev l x = some (.int .i64 u)) (hy : ev l y = some (.int .i64 z)) (hr : -9223372036854775808 ≤ u + z ∧ u + z ≤ 9223372036854775807 := by omega) :
    Yl P N (.binOp .add T x y T') ty l w (.int .i64 (u + z)) :=
  yl_bin hx hy (fun w => by rw [binOp_add]; simp [Op.intArith, wrap_in _ hr]) (fun _ _ _ => eqGuard_int)
theorem subI (hx : ev l x = some (.int .i64 u)) (hy : ev l y = some (.int .i64 z)) (hr : -9223372036854775808 ≤ u - z ∧ u - z ≤ 9223372036854775807 := by omega) :
    Yl P N (.binOp .sub T x y T') ty l w (.int .i64 (u - z)) :=
  yl_bin hx hy (fun w => by rw [binOp_sub]; simp [Op.intArith, wrap_in _ hr]) (fun _ _ _ => eqGuard_int)
theorem mulI (hx : ev l x = some (.int .i64 u)) (hy : ev l y = some (.int .i64 z)) (hr : -9223372036854775808 ≤ u * z ∧ u * z ≤ 9223372036854775807 := by omega) :
    Yl P N (.binOp .mul T x y T') ty l w (.int .i64 (u * z)) :=
  yl_bin hx hy (fun w => by rw [binOp_mul]; simp [Op.intArith, wrap_in _ hr]) (fun _ _ _ => eqGuard_int)
def wr (n : Int) : Int := IntKind.i64.wrap n
theorem addW (hx : ev l x = some (.int .i64 u)) (hy : ev l y = some (.int .i64 z)) : Yl P N (.binOp .add T x y T') ty l w (.int .i64 (wr (u + z))) :=
  yl_bin hx hy (fun w => by rw [binOp_add]; simp [Op.intArith, wr]) (fun _ _ _ => eqGuard_int)
theorem quoI (hx : ev l x = some (.int .i64 u)) (hy : ev l y = some (.int .i64 z)) (hu : 0 ≤ u ∧ u ≤ 9223372036854775807 := by omega) (hz : 1 ≤ z := by omega) :
    Yl P N (.binOp .quo T x y T') ty l w (.int .i64 (u / z)) :=
  yl_bin hx hy (fun w => by
    have h1 : u / z ≤ u := Int.ediv_le_self _ hu.1
    have h2 : 0 ≤ u / z := Int.ediv_nonneg hu.1 (by omega)
    have h3 : IntKind.i64.wrap (u / z) = u / z := wrap_in _ (by omega)
    rw [binOp_quo]; simp [Op.intDiv, show z ≠ 0 by omega, Int.tdiv_eq_ediv_of_nonneg hu.1, h3]) (fun _ _ _ => eqGuard_int)
theorem remI (hx : ev l x = some (.int .i64 u)) (hy : ev l y = some (.int .i64 z)) (hu : 0 ≤ u := by omega) (hz : 1 ≤ z := by omega) :
    Yl P N (.binOp .rem T x y T') ty l w (.int .i64 (u % z)) :=
  yl_bin hx hy (fun w => by
    rw [binOp_rem]; simp [Op.intDiv, show z ≠ 0 by omega, Int.tmod_eq_emod_of_nonneg hu]) (fun _ _ _ => eqGuard_int)
theorem lssI (hx : ev l x = some (.int .i64 u)) (hy : ev l y = some (.int .i64 z)) : Yl P N (.binOp .lss T x y T') ty l w (.bool (decide (u < z))) :=
  yl_bin hx hy (fun w => by rw [binOp_lss]; simp) (fun _ _ _ => eqGuard_int)
theorem leqI (hx : ev l x = some (.int .i64 u)) (hy : ev l y = some (.int .i64 z)) : Yl P N (.binOp .leq T x y T') ty l w (.bool (decide (u ≤ z))) :=
  yl_bin hx hy (fun w => by rw [binOp_leq]; simp) (fun _ _ _ => eqGuard_int)
theorem gtrI (hx : ev l x = some (.int .i64 u)) (hy : ev l y = some (.int .i64 z)) : Yl P N (.binOp .gtr T x y T') ty l w (.bool (decide (z < u))) :=
  yl_bin hx hy (fun w => by rw [binOp_gtr]; simp) (fun _ _ _ => eqGuard_int)
theorem geqI (hx : ev l x = some (.int .i64 u)) (hy : ev l y = some (.int .i64 z)) : Yl P N (.binOp .geq T x y T') ty l w (.bool (decide (z ≤ u))) :=
  yl_bin hx hy (fun w => by rw [binOp_geq]; simp) (fun _ _ _ => eqGuard_int)
theorem eqlI (hx : ev l x = some (.int .i64 u)) (hy : ev l y = some (.int .i64 z)) : Yl P N (.binOp .eql T x y T') ty l w (.bool (decide (u = z))) :=
  yl_bin hx hy (fun w => by
    have e : (u == z) = decide (u = z) := by by_cases h : u = z <;> simp [h]
    rw [binOp_eql, e]; simp) (fun _ _ _ => eqGuard_int)
theorem neqI (hx : ev l x = some (.int .i64 u)) (hy : ev l y = some (.int .i64 z)) : Yl P N (.binOp .neq T x y T') ty l w (.bool (decide (u ≠ z))) :=
  yl_bin hx hy (fun w => by
    have e : (u != z) = decide (u ≠ z) := by by_cases h : u = z <;> simp [h]
    rw [binOp_neq, e]; simp) (fun _ _ _ => eqGuard_int)
theorem notB {b : Bool} (hx : ev l x = some (.bool b)) : Yl P N (.unOp .not T x) ty l w (.bool (!b)) := fun a ha w' _ o ho _ => by
  simp [execOp, ho, ha.eval hx, Op.unary]
theorem nchk {ad : Addr} (hx : ev l x = some (.pointer (some ad))) : Yl P N (.nilCheck x) ty l w (.pointer (some ad)) := fun a ha w' _ o ho _ => by
  simp [execOp, ho, ha.eval hx]
theorem lenS {w0 : World} {xs : List Value} {E : TypeId} {zv : Value} {s b : Nat} (hx : ev l x = some v) (hT : SlT P T E zv s b) (hs : Sl w0 v xs := by assumption) :
    Yl P N (.call ⟨.builtin .len, #[x], #[T]⟩) ty l w (.int .i64 xs.length) := fun a ha w' _ o ho _ => by
  obtain ⟨⟨ad, cc, rfl, _⟩, _⟩ := hs
  simp [execOp, ho, ha.eval hx, resolve, invoke, builtin, Builtin.len_, run_underlying hT.und, goInt]
theorem lenI {w0 : World} {zs : List Int} {E : TypeId} {zv : Value} {s b : Nat} (hx : ev l x = some v) (hT : SlT P T E zv s b) (hs : Ints w0 v zs := by assumption) :
    Yl P N (.call ⟨.builtin .len, #[x], #[T]⟩) ty l w (.int .i64 zs.length) := by
  have := lenS (P := P) (N := N) (l := l) (w := w) (ty := ty) hx hT hs
  simpa using this
theorem info_of {E : TypeId} {zv : Value} {s b : Nat} (hT : SlT P T E zv s b) : ∃ i, P.info? E = some i ∧ i.zero = some zv ∧ i.size = s ∧ i.bytes = b := info_parts hT.inf
theorem iad {w0 : World} {xs : List Value} {E : TypeId} {zv : Value} {b : Nat} (hx : ev l x = some v) (hy : ev l y = some (.int .i64 u)) (hT : SlT P T E zv 1 b) (hs : Sl w0 v xs := by assumption) (h0 : 0 ≤ u := by omega) (h1 : u < xs.length := by omega) :
    Yl P N (.indexAddr T x y) ty l w (eptr v 1 u) := fun a ha w' _ o ho _ => by
  obtain ⟨⟨ad, cc, rfl, hc, hx'⟩, _⟩ := hs
  obtain ⟨ad, rfl, _⟩ := hx' (by omega)
  obtain ⟨j, hj, _, hj2, _⟩ := info_of hT
  simp [execOp, ho, ha.eval hx, ha.eval hy, Instr.indexAt, run_underlying hT.und, asIntOf, h0, h1, eptr, sizeOf, typeInfo, hj, hj2]
theorem iadI {w0 : World} {zs : List Int} {E : TypeId} {zv : Value} {b : Nat} (hx : ev l x = some v) (hy : ev l y = some (.int .i64 u)) (hT : SlT P T E zv 1 b) (hs : Ints w0 v zs := by assumption) (h0 : 0 ≤ u := by omega) (h1 : u < zs.length := by omega) :
    Yl P N (.indexAddr T x y) ty l w (eptr v 1 u) := iad hx hy hT hs h0 (by simpa using h1)
def NA (P : Program) (t : TypeId) : Prop := ∀ w, (isAgg t).run P w = .ok false w
theorem ld {ad : Addr} (hp : ev l p = some (.pointer (some ad))) (hna : NA P T) (hc : w.cell? ad = some v) : Yl P N (.load T p) ty l w v := fun a ha w' hE o ho _ => by
  replace hE := hE.resolve_left (by simp [isM])
  simp [execOp, ho, ha.eval hp, Instr.loadAt, Instr.sureAddr, loadVar, hna w', hE.cell hc]
theorem ldE {w0 : World} {v0 : Value} {xs : List Value} (hp : ev l p = some (eptr v0 1 u)) (hna : NA P T) (hs : Sl w0 v0 xs) (hu : xs[u.toNat]? = some v) (hE : Ext w0 w := by first | exact Ext.refl _ | assumption) :
    Yl P N (.load T p) ty l w v := fun a ha w' hE' o ho _ => by
  replace hE' := hE'.resolve_left (by simp [isM])
  obtain ⟨⟨ad, cc, rfl, hc, hx'⟩, _⟩ := hs
  have hlt : u.toNat < xs.length := (List.getElem?_eq_some_iff.1 hu).1
  obtain ⟨ad, rfl, hcell⟩ := hx' (by omega)
  have := (hE.trans hE').cell (hcell _ _ hu)
  simp [execOp, ho, ha.eval hp, eptr, Instr.loadAt, Instr.sureAddr, loadVar, hna w', this]
theorem ldI {w0 : World} {v0 : Value} {zs : List Int} (hp : ev l p = some (eptr v0 1 u)) (hna : NA P T) (hs : Ints w0 v0 zs := by assumption) (hE : Ext w0 w := by first | exact Ext.refl _ | assumption)
    (h0 : 0 ≤ u := by omega) (h1 : u < zs.length := by omega) : Yl P N (.load T p) ty l w (.int .i64 (gi zs u)) :=
  ldE hp hna hs (get_gi h0 h1) hE
def RetX (w : World) (Φ : Value → World → Prop) : Ending → World → Prop := Ret (fun v w' => Ext w w' ∧ Φ v w')
theorem C {f : FuncId} {cl : List Operand} {ats : Array TypeId} {vs : List Value} {Φ : Value → World → Prop} (hi : ops[i]? = some ⟨some d, .call ⟨.value (.func f), cl.toArray, ats⟩, ty, pos, after, g⟩) (hw : Wt ops N l g) (hd : Nat.blt d N = true)
    (hv : evs l cl = some vs) (hf : ∀ args w, (callFunc f args).run P w = .ok (.enter f args) w) (hc : Calls P f vs.toArray w (RetX w Φ))
    (h : ∀ v w', Ext w w' → Φ v w' → WR P N ops dr Q π ((d, v) :: l) w') : WR P N ops dr Q (i :: π) l w := fun a ha => by
  refine ⟨_, hi, ?_⟩
  rw [if_pos (hw a ha _ rfl)]
  refine .inr ⟨rfl, ?_⟩
  have hm := ha.evals hv
  have hrun : (execOp a.eval ⟨some d, .call ⟨.value (.func f), cl.toArray, ats⟩, ty, pos, after, g⟩).run P w = .ok (.enter f vs.toArray) w := by
    simp only [execOp, resolve, List.map_toArray, hm, Act.eval, Deferred.ofValue]
    simp [invoke, hf]
  unfold Oper.wp
  rw [hrun, Oper.upon_enter]
  refine hc.mono fun e w' he => ?_
  cases e with
  | returned v => exact ⟨⟨v, rfl⟩, fun _ _ => he.1, h v w' he.1 he.2 _ (ha.put hd v)⟩
  | panicked c => exact he
  | outgrown => exact he.elim
theorem F {w' : World} (hi : ops[i]? = some ⟨some d, op, ty, pos, after, g⟩) (hw : Wt ops N l g) (hA : isA op = false) (hd : Nat.blt d N = true)
    (hr : ∀ a, At N a l → (execOp a.eval ⟨some d, op, ty, pos, after, g⟩).run P w = .ok (.value v) w') (hE : dr = true → isTail ops i = false → Ext w w')
    (h : WR P N ops dr Q π ((d, v) :: l) w') : WR P N ops dr Q (i :: π) l w := fun a ha => by
  refine ⟨_, hi, ?_⟩
  rw [if_pos (hw a ha _ rfl)]
  refine .inr ⟨hA, ?_⟩
  unfold Oper.wp
  rw [hr a ha, Oper.upon_value]
  exact ⟨⟨v, rfl⟩, hE, h _ (ha.put hd v)⟩
theorem F0 {w' : World} (hi : ops[i]? = some ⟨none, op, ty, pos, after, g⟩) (hw : Wt ops N l g) (hA : isA op = false)
    (hr : ∀ a, At N a l → (execOp a.eval ⟨none, op, ty, pos, after, g⟩).run P w = .ok .skip w') (hE : dr = true → isTail ops i = false → Ext w w')
    (h : WR P N ops dr Q π l w') : WR P N ops dr Q (i :: π) l w := fun a ha => by
  refine ⟨_, hi, ?_⟩
  rw [if_pos (hw a ha _ rfl)]
  refine .inr ⟨hA, ?_⟩
  unfold Oper.wp
  rw [hr a ha, Oper.upon_skip]
  exact ⟨⟨undef, rfl⟩, hE, h _ ha⟩
theorem MK {E : TypeId} {zv : Value} {b n : Nat} {cl : Int} (hi : ops[i]? = some ⟨some d, .makeSlice T x x, ty, pos, after, g⟩) (hw : Wt ops N l g) (hd : Nat.blt d N = true) (hx : ev l x = some (.int .i64 cl)) (hT : SlT P T E zv 1 b) (hz : zv.cells = #[zv])
    (h : ∀ v w', Ext w w' → Own w.heap.size w' v E (List.replicate n zv) → v.ownBlock = some w.heap.size → WR P N ops dr Q π ((d, v) :: l) w')
    (hn : cl = (n : Int) := by omega) (hle : n ≤ 140737488355328 := by omega) (hby : b * n ≤ 281474976710656 := by omega) : WR P N ops dr Q (i :: π) l w := by
  obtain ⟨j, hj, hj1, hj2, hj3⟩ := info_of hT
  obtain ⟨w', hrun, hown, hg⟩ := run_make_full (P := P) w w.heap.size T E j zv 1 hT.und hj hj1 hj2 .i64 .i64 n (by rw [hj3]; exact hby) (by unfold maxLen; omega) (Nat.le_refl _)
  have hcells : (madeCells zv.cells (n * 1)).toList = List.replicate n zv := by
    rw [hz]
    simp only [madeCells, Array.toList_map, Nat.mul_one]
    apply List.ext_getElem
    · simp
    · intro k h1 h2
      simp [Nat.mod_one]
  rw [hcells] at hown
  subst hn
  refine F (v := .slice (some ⟨w.heap.size, 0, none⟩) n n) hi hw rfl hd (fun a ha => by simp [execOp, ha.eval hx, hrun]) (fun _ _ => Ext.of_grown hg) (h _ w' (Ext.of_grown hg) ⟨?_, by simpa using hle⟩ rfl)
  simpa using hown
theorem ST {v0 u0 : Value} {B : Nat} {E : TypeId} {xs : List Value} (hi : ops[i]? = some ⟨none, .store T p x, ty, pos, after, g⟩) (hw : Wt ops N l g) (hp : ev l p = some (eptr v0 1 u)) (hx : ev l x = some u0)
    (hT : ∃ j, P.info? T = some j ∧ j.size = 1) (h1c : u0.oneCell' = true) (htl : dr = true → isTail ops i = true)
    (h : ∀ w', w.grownBy w' v0.ownBlock → Own B w' v0 E (xs.set u.toNat u0) → WR P N ops dr Q π l w') (ho : Own B w v0 E xs := by assumption) (h0 : 0 ≤ u := by omega) (h1 : u < xs.length := by omega) : WR P N ops dr Q (i :: π) l w := by
  obtain ⟨⟨hlen, hr⟩, hle⟩ := ho
  rcases hr with ⟨_, hn⟩ | ⟨gb, cap, cur, hv, hB, hg, hnc, hcm, hcs, htake⟩
  · omega
  · subst hv
    have hown : w.ownsRow B E 1 (.slice (some ⟨gb, 0, none⟩) xs.length cap) xs.length xs := ⟨hlen, .inr ⟨gb, cap, cur, rfl, hB, hg, hnc, hcm, hcs, htake⟩⟩
    have hk : u.toNat < xs.length := by omega
    have hcell : w.cell? ⟨gb, u.toNat, none⟩ = some xs[u.toNat] := by
      rw [hown.cellAt u.toNat (by omega)]; simp [hk]
    have hfz : w.frozen? ⟨gb, u.toNat, none⟩ = false := hown.frozenAt _
    have hadd : (⟨gb, 0, none⟩ : Addr).add (u.toNat * 1) = ⟨gb, u.toNat, none⟩ := by rw [Addr.add_lit]; simp
    have hcells1 : u0.cells = #[u0] := by cases u0 <;> first | rfl | simp [Value.oneCell'] at h1c
    obtain ⟨j, hj, hj2⟩ := hT
    have hst := hown.stored u.toNat u0
    have hgb : w.grownBy (w.setCell ⟨gb, u.toNat, none⟩ u0) (some gb) :=
      ⟨rfl, rfl, rfl, by simp, fun k _ hne => Below.heap_setCell _ _ _ _ (fun e => hne (by rw [e]))⟩
    refine F0 (w' := w.setCell ⟨gb, u.toNat, none⟩ u0) hi hw rfl (fun a ha => ?_) (fun hd ht => by rw [htl hd] at ht; cases ht) (h _ hgb ⟨?_, by simpa using hle⟩)
    · have e0 : ∀ q : Addr, q.add 0 = q := fun q => by simp [Addr.add]
      simp only [execOp, ha.eval hp, ha.eval hx, eptr, Instr.storeAt, Instr.sureAddr, storeVar, hadd]
      simp [sizeOf, typeInfo, hj, hj2, hcells1, storeCells, run_store P _ _ _ _ h1c, hcell, hfz, e0]
    · simpa using hst.1
theorem MKI {E : TypeId} {b n : Nat} {cl : Int} (hi : ops[i]? = some ⟨some d, .makeSlice T x x, ty, pos, after, g⟩) (hw : Wt ops N l g) (hd : Nat.blt d N = true) (hx : ev l x = some (.int .i64 cl)) (hT : SlT P T E (.int .i64 0) 1 b)
    (h : ∀ v w', Ext w w' → OwnI w.heap.size w' v E (tab n (fun _ => 0)) → Ints w' v (tab n (fun _ => 0)) → v.ownBlock = some w.heap.size → WR P N ops dr Q π ((d, v) :: l) w')
    (hn : cl = (n : Int) := by omega) (hle : n ≤ 140737488355328 := by omega) (hby : b * n ≤ 281474976710656 := by omega) : WR P N ops dr Q (i :: π) l w :=
  MK hi hw hd hx hT rfl (hn := hn) (hle := hle) (hby := hby) (h := fun v w' hE ho hb => by
    have e : List.replicate n (Value.int .i64 0) = (tab n (fun _ => (0 : Int))).map (Value.int .i64) := by rw [map_tab, replicate_tab]
    rw [e] at ho
    exact h v w' hE ho (OwnI.ints ho) hb)
theorem STI {v0 : Value} {B : Nat} {E : TypeId} {zs : List Int} {z : Int} (hi : ops[i]? = some ⟨none, .store T p x, ty, pos, after, g⟩) (hw : Wt ops N l g) (hp : ev l p = some (eptr v0 1 u)) (hx : ev l x = some (.int .i64 z))
    (hT : ∃ j, P.info? T = some j ∧ j.size = 1) (htl : dr = true → isTail ops i = true)
    (h : ∀ w', w.grownBy w' v0.ownBlock → (∀ w0, w0.heap.size ≤ B → Ext w0 w → Ext w0 w') → OwnI B w' v0 E (si zs u z) → Ints w' v0 (si zs u z) → WR P N ops dr Q π l w')
    (ho : OwnI B w v0 E zs := by assumption) (h0 : 0 ≤ u := by omega) (h1 : u < zs.length := by omega) : WR P N ops dr Q (i :: π) l w :=
  ST hi hw hp hx hT rfl htl (ho := ho) (h0 := h0) (h1 := by simpa using h1) (h := fun w' hg ho' => by
    have e : (zs.map (Value.int .i64)).set u.toNat (.int .i64 z) = (si zs u z).map (Value.int .i64) := by
      rw [si, List.map_set]
    rw [e] at ho'
    exact h w' hg (fun w0 hB hE => hE.grown hg ho hB) ho' (OwnI.ints ho'))
theorem BXA {cs : Array Value} (hi : ops[i]? = some ⟨some d, .box T x, ty, pos, after, g⟩) (hw : Wt ops N l g) (hd : Nat.blt d N = true) (hx : ev l x = some (.agg cs))
    (h : ∀ g w', Ext w w' → Blk w' g T cs → w.heap.size ≤ g → WR P N ops dr Q π ((d, .pointer (some ⟨g, 0, none⟩)) :: l) w') : WR P N ops dr Q (i :: π) l w :=
  F (v := .pointer (some ⟨w.heap.size, 0, none⟩)) (w' := w.alloc (.cells cs T)) hi hw rfl hd (fun a ha => by simp [execOp, ha.eval hx, Instr.box, newVar, newRow, Value.cells]) (fun _ _ => Ext.alloc _ _)
    (h _ _ (Ext.alloc _ _) (heap_alloc_new w _) (Nat.le_refl _))
theorem BXV {u0 : Value} (hi : ops[i]? = some ⟨some d, .box T x, ty, pos, after, g⟩) (hw : Wt ops N l g) (hd : Nat.blt d N = true) (hx : ev l x = some u0) (h1c : u0.oneCell' = true)
    (h : ∀ g w', Ext w w' → Blk w' g T #[u0] → w.heap.size ≤ g → WR P N ops dr Q π ((d, .pointer (some ⟨g, 0, none⟩)) :: l) w') : WR P N ops dr Q (i :: π) l w := by
  have hcells1 : u0.cells = #[u0] := by cases u0 <;> first | rfl | simp [Value.oneCell'] at h1c
  exact F (v := .pointer (some ⟨w.heap.size, 0, none⟩)) (w' := w.alloc (.cells #[u0] T)) hi hw rfl hd (fun a ha => by simp [execOp, ha.eval hx, Instr.box, newVar, newRow, hcells1]) (fun _ _ => Ext.alloc _ _)
    (h _ _ (Ext.alloc _ _) (heap_alloc_new w _) (Nat.le_refl _))
def FA (P : Program) (T : TypeId) (k o : Nat) : Prop := ∀ (a : Addr) (w : World), (Instr.fieldAt T (.pointer (some a)) k).run P w = .ok (.pointer (some (a.add o))) w
theorem fad {g off k o : Nat} (hx : ev l x = some (.pointer (some ⟨g, off, none⟩))) (hF : FA P T k o) : Yl P N (.fieldAddr T x k) ty l w (.pointer (some ⟨g, off + o, none⟩)) := fun a ha w' _ f hf _ => by
  simp [execOp, hf, ha.eval hx, hF _ w', Addr.add_lit]
theorem ldB {g k : Nat} {t : TypeId} {cs : Array Value} {w0 : World} (hp : ev l p = some (.pointer (some ⟨g, k, none⟩))) (hna : NA P T) (hB : Blk w0 g t cs := by assumption) (hc : cs[k]? = some v := by rfl) (hE : Ext w0 w := by first | exact Ext.refl _ | assumption) :
    Yl P N (.load T p) ty l w v := ld hp hna ((hB.ext hE).cell hc)
structure AG (P : Program) (T : TypeId) (n : Nat) : Prop where
  agg : ∀ w, (isAgg T).run P w = .ok true w
  size : ∀ w, (sizeOf T).run P w = .ok n w
theorem ldA {g k n : Nat} {t : TypeId} {cs : List Value} {w0 : World} (hp : ev l p = some (.pointer (some ⟨g, k, none⟩))) (hA : AG P T n) (hB : Blk w0 g t cs.toArray := by assumption) (hn : Nat.ble (k + n) cs.length = true := by rfl) (hE : Ext w0 w := by first | exact Ext.refl _ | assumption) :
    Yl P N (.load T p) ty l w (.agg ((cs.drop k).take n).toArray) := fun a ha w' hE' o ho _ => by
  replace hE' := hE'.resolve_left (by simp [isM])
  have hle : k + n ≤ cs.length := Nat.le_of_ble_eq_true hn
  have hc : ∀ j v, ((cs.drop k).take n)[j]? = some v → w'.cell? ((⟨g, k, none⟩ : Addr).add j) = some v := by
    intro j v hv
    have hlt : j < n := by
      have := (List.getElem?_eq_some_iff.1 hv).1
      simp at this; omega
    rw [Addr.add_lit]
    refine (hE.trans hE').cell (hB.cell ?_)
    rw [List.getElem?_take, if_pos hlt, List.getElem?_drop] at hv
    simpa using hv
  have hl := run_loadCells_list (P := P) w' ⟨g, k, none⟩ ((cs.drop k).take n) hc
  have hlen : ((cs.drop k).take n).length = n := by simp; omega
  rw [hlen] at hl
  simp [execOp, ho, ha.eval hp, Instr.loadAt, Instr.sureAddr, loadVar, hA.agg w', hA.size w', hl]
end
section
variable {P : Program} {N : Nat} {w : World}
theorem calls0 {f : FuncId} {fn : Func} {c : Code} {R : Ending → World → Prop} (hf : P.funcs[f]? = some fn) (hb : fn.body = some c) (h : WC P fn.ntmps c (bodyPost P fn R) [] w) : Calls P f #[] w R :=
  calls_of (args := []) [] hf hb rfl rfl (fun t v h => by cases h) h
theorem calls1 {f : FuncId} {fn : Func} {c : Code} {v0 : Value} {R : Ending → World → Prop} (hf : P.funcs[f]? = some fn) (hb : fn.body = some c) (hN : Nat.ble 1 fn.ntmps = true := by rfl) (h : WC P fn.ntmps c (bodyPost P fn R) [(0, v0)] w) : Calls P f #[v0] w R :=
  calls_of (args := [v0]) [(0, v0)] hf hb rfl hN (fun t _ h => match t, h with
    | 0, h => h
    | _ + 1, h => h) h
theorem calls2 {f : FuncId} {fn : Func} {c : Code} {v0 v1 : Value} {R : Ending → World → Prop} (hf : P.funcs[f]? = some fn) (hb : fn.body = some c) (hN : Nat.ble 2 fn.ntmps = true := by rfl) (h : WC P fn.ntmps c (bodyPost P fn R) [(0, v0), (1, v1)] w) : Calls P f #[v0, v1] w R :=
  calls_of (args := [v0, v1]) [(0, v0), (1, v1)] hf hb rfl hN (fun t _ h => match t, h with
    | 0, h => h
    | 1, h => h
    | _ + 2, h => h) h
theorem calls3 {f : FuncId} {fn : Func} {c : Code} {v0 v1 v2 : Value} {R : Ending → World → Prop} (hf : P.funcs[f]? = some fn) (hb : fn.body = some c) (hN : Nat.ble 3 fn.ntmps = true := by rfl) (h : WC P fn.ntmps c (bodyPost P fn R) [(0, v0), (1, v1), (2, v2)] w) : Calls P f #[v0, v1, v2] w R :=
  calls_of (args := [v0, v1, v2]) [(0, v0), (1, v1), (2, v2)] hf hb rfl hN (fun t _ h => match t, h with
    | 0, h => h
    | 1, h => h
    | 2, h => h
    | _ + 3, h => h) h
theorem calls4 {f : FuncId} {fn : Func} {c : Code} {v0 v1 v2 v3 : Value} {R : Ending → World → Prop} (hf : P.funcs[f]? = some fn) (hb : fn.body = some c) (hN : Nat.ble 4 fn.ntmps = true := by rfl) (h : WC P fn.ntmps c (bodyPost P fn R) [(0, v0), (1, v1), (2, v2), (3, v3)] w) : Calls P f #[v0, v1, v2, v3] w R :=
  calls_of (args := [v0, v1, v2, v3]) [(0, v0), (1, v1), (2, v2), (3, v3)] hf hb rfl hN (fun t _ h => match t, h with
    | 0, h => h
    | 1, h => h
    | 2, h => h
    | 3, h => h
    | _ + 4, h => h) h
theorem calls5 {f : FuncId} {fn : Func} {c : Code} {v0 v1 v2 v3 v4 : Value} {R : Ending → World → Prop} (hf : P.funcs[f]? = some fn) (hb : fn.body = some c) (hN : Nat.ble 5 fn.ntmps = true := by rfl) (h : WC P fn.ntmps c (bodyPost P fn R) [(0, v0), (1, v1), (2, v2), (3, v3), (4, v4)] w) : Calls P f #[v0, v1, v2, v3, v4] w R :=
  calls_of (args := [v0, v1, v2, v3, v4]) [(0, v0), (1, v1), (2, v2), (3, v3), (4, v4)] hf hb rfl hN (fun t _ h => match t, h with
    | 0, h => h
    | 1, h => h
    | 2, h => h
    | 3, h => h
    | 4, h => h
    | _ + 5, h => h) h
end
end Go.Sx


namespace Go.Sx
open Go Go.RowKit Go.Pl
section
variable {P : Program}
theorem fill_row : ∀ (us : List Value) (k : Nat) (cells : Array Value), (∀ u ∈ us, u.oneCell' = true) → k + us.length ≤ cells.size →
    ∃ out : Array Value, Instr.fill (fun i => some (i * 1, 1)) cells ((List.range' k us.length).zip us) = some out ∧ out.size = cells.size ∧
      ∀ j, out[j]? = if k ≤ j ∧ j < k + us.length then us[j - k]? else cells[j]?
  | [], k, cells, _, _ => ⟨cells, by simp [Instr.fill], rfl, fun j => by rw [if_neg (fun h => by simp at h; omega)]⟩
  | u :: us, k, cells, h1, hl => by
    have hu : u.oneCell' = true := h1 u (List.mem_cons_self ..)
    have hcells1 : u.cells = #[u] := by cases u <;> first | rfl | simp [Value.oneCell'] at hu
    simp only [List.length_cons] at hl
    obtain ⟨out, ho, hs, hg⟩ := fill_row us (k + 1) (cells.setIfInBounds k u) (fun x hx => h1 x (List.mem_cons_of_mem _ hx)) (by simp; omega)
    refine ⟨out, ?_, by simpa using hs, fun j => ?_⟩
    · simp only [List.length_cons, List.range'_succ, List.zip_cons_cons, Instr.fill, hcells1]
      rw [if_neg (by simp; omega)]
      simpa using ho
    · rw [hg j]
      by_cases hj : k ≤ j ∧ j < k + (u :: us).length
      · rw [if_pos hj]
        by_cases hk : j = k
        · subst hk
          rw [if_neg (by omega)]
          have : j < cells.size := by omega
          simp [this]
        · have e : j - k = (j - (k + 1)) + 1 := by omega
          simp only [List.length_cons] at hj
          rw [if_pos (by omega), e, List.getElem?_cons_succ]
      · rw [if_neg hj]
        simp only [List.length_cons] at hj
        rw [if_neg (by omega), Array.getElem?_setIfInBounds_ne (by omega)]
theorem run_buildSlice {T E : TypeId} {zv : Value} {b : Nat} (hT : SlT P T E zv 1 b) (us : List Value) (h1 : ∀ u ∈ us, u.oneCell' = true) (hl : us.length ≤ 16777216) (w : World) :
    (Instr.buildSlice T us.length ((List.range' 0 us.length).zip us).toArray).run P w = .ok (.slice (some ⟨w.heap.size, 0, none⟩) us.length us.length) (w.alloc (.cells us.toArray E)) := by
  obtain ⟨j, hj, hj1, hj2, _⟩ := info_parts hT.inf
  obtain ⟨out, ho, hs, hg⟩ := fill_row us 0 ((Array.range (us.length * 1)).map fun i => (if us.length * 1 = 0 then #[] else zv.cells)[i % (if us.length * 1 = 0 then #[] else zv.cells).size]!) h1 (by simp)
  have hout : out = us.toArray := by
    apply Array.ext_getElem?
    intro i
    rw [hg i]
    by_cases hi : i < us.length
    · rw [if_pos (by omega)]; simp
    · rw [if_neg (by omega)]
      rw [Array.getElem?_eq_none (by simp; omega)]
      simp; omega
  subst hout
  by_cases h0 : us.length = 0
  · simp only [h0, Nat.zero_mul, if_true] at ho
    have hus : us = [] := List.eq_nil_of_length_eq_zero h0
    subst hus
    have e0 : (Array.map (fun _ : Nat => (default : Value)) (Array.range 0)) = #[] := by simp [Array.range]
    simp [Instr.buildSlice, run_underlying hT.und, sizeOf, typeInfo, hj, newRow, Instr.fill, e0]
  · rw [if_neg (by omega)] at ho
    simp [Instr.buildSlice, run_underlying hT.und, sizeOf, typeInfo, hj, hj1, hj2, newRow, zeroValue, h0, show ¬ 16777216 < us.length by omega] at ho ⊢
    rw [ho]
    simp
end
section
variable {P : Program} {N : Nat} {l : Env} {w : World} {ops : Array Oper} {dr : Bool} {Q : Act → World → Prop} {π : List Nat} {i d : Nat} {v : Value} {op : Op} {ty : TypeId} {pos : String} {after : Array Edge} {g : Option (Nat × Bool)}
variable {x y c p : Operand} {u z : Int} {T T' : TypeId}
theorem Own.made {us : List Value} {E : TypeId} (h : us.length ≤ 16777216) : Own w.heap.size (w.alloc (.cells us.toArray E)) (.slice (some ⟨w.heap.size, 0, none⟩) us.length us.length) E us :=
  ⟨⟨by simp, .inr ⟨w.heap.size, us.length, us.toArray, rfl, Nat.le_refl _, heap_alloc_new w _, Nat.le_refl _, by unfold maxLen; omega, by simp, by simp⟩⟩, by omega⟩
theorem BS {n : Nat} {ps : List (Nat × Operand)} {us : List Value} {E : TypeId} {zv : Value} {b : Nat} (hi : ops[i]? = some ⟨some d, .buildSlice T n ps.toArray, ty, pos, after, g⟩) (hw : Wt ops N l g) (hd : Nat.blt d N = true) (hv : evs l (ps.map (·.2)) = some us)
    (hn : n = us.length) (hix : ps.map (·.1) = List.range' 0 us.length) (hT : SlT P T E zv 1 b) (h1 : ∀ u ∈ us, u.oneCell' = true)
    (h : ∀ v w', Ext w w' → Own w.heap.size w' v E us → v.ownBlock = some w.heap.size → WR P N ops dr Q π ((d, v) :: l) w') (hl : us.length ≤ 16777216 := by first | decide | simp) : WR P N ops dr Q (i :: π) l w := by
  subst hn
  refine F (v := .slice (some ⟨w.heap.size, 0, none⟩) us.length us.length) (w' := w.alloc (.cells us.toArray E)) hi hw rfl hd (fun a ha => ?_) (fun _ _ => Ext.alloc _ _) (h _ _ (Ext.alloc _ _) (Own.made hl) rfl)
  have hm := ha.evals hv
  have hps : ps.map (fun p => (p.1, a.eval p.2)) = (List.range' 0 us.length).zip us := by
    rw [← hix, ← hm, List.map_map]
    clear hv hix hm hi h
    induction ps with
    | nil => rfl
    | cons q r ih => simp [ih]
  have hr := run_buildSlice hT us h1 hl w
  rw [← hps] at hr
  simp only [execOp, List.map_toArray, Sem.run_bind]
  rw [hr]
  rfl
theorem BSI {n : Nat} {ps : List (Nat × Operand)} {zs : List Int} {E : TypeId} {b : Nat} (hi : ops[i]? = some ⟨some d, .buildSlice T n ps.toArray, ty, pos, after, g⟩) (hw : Wt ops N l g) (hd : Nat.blt d N = true) (hv : evs l (ps.map (·.2)) = some (zs.map (Value.int .i64)))
    (hn : n = zs.length) (hix : ps.map (·.1) = List.range' 0 zs.length) (hT : SlT P T E (.int .i64 0) 1 b)
    (h : ∀ v w', Ext w w' → OwnI w.heap.size w' v E zs → Ints w' v zs → v.ownBlock = some w.heap.size → WR P N ops dr Q π ((d, v) :: l) w') (hl : zs.length ≤ 16777216 := by first | decide | simp) : WR P N ops dr Q (i :: π) l w :=
  BS hi hw hd hv (by simpa using hn) (by simpa using hix) hT (fun u hu => by obtain ⟨_, _, rfl⟩ := List.mem_map.1 hu; rfl) (fun v w' hE ho hb => h v w' hE ho (OwnI.ints ho) hb) (by simpa using hl)
theorem AP {v0 v1 : Value} {B : Nat} {E : TypeId} {xs ys : List Value} {zv : Value} {b : Nat} {w0 : World} (hi : ops[i]? = some ⟨some d, .call ⟨.builtin .append, #[x, y], #[T, T]⟩, ty, pos, after, g⟩) (hw : Wt ops N l g) (hd : Nat.blt d N = true) (hx : ev l x = some v0) (hy : ev l y = some v1)
    (hT : SlT P T E zv 1 b) (hz : zv.cells = #[zv]) (htl : dr = true → isTail ops i = false → Ext w w → v0.ownBlock = none)
    (ho : Own B w v0 E xs) (hB : B ≤ w.heap.size) (hs : Sl w0 v1 ys) (hE : Ext w0 w) (h1 : ∀ u ∈ ys, u.oneCell' = true) (hlen : (xs.length + ys.length) * b ≤ 140737488355328) (hlen1 : xs.length + ys.length ≤ 140737488355328)
    (h : ∀ v w', w.grownBy w' v0.ownBlock → (∀ w0, w0.heap.size ≤ B → Ext w0 w → Ext w0 w') → Own B w' v E (xs ++ ys) → (v.ownBlock = v0.ownBlock ∨ v.ownBlock = some w.heap.size) → WR P N ops dr Q π ((d, v) :: l) w') : WR P N ops dr Q (i :: π) l w := by
  obtain ⟨j, hj, hj1, hj2, hj3⟩ := info_parts hT.inf
  have hs' := hs.ext hE
  obtain ⟨⟨a1, c1, rfl, hc1, hx1⟩, _⟩ := hs'
  have done : ∀ v w', (Builtin.append_ #[T, T] ty #[v0, .slice a1 ys.length c1]).run P w = .ok v w' → w'.ownsRow B E 1 v (xs.length + ys.length) (xs ++ ys) → w.grownBy w' v0.ownBlock → (v.ownBlock = v0.ownBlock ∨ v.ownBlock = some w.heap.size) →
      WR P N ops dr Q (i :: π) l w := by
    intro v w' hrun hown hg hb
    refine F (v := v) (w' := w') hi hw rfl hd (fun a ha => ?_) (fun hdr ht => ?_) (h v w' hg (fun w0 hB0 hE0 => hE0.grown hg ho hB0) ⟨by simpa using hown, by simpa using hlen1⟩ hb)
    · simp [execOp, resolve, invoke, builtin, ha.eval hx, ha.eval hy, hrun]
    · rw [htl hdr ht (Ext.refl _)] at hg
      exact Ext.of_grown hg
  rcases Nat.eq_zero_or_pos ys.length with h0 | h0
  · have hys : ys = [] := List.eq_nil_of_length_eq_zero h0
    subst hys
    cases a1 with
    | none =>
      have hrun : (Builtin.append_ #[T, T] ty #[v0, .slice none 0 c1]).run P w = .ok v0 w := by
        rcases ho.row.2 with ⟨rfl, hn⟩ | ⟨g, cap, cur, rfl, _, _, hnc, _⟩
        · simp [Builtin.append_, run_underlying hT.und, sizeOf, typeInfo, hj, Builtin.lenOf, Builtin.firstCells]
        · simp [Builtin.append_, run_underlying hT.und, sizeOf, typeInfo, hj, Builtin.lenOf, Builtin.firstCells, hnc, storeCells]
      exact done v0 w hrun (by simpa using ho.row) (World.grownBy.refl w _) (.inl rfl)
    | some ad =>
      obtain ⟨v', w', hrun, h2, h3, _, h5⟩ := run_append_own_at (P := P) w B T ty E j zv 1 b hT.und hj hj1 hj2 hj3 (by rw [hz]; rfl) (by omega) v0 xs.length xs ho.row ad 0 c1 [] (by simp) (by simp) (by simp) (by unfold maxLen; simp at hlen1; omega) (by simpa using hlen) hB
      exact done v' w' hrun (by simpa using h2) h3 h5
  · obtain ⟨ad, rfl, hcell⟩ := hx1 h0
    obtain ⟨v', w', hrun, h2, h3, _, h5⟩ := run_append_own_at (P := P) w B T ty E j zv 1 b hT.und hj hj1 hj2 hj3 (by rw [hz]; rfl) (by omega) v0 xs.length xs ho.row ad ys.length c1 ys (by simp) hcell h1 (by unfold maxLen; omega) hlen hB
    exact done v' w' hrun h2 h3 h5
theorem API {v0 v1 : Value} {B : Nat} {E : TypeId} {xs ys : List Int} {w0 : World} (hi : ops[i]? = some ⟨some d, .call ⟨.builtin .append, #[x, y], #[T, T]⟩, ty, pos, after, g⟩) (hw : Wt ops N l g) (hd : Nat.blt d N = true) (hx : ev l x = some v0) (hy : ev l y = some v1)
    (hT : SlT P T E (.int .i64 0) 1 8) (htl : dr = true → isTail ops i = false → Ext w w → v0.ownBlock = none)
    (h : ∀ v w', w.grownBy w' v0.ownBlock → (∀ w0, w0.heap.size ≤ B → Ext w0 w → Ext w0 w') → OwnI B w' v E (xs ++ ys) → Ints w' v (xs ++ ys) → (v.ownBlock = v0.ownBlock ∨ v.ownBlock = some w.heap.size) → WR P N ops dr Q π ((d, v) :: l) w')
    (ho : OwnI B w v0 E xs := by assumption) (hB : B ≤ w.heap.size := by first | exact Nat.le_refl _ | exact Ext.size (by assumption)) (hs : Ints w0 v1 ys := by assumption) (hE : Ext w0 w := by first | exact Ext.refl _ | assumption)
    (hlen : xs.length + ys.length ≤ 17592186044416 := by first | omega | (simp only [List.length_cons, List.length_nil, List.length_append]; omega)) : WR P N ops dr Q (i :: π) l w :=
  AP hi hw hd hx hy hT rfl htl ho hB hs hE (fun u hu => by obtain ⟨_, _, rfl⟩ := List.mem_map.1 hu; rfl) (by simp; omega) (by simp; omega) (fun v w' hg hX ho' hb => by
    rw [← List.map_append] at ho'
    exact h v w' hg hX ho' (OwnI.ints ho') hb)
end
end Go.Sx


namespace Go.Sx
open Go Go.RowKit Go.Pl
def putAt (cs : List Value) (k : Nat) (vs : List Value) : List Value := cs.take k ++ vs ++ cs.drop (k + vs.length)
section
variable {P : Program}
theorem run_storeBlk {g : Nat} {t : TypeId} : ∀ (vs : List Value) (w : World) (cs : List Value) (k i : Nat), Blk w g t cs.toArray → (∀ v ∈ vs, v.oneCell' = true) → k + i + vs.length ≤ cs.length →
    ∃ w', (storeCells ⟨g, k, none⟩ vs i).run P w = .ok () w' ∧ Blk w' g t (putAt cs (k + i) vs).toArray ∧ w.grownBy w' (some g)
  | [], w, cs, k, i, hB, _, hl => ⟨w, by simp [storeCells], by simpa [putAt] using hB, World.grownBy.refl w _⟩
  | v :: vs, w, cs, k, i, hB, h1, hl => by
    simp only [List.length_cons] at hl
    have hk : k + i < cs.length := by omega
    have hcell : w.cell? ⟨g, k + i, none⟩ = some cs[k + i] := hB.cell (by simp [hk])
    have hfz : w.frozen? ⟨g, k + i, none⟩ = false := by
      unfold Blk at hB
      simp [World.frozen?, hB]
    have hB' : Blk (w.setCell ⟨g, k + i, none⟩ v) g t (cs.set (k + i) v).toArray := by
      unfold Blk at hB ⊢
      have hlt : g < w.heap.size := (Array.getElem?_eq_some_iff.1 hB).1
      simp only [World.setCell]
      rw [Array.getElem?_modify]
      simp [hB]
    obtain ⟨w', hr, hb, hg⟩ := run_storeBlk vs (w.setCell ⟨g, k + i, none⟩ v) (cs.set (k + i) v) k (i + 1) hB' (fun u hu => h1 u (List.mem_cons_of_mem _ hu)) (by simp; omega)
    refine ⟨w', ?_, ?_, ?_⟩
    · simp only [storeCells, Sem.run_bind]
      have hadd : (⟨g, k, none⟩ : Addr).add i = ⟨g, k + i, none⟩ := by rw [Addr.add_lit]
      rw [hadd, run_store P _ _ _ _ (h1 v (List.mem_cons_self ..)), hcell]
      simp [hfz, hr]
    · have e : putAt (cs.set (k + i) v) (k + (i + 1)) vs = putAt cs (k + i) (v :: vs) := by
        simp only [putAt, List.length_cons]
        apply List.ext_getElem?
        intro j
        simp only [List.getElem?_append, List.length_take, List.length_set, List.length_append, List.length_cons, List.getElem?_take, List.getElem?_drop, List.getElem?_set, List.getElem?_cons]
        repeat' split
        all_goals (try omega)
        all_goals (first | rfl | (congr 1; omega) | simp_all | (exfalso; omega) | skip)
        all_goals (try omega)
      rw [e] at hb
      exact hb
    · have hgb : w.grownBy (w.setCell ⟨g, k + i, none⟩ v) (some g) :=
        ⟨rfl, rfl, rfl, by simp, fun j hj hne => Below.heap_setCell _ _ _ _ (fun e => hne (by rw [e]))⟩
      exact hgb.trans hg
end
section
variable {P : Program} {N : Nat} {l : Env} {w : World} {ops : Array Oper} {dr : Bool} {Q : Act → World → Prop} {π : List Nat} {i d : Nat} {v : Value} {op : Op} {ty : TypeId} {pos : String} {after : Array Edge} {g : Option (Nat × Bool)}
variable {x y c p : Operand} {u z : Int} {T T' : TypeId} {ats : Array TypeId}
def ZV (P : Program) (T : TypeId) (zs : List Value) : Prop := ∀ w, ∃ zv, (zeroValue T).run P w = .ok zv w ∧ zv.cells = zs.toArray
theorem AL {zs : List Value} (hi : ops[i]? = some ⟨some d, .alloc T, ty, pos, after, g⟩) (hw : Wt ops N l g) (hd : Nat.blt d N = true) (hz : ZV P T zs)
    (h : ∀ b w', Ext w w' → Blk w' b T zs.toArray → w.heap.size ≤ b → WR P N ops dr Q π ((d, .pointer (some ⟨b, 0, none⟩)) :: l) w') : WR P N ops dr Q (i :: π) l w := by
  obtain ⟨zv, h1, h2⟩ := hz w
  refine F (v := .pointer (some ⟨w.heap.size, 0, none⟩)) (w' := w.alloc (.cells zs.toArray T)) hi hw rfl hd (fun a ha => ?_) (fun _ _ => Ext.alloc _ _) (h _ _ (Ext.alloc _ _) (heap_alloc_new w _) (Nat.le_refl _))
  simp [execOp, Instr.alloc, newVar, newRow, h1, h2]
theorem STB {b k n t : Nat} {cs vs cs' : List Value} {u0 : Value} (hi : ops[i]? = some ⟨none, .store T p x, ty, pos, after, g⟩) (hw : Wt ops N l g) (hp : ev l p = some (.pointer (some ⟨b, k, none⟩))) (hx : ev l x = some u0) (hc : u0.cells = vs.toArray)
    (hs : ∀ w, (sizeOf T).run P w = .ok n w) (htl : dr = true → isTail ops i = true) (hB : Blk w b t cs.toArray) (h1 : ∀ v ∈ vs, v.oneCell' = true) (hn : vs.length = n) (hl : Nat.ble (k + n) cs.length = true) (hcs : putAt cs k vs = cs')
    (h : ∀ w', w.grownBy w' (some b) → (∀ w0, w0.heap.size ≤ b → Ext w0 w → Ext w0 w') → Blk w' b t cs'.toArray → WR P N ops dr Q π l w') : WR P N ops dr Q (i :: π) l w := by
  subst hcs
  have hl' := Nat.le_of_ble_eq_true hl
  obtain ⟨w', hr, hb, hg⟩ := run_storeBlk (P := P) vs w cs k 0 hB h1 (by omega)
  refine F0 (w' := w') hi hw rfl (fun a ha => ?_) (fun hd ht => by rw [htl hd] at ht; cases ht) (h w' hg (fun w0 hB0 hE => ?_) hb)
  · simp [execOp, ha.eval hp, ha.eval hx, Instr.storeAt, Instr.sureAddr, storeVar, hs, hc, hn, hr]
  · exact Below.grown hE hg hE.size (fun j hj => by cases hj; exact hB0)
theorem bld {ps : List (Nat × Operand)} {us : List Value} {r : List Value} (hv : evs l (ps.map (·.2)) = some us) (hb : ∀ w, (Instr.build T ((ps.map (·.1)).zip us).toArray).run P w = .ok (.agg r.toArray) w) :
    Yl P N (.build T ps.toArray) ty l w (.agg r.toArray) := fun a ha w' hEE o ho _ => by
  clear hEE
  have hm := ha.evals hv
  have hps : ps.map (fun p => (p.1, a.eval p.2)) = (ps.map (·.1)).zip us := by
    rw [← hm, List.map_map]
    clear hv hm hb ho
    induction ps with
    | nil => rfl
    | cons q r ih => simp [ih]
  have h := hb w'
  rw [← hps] at h
  simp only [execOp, ho, List.map_toArray, Sem.run_bind]
  rw [h]
  rfl
def EQS (P : Program) (T : TypeId) (n : Nat) : Prop := ∀ (xs ys : List Int), xs.length = n → ys.length = n → ∀ w, (Op.equal T (.agg (xs.map (Value.int .i64)).toArray) (.agg (ys.map (Value.int .i64)).toArray)).run P w = .ok (decide (xs = ys)) w
theorem eqlS {n : Nat} {xs ys : List Int} {a b : Value} (hx : ev l x = some a) (hy : ev l y = some b) (ha : a = .agg (xs.map (Value.int .i64)).toArray) (hb : b = .agg (ys.map (Value.int .i64)).toArray) (hE : EQS P T n) (hG : P.eqGuardType P.depth T = false)
    (h1 : xs.length = n := by rfl) (h2 : ys.length = n := by rfl) :
    Yl P N (.binOp .eql T x y T') ty l w (.bool (decide (xs = ys))) := by
  subst ha hb
  refine yl_bin hx hy (fun w => ?_) (fun w x y => ?_)
  · have h := hE xs ys h1 h2 w
    simp [binOp, h]
  · simp [eqGuard, hG]
theorem maxI (hx : ev l x = some (.int .i64 u)) (hy : ev l y = some (.int .i64 z)) : Yl P N (.call ⟨.builtin .max, #[x, y], ats⟩) ty l w (.int .i64 (max u z)) := fun a ha w' _ o ho _ => by
  have e : (if u < z then z else u) = max u z := by rw [Int.max_def]; split <;> split <;> omega
  simp [execOp, ho, ha.eval hx, ha.eval hy, resolve, invoke, builtin, Builtin.max_, Builtin.max2, e]
theorem post_retC2 {fn : Func} {t s b : Nat} {n : Nat} {tb : TypeId} {cs : List Value} {v : Value} {R : Ending → World → Prop} (hr : fn.results = #[.cell t T, .tmp s]) (hp : lk l t = some (.pointer (some ⟨b, 0, none⟩))) (hv : lk l s = some v)
    (hA : AG P T n) (hB : Blk w b tb cs.toArray) (hn : cs.length = n) (hR : R (.returned (.tuple #[.agg cs.toArray, v])) w) :
    Post N (bodyPost P fn R) .ret l w := fun a ha => by
  refine ⟨ha.defers, .tuple #[.agg cs.toArray, v], ?_, hR⟩
  have h1 := ha.slots _ _ hp
  have h2 := ha.slots _ _ hv
  have hl := run_loadCells_list (P := P) w ⟨b, 0, none⟩ cs (fun j v hv => by rw [Addr.add_lit]; exact hB.cell (by simpa using hv))
  rw [hn] at hl
  simp [results, hr, h1, h2, asAddr, loadVar, hA.agg w, hA.size w, hl]
end
end Go.Sx


namespace Go.Sx
open Go Go.RowKit Go.Pl
theorem cell_kept {w w' : World} {row : Option Nat} (hg : w.grownBy w' row) {a : Addr} {v : Value} (hc : w.cell? a = some v) (hne : row ≠ some a.block) : w'.cell? a = some v := by
  have hlt := World.block_lt_of_cell? w a hc
  have h := hg.block a.block hlt (fun e => hne e.symm)
  unfold World.cell? at hc ⊢
  rw [h]
  exact hc
theorem Sl.kept {w w' : World} {v : Value} {xs : List Value} {row : Option Nat} (h : Sl w v xs) (hg : w.grownBy w' row) (hne : v.ownBlock ≠ row) : Sl w' v xs := by
  obtain ⟨⟨a, c, hv, hc, hx⟩, hl⟩ := h
  refine ⟨⟨a, c, hv, hc, fun h0 => ?_⟩, hl⟩
  obtain ⟨ad, ha, hh⟩ := hx h0
  refine ⟨ad, ha, fun j u hu => cell_kept hg (hh j u hu) (fun e => hne ?_)⟩
  subst ha hv
  rw [e]
  simp only [Value.ownBlock, Addr.add]
  try (split <;> rfl)
theorem Ints.kept {w w' : World} {v : Value} {zs : List Int} {row : Option Nat} (h : Ints w v zs) (hg : w.grownBy w' row) (hne : v.ownBlock ≠ row) : Ints w' v zs := Sl.kept h hg hne
def LL (w : World) (v : Value) (L : List (List Int)) : Prop :=
  ∃ rows, Sl w v rows ∧ rows.length = L.length ∧ ∀ (i : Nat) r zs, rows[i]? = some r → L[i]? = some zs → Ints w r zs
theorem LL.ext {w w' : World} {v : Value} {L : List (List Int)} (h : LL w v L) (hE : Ext w w') : LL w' v L := by
  obtain ⟨rows, h1, h2, h3⟩ := h
  exact ⟨rows, h1.ext hE, h2, fun i r zs a b => (h3 i r zs a b).ext hE⟩
theorem LL.nil (w : World) : LL w (.slice none 0 0) [] := ⟨[], Sl.nil w, rfl, fun i r zs h => by simp at h⟩
theorem LL.row {w : World} {v : Value} {L : List (List Int)} (h : LL w v L) : ∃ rows, Sl w v rows ∧ rows.length = L.length ∧ ∀ i : Nat, i < L.length → ∃ r, rows[i]? = some r ∧ Ints w r (L.getD i []) := by
  obtain ⟨rows, h1, h2, h3⟩ := h
  refine ⟨rows, h1, h2, fun i hi => ⟨rows[i]'(by omega), by simp [h2, hi], ?_⟩⟩
  exact h3 i _ _ (by simp [h2, hi]) (by simp [hi])
theorem LL.le {w : World} {v : Value} {L : List (List Int)} (h : LL w v L) : L.length ≤ 140737488355328 := by
  obtain ⟨rows, h1, h2, _⟩ := h
  have := h1.le
  omega
def Apart (w : World) (rows : List Value) (L : List (List Int)) (X : List (Option Nat)) : Prop :=
  rows.length = L.length ∧ ∀ (i : Nat) r zs, rows[i]? = some r → L[i]? = some zs → Ints w r zs ∧ ∃ g, r.ownBlock = some g ∧ g < w.heap.size ∧ some g ∉ X
section
variable {P : Program} {N : Nat} {l : Env} {w : World} {v : Value} {ty : TypeId} {x y : Operand} {T T' E : TypeId}
theorem eqlN (hx : ev l x = some v) (hy : ev l y = some (.slice none 0 0)) (hT : P.underlying T = some (.slice E)) (hv : ∃ a n c, v = .slice a n c) : Yl P N (.binOp .eql T x y T') ty l w (.bool v.ownBlock.isNone) := by
  obtain ⟨a, n, c, rfl⟩ := hv
  have hd : ∃ d, Op.maxDepth = d + 1 := ⟨Op.maxDepth - 1, rfl⟩
  obtain ⟨d, hd⟩ := hd
  refine yl_bin hx hy (fun w => ?_) (fun w x y => ?_)
  · cases a <;> simp [binOp, Op.equal, hd, Op.equalIn, run_underlying hT, Value.ownBlock]
  · unfold eqGuard
    split <;> rfl
end
end Go.Sx


namespace Go.Sx
open Go Go.RowKit
inductive Tr where
  | leaf (π : List Nat)
  | br (π : List Nat) (t1 t2 : Tr)
def Tr.len : Tr → Nat
  | .leaf π => π.length
  | .br π t1 _ => π.length + t1.len
def Tr.head : Tr → Option Nat
  | .leaf [] => none
  | .leaf (i :: _) => some i
  | .br [] _ _ => none
  | .br (i :: _) _ _ => some i
section
variable (P : Program) (ops : Array Oper)
def RTr (Q : Act → World → Prop) : Tr → Act → World → Prop
  | .leaf π, a, w => RL P ops true Q π a w
  | .br π t1 t2, a, w => RL P ops true (fun a w => RTr Q t1 a w ∧ RTr Q t2 a w) π a w
end
def aft : List Nat → Array Bool → Array Bool
  | [], l => l
  | i :: r, l => aft r (l.setIfInBounds i true)
def okSeg (ops : Array Oper) : List Nat → Array Bool → Bool
  | [], _ => true
  | i :: r, listed => (Region.ready .any ops listed).contains i &&
      (match ops[i]? with
       | some o => if isA o.op then Region.free .any ops listed i else (Region.ready .any ops listed).all (· == i)
       | none => false) && okSeg ops r (listed.setIfInBounds i true)
def okSeg1 (ops : Array Oper) : List Nat → Array Bool → Bool
  | [], _ => false
  | i :: r, listed => okSeg ops r (listed.setIfInBounds i true)
def okC (ops : Array Oper) (t1 t2 : Tr) (l : Array Bool) : Bool :=
  (t1.len == t2.len) && !(Region.ready .any ops l).isEmpty && (Region.ready .any ops l).all (fun j => some j == t1.head || some j == t2.head)
def okT (ops : Array Oper) : Bool → Tr → Array Bool → Bool
  | false, .leaf π, l => okSeg ops π l && (Region.ready .any ops (aft π l)).isEmpty
  | true, .leaf π, l => okSeg1 ops π l && (Region.ready .any ops (aft π l)).isEmpty
  | false, .br π t1 t2, l => okSeg ops π l && (okC ops t1 t2 (aft π l) && (okT ops true t1 (aft π l) && okT ops true t2 (aft π l)))
  | true, .br π t1 t2, l => okSeg1 ops π l && (okC ops t1 t2 (aft π l) && (okT ops true t1 (aft π l) && okT ops true t2 (aft π l)))
section
variable {P : Program} {ops : Array Oper}
theorem seg {Q Q' : Act → World → Prop} {n : Nat} (hs : Region.noSelect ops = true) : ∀ (l : List Nat) (listed : Array Bool) (a : Act) (w : World), Closed ops listed →
    okSeg ops l listed = true → RL P ops true Q' l a w → (∀ a w, Closed ops (aft l listed) → Q' a w → wpE P ops Q n (aft l listed) a w) → wpE P ops Q (l.length + n) listed a w
  | [], listed, a, w, hcl, _, h, hk => by
    simp only [List.length_nil, Nat.zero_add]
    exact hk a w hcl h
  | i :: r, listed, a, w, hcl, hB, h, hk => by
    obtain ⟨o, ho, h⟩ := h
    simp only [okSeg, Bool.and_eq_true, ho] at hB
    obtain ⟨⟨hr, hf⟩, hrest⟩ := hB
    have hr' : i ∈ Region.ready .any ops listed := by simpa using hr
    have e : (i :: r).length + n = (r.length + n) + 1 := by simp; omega
    rw [e]
    have first : ∀ v, isA o.op = true → YieldsE P ops o v a w → RL P ops true Q' r (a.put o.dst v) w → wpE P ops Q (r.length + n + 1) listed a w := fun v hA hy hq => by
      rw [if_pos hA] at hf
      exact wpE_first ho (Region.noSelect_spec hs) (r.length + n) listed a w hcl (Region.free_spec ho hf) hr' hy (seg hs r _ _ _ (hcl.set hr') hrest hq hk)
    by_cases hA : isA o.op = true
    · by_cases hw : Region.wanted o (yielded ops a.tmps) = true
      · rw [if_pos hw] at h
        rcases h with ⟨_, v, hv, hq⟩ | ⟨hn, _⟩
        · exact first v hA (.inl ⟨hw, hv⟩) hq
        · rw [hn] at hA; cases hA
      · rw [if_neg hw] at h
        exact first undef hA (.inr ⟨by simpa using hw, rfl⟩) h
    · rw [if_neg hA] at hf
      refine ⟨fun h0 => (by rw [h0] at hr'; cases hr'), fun j hj => ?_⟩
      have hji : j = i := by
        have := List.all_eq_true.1 hf j hj
        simpa using this
      subst hji
      unfold opE
      simp only [ho]
      split
      · rename_i hw
        rw [if_pos hw] at h
        rcases h with ⟨h1, _⟩ | ⟨_, hq⟩
        · exact absurd h1 hA
        · exact wp_mono2 (fun a' w' hh => ⟨hh.2.1 rfl, seg hs r _ _ _ (hcl.set hr') hrest hh.2.2 hk⟩) hq
      · rename_i hw
        rw [if_neg hw] at h
        exact ⟨fun _ => Ext.refl w, seg hs r _ _ _ (hcl.set hr') hrest h hk⟩
theorem seg1 {Q Q' : Act → World → Prop} {n : Nat} (hs : Region.noSelect ops = true) {i : Nat} {r : List Nat} {listed : Array Bool} {a : Act} {w : World} (hcl : Closed ops listed) (hr' : i ∈ Region.ready .any ops listed) (hB : okSeg ops r (listed.setIfInBounds i true) = true) (h : RL P ops true Q' (i :: r) a w)
    (hk : ∀ a w, Closed ops (aft (i :: r) listed) → Q' a w → wpE P ops Q n (aft (i :: r) listed) a w) : opE P ops i (fun a' w' => (isTail ops i = false → Ext w w') ∧ wpE P ops Q (r.length + n) (listed.setIfInBounds i true) a' w') a w := by
  obtain ⟨o, ho, h⟩ := h
  by_cases hw : Region.wanted o (yielded ops a.tmps) = true
  · rw [if_pos hw] at h
    rcases h with ⟨hA, v, hv, hq⟩ | ⟨_, hq⟩
    · exact YieldsE.opE ho (.inl ⟨hw, hv⟩) ⟨fun _ => Ext.refl w, seg hs r _ _ _ (hcl.set hr') hB hq hk⟩
    · unfold opE
      simp only [ho]
      rw [if_pos hw]
      exact wp_mono2 (fun a' w' hh => ⟨hh.2.1 rfl, seg hs r _ _ _ (hcl.set hr') hB hh.2.2 hk⟩) hq
  · rw [if_neg hw] at h
    unfold opE
    simp only [ho]
    rw [if_neg hw]
    exact ⟨fun _ => Ext.refl w, seg hs r _ _ _ (hcl.set hr') hB h hk⟩
theorem Tr.len_pos : ∀ {t : Tr} {l : Array Bool}, okT ops true t l = true → ∃ m, t.len = m + 1
  | .leaf [], l, h => by simp [okT, okSeg1] at h
  | .leaf (i :: r), l, h => ⟨r.length, by simp [Tr.len]⟩
  | .br [] t1 t2, l, h => by simp [okT, okSeg1] at h
  | .br (i :: r) t1 t2, l, h => ⟨r.length + t1.len, by simp [Tr.len]; omega⟩
def FstOk (P : Program) (ops : Array Oper) (Q : Act → World → Prop) (t : Tr) : Prop := ∀ (l : Array Bool) (a : Act) (w : World) (i m : Nat), Closed ops l → i ∈ Region.ready .any ops l → okT ops true t l = true → t.head = some i → t.len = m + 1 → RTr P ops Q t a w →
  opE P ops i (fun a' w' => (isTail ops i = false → Ext w w') ∧ wpE P ops Q m (l.setIfInBounds i true) a' w') a w
theorem choice {Q : Act → World → Prop} {t1 t2 : Tr} (h1 : FstOk P ops Q t1) (h2 : FstOk P ops Q t2) {l : Array Bool} (hcl : Closed ops l) (hC : okC ops t1 t2 l = true) (o1 : okT ops true t1 l = true) (o2 : okT ops true t2 l = true) {a : Act} {w : World} (hR : RTr P ops Q t1 a w ∧ RTr P ops Q t2 a w) :
    wpE P ops Q t1.len l a w := by
  simp only [okC, Bool.and_eq_true, beq_iff_eq, Bool.not_eq_true', List.all_eq_true, Bool.or_eq_true] at hC
  obtain ⟨⟨hl, hne⟩, hall⟩ := hC
  obtain ⟨m, hm⟩ := Tr.len_pos o1
  rw [hm]
  refine ⟨fun h0 => (by rw [h0] at hne; simp at hne), fun j hj => ?_⟩
  rcases hall j hj with e | e
  · exact h1 l a w j m hcl hj o1 e.symm hm hR.1
  · exact h2 l a w j m hcl hj o2 e.symm (by rw [← hl, hm]) hR.2
theorem fstOk {Q : Act → World → Prop} (hs : Region.noSelect ops = true) : ∀ t : Tr, FstOk P ops Q t
  | .leaf [], l, a, w, i, m, _, _, ho, _, _, _ => by simp [okT, okSeg1] at ho
  | .leaf (i :: r), l, a, w, i', m, hcl, hrd, ho, hi, hm, hR => by
    cases hi
    simp only [okT, okSeg1, Bool.and_eq_true] at ho
    have e : m = r.length + 0 := by simp [Tr.len] at hm; omega
    subst e
    exact seg1 hs hcl hrd ho.1 hR (fun a w hcl' hq => ⟨by simpa using ho.2, hq⟩)
  | .br [] t1 t2, l, a, w, i, m, _, _, ho, _, _, _ => by simp [okT, okSeg1] at ho
  | .br (i :: r) t1 t2, l, a, w, i', m, hcl, hrd, ho, hi, hm, hR => by
    cases hi
    simp only [okT, okSeg1, Bool.and_eq_true] at ho
    have e : m = r.length + t1.len := by simp [Tr.len] at hm; omega
    subst e
    exact seg1 hs hcl hrd ho.1 hR (fun a w hcl' hq => choice (fstOk hs t1) (fstOk hs t2) hcl' ho.2.1 ho.2.2.1 ho.2.2.2 hq)
theorem wpE_tree {Q : Act → World → Prop} (hs : Region.noSelect ops = true) : ∀ (t : Tr) (l : Array Bool) (a : Act) (w : World), Closed ops l → okT ops false t l = true → RTr P ops Q t a w → wpE P ops Q t.len l a w
  | .leaf π, l, a, w, hcl, ho, hR => by
    simp only [okT, Bool.and_eq_true] at ho
    exact seg (n := 0) hs π l a w hcl ho.1 hR (fun a w _ hq => ⟨by simpa using ho.2, hq⟩)
  | .br π t1 t2, l, a, w, hcl, ho, hR => by
    simp only [okT, Bool.and_eq_true] at ho
    exact seg (n := t1.len) hs π l a w hcl ho.1 hR (fun a w hcl' hq => choice (fstOk hs t1) (fstOk hs t2) hcl' ho.2.1 ho.2.2.1 ho.2.2.2 hq)
end
def okOrdT (ops : Array Oper) (t : Tr) : Bool := t.len == ops.size && (Region.noSelect ops && okT ops false t (Array.replicate ops.size false))
section
variable {P : Program} {N : Nat} {l : Env} {w : World} {ops : Array Oper}
def WT (P : Program) (N : Nat) (ops : Array Oper) (Q : Act → World → Prop) (t : Tr) (l : Env) (w : World) : Prop := ∀ a, At N a l → RTr P ops Q t a w
theorem wc_drawT {Q : Exit → Act → World → Prop} {id : Nat} (hm : P.follows .mixedOrders = true) (t : Tr) (hB : okOrdT ops t = true) (h : ∀ w', Ext w w' → w' = w.drew → WT P N ops (Q .normal) t l w') : WC P N (.region id ops true) Q l w := by
  intro a ha
  simp only [okOrdT, Bool.and_eq_true, beq_iff_eq] at hB
  refine wp_region_any hm ?_
  have := wpE_tree (P := P) (Q := Q .normal) hB.2.1 t (Array.replicate ops.size false) a w.drew Closed.none hB.2.2 (h w.drew (Ext.drew w) rfl a ha)
  rw [hB.1] at this
  exact wpAny_of_wpE (fun _ _ h => h) _ _ _ _ this
theorem wt_leaf {Q : Act → World → Prop} {π : List Nat} (h : WR P N ops true Q π l w) : WT P N ops Q (.leaf π) l w := h
theorem wt_br {Q : Act → World → Prop} {π : List Nat} {t1 t2 : Tr} (h : WR P N ops true (fun a w => RTr P ops Q t1 a w ∧ RTr P ops Q t2 a w) π l w) : WT P N ops Q (.br π t1 t2) l w := h
theorem wr_br {Q : Act → World → Prop} {t1 t2 : Tr} (h1 : WT P N ops Q t1 l w) (h2 : WT P N ops Q t2 l w) : WR P N ops true (fun a w => RTr P ops Q t1 a w ∧ RTr P ops Q t2 a w) [] l w := fun a ha => ⟨h1 a ha, h2 a ha⟩
end
end Go.Sx


namespace Go.Sx
open Go Go.RowKit Go.Pl
theorem Addr.add_add' (a : Addr) (m n : Nat) : (a.add m).add n = a.add (m + n) := by
  unfold Addr.add
  by_cases hm : m = 0
  · subst hm; simp
  · by_cases hn : n = 0
    · subst hn; simp
    · simp [hm, hn]; omega
def slv (v : Value) (lo hi : Int) : Value := match v with
  | .slice a _ c => sliced a lo.toNat hi.toNat c 1
  | v => v
theorem Sl.slv {w : World} {v : Value} {xs : List Value} (h : Sl w v xs) {lo hi : Int} (h0 : 0 ≤ lo) (h1 : lo ≤ hi) (h2 : hi ≤ xs.length) : Sl w (slv v lo hi) ((xs.drop lo.toNat).take (hi - lo).toNat) := by
  obtain ⟨⟨a, c, rfl, hc, hx⟩, hl⟩ := h
  have hlen : ((xs.drop lo.toNat).take (hi - lo).toNat).length = hi.toNat - lo.toNat := by simp; omega
  refine ⟨⟨_, c - lo.toNat, by rw [hlen]; rfl, by rw [hlen]; omega, fun hp => ?_⟩, by rw [hlen]; omega⟩
  rw [hlen] at hp
  obtain ⟨ad, rfl, hcell⟩ := hx (by omega)
  refine ⟨ad.add lo.toNat, by rw [if_neg (by omega)]; simp, fun j u hu => ?_⟩
  rw [Addr.add_add']
  rw [List.getElem?_take] at hu
  split at hu
  · rw [List.getElem?_drop] at hu
    exact hcell _ _ hu
  · cases hu
theorem Ints.slv {w : World} {v : Value} {zs : List Int} (h : Ints w v zs) {lo hi : Int} (h0 : 0 ≤ lo) (h1 : lo ≤ hi) (h2 : hi ≤ zs.length) : Ints w (slv v lo hi) ((zs.drop lo.toNat).take (hi - lo).toNat) := by
  have := Sl.slv h h0 h1 (by simpa using h2)
  unfold Ints
  rw [List.map_take, List.map_drop]
  exact this
section
variable {P : Program} {N : Nat} {l : Env} {w : World} {ops : Array Oper} {dr : Bool} {Q : Act → World → Prop} {π : List Nat} {i d : Nat} {v : Value} {op : Op} {ty : TypeId} {pos : String} {after : Array Edge} {g : Option (Nat × Bool)}
variable {x y z c p : Operand} {u lo hi : Int} {T T' : TypeId}
theorem elem_of {T E : TypeId} (h : P.underlying T = some (.slice E)) : P.elem T = E := by simp [Program.elem, h]
theorem slH {w0 : World} {xs : List Value} {E : TypeId} {zv : Value} {b : Nat} (hx : ev l x = some v) (hz : ev l z = some (.int .i64 hi)) (hT : SlT P T E zv 1 b) (hs : Sl w0 v xs)
    (h1 : 0 ≤ hi := by omega) (h2 : hi ≤ xs.length := by omega) : Yl P N (.slice T x none (some z) none) ty l w (slv v 0 hi) := fun a ha w' _ o ho _ => by
  obtain ⟨⟨ad, cc, rfl, hc, _⟩, _⟩ := hs
  obtain ⟨j, hj, _, hj2, _⟩ := info_of hT
  have hu : P.underlying T = some (.slice (P.elem T)) := by rw [elem_of hT.und]; exact hT.und
  simp [execOp, ho, ha.eval hx, ha.eval hz, run_sliceAt_slice w' T _ _ _ _ hu, run_slice_h w' T ad xs.length cc hu .i64 hi h1 (by omega), elem_of hT.und, sizeOf, typeInfo, hj, hj2, slv]
theorem slL {w0 : World} {xs : List Value} {E : TypeId} {zv : Value} {b : Nat} (hx : ev l x = some v) (hy : ev l y = some (.int .i64 lo)) (hT : SlT P T E zv 1 b) (hs : Sl w0 v xs)
    (h0 : 0 ≤ lo := by omega) (h1 : lo ≤ xs.length := by omega) : Yl P N (.slice T x (some y) none none) ty l w (slv v lo xs.length) := fun a ha w' _ o ho _ => by
  obtain ⟨⟨ad, cc, rfl, hc, _⟩, _⟩ := hs
  obtain ⟨j, hj, _, hj2, _⟩ := info_of hT
  have hu : P.underlying T = some (.slice (P.elem T)) := by rw [elem_of hT.und]; exact hT.und
  simp [execOp, ho, ha.eval hx, ha.eval hy, run_sliceAt_slice w' T _ _ _ _ hu, run_slice_l w' T ad xs.length cc hu .i64 lo h0 h1, elem_of hT.und, sizeOf, typeInfo, hj, hj2, slv]
end
section
variable {P : Program}
theorem Own.setCell {B : Nat} {w : World} {gb cap : Nat} {E : TypeId} {xs : List Value} (h : Own B w (.slice (some ⟨gb, 0, none⟩) xs.length cap) E xs) {k : Nat} (_ : k < xs.length) (u : Value) :
    Own B (w.setCell ⟨gb, k, none⟩ u) (.slice (some ⟨gb, 0, none⟩) xs.length cap) E (xs.set k u) ∧ w.grownBy (w.setCell ⟨gb, k, none⟩ u) (some gb) := by
  have hst := h.row.stored k u
  refine ⟨⟨?_, by simpa using h.le⟩, ⟨rfl, rfl, rfl, by simp, fun j _ hne => Below.heap_setCell _ _ _ _ (fun e => hne (by rw [e]))⟩⟩
  simpa using hst.1
theorem Own.setCells {B : Nat} {gb cap : Nat} {E : TypeId} : ∀ (vs : List Value) (w : World) (xs : List Value) (o : Nat), Own B w (.slice (some ⟨gb, 0, none⟩) xs.length cap) E xs → o + vs.length ≤ xs.length →
    Own B (w.setCells gb o vs) (.slice (some ⟨gb, 0, none⟩) xs.length cap) E (putAt xs o vs) ∧ w.grownBy (w.setCells gb o vs) (some gb)
  | [], w, xs, o, h, hl => ⟨by simpa [World.setCells, putAt] using h, World.grownBy.refl w _⟩
  | v :: vs, w, xs, o, h, hl => by
    simp only [List.length_cons] at hl
    obtain ⟨h1, h2⟩ := Own.setCell h (k := o) (by omega) v
    have h1' : Own B (w.setCell ⟨gb, o, none⟩ v) (.slice (some ⟨gb, 0, none⟩) (xs.set o v).length cap) E (xs.set o v) := by simpa using h1
    obtain ⟨h3, h4⟩ := Own.setCells vs _ (xs.set o v) (o + 1) h1' (by simp; omega)
    refine ⟨?_, h2.trans h4⟩
    have e : putAt (xs.set o v) (o + 1) vs = putAt xs o (v :: vs) := by
      simp only [putAt, List.length_cons]
      apply List.ext_getElem?
      intro j
      simp only [List.getElem?_append, List.length_take, List.length_set, List.length_append, List.length_cons, List.getElem?_take, List.getElem?_drop, List.getElem?_set, List.getElem?_cons]
      repeat' split
      all_goals (try omega)
      all_goals (first | rfl | (congr 1; omega) | simp_all | (exfalso; omega) | skip)
      all_goals (try omega)
    rw [e] at h3
    simpa [World.setCells] using h3
end
section
variable {P : Program} {N : Nat} {l : Env} {w : World} {ops : Array Oper} {dr : Bool} {Q : Act → World → Prop} {π : List Nat} {i d : Nat} {v : Value} {op : Op} {ty : TypeId} {pos : String} {after : Array Edge} {g : Option (Nat × Bool)}
variable {x y c p : Operand} {u lo hi : Int} {T T' : TypeId}
theorem CP {v0 v1 : Value} {B b : Nat} {E : TypeId} {zv : Value} {xs ys : List Value} {w0 : World} (hi' : ops[i]? = some ⟨some d, .call ⟨.builtin .copy, #[x, y], #[T, T']⟩, ty, pos, after, g⟩) (hw : Wt ops N l g) (hd : Nat.blt d N = true) (hx : ev l x = some (slv v0 lo hi)) (hy : ev l y = some v1)
    (hT : SlT P T E zv 1 b) (ho : Own B w v0 E xs) (hs : Sl w0 v1 ys) (hE : Ext w0 w) (h1c : ∀ u ∈ ys, u.oneCell' = true) (htl : dr = true → isTail ops i = true)
    (h : ∀ w', w.grownBy w' v0.ownBlock → Own B w' v0 E (putAt xs lo.toNat (ys.take (hi - lo).toNat)) → WR P N ops dr Q π ((d, .int .i64 (min ys.length (hi - lo).toNat : Nat)) :: l) w')
    (h0 : 0 ≤ lo := by omega) (h1 : lo ≤ hi := by omega) (h2 : hi ≤ xs.length := by omega) : WR P N ops dr Q (i :: π) l w := by
  obtain ⟨j, hj, _, hj2, _⟩ := info_of hT
  have hs' := hs.ext hE
  obtain ⟨⟨a1, c1, rfl, hc1, hx1⟩, _⟩ := hs'
  have hsz : (P.info? E).map (·.size) = some 1 := by simp [hj, hj2]
  have ex : ∃ a0 n0 c0, v0 = .slice a0 n0 c0 := by
    rcases ho.row.2 with ⟨rfl, _⟩ | ⟨g, cap, cur, rfl, _⟩
    · exact ⟨_, _, _, rfl⟩
    · exact ⟨_, _, _, rfl⟩
  by_cases hz : Nat.min ys.length (hi - lo).toNat = 0
  · obtain ⟨a0, n0, c0, rfl⟩ := ex
    have hr := run_copy_none (P := P) w T T' ty E (if c0 = lo.toNat then a0 else a0.map (·.add (lo.toNat * 1))) a1 (hi.toNat - lo.toNat) (c0 - lo.toNat) ys.length c1 hT.und hsz (by rw [show hi.toNat - lo.toNat = (hi - lo).toNat by omega]; exact hz)
    refine F (v := goInt 0) (w' := w) hi' hw rfl hd (fun a ha => ?_) (fun _ _ => Ext.refl _) ?_
    · simp [execOp, resolve, invoke, builtin, ha.eval hx, ha.eval hy, slv, sliced] at hr ⊢
      simp [hr]
    · have ht : ys.take (hi - lo).toNat = [] := by
        apply List.eq_nil_of_length_eq_zero
        rw [List.length_take, Nat.min_comm]
        exact hz
      have := h w (World.grownBy.refl w _) (by rw [ht]; simpa [putAt] using ho)
      have e : (min ys.length (hi - lo).toNat : Nat) = 0 := hz
      rw [e] at this
      exact this
  · have hpos : 0 < ys.length ∧ 0 < (hi - lo).toNat := by
      constructor
      · rcases Nat.eq_zero_or_pos ys.length with h | h
        · rw [h] at hz; simp at hz
        · exact h
      · rcases Nat.eq_zero_or_pos (hi - lo).toNat with h | h
        · rw [h] at hz; simp at hz
        · exact h
    obtain ⟨ad, rfl, hcell⟩ := hx1 hpos.1
    rcases ho.row.2 with ⟨_, hn⟩ | ⟨gb, cap, cur, rfl, hB, hg, hnc, hcm, hcs, htake⟩
    · omega
    · have hlt : lo.toNat < xs.length := by omega
      have hcc : ¬ cap = lo.toNat := by omega
      have hadd : (⟨gb, 0, none⟩ : Addr).add lo.toNat = ⟨gb, lo.toNat, none⟩ := by rw [Addr.add_lit]; simp
      have hkl : (ys.take (hi - lo).toNat).length = Nat.min ys.length (hi.toNat - lo.toNat) := by rw [List.length_take, Nat.min_comm, show hi.toNat - lo.toNat = (hi - lo).toNat by omega]
      have hkle : (ys.take (hi - lo).toNat).length ≤ (hi - lo).toNat := by rw [List.length_take]; exact Nat.min_le_left _ _
      have hcs' : ∀ j (hj : j < (ys.take (hi - lo).toNat).length), w.cell? ⟨gb, lo.toNat + j, none⟩ = some (xs[lo.toNat + j]'(by have := Nat.lt_of_lt_of_le hj hkle; omega)) := fun j hj => by
        have := Nat.lt_of_lt_of_le hj hkle
        rw [ho.row.cellAt (lo.toNat + j) (by omega)]
        rw [List.getElem?_eq_getElem (by omega)]
      have hr := run_copy_cells (P := P) w T T' ty E gb lo.toNat (hi.toNat - lo.toNat) (cap - lo.toNat) ad ys.length c1 (ys.take (hi - lo).toNat) hT.und hsz hkl
        (fun j v hv => hcell j v (by rw [List.getElem?_take] at hv; split at hv; exact hv; cases hv)) (fun j hj => by rw [hcs' j hj]; rfl) (fun j hj => ho.row.frozenAt _) (fun u hu => h1c u (List.mem_of_mem_take hu))
      obtain ⟨k1, k2⟩ := Own.setCells (ys.take (hi - lo).toNat) w xs lo.toNat ho (by omega)
      refine F (v := goInt (ys.take (hi - lo).toNat).length) (w' := w.setCells gb lo.toNat (ys.take (hi - lo).toNat)) hi' hw rfl hd (fun a ha => ?_) (fun hd ht => by rw [htl hd] at ht; cases ht) ?_
      · simp [execOp, resolve, invoke, builtin, ha.eval hx, ha.eval hy, slv, sliced, hcc, hadd] at hr ⊢
        simp [hr]
      · have := h _ k2 k1
        have e : (min ys.length (hi - lo).toNat : Nat) = (ys.take (hi - lo).toNat).length := by rw [List.length_take, Nat.min_comm]
        rw [e] at this
        exact this
end
end Go.Sx


namespace Go.Sx
open Go Go.RowKit Go.Pl
theorem Sl.lt {w : World} {v : Value} {xs : List Value} (h : Sl w v xs) (hn : 0 < xs.length) : ∃ k, v.ownBlock = some k ∧ k < w.heap.size := by
  obtain ⟨⟨a, c, rfl, hc, hx⟩, _⟩ := h
  obtain ⟨ad, rfl, hcell⟩ := hx hn
  have h0 := hcell 0 xs[0] (by simp [hn])
  refine ⟨ad.block, rfl, ?_⟩
  have := World.block_lt_of_cell? w _ h0
  simpa [Addr.add] using this
theorem Ints.lt {w : World} {v : Value} {zs : List Int} (h : Ints w v zs) (hn : 0 < zs.length) : ∃ k, v.ownBlock = some k ∧ k < w.heap.size := Sl.lt h (by simpa using hn)
theorem Sl.slice {w : World} {v : Value} {xs : List Value} (h : Sl w v xs) : ∃ a c, v = .slice a xs.length c := by
  obtain ⟨⟨a, c, hv, _⟩, _⟩ := h
  exact ⟨a, c, hv⟩
def cutTo (v : Value) (n : Nat) : Value := match v with
  | .slice a _ c => .slice a n c
  | v => v
theorem slv_cut {a : Option Addr} {n c : Nat} {hi : Int} : slv (.slice a n c) 0 hi = cutTo (.slice a n c) hi.toNat := by
  have e : ∀ q : Addr, q.add 0 = q := fun q => by simp [Addr.add]
  have e2 : a.map (fun x => x.add 0) = a := by cases a <;> simp [e]
  simp [slv, sliced, cutTo, e2]
theorem Sl.part0 {w : World} {v : Value} {xs : List Value} (h : Sl w v xs) {hi : Int} : Go.Sx.slv v 0 hi = cutTo v hi.toNat := by
  obtain ⟨a, c, rfl⟩ := h.slice
  exact Go.Sx.slv_cut
theorem Sl.cut_self {w : World} {v : Value} {xs : List Value} (h : Sl w v xs) : cutTo v xs.length = v := by
  obtain ⟨a, c, rfl⟩ := h.slice
  rfl
theorem cut_cut {v : Value} (n m : Nat) : cutTo (cutTo v n) m = cutTo v m := by cases v <;> rfl
theorem cut_block (v : Value) (n : Nat) : (cutTo v n).ownBlock = v.ownBlock := by
  cases v <;> try rfl
  rename_i a _ _
  cases a <;> rfl
theorem Sl.cut {w : World} {v : Value} {xs : List Value} (h : Sl w v xs) {n : Nat} (hn : n ≤ xs.length) : Sl w (cutTo v n) (xs.take n) := by
  obtain ⟨⟨a, c, rfl, hc, hx⟩, hl⟩ := h
  have hlen : (xs.take n).length = n := by simp; omega
  refine ⟨⟨a, c, by rw [hlen]; rfl, by rw [hlen]; omega, fun hp => ?_⟩, by rw [hlen]; omega⟩
  rw [hlen] at hp
  obtain ⟨ad, rfl, hcell⟩ := hx (by omega)
  refine ⟨ad, rfl, fun j u hu => ?_⟩
  rw [List.getElem?_take] at hu
  split at hu
  · exact hcell _ _ hu
  · cases hu
theorem Ints.cut {w : World} {v : Value} {zs : List Int} (h : Ints w v zs) {n : Nat} (hn : n ≤ zs.length) : Ints w (cutTo v n) (zs.take n) := by
  have := Sl.cut h (n := n) (by simpa using hn)
  unfold Ints
  rw [List.map_take]
  exact this
theorem Own.cut {B : Nat} {w : World} {v : Value} {E : TypeId} {xs : List Value} (h : Own B w v E xs) {n : Nat} (hn : n ≤ xs.length) : Own B w (cutTo v n) E (xs.take n) := by
  have hlen : (xs.take n).length = n := by simp; omega
  obtain ⟨⟨h0, h1⟩, hle⟩ := h
  refine ⟨⟨by rw [hlen]; simp, ?_⟩, by rw [hlen]; omega⟩
  rcases h1 with ⟨rfl, hz⟩ | ⟨g, cap, cur, rfl, hB, hg, hnc, hcm, hcs, htake⟩
  · left
    rw [hlen]
    refine ⟨?_, by omega⟩
    rw [show n = 0 by omega]; rfl
  · refine .inr ⟨g, cap, cur, by rw [hlen]; rfl, hB, hg, by rw [hlen]; omega, hcm, hcs, ?_⟩
    rw [hlen, ← htake, List.take_take]
    congr 1
    rw [Nat.mul_one, Nat.mul_one]
    omega
theorem OwnI.cut {B : Nat} {w : World} {v : Value} {E : TypeId} {zs : List Int} (h : OwnI B w v E zs) {n : Nat} (hn : n ≤ zs.length) : OwnI B w (cutTo v n) E (zs.take n) := by
  have := Own.cut h (n := n) (by simpa using hn)
  unfold OwnI
  rw [List.map_take]
  exact this
def LO (B : Nat) (w : World) (v : Value) (E : TypeId) (L : List (List Int)) : Prop :=
  B ≤ w.heap.size ∧ ∃ rows, Own B w v E rows ∧ rows.length = L.length ∧ ∀ (i : Nat) r zs, rows[i]? = some r → L[i]? = some zs → Ints w r zs ∧ (zs = [] ∨ (r.ownBlock ≠ v.ownBlock ∧ ∀ k, r.ownBlock = some k → B ≤ k))
theorem LO.ll {B : Nat} {w : World} {v : Value} {E : TypeId} {L : List (List Int)} (h : LO B w v E L) : LL w v L := by
  obtain ⟨_, rows, h1, h2, h3⟩ := h
  exact ⟨rows, h1.sl, h2, fun i r zs a b => (h3 i r zs a b).1⟩
theorem LO.ext {B : Nat} {w w' : World} {v : Value} {E : TypeId} {L : List (List Int)} (h : LO B w v E L) (hE : Ext w w') : LO B w' v E L := by
  obtain ⟨h0, rows, h1, h2, h3⟩ := h
  exact ⟨Nat.le_trans h0 hE.size, rows, h1.ext hE, h2, fun i r zs a b => ⟨(h3 i r zs a b).1.ext hE, (h3 i r zs a b).2⟩⟩
theorem LO.mono {B B' : Nat} {w : World} {v : Value} {E : TypeId} {L : List (List Int)} (h : LO B w v E L) (hB : B' ≤ B) : LO B' w v E L := by
  obtain ⟨h0, rows, h1, h2, h3⟩ := h
  exact ⟨Nat.le_trans hB h0, rows, h1.mono hB, h2, fun i r zs a b => ⟨(h3 i r zs a b).1, (h3 i r zs a b).2.imp id fun h => ⟨h.1, fun k hk => Nat.le_trans hB (h.2 k hk)⟩⟩⟩
theorem LO.nil (B : Nat) (w : World) (E : TypeId) (hB : B ≤ w.heap.size := by exact Nat.le_refl _) : LO B w (.slice none 0 0) E [] := ⟨hB, [], Own.nil B w E, rfl, fun i r zs h => by simp at h⟩
theorem LO.lt {B : Nat} {w : World} {v : Value} {E : TypeId} {L : List (List Int)} (h : LO B w v E L) : ∀ k, v.ownBlock = some k → B ≤ k ∧ k < w.heap.size := by
  obtain ⟨_, rows, h1, _⟩ := h
  exact h1.lt
theorem LO.cut {B : Nat} {w : World} {v : Value} {E : TypeId} {L : List (List Int)} (h : LO B w v E L) {n : Nat} (hn : n ≤ L.length) : LO B w (cutTo v n) E (L.take n) := by
  obtain ⟨h0, rows, h1, h2, h3⟩ := h
  refine ⟨h0, rows.take n, h1.cut (by omega), by simp [h2], fun i r zs a b => ?_⟩
  rw [List.getElem?_take] at a b
  split at a
  · rename_i hi
    rw [if_pos hi] at b
    rw [cut_block]
    exact h3 i r zs a b
  · cases a
theorem LL.cut {w : World} {v : Value} {L : List (List Int)} (h : LL w v L) {n : Nat} (hn : n ≤ L.length) : LL w (cutTo v n) (L.take n) := by
  obtain ⟨rows, h1, h2, h3⟩ := h
  refine ⟨rows.take n, h1.cut (by omega), by simp [h2], fun i r zs a b => ?_⟩
  rw [List.getElem?_take] at a b
  split at a
  · rename_i hi
    rw [if_pos hi] at b
    exact h3 i r zs a b
  · cases a
theorem row_new {B B' : Nat} {w w' : World} {v r : Value} {E E' : TypeId} {L : List (List Int)} {xs : List Value} (ho : LO B w v E L) (hr : Own B' w' r E' xs) (hB : w.heap.size ≤ B') : r.ownBlock ≠ v.ownBlock ∨ r.ownBlock = none := by
  rcases hrb : r.ownBlock with _ | k
  · exact .inr rfl
  · left
    intro e
    have h1 := (hr.lt k hrb).1
    have h2 := (ho.lt k e.symm).2
    omega
theorem row_newI {B B' : Nat} {w w' : World} {v r : Value} {E E' : TypeId} {L : List (List Int)} {zs : List Int} (ho : LO B w v E L) (hr : OwnI B' w' r E' zs) (hB : w.heap.size ≤ B') : zs = [] ∨ (r.ownBlock ≠ v.ownBlock ∧ ∀ k, r.ownBlock = some k → B ≤ k) := by
  rcases row_new ho hr hB with h | h
  · exact .inr ⟨h, fun k hk => Nat.le_trans ho.1 (Nat.le_trans hB (hr.lt k hk).1)⟩
  · rcases Nat.eq_zero_or_pos zs.length with h0 | h0
    · exact .inl (List.eq_nil_of_length_eq_zero h0)
    · obtain ⟨k, hk, _⟩ := (OwnI.ints hr).lt h0
      rw [h] at hk; cases hk
theorem Value.slice_cells (v : Value) (h : ∃ a n c, v = .slice a n c) : v.oneCell' = true := by
  obtain ⟨a, n, c, rfl⟩ := h
  rfl
section
variable {P : Program} {N : Nat} {l : Env} {w : World} {ops : Array Oper} {dr : Bool} {Q : Act → World → Prop} {π : List Nat} {i d : Nat} {v : Value} {op : Op} {ty : TypeId} {pos : String} {after : Array Edge} {g : Option (Nat × Bool)}
variable {x y c p : Operand} {u z : Int} {T T' : TypeId}
theorem MKL {E : TypeId} {b n : Nat} {cl : Int} (hi : ops[i]? = some ⟨some d, .makeSlice T x x, ty, pos, after, g⟩) (hw : Wt ops N l g) (hd : Nat.blt d N = true) (hx : ev l x = some (.int .i64 cl)) (hT : SlT P T E (.slice none 0 0) 1 b)
    (h : ∀ v w', Ext w w' → LO w.heap.size w' v E (tab n fun _ => []) → WR P N ops dr Q π ((d, v) :: l) w')
    (hn : cl = (n : Int) := by omega) (hle : n ≤ 140737488355328 := by omega) (hby : b * n ≤ 281474976710656 := by omega) : WR P N ops dr Q (i :: π) l w :=
  MK hi hw hd hx hT rfl (hn := hn) (hle := hle) (hby := hby) (h := fun v w' hE ho hb => h v w' hE ⟨hE.size, _, ho, by rw [List.length_replicate, tab_length], fun i r zs a b => by
    have hin : i < n := by
      have := (List.getElem?_eq_some_iff.1 a).1
      simpa using this
    rw [List.getElem?_replicate, if_pos hin] at a
    rw [tab_get hin] at b
    cases a
    cases b
    exact ⟨Ints.nil _, .inl rfl⟩⟩)
theorem STL {v0 r0 : Value} {B : Nat} {E : TypeId} {L : List (List Int)} {zs : List Int} (hi : ops[i]? = some ⟨none, .store T p x, ty, pos, after, g⟩) (hw : Wt ops N l g) (hp : ev l p = some (eptr v0 1 u)) (hx : ev l x = some r0)
    (hT : ∃ j, P.info? T = some j ∧ j.size = 1) (htl : dr = true → isTail ops i = true) (hr : Ints w r0 zs) (hne : zs = [] ∨ (r0.ownBlock ≠ v0.ownBlock ∧ ∀ k, r0.ownBlock = some k → B ≤ k))
    (h : ∀ w', w.grownBy w' v0.ownBlock → (∀ w0, w0.heap.size ≤ B → Ext w0 w → Ext w0 w') → LO B w' v0 E (L.set u.toNat zs) → WR P N ops dr Q π l w')
    (ho : LO B w v0 E L := by assumption) (h0 : 0 ≤ u := by omega) (h1 : u < L.length := by omega) : WR P N ops dr Q (i :: π) l w := by
  obtain ⟨hB0, rows, ho1, ho2, ho3⟩ := ho
  obtain ⟨a, cc, hsl⟩ := Sl.slice hr
  have keepR : ∀ {w' : World} {r : Value} {ys : List Int}, w.grownBy w' v0.ownBlock → Ints w r ys → (ys = [] ∨ r.ownBlock ≠ v0.ownBlock) → Ints w' r ys := by
    intro w' r ys hg hri hd
    rcases hd with rfl | hd
    · obtain ⟨⟨a, c, hv, hc, _⟩, hl⟩ := hri
      exact ⟨⟨a, c, hv, hc, fun h => absurd h (by simp)⟩, hl⟩
    · exact hri.kept hg hd
  refine ST hi hw hp hx hT (Value.slice_cells _ ⟨_, _, _, hsl⟩) htl (ho := ho1) (h0 := h0) (h1 := by omega) (h := fun w' hg ho' => ?_)
  refine h w' hg (fun w0 hB hE => hE.grown hg ho1 hB) ⟨Nat.le_trans hB0 hg.size, rows.set u.toNat r0, ho', by simp [ho2], fun i r ys a b => ?_⟩
  by_cases e : u.toNat = i
  · subst e
    have hl1 := (List.getElem?_eq_some_iff.1 a).1
    rw [List.length_set] at hl1
    rw [List.getElem?_set_self hl1] at a
    rw [List.getElem?_set_self (by omega)] at b
    cases a
    cases b
    exact ⟨keepR hg hr (hne.imp id (·.1)), hne⟩
  · rw [List.getElem?_set_ne e] at a b
    have h3 := ho3 i r ys a b
    exact ⟨keepR hg h3.1 (h3.2.imp id (·.1)), h3.2⟩
def RowsOk (w : World) (us : List Value) (L : List (List Int)) : Prop := us.length = L.length ∧ ∀ (i : Nat) r zs, us[i]? = some r → L[i]? = some zs → Ints w r zs
theorem rows1 {w : World} {r : Value} {z : List Int} (h : Ints w r z) : RowsOk w [r] [z] := ⟨rfl, fun i r' zs a b => by
  match i with
  | 0 => cases a; cases b; exact h
  | i + 1 => simp at a⟩
theorem rows2 {w : World} {r s : Value} {z y : List Int} (h : Ints w r z) (k : Ints w s y) : RowsOk w [r, s] [z, y] := ⟨rfl, fun i r' zs a b => by
  match i with
  | 0 => cases a; cases b; exact h
  | 1 => cases a; cases b; exact k
  | i + 2 => simp at a⟩
theorem BSL {n : Nat} {ps : List (Nat × Operand)} {us : List Value} {L : List (List Int)} {E : TypeId} {zv : Value} {b : Nat} (hi : ops[i]? = some ⟨some d, .buildSlice T n ps.toArray, ty, pos, after, g⟩) (hw : Wt ops N l g) (hd : Nat.blt d N = true) (hv : evs l (ps.map (·.2)) = some us)
    (hn : n = us.length) (hix : ps.map (·.1) = List.range' 0 us.length) (hT : SlT P T E zv 1 b) (hL : RowsOk w us L)
    (h : ∀ v w', Ext w w' → LL w' v L → WR P N ops dr Q π ((d, v) :: l) w') (hl : us.length ≤ 16777216 := by first | decide | simp) : WR P N ops dr Q (i :: π) l w :=
  BS hi hw hd hv hn hix hT (fun u hu => by
    obtain ⟨k, hk, rfl⟩ := List.getElem_of_mem hu
    have h1 := hL.2 k _ _ (List.getElem?_eq_getElem hk) (List.getElem?_eq_getElem (by have := hL.1; omega))
    obtain ⟨a, c, e⟩ := Sl.slice h1
    exact Value.slice_cells _ ⟨_, _, _, e⟩) (fun v w' hE ho hb => h v w' hE ⟨us, ho.sl, hL.1, fun k r zs a b => (hL.2 k r zs a b).ext hE⟩) hl
end
section
variable {P : Program} {N : Nat} {l : Env} {w : World}
theorem wc_cutQ {c : Code} {Q : Exit → Act → World → Prop} {σ : Type} (L : σ → Env) (I : σ → World → Prop)
    (h : WC P N c (fun e a w => e = .normal ∧ ∃ s, At N a (L s) ∧ I s w) l w) (hy : ∀ s w, I s w → Post N Q .normal (L s) w) : WC P N c Q l w := fun a ha => wp_mono (h a ha) (fun e a' w' hq => by
  obtain ⟨rfl, s, h1, h2⟩ := hq
  exact hy s w' h2 a' h1)
theorem wr_cutQ {ops : Array Oper} {dr : Bool} {σ : Type} {L : σ → Env} {I : σ → World → Prop} (s : σ) (hL : Sub l (L s)) (hI : I s w) :
    WR P N ops dr (fun a w => Exit.normal = Exit.normal ∧ ∃ s, At N a (L s) ∧ I s w) [] l w := fun _ ha => ⟨rfl, s, ha.sub hL, hI⟩
end
section
variable {P : Program} {N : Nat} {l : Env} {w : World} {ops : Array Oper} {dr : Bool} {Q : Act → World → Prop} {π : List Nat} {i d : Nat} {op : Op} {ty : TypeId} {pos : String} {after : Array Edge}
theorem SKU {j t : Nat} {want : Bool} (hi : ops[i]? = some ⟨some d, op, ty, pos, after, some (j, want)⟩) (hj : (ops[j]?).bind (·.dst) = some t) (hb : lk l t = some undef)
    (hd : Nat.blt d N = true) (h : WR P N ops dr Q π ((d, undef) :: l) w) : WR P N ops dr Q (i :: π) l w := fun a ha => by
  refine ⟨_, hi, ?_⟩
  have hs := ha.slots t _ hb
  rw [if_neg (by simp [Region.wanted, yielded, hj, hs, undef])]
  exact h _ (ha.put hd undef)
end
section
variable {P : Program} {N : Nat} {l : Env} {w : World} {ops : Array Oper} {dr : Bool} {Q : Act → World → Prop} {π : List Nat} {i d : Nat} {op : Op} {ty : TypeId} {pos : String} {after : Array Edge} {g : Option (Nat × Bool)} {T : TypeId} {p x : Operand}
theorem one_cells {u : Value} (h : u.oneCell' = true) : u.cells = #[u] := by cases u <;> first | rfl | simp [Value.oneCell'] at h
theorem STV {b t : Nat} {v0 u0 : Value} (hi : ops[i]? = some ⟨none, .store T p x, ty, pos, after, g⟩) (hw : Wt ops N l g) (hp : ev l p = some (.pointer (some ⟨b, 0, none⟩))) (hx : ev l x = some u0)
    (hs : ∀ w, (sizeOf T).run P w = .ok 1 w) (htl : dr = true → isTail ops i = true) (hB : Blk w b t #[v0]) (h1 : u0.oneCell' = true)
    (h : ∀ w', w.grownBy w' (some b) → (∀ w0, w0.heap.size ≤ b → Ext w0 w → Ext w0 w') → Blk w' b t #[u0] → WR P N ops dr Q π l w') : WR P N ops dr Q (i :: π) l w :=
  STB (k := 0) (n := 1) (vs := [u0]) (cs := [v0]) (cs' := [u0]) hi hw hp hx (one_cells h1) hs htl hB (fun v hv => by
    obtain rfl : v = u0 := by simpa using hv
    exact h1) rfl rfl rfl h
theorem Sl.one {w : World} {v : Value} {xs : List Value} (h : Sl w v xs) : v.oneCell' = true := by
  obtain ⟨a, c, rfl⟩ := h.slice
  rfl
theorem Ints.one {w : World} {v : Value} {zs : List Int} (h : Ints w v zs) : v.oneCell' = true := Sl.one h
theorem LL.one {w : World} {v : Value} {L : List (List Int)} (h : LL w v L) : v.oneCell' = true := by
  obtain ⟨rows, h1, _⟩ := h
  exact h1.one
end
end Go.Sx


namespace Go.Sx
open Go Go.RowKit Go.Pl
section
variable {P : Program} {N : Nat} {l : Env} {w : World} {ops : Array Oper} {dr : Bool} {Q : Act → World → Prop} {π : List Nat} {i d : Nat} {v : Value} {op : Op} {ty : TypeId} {pos : String} {after : Array Edge} {g : Option (Nat × Bool)}
variable {x y c p : Operand} {u z : Int} {T T' : TypeId}
theorem BS0 {E : TypeId} {b : Nat} (hi : ops[i]? = some ⟨some d, .buildSlice T 0 #[], ty, pos, after, g⟩) (hw : Wt ops N l g) (hd : Nat.blt d N = true) (hT : SlT P T E (.int .i64 0) 1 b)
    (h : ∀ gb w', Ext w w' → w.heap.size ≤ gb → gb < w'.heap.size → WR P N ops dr Q π ((d, .slice (some ⟨gb, 0, none⟩) 0 0) :: l) w') : WR P N ops dr Q (i :: π) l w := by
  refine F (v := .slice (some ⟨w.heap.size, 0, none⟩) 0 0) (w' := w.alloc (.cells #[] E)) hi hw rfl hd (fun a ha => ?_) (fun _ _ => Ext.alloc _ _) (h _ _ (Ext.alloc _ _) (Nat.le_refl _) (Array.getElem?_eq_some_iff.1 (heap_alloc_new w _)).1)
  have hr := run_buildSlice hT [] (by simp) (by simp) w
  simp only [execOp, List.map_toArray, Sem.run_bind]
  simp only [List.length_nil, List.range'_zero, List.zip_nil_left] at hr
  rw [show (List.map (fun x => (x.1, a.eval x.2)) ([] : List (Nat × Operand))).toArray = #[] from rfl]
  rw [hr]
  rfl
theorem AP0 {v1 : Value} {gb : Nat} {E : TypeId} {ys : List Int} {w0 : World} (hi : ops[i]? = some ⟨some d, .call ⟨.builtin .append, #[x, y], #[T, T]⟩, ty, pos, after, g⟩) (hw : Wt ops N l g) (hd : Nat.blt d N = true) (hx : ev l x = some (.slice (some ⟨gb, 0, none⟩) 0 0)) (hy : ev l y = some v1)
    (hT : SlT P T E (.int .i64 0) 1 8) (hs : Ints w0 v1 ys) (hE : Ext w0 w) (hlen : ys.length ≤ 17592186044416)
    (h : ∀ v w', Ext w w' → Ints w' v ys → (v.ownBlock = some gb ∨ (v.ownBlock = some w.heap.size ∧ w.heap.size < w'.heap.size)) → WR P N ops dr Q π ((d, v) :: l) w') : WR P N ops dr Q (i :: π) l w := by
  obtain ⟨j, hj, hj1, hj2, hj3⟩ := info_parts hT.inf
  have hs' := hs.ext hE
  obtain ⟨⟨a1, c1, rfl, hc1, hx1⟩, _⟩ := hs'
  rw [List.length_map] at hx1 hc1 hy
  have done : ∀ v w', (Builtin.append_ #[T, T] ty #[.slice (some ⟨gb, 0, none⟩) 0 0, .slice a1 ys.length c1]).run P w = .ok v w' → Ext w w' → Ints w' v ys → (v.ownBlock = some gb ∨ (v.ownBlock = some w.heap.size ∧ w.heap.size < w'.heap.size)) → WR P N ops dr Q (i :: π) l w := by
    intro v w' hrun hEx hin hb
    refine F (v := v) (w' := w') hi hw rfl hd (fun a ha => ?_) (fun _ _ => hEx) (h v w' hEx hin hb)
    simp [execOp, resolve, invoke, builtin, ha.eval hx, ha.eval hy, hrun]
  rcases Nat.eq_zero_or_pos ys.length with h0 | h0
  · have hys : ys = [] := List.eq_nil_of_length_eq_zero h0
    subst hys
    refine done (.slice (some ⟨gb, 0, none⟩) 0 0) w ?_ (Ext.refl w) ⟨⟨_, 0, rfl, Nat.le_refl _, fun h => absurd h (by simp)⟩, by simp⟩ (.inl rfl)
    simp [Builtin.append_, run_underlying hT.und, sizeOf, typeInfo, hj, Builtin.lenOf, Builtin.firstCells, storeCells, loadCells, loadCellsFrom]
    cases a1 <;> simp [storeCells]
  · obtain ⟨ad, rfl, hcell⟩ := hx1 h0
    have hr := run_append_grow (P := P) w T ty E j (.int .i64 0) hT.und hj hj1 ⟨gb, 0, none⟩ 0 0 [] (by simp) (fun j u hu => by simp at hu) ad ys.length c1 (ys.map (Value.int .i64)) (by rw [hj2]; simp) hcell (by omega) (by omega) (growslice_fits (by omega) (by rw [hj3]; omega))
    have hge := grownCap_ge w (0 + ys.length) 0 E
    have hB : Blk (w.drew.alloc (.cells (([] : List Value).toArray ++ (ys.map (Value.int .i64)).toArray ++ Builtin.zeroCells (Value.int .i64 0).cells (grownCap w (0 + ys.length) 0 E - (0 + ys.length))) E)) w.heap.size E _ := heap_alloc_new w.drew _
    refine done _ _ hr ((Ext.drew w).trans (Ext.alloc _ _)) ⟨⟨some ⟨w.heap.size, 0, none⟩, grownCap w (0 + ys.length) 0 E, by rw [List.length_map, Nat.zero_add], by rw [List.length_map]; omega, fun _ => ⟨_, rfl, fun k u hu => ?_⟩⟩, by rw [List.length_map]; omega⟩ (.inr ⟨rfl, hB.lt⟩)
    rw [Addr.add_lit]
    refine hB.cell ?_
    have hk := (List.getElem?_eq_some_iff.1 hu).1
    simp only [Nat.zero_add]
    rw [Array.getElem?_append_left (by simpa using hk)]
    simpa using hu
end
end Go.Sx


namespace Go.Sx
open Go Go.RowKit Go.Pl
section
variable {P : Program} {N : Nat} {l : Env} {w : World} {ops : Array Oper} {dr : Bool} {Q : Act → World → Prop} {π : List Nat} {i d : Nat} {v : Value} {op : Op} {ty : TypeId} {pos : String} {after : Array Edge} {g : Option (Nat × Bool)}
variable {x y c p : Operand} {u z : Int} {T T' : TypeId}
theorem mkf {fn : Fn} {fs cs : List Operand} {us vs : List Value} (hf : evs l fs = some us) (hc : evs l cs = some vs) : Yl P N (.makeFunc fn fs.toArray cs.toArray) ty l w (.func fn us.toArray vs.toArray) := fun a ha w' _ o ho _ => by
  have h1 := ha.evals hf
  have h2 := ha.evals hc
  simp [execOp, ho, h1, h2, Instr.makeFunc]
theorem binOp_xor' (T : TypeId) (a b : Int) (w : World) : (binOp .xor T (.int .i64 a) (.int .i64 b)).run P w = (Op.intBits .xor .i64 a b).run P w := by
  simp [binOp]
theorem xorI (hx : ev l x = some (.int .i64 u)) (hy : ev l y = some (.int .i64 z)) (hu : 0 ≤ u ∧ u < 256 := by omega) (hz : 0 ≤ z ∧ z < 256 := by omega) :
    Yl P N (.binOp .xor T x y T') ty l w (.int .i64 ((u.toNat ^^^ z.toNat : Nat) : Int)) :=
  yl_bin hx hy (fun w => by
    have hlt : u.toNat ^^^ z.toNat < 2 ^ 8 := Nat.xor_lt_two_pow (by omega) (by omega)
    have e : (BitVec.ofInt IntKind.i64.bits u ^^^ BitVec.ofInt IntKind.i64.bits z).toNat = u.toNat ^^^ z.toNat := by
      have h64 : IntKind.i64.bits = 64 := rfl
      rw [BitVec.toNat_xor]
      congr 1
      · rw [BitVec.toNat_ofInt, h64]; omega
      · rw [BitVec.toNat_ofInt, h64]; omega
    have h3 : IntKind.i64.wrap ((u.toNat ^^^ z.toNat : Nat) : Int) = ((u.toNat ^^^ z.toNat : Nat) : Int) := wrap_in _ (by omega)
    rw [binOp_xor']
    simp only [Op.intBits, e, h3]
    rfl) (fun _ _ _ => eqGuard_int)
end
end Go.Sx


namespace Go.Sx
open Go Go.RowKit
inductive T3 where
  | leaf (π : List Nat)
  | br (π : List Nat) (t1 t2 : T3)
  | tr (π : List Nat) (t1 t2 t3 : T3)
def T3.len : T3 → Nat
  | .leaf π => π.length
  | .br π t1 _ => π.length + t1.len
  | .tr π t1 _ _ => π.length + t1.len
def T3.head : T3 → Option Nat
  | .leaf [] => none
  | .leaf (i :: _) => some i
  | .br [] _ _ => none
  | .br (i :: _) _ _ => some i
  | .tr [] _ _ _ => none
  | .tr (i :: _) _ _ _ => some i
section
variable (P : Program) (ops : Array Oper)
def R3 (Q : Act → World → Prop) : T3 → Act → World → Prop
  | .leaf π, a, w => RL P ops true Q π a w
  | .br π t1 t2, a, w => RL P ops true (fun a w => R3 Q t1 a w ∧ R3 Q t2 a w) π a w
  | .tr π t1 t2 t3, a, w => RL P ops true (fun a w => R3 Q t1 a w ∧ (R3 Q t2 a w ∧ R3 Q t3 a w)) π a w
end
def ok3C (ops : Array Oper) (t1 t2 : T3) (l : Array Bool) : Bool :=
  (t1.len == t2.len) && !(Region.ready .any ops l).isEmpty && (Region.ready .any ops l).all (fun j => some j == t1.head || some j == t2.head)
def ok3D (ops : Array Oper) (t1 t2 t3 : T3) (l : Array Bool) : Bool :=
  (t1.len == t2.len && t1.len == t3.len) && !(Region.ready .any ops l).isEmpty && (Region.ready .any ops l).all (fun j => some j == t1.head || (some j == t2.head || some j == t3.head))
def ok3 (ops : Array Oper) : Bool → T3 → Array Bool → Bool
  | false, .leaf π, l => okSeg ops π l && (Region.ready .any ops (aft π l)).isEmpty
  | true, .leaf π, l => okSeg1 ops π l && (Region.ready .any ops (aft π l)).isEmpty
  | false, .br π t1 t2, l => okSeg ops π l && (ok3C ops t1 t2 (aft π l) && (ok3 ops true t1 (aft π l) && ok3 ops true t2 (aft π l)))
  | true, .br π t1 t2, l => okSeg1 ops π l && (ok3C ops t1 t2 (aft π l) && (ok3 ops true t1 (aft π l) && ok3 ops true t2 (aft π l)))
  | false, .tr π t1 t2 t3, l => okSeg ops π l && (ok3D ops t1 t2 t3 (aft π l) && (ok3 ops true t1 (aft π l) && (ok3 ops true t2 (aft π l) && ok3 ops true t3 (aft π l))))
  | true, .tr π t1 t2 t3, l => okSeg1 ops π l && (ok3D ops t1 t2 t3 (aft π l) && (ok3 ops true t1 (aft π l) && (ok3 ops true t2 (aft π l) && ok3 ops true t3 (aft π l))))
section
variable {P : Program} {ops : Array Oper}
theorem T3.len_pos : ∀ {t : T3} {l : Array Bool}, ok3 ops true t l = true → ∃ m, t.len = m + 1
  | .leaf [], l, h => by simp [ok3, okSeg1] at h
  | .leaf (i :: r), l, h => ⟨r.length, by simp [T3.len]⟩
  | .br [] t1 t2, l, h => by simp [ok3, okSeg1] at h
  | .br (i :: r) t1 t2, l, h => ⟨r.length + t1.len, by simp [T3.len]; omega⟩
  | .tr [] t1 t2 t3, l, h => by simp [ok3, okSeg1] at h
  | .tr (i :: r) t1 t2 t3, l, h => ⟨r.length + t1.len, by simp [T3.len]; omega⟩
def Fst3 (P : Program) (ops : Array Oper) (Q : Act → World → Prop) (t : T3) : Prop := ∀ (l : Array Bool) (a : Act) (w : World) (i m : Nat), Closed ops l → i ∈ Region.ready .any ops l → ok3 ops true t l = true → t.head = some i → t.len = m + 1 → R3 P ops Q t a w →
  opE P ops i (fun a' w' => (isTail ops i = false → Ext w w') ∧ wpE P ops Q m (l.setIfInBounds i true) a' w') a w
theorem choice3 {Q : Act → World → Prop} {t1 t2 : T3} (h1 : Fst3 P ops Q t1) (h2 : Fst3 P ops Q t2) {l : Array Bool} (hcl : Closed ops l) (hC : ok3C ops t1 t2 l = true) (o1 : ok3 ops true t1 l = true) (o2 : ok3 ops true t2 l = true) {a : Act} {w : World} (hR : R3 P ops Q t1 a w ∧ R3 P ops Q t2 a w) :
    wpE P ops Q t1.len l a w := by
  simp only [ok3C, Bool.and_eq_true, beq_iff_eq, Bool.not_eq_true', List.all_eq_true, Bool.or_eq_true] at hC
  obtain ⟨⟨hl, hne⟩, hall⟩ := hC
  obtain ⟨m, hm⟩ := T3.len_pos o1
  rw [hm]
  refine ⟨fun h0 => (by rw [h0] at hne; simp at hne), fun j hj => ?_⟩
  rcases hall j hj with e | e
  · exact h1 l a w j m hcl hj o1 e.symm hm hR.1
  · exact h2 l a w j m hcl hj o2 e.symm (by rw [← hl, hm]) hR.2
theorem choice3D {Q : Act → World → Prop} {t1 t2 t3 : T3} (h1 : Fst3 P ops Q t1) (h2 : Fst3 P ops Q t2) (h3 : Fst3 P ops Q t3) {l : Array Bool} (hcl : Closed ops l) (hC : ok3D ops t1 t2 t3 l = true) (o1 : ok3 ops true t1 l = true) (o2 : ok3 ops true t2 l = true) (o3 : ok3 ops true t3 l = true) {a : Act} {w : World} (hR : R3 P ops Q t1 a w ∧ (R3 P ops Q t2 a w ∧ R3 P ops Q t3 a w)) :
    wpE P ops Q t1.len l a w := by
  simp only [ok3D, Bool.and_eq_true, beq_iff_eq, Bool.not_eq_true', List.all_eq_true, Bool.or_eq_true] at hC
  obtain ⟨⟨hl, hne⟩, hall⟩ := hC
  obtain ⟨m, hm⟩ := T3.len_pos o1
  rw [hm]
  refine ⟨fun h0 => (by rw [h0] at hne; simp at hne), fun j hj => ?_⟩
  rcases hall j hj with e | e | e
  · exact h1 l a w j m hcl hj o1 e.symm hm hR.1
  · exact h2 l a w j m hcl hj o2 e.symm (by rw [← hl.1, hm]) hR.2.1
  · exact h3 l a w j m hcl hj o3 e.symm (by rw [← hl.2, hm]) hR.2.2
theorem fst3 {Q : Act → World → Prop} (hs : Region.noSelect ops = true) : ∀ t : T3, Fst3 P ops Q t
  | .leaf [], l, a, w, i, m, _, _, ho, _, _, _ => by simp [ok3, okSeg1] at ho
  | .leaf (i :: r), l, a, w, i', m, hcl, hrd, ho, hi, hm, hR => by
    cases hi
    simp only [ok3, okSeg1, Bool.and_eq_true] at ho
    have e : m = r.length + 0 := by simp [T3.len] at hm; omega
    subst e
    exact seg1 hs hcl hrd ho.1 hR (fun a w hcl' hq => ⟨by simpa using ho.2, hq⟩)
  | .br [] t1 t2, l, a, w, i, m, _, _, ho, _, _, _ => by simp [ok3, okSeg1] at ho
  | .br (i :: r) t1 t2, l, a, w, i', m, hcl, hrd, ho, hi, hm, hR => by
    cases hi
    simp only [ok3, okSeg1, Bool.and_eq_true] at ho
    have e : m = r.length + t1.len := by simp [T3.len] at hm; omega
    subst e
    exact seg1 hs hcl hrd ho.1 hR (fun a w hcl' hq => choice3 (fst3 hs t1) (fst3 hs t2) hcl' ho.2.1 ho.2.2.1 ho.2.2.2 hq)
  | .tr [] t1 t2 t3, l, a, w, i, m, _, _, ho, _, _, _ => by simp [ok3, okSeg1] at ho
  | .tr (i :: r) t1 t2 t3, l, a, w, i', m, hcl, hrd, ho, hi, hm, hR => by
    cases hi
    simp only [ok3, okSeg1, Bool.and_eq_true] at ho
    have e : m = r.length + t1.len := by simp [T3.len] at hm; omega
    subst e
    exact seg1 hs hcl hrd ho.1 hR (fun a w hcl' hq => choice3D (fst3 hs t1) (fst3 hs t2) (fst3 hs t3) hcl' ho.2.1 ho.2.2.1 ho.2.2.2.1 ho.2.2.2.2 hq)
theorem wpE_tree3 {Q : Act → World → Prop} (hs : Region.noSelect ops = true) : ∀ (t : T3) (l : Array Bool) (a : Act) (w : World), Closed ops l → ok3 ops false t l = true → R3 P ops Q t a w → wpE P ops Q t.len l a w
  | .leaf π, l, a, w, hcl, ho, hR => by
    simp only [ok3, Bool.and_eq_true] at ho
    exact seg (n := 0) hs π l a w hcl ho.1 hR (fun a w _ hq => ⟨by simpa using ho.2, hq⟩)
  | .br π t1 t2, l, a, w, hcl, ho, hR => by
    simp only [ok3, Bool.and_eq_true] at ho
    exact seg (n := t1.len) hs π l a w hcl ho.1 hR (fun a w hcl' hq => choice3 (fst3 hs t1) (fst3 hs t2) hcl' ho.2.1 ho.2.2.1 ho.2.2.2 hq)
  | .tr π t1 t2 t3, l, a, w, hcl, ho, hR => by
    simp only [ok3, Bool.and_eq_true] at ho
    exact seg (n := t1.len) hs π l a w hcl ho.1 hR (fun a w hcl' hq => choice3D (fst3 hs t1) (fst3 hs t2) (fst3 hs t3) hcl' ho.2.1 ho.2.2.1 ho.2.2.2.1 ho.2.2.2.2 hq)
end
def okOrd3 (ops : Array Oper) (t : T3) : Bool := t.len == ops.size && (Region.noSelect ops && ok3 ops false t (Array.replicate ops.size false))
section
variable {P : Program} {N : Nat} {l : Env} {w : World} {ops : Array Oper}
def W3 (P : Program) (N : Nat) (ops : Array Oper) (Q : Act → World → Prop) (t : T3) (l : Env) (w : World) : Prop := ∀ a, At N a l → R3 P ops Q t a w
theorem wc_draw3 {Q : Exit → Act → World → Prop} {id : Nat} (hm : P.follows .mixedOrders = true) (t : T3) (hB : okOrd3 ops t = true) (h : ∀ w', Ext w w' → w' = w.drew → W3 P N ops (Q .normal) t l w') : WC P N (.region id ops true) Q l w := by
  intro a ha
  simp only [okOrd3, Bool.and_eq_true, beq_iff_eq] at hB
  refine wp_region_any hm ?_
  have := wpE_tree3 (P := P) (Q := Q .normal) hB.2.1 t (Array.replicate ops.size false) a w.drew Closed.none hB.2.2 (h w.drew (Ext.drew w) rfl a ha)
  rw [hB.1] at this
  exact wpAny_of_wpE (fun _ _ h => h) _ _ _ _ this
theorem w3_leaf {Q : Act → World → Prop} {π : List Nat} (h : WR P N ops true Q π l w) : W3 P N ops Q (.leaf π) l w := h
theorem w3_br {Q : Act → World → Prop} {π : List Nat} {t1 t2 : T3} (h : WR P N ops true (fun a w => R3 P ops Q t1 a w ∧ R3 P ops Q t2 a w) π l w) : W3 P N ops Q (.br π t1 t2) l w := h
theorem w3_tr {Q : Act → World → Prop} {π : List Nat} {t1 t2 t3 : T3} (h : WR P N ops true (fun a w => R3 P ops Q t1 a w ∧ (R3 P ops Q t2 a w ∧ R3 P ops Q t3 a w)) π l w) : W3 P N ops Q (.tr π t1 t2 t3) l w := h
theorem w3r_br {Q : Act → World → Prop} {t1 t2 : T3} (h1 : W3 P N ops Q t1 l w) (h2 : W3 P N ops Q t2 l w) : WR P N ops true (fun a w => R3 P ops Q t1 a w ∧ R3 P ops Q t2 a w) [] l w := fun a ha => ⟨h1 a ha, h2 a ha⟩
theorem w3r_tr {Q : Act → World → Prop} {t1 t2 t3 : T3} (h1 : W3 P N ops Q t1 l w) (h2 : W3 P N ops Q t2 l w) (h3 : W3 P N ops Q t3 l w) : WR P N ops true (fun a w => R3 P ops Q t1 a w ∧ (R3 P ops Q t2 a w ∧ R3 P ops Q t3 a w)) [] l w := fun a ha => ⟨h1 a ha, h2 a ha, h3 a ha⟩
end
end Go.Sx


namespace Go.Sx
open Go Go.RowKit Go.Pl
def flatI (L : List (List Int)) : List Value := L.flatten.map (Value.int .i64)
structure RowsI (w : World) (v : Value) (s : Nat) (L : List (List Int)) : Prop where
  ex : ∃ a c, v = .slice a L.length c ∧ L.length ≤ c ∧ (0 < L.length → ∃ ad, a = some ad ∧ ∀ j u, (flatI L)[j]? = some u → w.cell? (ad.add j) = some u)
  rows : ∀ r ∈ L, r.length = s
  le : L.length ≤ 140737488355328
structure OwnR (B : Nat) (w : World) (v : Value) (E : TypeId) (s : Nat) (L : List (List Int)) : Prop where
  row : w.ownsRow B E s v L.length (flatI L)
  rows : ∀ r ∈ L, r.length = s
  le : L.length ≤ 140737488355328
section
variable {P : Program} {N : Nat} {l : Env} {w : World} {ops : Array Oper} {dr : Bool} {Q : Act → World → Prop} {π : List Nat} {i d : Nat} {v : Value} {op : Op} {ty : TypeId} {pos : String} {after : Array Edge} {g : Option (Nat × Bool)}
variable {x y c p : Operand} {u z : Int} {T T' E : TypeId} {s b : Nat} {zv : Value} {L : List (List Int)}
end
end Go.Sx


namespace Go.Sx
open Go Go.RowKit Go.Pl
structure Gr (X : List Nat) (w w' : World) : Prop where
  os : w'.os = w.os
  tape : w'.tape = w.tape
  output : w'.output = w.output
  size : w.heap.size ≤ w'.heap.size
  block : ∀ k, k < w.heap.size → k ∉ X → w'.heap[k]? = w.heap[k]?
theorem Gr.refl (X : List Nat) (w : World) : Gr X w w := ⟨rfl, rfl, rfl, Nat.le_refl _, fun _ _ _ => rfl⟩
theorem Gr.trans {X : List Nat} {a b c : World} (h : Gr X a b) (k : Gr X b c) : Gr X a c :=
  ⟨k.os.trans h.os, k.tape.trans h.tape, k.output.trans h.output, Nat.le_trans h.size k.size, fun j hj hx => (k.block j (Nat.lt_of_lt_of_le hj h.size) hx).trans (h.block j hj hx)⟩
theorem Gr.of_grown {X : List Nat} {w w' : World} {row : Option Nat} (h : w.grownBy w' row) (hr : ∀ k, row = some k → k ∈ X) : Gr X w w' :=
  ⟨h.os, h.tape, h.output, h.size, fun k hk hx => h.block k hk (fun e => hx (hr k e.symm))⟩
theorem Gr.of_ext {X : List Nat} {w w' : World} (h : Ext w w') : Gr X w w' := ⟨h.os, h.tape, h.output, h.size, fun k hk _ => h.block k hk⟩
theorem Gr.ext {X : List Nat} {w0 w w' : World} (h : Gr X w w') (hE : Ext w0 w) (hX : ∀ k ∈ X, w0.heap.size ≤ k) : Ext w0 w' :=
  ⟨h.os.trans hE.os, h.tape.trans hE.tape, h.output.trans hE.output, Nat.le_trans hE.size h.size, fun k hk => (h.block k (Nat.lt_of_lt_of_le hk hE.size) (fun hx => by have := hX k hx; omega)).trans (hE.block k hk)⟩
theorem Blk.gr {w w' : World} {g : Nat} {t : TypeId} {cs : Array Value} {X : List Nat} (h : Blk w g t cs) (hg : Gr X w w') (hX : g ∉ X) : Blk w' g t cs := (hg.block g h.lt hX).trans h
theorem Sl.gr {w w' : World} {v : Value} {xs : List Value} {X : List Nat} (h : Sl w v xs) (hg : Gr X w w') (hX : ∀ k, v.ownBlock = some k → k ∉ X) : Sl w' v xs := by
  obtain ⟨⟨a, c, hv, hc, hx⟩, hl⟩ := h
  refine ⟨⟨a, c, hv, hc, fun h0 => ?_⟩, hl⟩
  obtain ⟨ad, ha, hh⟩ := hx h0
  subst ha hv
  refine ⟨ad, rfl, fun j u hu => ?_⟩
  have hcell := hh j u hu
  have hlt := World.block_lt_of_cell? w _ hcell
  have hb : (ad.add j).block = ad.block := by
    simp only [Addr.add]
    split <;> rfl
  rw [hb] at hlt
  have := hg.block ad.block hlt (hX _ rfl)
  unfold World.cell? at hcell ⊢
  rw [hb] at hcell ⊢
  rw [this]
  exact hcell
theorem Ints.gr {w w' : World} {v : Value} {zs : List Int} {X : List Nat} (h : Ints w v zs) (hg : Gr X w w') (hX : ∀ k, v.ownBlock = some k → k ∉ X) : Ints w' v zs := Sl.gr h hg hX
def RetG (X : List Nat) (w : World) (Φ : Value → World → Prop) : Ending → World → Prop := Ret (fun v w' => Gr X w w' ∧ Φ v w')
section
variable {P : Program} {N : Nat} {l : Env} {w : World} {ops : Array Oper} {dr : Bool} {Q : Act → World → Prop} {π : List Nat} {i d : Nat} {v : Value} {op : Op} {ty : TypeId} {pos : String} {after : Array Edge} {g : Option (Nat × Bool)}
end
end Go.Sx


namespace Go.Sx
open Go Go.RowKit Go.Pl
def NB (X : List Nat) (v : Value) : Prop := ∀ k, v.ownBlock = some k → k ∉ X
def Newer (w : World) (X X' : List Nat) : Prop := ∀ k ∈ X', k ∈ X ∨ w.heap.size ≤ k
theorem Newer.refl (w : World) (X : List Nat) : Newer w X X := fun _ h => .inl h
theorem Newer.trans {w w' : World} {X Y Z : List Nat} (h : Newer w X Y) (k : Newer w' Y Z) (hs : w.heap.size ≤ w'.heap.size) : Newer w X Z := fun j hj => by
  rcases k j hj with h1 | h1
  · exact h j h1
  · exact .inr (by omega)
def IntsX (X : List Nat) (w : World) (v : Value) (z : List Int) : Prop := Ints w v z ∧ (z = [] ∨ NB X v)
def LLX (X : List Nat) (w : World) (v : Value) (L : List (List Int)) : Prop :=
  ∃ rows, Sl w v rows ∧ rows.length = L.length ∧ (L = [] ∨ NB X v) ∧ ∀ (i : Nat) r zs, rows[i]? = some r → L[i]? = some zs → IntsX X w r zs
theorem ints_empty {w w' : World} {v : Value} (h : Ints w v []) : Ints w' v [] := by
  obtain ⟨⟨a, c, hv, hc, _⟩, hl⟩ := h
  exact ⟨⟨a, c, hv, hc, fun h => absurd h (by simp)⟩, hl⟩
theorem IntsX.ext {X : List Nat} {w w' : World} {v : Value} {z : List Int} (h : IntsX X w v z) (hE : Ext w w') : IntsX X w' v z := ⟨h.1.ext hE, h.2⟩
theorem IntsX.gr {X X' : List Nat} {w w' : World} {v : Value} {z : List Int} (h : IntsX X w v z) (hg : Gr X w w') (hX : Newer w X X') : IntsX X' w' v z := by
  rcases Nat.eq_zero_or_pos z.length with h0 | h0
  · obtain rfl := List.eq_nil_of_length_eq_zero h0
    exact ⟨ints_empty h.1, .inl rfl⟩
  · have hn : NB X v := h.2.resolve_left (fun e => by rw [e] at h0; simp at h0)
    refine ⟨h.1.gr hg hn, .inr fun k hk hx => ?_⟩
    obtain ⟨j, hj, hlt⟩ := h.1.lt h0
    rw [hj] at hk
    cases hk
    rcases hX _ hx with h1 | h1
    · exact hn _ hj h1
    · omega
theorem LLX.ll {X : List Nat} {w : World} {v : Value} {L : List (List Int)} (h : LLX X w v L) : LL w v L := by
  obtain ⟨rows, h1, h2, _, h3⟩ := h
  exact ⟨rows, h1, h2, fun i r zs a b => (h3 i r zs a b).1⟩
theorem LLX.ext {X : List Nat} {w w' : World} {v : Value} {L : List (List Int)} (h : LLX X w v L) (hE : Ext w w') : LLX X w' v L := by
  obtain ⟨rows, h1, h2, h0, h3⟩ := h
  exact ⟨rows, h1.ext hE, h2, h0, fun i r zs a b => (h3 i r zs a b).ext hE⟩
theorem LLX.gr {X X' : List Nat} {w w' : World} {v : Value} {L : List (List Int)} (h : LLX X w v L) (hg : Gr X w w') (hX : Newer w X X') : LLX X' w' v L := by
  obtain ⟨rows, h1, h2, h0, h3⟩ := h
  rcases Nat.eq_zero_or_pos L.length with hz | hz
  · obtain rfl := List.eq_nil_of_length_eq_zero hz
    obtain rfl := List.eq_nil_of_length_eq_zero (l := rows) (by simpa using h2)
    obtain ⟨⟨a, c, hv, hc, _⟩, hl⟩ := h1
    exact ⟨[], ⟨⟨a, c, hv, hc, fun h => absurd h (by simp)⟩, hl⟩, rfl, .inl rfl, fun i r zs a => by simp at a⟩
  · have hn : NB X v := h0.resolve_left (fun e => by rw [e] at hz; simp at hz)
    refine ⟨rows, h1.gr hg hn, h2, .inr fun k hk hx => ?_, fun i r zs a b => (h3 i r zs a b).gr hg hX⟩
    obtain ⟨j, hj, hlt⟩ := h1.lt (by omega)
    rw [hj] at hk
    cases hk
    rcases hX _ hx with h4 | h4
    · exact hn _ hj h4
    · omega
theorem LO.llx {B : Nat} {w : World} {v : Value} {E : TypeId} {L : List (List Int)} {X : List Nat} (h : LO B w v E L) (hX : ∀ k ∈ X, k < B) : LLX X w v L := by
  obtain ⟨h0, rows, h1, h2, h3⟩ := h
  refine ⟨rows, h1.sl, h2, .inr fun k hk hx => ?_, fun i r zs a b => ⟨(h3 i r zs a b).1, (h3 i r zs a b).2.imp id fun h4 k hk hx => ?_⟩⟩
  · have := (h1.lt k hk).1
    have := hX k hx
    omega
  · have := h4.2 k hk
    have := hX k hx
    omega
theorem OwnI.intsX {B : Nat} {w : World} {v : Value} {E : TypeId} {z : List Int} {X : List Nat} (h : OwnI B w v E z) (hX : ∀ k ∈ X, k < B) : IntsX X w v z := ⟨OwnI.ints h, .inr fun k hk hx => by
  have := (Own.lt h k hk).1
  have := hX k hx
  omega⟩
theorem LLX.row {X : List Nat} {w : World} {v : Value} {L : List (List Int)} (h : LLX X w v L) : ∃ rows, Sl w v rows ∧ rows.length = L.length ∧ ∀ i : Nat, i < L.length → ∃ r, rows[i]? = some r ∧ IntsX X w r (L.getD i []) := by
  obtain ⟨rows, h1, h2, _, h3⟩ := h
  refine ⟨rows, h1, h2, fun i hi => ⟨rows[i]'(by omega), by simp [h2, hi], ?_⟩⟩
  exact h3 i _ _ (by simp [h2, hi]) (by simp [hi])
section
variable {P : Program} {N : Nat} {l : Env} {w : World} {ops : Array Oper} {dr : Bool} {Q : Act → World → Prop} {π : List Nat} {i d : Nat} {v : Value} {op : Op} {ty : TypeId} {pos : String} {after : Array Edge} {g : Option (Nat × Bool)}
variable {x y z c p : Operand} {u lo hi : Int} {T T' : TypeId}
def capTo (v : Value) (n : Nat) : Value := match v with
  | .slice a _ _ => .slice a n n
  | v => v
theorem slHM {w0 : World} {xs : List Value} {E : TypeId} {zv : Value} {b : Nat} (hx : ev l x = some v) (hy : ev l y = some (.int .i64 hi)) (hz : ev l z = some (.int .i64 hi)) (hT : SlT P T E zv 1 b) (hs : Sl w0 v xs) (hh : hi = xs.length) :
    Yl P N (.slice T x none (some y) (some z)) ty l w (capTo v xs.length) := fun a ha w' _ o ho _ => by
  obtain ⟨⟨ad, cc, rfl, hc, _⟩, _⟩ := hs
  obtain ⟨j, hj, _, hj2, _⟩ := info_of hT
  have hu : P.underlying T = some (.slice (P.elem T)) := by rw [elem_of hT.und]; exact hT.und
  have e : ∀ q : Addr, q.add 0 = q := fun q => by simp [Addr.add]
  have e2 : ad.map (fun x => x.add 0) = ad := by cases ad <;> simp [e]
  subst hh
  simp [execOp, ho, ha.eval hx, ha.eval hy, ha.eval hz, run_sliceAt_slice w' T _ _ _ _ hu, run_slice_hm w' T ad xs.length cc hu .i64 .i64 xs.length xs.length (by omega) (by omega) (by omega), elem_of hT.und, sizeOf, typeInfo, hj, hj2, sliced, capTo, e2]
theorem Ints.cap {w : World} {v : Value} {zs : List Int} (h : Ints w v zs) : Ints w (capTo v zs.length) zs := by
  obtain ⟨⟨a, c, rfl, hc, hx⟩, hl⟩ := h
  exact ⟨⟨a, zs.length, by simp [capTo], by simp, hx⟩, hl⟩
theorem capTo_cap {w : World} {v : Value} {zs : List Int} (h : Ints w v zs) : ∃ a, capTo v zs.length = .slice a zs.length zs.length := by
  obtain ⟨⟨a, c, rfl, _, _⟩, _⟩ := h
  exact ⟨a, rfl⟩
theorem APF {a0 : Option Addr} {v1 : Value} {E : TypeId} {xs ys : List Int} {w0 w1 : World} (hi : ops[i]? = some ⟨some d, .call ⟨.builtin .append, #[x, y], #[T, T]⟩, ty, pos, after, g⟩) (hw : Wt ops N l g) (hd : Nat.blt d N = true) (hx : ev l x = some (.slice a0 xs.length xs.length)) (hy : ev l y = some v1)
    (hT : SlT P T E (.int .i64 0) 1 8) (h0 : Ints w0 (.slice a0 xs.length xs.length) xs) (hE0 : Ext w0 w) (hs : Ints w1 v1 ys) (hE1 : Ext w1 w) (hpos : 0 < ys.length) (hlen : xs.length + ys.length ≤ 17592186044416)
    (h : ∀ v w', Ext w w' → Ints w' v (xs ++ ys) → v.ownBlock = some w.heap.size → WR P N ops dr Q π ((d, v) :: l) w') : WR P N ops dr Q (i :: π) l w := by
  obtain ⟨j, hj, hj1, hj2, hj3⟩ := info_parts hT.inf
  have hs' := hs.ext hE1
  obtain ⟨⟨a1, c1, rfl, hc1, hx1⟩, _⟩ := hs'
  rw [List.length_map] at hx1 hc1 hy
  obtain ⟨ad, rfl, hcell⟩ := hx1 hpos
  have hsrc := run_firstCells_some (P := P) w.drew j.size ys.length ad ys.length c1 (ys.map (Value.int .i64)) (by rw [hj2]; simp) (by simpa using hcell)
  have hold : (Builtin.firstCells j.size xs.length (.slice a0 xs.length xs.length)).run P w.drew = .ok (xs.map (Value.int .i64)).toArray w.drew := by
    rcases Nat.eq_zero_or_pos xs.length with hz | hz
    · obtain rfl := List.eq_nil_of_length_eq_zero hz
      cases a0 <;> simp [Builtin.firstCells, loadCells, loadCellsFrom]
    · obtain ⟨⟨a, c, hv, hc, hcells⟩, _⟩ := h0.ext hE0
      rw [List.length_map] at hcells hv
      obtain ⟨ad0, ha0, hcell0⟩ := hcells hz
      cases hv
      rw [ha0]
      exact run_firstCells_some (P := P) w.drew j.size xs.length ad0 xs.length xs.length (xs.map (Value.int .i64)) (by rw [hj2]; simp) (by simpa using hcell0)
  have hsl : Src P j.size T (.slice (some ad) ys.length c1) ys.length (ys.map (Value.int .i64)) w := Src.ofSlice w hT.und ad ys.length c1 _ (by rw [hj2]; simp) hcell (fun u hu => by obtain ⟨_, _, rfl⟩ := List.mem_map.1 hu; rfl)
  have hr := run_append_grow_src (P := P) w T T ty E j (.int .i64 0) hT.und hj hj1 a0 xs.length xs.length (xs.map (Value.int .i64)) hold _ ys.length _ hsl (by omega) (by omega) (growslice_fits (by omega) (by rw [hj3]; omega))
  have hge := grownCap_ge w (xs.length + ys.length) xs.length E
  have hB : Blk (w.drew.alloc (.cells ((xs.map (Value.int .i64) ++ ys.map (Value.int .i64)).toArray ++ Builtin.zeroCells (Value.int .i64 0).cells (grownCap w (xs.length + ys.length) xs.length E - (xs.length + ys.length))) E)) w.heap.size E _ := heap_alloc_new w.drew _
  have hEx := (Ext.drew w).trans (Ext.alloc w.drew (.cells ((xs.map (Value.int .i64) ++ ys.map (Value.int .i64)).toArray ++ Builtin.zeroCells (Value.int .i64 0).cells (grownCap w (xs.length + ys.length) xs.length E - (xs.length + ys.length))) E))
  refine F (v := _) (w' := _) hi hw rfl hd (fun a ha => ?_) (fun _ _ => hEx) (h _ _ hEx ⟨⟨some ⟨w.heap.size, 0, none⟩, grownCap w (xs.length + ys.length) xs.length E, by rw [List.length_map, List.length_append], by rw [List.length_map, List.length_append]; omega, fun _ => ⟨_, rfl, fun k u hu => ?_⟩⟩, by rw [List.length_map, List.length_append]; omega⟩ rfl)
  · simp [execOp, resolve, invoke, builtin, ha.eval hx, ha.eval hy, hr]
  · rw [Addr.add_lit]
    refine hB.cell ?_
    have hk := (List.getElem?_eq_some_iff.1 hu).1
    simp only [Nat.zero_add]
    rw [← List.map_append, Array.getElem?_append_left (by simpa using hk)]
    simpa using hu
theorem CVG {f : FuncId} {fs cs : List Value} {cl : List Operand} {ats : Array TypeId} {vs : List Value} {Φ : Value → World → Prop} (hi : ops[i]? = some ⟨some d, .call ⟨.value x, cl.toArray, ats⟩, ty, pos, after, g⟩) (hw : Wt ops N l g) (hd : Nat.blt d N = true)
    (hx : ev l x = some (.func (.func f) fs.toArray cs.toArray)) (hv : evs l cl = some vs) (hf : ∀ args w, (callFunc f args).run P w = .ok (.enter f args) w) (hc : Calls P f (fs ++ vs ++ cs).toArray w (Ret Φ)) (htl : dr = true → isTail ops i = true)
    (h : ∀ v w', Φ v w' → WR P N ops dr Q π ((d, v) :: l) w') : WR P N ops dr Q (i :: π) l w := fun a ha => by
  refine ⟨_, hi, ?_⟩
  rw [if_pos (hw a ha _ rfl)]
  refine .inr ⟨rfl, ?_⟩
  have hm := ha.evals hv
  have hrun : (execOp a.eval ⟨some d, .call ⟨.value x, cl.toArray, ats⟩, ty, pos, after, g⟩).run P w = .ok (.enter f (fs ++ vs ++ cs).toArray) w := by
    simp only [execOp, resolve, List.map_toArray, hm, ha.eval hx, Deferred.ofValue]
    simp [invoke, hf]
  unfold Oper.wp
  rw [hrun, Oper.upon_enter]
  refine hc.mono fun e w' he => ?_
  cases e with
  | returned v => exact ⟨⟨v, rfl⟩, fun h1 h2 => (by rw [htl h1] at h2; cases h2), h v w' he _ (ha.put hd v)⟩
  | panicked c => exact he
  | outgrown => exact he.elim
theorem CRG {f : FuncId} {cl : List Operand} {ats : Array TypeId} {vs : List Value} {Φ : Value → World → Prop} (hi : ops[i]? = some ⟨some d, .call ⟨.value (.func f), cl.toArray, ats⟩, ty, pos, after, g⟩) (hw : Wt ops N l g) (hd : Nat.blt d N = true)
    (hv : evs l cl = some vs) (hf : ∀ args w, (callFunc f args).run P w = .ok (.enter f args) w) (hc : Calls P f vs.toArray w (Ret Φ)) (htl : dr = true → isTail ops i = true)
    (h : ∀ v w', Φ v w' → WR P N ops dr Q π ((d, v) :: l) w') : WR P N ops dr Q (i :: π) l w := fun a ha => by
  refine ⟨_, hi, ?_⟩
  rw [if_pos (hw a ha _ rfl)]
  refine .inr ⟨rfl, ?_⟩
  have hm := ha.evals hv
  have hrun : (execOp a.eval ⟨some d, .call ⟨.value (.func f), cl.toArray, ats⟩, ty, pos, after, g⟩).run P w = .ok (.enter f vs.toArray) w := by
    simp only [execOp, resolve, List.map_toArray, hm, Act.eval, Deferred.ofValue]
    simp [invoke, hf]
  unfold Oper.wp
  rw [hrun, Oper.upon_enter]
  refine hc.mono fun e w' he => ?_
  cases e with
  | returned v => exact ⟨⟨v, rfl⟩, fun h1 h2 => (by rw [htl h1] at h2; cases h2), h v w' he _ (ha.put hd v)⟩
  | panicked c => exact he
  | outgrown => exact he.elim
def LOX (X : List Nat) (B : Nat) (w : World) (v : Value) (E : TypeId) (L : List (List Int)) : Prop :=
  ∃ rows, Own B w v E rows ∧ rows.length = L.length ∧ ∀ (i : Nat) r zs, rows[i]? = some r → L[i]? = some zs → Ints w r zs ∧ (zs = [] ∨ (r.ownBlock ≠ v.ownBlock ∧ NB X r))
theorem LOX.ext {X : List Nat} {B : Nat} {w w' : World} {v : Value} {E : TypeId} {L : List (List Int)} (h : LOX X B w v E L) (hE : Ext w w') : LOX X B w' v E L := by
  obtain ⟨rows, h1, h2, h3⟩ := h
  exact ⟨rows, h1.ext hE, h2, fun i r zs a b => ⟨(h3 i r zs a b).1.ext hE, (h3 i r zs a b).2⟩⟩
theorem LOX.llx {X : List Nat} {B : Nat} {w : World} {v : Value} {E : TypeId} {L : List (List Int)} (h : LOX X B w v E L) (hX : ∀ k ∈ X, k < B) : LLX X w v L := by
  obtain ⟨rows, h1, h2, h3⟩ := h
  refine ⟨rows, h1.sl, h2, .inr fun k hk hx => ?_, fun i r zs a b => ⟨(h3 i r zs a b).1, (h3 i r zs a b).2.imp id (·.2)⟩⟩
  have := (h1.lt k hk).1
  have := hX k hx
  omega
theorem MKX {X : List Nat} {E : TypeId} {b n : Nat} {cl : Int} (hi : ops[i]? = some ⟨some d, .makeSlice T x x, ty, pos, after, g⟩) (hw : Wt ops N l g) (hd : Nat.blt d N = true) (hx : ev l x = some (.int .i64 cl)) (hT : SlT P T E (.slice none 0 0) 1 b)
    (h : ∀ v w', Ext w w' → LOX X w.heap.size w' v E (tab n fun _ => []) → WR P N ops dr Q π ((d, v) :: l) w')
    (hn : cl = (n : Int) := by omega) (hle : n ≤ 140737488355328 := by omega) (hby : b * n ≤ 281474976710656 := by omega) : WR P N ops dr Q (i :: π) l w :=
  MK hi hw hd hx hT rfl (hn := hn) (hle := hle) (hby := hby) (h := fun v w' hE ho hb => h v w' hE ⟨_, ho, by rw [List.length_replicate, tab_length], fun i r zs a b => by
    have hin : i < n := by
      have := (List.getElem?_eq_some_iff.1 a).1
      simpa using this
    rw [List.getElem?_replicate, if_pos hin] at a
    rw [tab_get hin] at b
    cases a
    cases b
    exact ⟨Ints.nil _, .inl rfl⟩⟩)
theorem STX {X : List Nat} {v0 r0 : Value} {B : Nat} {E : TypeId} {L : List (List Int)} {zs : List Int} (hi : ops[i]? = some ⟨none, .store T p x, ty, pos, after, g⟩) (hw : Wt ops N l g) (hp : ev l p = some (eptr v0 1 u)) (hx : ev l x = some r0)
    (hT : ∃ j, P.info? T = some j ∧ j.size = 1) (htl : dr = true → isTail ops i = true) (hr : Ints w r0 zs) (hne : zs = [] ∨ (r0.ownBlock ≠ v0.ownBlock ∧ NB X r0))
    (h : ∀ w', w.grownBy w' v0.ownBlock → (∀ w0, w0.heap.size ≤ B → Ext w0 w → Ext w0 w') → LOX X B w' v0 E (L.set u.toNat zs) → WR P N ops dr Q π l w')
    (ho : LOX X B w v0 E L := by assumption) (h0 : 0 ≤ u := by omega) (h1 : u < L.length := by omega) : WR P N ops dr Q (i :: π) l w := by
  obtain ⟨rows, ho1, ho2, ho3⟩ := ho
  obtain ⟨a, cc, hsl⟩ := Sl.slice hr
  have keepR : ∀ {w' : World} {r : Value} {ys : List Int}, w.grownBy w' v0.ownBlock → Ints w r ys → (ys = [] ∨ r.ownBlock ≠ v0.ownBlock) → Ints w' r ys := by
    intro w' r ys hg hri hd
    rcases hd with rfl | hd
    · exact ints_empty hri
    · exact hri.kept hg hd
  refine ST hi hw hp hx hT (Value.slice_cells _ ⟨_, _, _, hsl⟩) htl (ho := ho1) (h0 := h0) (h1 := by omega) (h := fun w' hg ho' => ?_)
  refine h w' hg (fun w0 hB hE => hE.grown hg ho1 hB) ⟨rows.set u.toNat r0, ho', by simp [ho2], fun i r ys a b => ?_⟩
  by_cases e : u.toNat = i
  · subst e
    have hl1 := (List.getElem?_eq_some_iff.1 a).1
    rw [List.length_set] at hl1
    rw [List.getElem?_set_self hl1] at a
    rw [List.getElem?_set_self (by omega)] at b
    cases a
    cases b
    exact ⟨keepR hg hr (hne.imp id (·.1)), hne⟩
  · rw [List.getElem?_set_ne e] at a b
    have h3 := ho3 i r ys a b
    exact ⟨keepR hg h3.1 (h3.2.imp id (·.1)), h3.2⟩
theorem APX {X : List Nat} {v0 v1 r : Value} {B b : Nat} {E : TypeId} {zv : Value} {L : List (List Int)} {z : List Int} {w0 : World} (hi : ops[i]? = some ⟨some d, .call ⟨.builtin .append, #[x, y], #[T, T]⟩, ty, pos, after, g⟩) (hw : Wt ops N l g) (hd : Nat.blt d N = true) (hx : ev l x = some v0) (hy : ev l y = some v1)
    (hT : SlT P T E zv 1 b) (hz : zv.cells = #[zv]) (htl : dr = true → isTail ops i = false → Ext w w → v0.ownBlock = none) (ho : LOX X B w v0 E L) (hB : B ≤ w.heap.size) (hs : Sl w0 v1 [r]) (hE : Ext w0 w) (hr : Ints w r z) (hne : z = [] ∨ (r.ownBlock ≠ v0.ownBlock ∧ NB X r))
    (hlen : (L.length + 1) * b ≤ 140737488355328) (hlen1 : L.length + 1 ≤ 140737488355328)
    (h : ∀ v w', w.grownBy w' v0.ownBlock → (∀ w0, w0.heap.size ≤ B → Ext w0 w → Ext w0 w') → LOX X B w' v E (L ++ [z]) → WR P N ops dr Q π ((d, v) :: l) w') : WR P N ops dr Q (i :: π) l w := by
  obtain ⟨rows, ho1, ho2, ho3⟩ := ho
  refine AP hi hw hd hx hy hT hz htl ho1 hB hs hE (by intro q hq; obtain rfl : q = r := (by simpa using hq); exact (Sl.slice hr).elim fun a ha => ha.elim fun c hc => Value.slice_cells _ ⟨_, _, _, hc⟩) (by rw [ho2]; simpa using hlen) (by rw [ho2]; simpa using hlen1) (fun v w' hg hX ho' hb => h v w' hg hX ⟨rows ++ [r], ho', by simp [ho2], ?_⟩)
  have keep : ∀ {q : Value} {ys : List Int}, Ints w q ys → (ys = [] ∨ (q.ownBlock ≠ v0.ownBlock ∧ NB X q)) → Ints w' q ys ∧ (ys = [] ∨ (q.ownBlock ≠ v.ownBlock ∧ NB X q)) := fun {q ys} hq hd => by
    rcases Nat.eq_zero_or_pos ys.length with h0 | h0
    · obtain rfl := List.eq_nil_of_length_eq_zero h0
      exact ⟨ints_empty hq, .inl rfl⟩
    · have hd' := hd.resolve_left (List.ne_nil_of_length_pos h0)
      refine ⟨hq.kept hg hd'.1, .inr ⟨fun e => ?_, hd'.2⟩⟩
      obtain ⟨k, hk, hlt⟩ := hq.lt h0
      rcases hb with hb | hb
      · exact hd'.1 (e.trans hb)
      · rw [hb, hk] at e
        have := Option.some.inj e
        omega
  intro i q ys a b'
  rw [List.getElem?_append] at a b'
  by_cases hi' : i < rows.length
  · rw [if_pos hi'] at a
    rw [if_pos (by omega)] at b'
    have h3 := ho3 i q ys a b'
    exact keep h3.1 h3.2
  · rw [if_neg hi'] at a
    rw [if_neg (by omega)] at b'
    have hl0 : i - rows.length = 0 := by
      have := (List.getElem?_eq_some_iff.1 a).1
      simp at this; omega
    rw [hl0] at a
    rw [show i - L.length = 0 by omega] at b'
    simp at a b'
    subst a b'
    exact keep hr hne
theorem LOX.nil (X : List Nat) (B : Nat) (w : World) (E : TypeId) : LOX X B w (.slice none 0 0) E [] := ⟨[], Own.nil B w E, rfl, fun i r zs h => by simp at h⟩
theorem LOX.ll {X : List Nat} {B : Nat} {w : World} {v : Value} {E : TypeId} {L : List (List Int)} (h : LOX X B w v E L) : LL w v L := by
  obtain ⟨rows, h1, h2, h3⟩ := h
  exact ⟨rows, h1.sl, h2, fun i r zs a b => (h3 i r zs a b).1⟩
theorem LOX.lt {X : List Nat} {B : Nat} {w : World} {v : Value} {E : TypeId} {L : List (List Int)} (h : LOX X B w v E L) : ∀ k, v.ownBlock = some k → B ≤ k ∧ k < w.heap.size := by
  obtain ⟨rows, h1, _⟩ := h
  exact h1.lt
theorem row_newX {B B' : Nat} {w w' : World} {v r : Value} {E E' : TypeId} {L : List (List Int)} {zs : List Int} (ho : LOX [] B w v E L) (hr : OwnI B' w' r E' zs) (hB : w.heap.size ≤ B') : zs = [] ∨ (r.ownBlock ≠ v.ownBlock ∧ NB [] r) := by
  rcases Nat.eq_zero_or_pos zs.length with h0 | h0
  · exact .inl (List.eq_nil_of_length_eq_zero h0)
  · right
    obtain ⟨k, hk, _⟩ := (OwnI.ints hr).lt h0
    refine ⟨fun e => ?_, fun _ _ h => by cases h⟩
    have h1 := (Own.lt hr k hk).1
    have h2 := (ho.lt k (e.symm.trans hk)).2
    omega
theorem slv_block (v : Value) (lo hi : Int) : (slv v lo hi).ownBlock = v.ownBlock := by
  cases v <;> try rfl
  rename_i a n c
  cases a with
  | none => simp only [slv, sliced]; split <;> rfl
  | some ad =>
    simp only [slv, sliced]
    split
    · rfl
    · simp only [Option.map_some, Value.ownBlock, Addr.add]
      split <;> rfl
theorem Gr.comp {X X' : List Nat} {a b c : World} (h : Gr X a b) (hX : Newer a X X') (k : Gr X' b c) : Gr X a c :=
  ⟨k.os.trans h.os, k.tape.trans h.tape, k.output.trans h.output, Nat.le_trans h.size k.size, fun j hj hx => (k.block j (Nat.lt_of_lt_of_le hj h.size) (fun hx' => by
    rcases hX j hx' with h1 | h1
    · exact hx h1
    · omega)).trans (h.block j hj hx)⟩
end
theorem intsX_new {X : List Nat} {w w' : World} {v : Value} {z : List Int} (h : Ints w' v z) (hb : v.ownBlock = some w.heap.size) (hX : ∀ k ∈ X, k < w.heap.size) : IntsX X w' v z := ⟨h, .inr fun k hk hx => by
  rw [hb] at hk
  cases hk
  have := hX _ hx
  omega⟩
section
variable {P : Program} {N : Nat} {l : Env} {w : World} {x y : Operand} {T T' : TypeId} {ty : TypeId}
end
section
variable {P : Program} {N : Nat} {l : Env} {w : World} {x y : Operand} {T : TypeId} {ty : TypeId} {u : Int}
structure ArT (P : Program) (T E : TypeId) (n : Nat) : Prop where
  und : P.underlying T = some (.array n E)
  sz : ∃ j, P.info? E = some j ∧ j.size = 1
end
structure Fnd (P : Program) (w0 : World) (fc : FuncId) (fs cs : List Value) (M : Nat) (J : List (List Int) → List Nat → World → Prop) : Prop where
  enter : ∀ args w, (callFunc fc args).run P w = .ok (.enter fc args) w
  call : ∀ pre X w v z, J pre X w → pre.length < M → Ext w0 w → Ints w v z → z.length ≤ 64 → Calls P fc (fs ++ [v] ++ cs).toArray w (Ret fun _ w' => ∃ X', J (pre ++ [z]) X' w' ∧ Gr X w w' ∧ Newer w X X')
  ext : ∀ pre X w w', J pre X w → Ext w w' → J pre X w'
  lt : ∀ pre X w, J pre X w → ∀ k ∈ X, k < w.heap.size ∧ w0.heap.size ≤ k
theorem LL.llx {X : List Nat} {w : World} {v : Value} {L : List (List Int)} (h : LL w v L) (hX : ∀ k ∈ X, w.heap.size ≤ k) : LLX X w v L := by
  obtain ⟨rows, h1, h2, h3⟩ := h
  refine ⟨rows, h1, h2, ?_, fun i r zs a b => ⟨h3 i r zs a b, ?_⟩⟩
  · rcases Nat.eq_zero_or_pos L.length with h0 | h0
    · exact .inl (List.eq_nil_of_length_eq_zero h0)
    · right
      intro k hk hx
      obtain ⟨q, hq, hlt⟩ := h1.lt (by omega)
      rw [hq] at hk; cases hk
      have := hX _ hx
      omega
  · rcases Nat.eq_zero_or_pos zs.length with h0 | h0
    · exact .inl (List.eq_nil_of_length_eq_zero h0)
    · right
      intro k hk hx
      obtain ⟨q, hq, hlt⟩ := (h3 i r zs a b).lt h0
      rw [hq] at hk; cases hk
      have := hX _ hx
      omega
end Go.Sx


namespace Go.Sx
open Go Go.RowKit Go.Pl
def BO (X : List Nat) (B : Nat) (w : World) (v : Value) (E : TypeId) (Ls : List (List (List Int))) : Prop :=
  ∃ us, Own B w v E us ∧ us.length = Ls.length ∧ ∀ (i : Nat) u L, us[i]? = some u → Ls[i]? = some L → LLX X w u L
theorem IntsX.less {X X' : List Nat} {w : World} {v : Value} {z : List Int} (h : IntsX X' w v z) (hX : ∀ k ∈ X, k ∈ X') : IntsX X w v z := ⟨h.1, h.2.imp id fun h4 k hk hx => h4 k hk (hX k hx)⟩
theorem LLX.less {X X' : List Nat} {w : World} {v : Value} {L : List (List Int)} (h : LLX X' w v L) (hX : ∀ k ∈ X, k ∈ X') : LLX X w v L := by
  obtain ⟨rows, h1, h2, h0, h3⟩ := h
  exact ⟨rows, h1, h2, h0.imp id fun h4 k hk hx => h4 k hk (hX k hx), fun i r zs a b => (h3 i r zs a b).less hX⟩
section
variable {P : Program} {N : Nat} {l : Env} {w : World} {ops : Array Oper} {dr : Bool} {Q : Act → World → Prop} {π : List Nat} {i d : Nat} {v : Value} {op : Op} {ty : TypeId} {pos : String} {after : Array Edge} {g : Option (Nat × Bool)}
variable {p x : Operand} {u : Int} {T : TypeId}
end
end Go.Sx


namespace Go.Sx
open Go Go.RowKit Go.Pl
section
variable {P : Program} {N : Nat} {l : Env} {w : World} {Q : Exit → Act → World → Prop}
end
section
variable {P : Program} {N : Nat} {l : Env} {w : World} {v : Value} {ty : TypeId} {x y : Operand} {T E : TypeId} {u : Int}
theorem post_retC1 {fn : Func} {t b : Nat} {n : Nat} {tb : TypeId} {cs : List Value} {R : Ending → World → Prop} (hr : fn.results = #[.cell t T]) (hp : lk l t = some (.pointer (some ⟨b, 0, none⟩)))
    (hA : AG P T n) (hB : Blk w b tb cs.toArray) (hn : cs.length = n) (hR : R (.returned (.agg cs.toArray)) w) :
    Post N (bodyPost P fn R) .ret l w := fun a ha => by
  refine ⟨ha.defers, .agg cs.toArray, ?_, hR⟩
  have h1 := ha.slots _ _ hp
  have hl := run_loadCells_list (P := P) w ⟨b, 0, none⟩ cs (fun j v hv => by rw [Addr.add_lit]; exact hB.cell (by simpa using hv))
  rw [hn] at hl
  simp [results, hr, h1, asAddr, loadVar, hA.agg w, hA.size w, hl]
end
end Go.Sx


namespace Go.Fr
open Go Go.Sx Go.Pl Go.RowKit Go.ChangeShapes Go.WideShapes
section
variable {H : Type} {enc : TypeId × Value → H} {P : Program} {w : World} {base : Nat} {spare : Nat → Bool} {held : Bool} {t e : TypeId} {fuel : Nat} {cs : List Value} {d : DataW H} {ps : List MemPlace}
def WOK (P : Program) (t : TypeId) (d : DataW H) : Prop := (d.weights P t).all (· ≤ reachBytes) = true
def Fits (z : Int) : Prop := -9223372036854775808 ≤ z ∧ z ≤ 9223372036854775807
theorem wok_arg {ts : List TypeId} {ds : List (DataW H)} (h : (DataW.weightsEach P ts ds).all (· ≤ reachBytes) = true) {j : Nat} (ht : ts[j]? = some t) (hd : ds[j]? = some d) : WOK P t d :=
  List.all_eq_true.2 fun n hn => List.all_eq_true.1 h n (DataW.weights_mem_each ht hd n hn)
theorem cop_int (ht : P.underlying t = some (.int .i64)) (h : DataW.trod enc P w base spare held fuel t cs = some (d, ps)) : ∃ n, cs = [.int .i64 n] ∧ Fits n := by
  obtain ⟨n, hcs, _, hw⟩ := DataW.trod_int ht h
  exact ⟨n, hcs, bounds_i64 hw⟩
theorem len_fit {n m : Nat} (h : n * 8 ≤ reachBytes) (hm : m ≤ n) : m ≤ 17592186044416 := by
  have h1 : reachBytes ≤ 140737488355328 := by decide
  omega
def LFit (zs : List Int) : Prop := (∀ z ∈ zs, Fits z) ∧ zs.length ≤ 17592186044416
theorem cop_intsL (ht : P.underlying t = some (.slice e)) (he : P.underlying e = some (.int .i64)) (hc : P.cellsOf e = 1) (hb : P.bytesOf e = 8) (h : DataW.trod enc P w base spare held fuel t cs = some (d, ps)) (hw : WOK P t d) :
    ∃ v zs, cs = [v] ∧ Ints w v zs ∧ LFit zs := by
  rcases open_ints ht he hc h with ⟨rfl, _⟩ | ⟨a, len, cap, zs, rfl, _, hl, _, hz, hx, hcell, hwz⟩
  · exact ⟨_, [], rfl, Ints.nil w, by simp, by simp⟩
  · obtain ⟨rfl, _⟩ := Prod.mk.inj hx
    have hzl : len ≤ zs.length := by rw [hz]; split <;> omega
    have hr : zs.length * 8 ≤ reachBytes := by
      have h1 := List.all_eq_true.1 hw ((lits (H := H) .i64 (zs.take len)).length * P.bytesOf e + (lits (H := H) .i64 (zs.drop len)).length * P.bytesOf e)
        (by simp [DataW.weights, ht, Nat.add_mul])
      rw [hb] at h1
      simp only [lits, List.length_map, List.length_take, List.length_drop, decide_eq_true_eq] at h1
      omega
    have hlen : (zs.take len).length = len := by rw [List.length_take]; omega
    refine ⟨_, zs.take len, rfl, ⟨⟨some a, cap, by rw [List.length_map, hlen], by simp only [List.length_map, hlen]; omega, fun _ => ⟨a, rfl, ?_⟩⟩, ?_⟩, fun z hz' => bounds_i64 (hwz z (List.mem_of_mem_take hz')), (by rw [hlen]; exact len_fit hr hzl)⟩
    · intro j u hu
      rw [List.getElem?_map, List.getElem?_take] at hu
      split at hu
      · rename_i hj
        have hjl : j < zs.length := by omega
        rw [hcell j hjl]
        simp [List.getElem?_eq_getElem hjl] at hu
        simp [hjl, hu]
      · simp at hu
    · have : reachBytes ≤ 140737488355328 := by decide
      simp only [List.length_map, hlen]
      omega
theorem op_int {r : Reach} {b0 : Nat} {v : Value} (ht : P.underlying t = some (.int .i64)) (hval : Value.okWide P w r b0 t v) (hd : DataW.Trod enc P w base spare held t v d ps) : ∃ n, v = .int .i64 n ∧ Fits n := by
  obtain ⟨n, rfl, _, _, hw⟩ := open_int ht hval hd
  exact ⟨n, rfl, bounds_i64 hw⟩
theorem op_intsL {r : Reach} {b0 : Nat} {v : Value} (ht : P.underlying t = some (.slice e)) (he : P.underlying e = some (.int .i64)) (hc : P.cellsOf e = 1) (hb : P.bytesOf e = 8) (hval : Value.okWide P w r b0 t v) (hd : DataW.Trod enc P w base spare held t v d ps) (hw : WOK P t d) :
    ∃ zs, Ints w v zs ∧ LFit zs := by
  obtain ⟨a, len, cap, rfl⟩ := okWide_slice ht hval
  obtain ⟨fuel, hf⟩ := hd
  obtain ⟨v', zs, hcs, h1, h2⟩ := cop_intsL ht he hc hb hf hw
  have e1 : v' = .slice a len cap := by simpa [Value.cells] using hcs.symm
  subst e1
  exact ⟨zs, h1, h2⟩
theorem op_ints {r : Reach} {b0 : Nat} {v : Value} (ht : P.underlying t = some (.slice e)) (he : P.underlying e = some (.int .i64)) (hc : P.cellsOf e = 1) (hb : P.bytesOf e = 8) (hval : Value.okWide P w r b0 t v) (hd : DataW.Trod enc P w base spare held t v d ps) (hw : WOK P t d) :
    ∃ zs, Ints w v zs ∧ ∀ z ∈ zs, Fits z := by
  obtain ⟨zs, h1, h2⟩ := op_intsL ht he hc hb hval hd hw
  exact ⟨zs, h1, h2.1⟩
end
end Go.Fr


namespace Go.Fr
open Go Go.Sx Go.Pl Go.RowKit Go.ChangeShapes Go.WideShapes
section
variable {H : Type} {enc : TypeId × Value → H} {P : Program} {w : World} {base : Nat} {spare : Nat → Bool} {held : Bool} {t e : TypeId} {fuel : Nat} {cs : List Value} {d : DataW H} {ps : List MemPlace}
theorem cop_struct {fs : Array Field} (ht : P.underlying t = some (.struct fs)) (h : DataW.trod enc P w base spare held fuel t cs = some (d, ps)) (hw : WOK P t d) :
    cs.length = P.cellsOf t ∧ ∀ (i : Nat) (f : Field), fs[i]? = some f → ∃ n x, DataW.trod enc P w base spare held n f.type ((cs.drop f.offset).take (P.cellsOf f.type)) = some x ∧ WOK P f.type x.1 := by
  obtain ⟨xs, n, _, hx, hl, hxl, hf⟩ := DataW.trod_struct ht h
  obtain ⟨rfl, _⟩ := Prod.mk.inj hx
  refine ⟨hl, fun i f hi => ?_⟩
  have hlt : i < xs.length := by
    rw [hxl]
    exact (Array.getElem?_eq_some_iff.1 hi).1
  refine ⟨n, xs[i], by rw [hf i f hi]; simp [hlt], ?_⟩
  have hw' : (DataW.weightsEach P (fs.toList.map (·.type)) (xs.map (·.1))).all (· ≤ reachBytes) = true := by
    have := hw
    simpa [WOK, DataW.weights, ht] using this
  exact wok_arg hw' (j := i) (by simp [hi]) (by simp [hlt])
structure FRec where
  p : Int
  M : Int
  mo : Value
  md : List Int
def FRec.v (r : FRec) : Value := .agg #[.int .i64 r.p, .int .i64 r.M, r.mo]
structure FOf (w : World) (r : FRec) : Prop where
  ints : Ints w r.mo r.md
  p : Fits r.p
  M : Fits r.M
  md : LFit r.md
structure FT (P : Program) (t : TypeId) : Prop where
  ex : ∃ (f0 f1 f2 : Field) (e : TypeId), P.underlying t = some (.struct #[f0, f1, f2]) ∧ P.cellsOf t = 3 ∧ f0.offset = 0 ∧ f1.offset = 1 ∧ f2.offset = 2 ∧ P.cellsOf f0.type = 1 ∧ P.cellsOf f1.type = 1 ∧ P.cellsOf f2.type = 1 ∧
    P.underlying f0.type = some (.int .i64) ∧ P.underlying f1.type = some (.int .i64) ∧ P.underlying f2.type = some (.slice e) ∧ P.underlying e = some (.int .i64) ∧ P.cellsOf e = 1 ∧ P.bytesOf e = 8
theorem cop_field (hT : FT P t) (h : DataW.trod enc P w base spare held fuel t cs = some (d, ps)) (hw : WOK P t d) :
    ∃ r : FRec, cs = [.int .i64 r.p, .int .i64 r.M, r.mo] ∧ FOf w r := by
  obtain ⟨f0, f1, f2, e, ht, hC, o0, o1, o2, c0, c1, c2, u0, u1, u2, ue, ce, be⟩ := hT.ex
  obtain ⟨hl, hf⟩ := cop_struct ht h hw
  rw [hC] at hl
  match cs, hl with
  | [a, b, c], _ =>
    obtain ⟨n0, x0, h0, w0⟩ := hf 0 f0 rfl
    obtain ⟨n1, x1, h1, w1⟩ := hf 1 f1 rfl
    obtain ⟨n2, x2, h2, w2⟩ := hf 2 f2 rfl
    rw [o0, c0] at h0
    rw [o1, c1] at h1
    rw [o2, c2] at h2
    obtain ⟨p, hp, bp⟩ := cop_int u0 (d := x0.1) (ps := x0.2) h0
    obtain ⟨M, hM, bM⟩ := cop_int u1 (d := x1.1) (ps := x1.2) h1
    obtain ⟨mo, md, hm, hi, bm⟩ := cop_intsL u2 ue ce be (d := x2.1) (ps := x2.2) h2 w2
    simp at hp hM hm
    subst hp hM hm
    exact ⟨⟨p, M, c, md⟩, rfl, hi, bp, bM, bm⟩
theorem op_struct {fs : Array Field} {r : Reach} {b0 : Nat} {v : Value} (ht : P.underlying t = some (.struct fs)) (hval : Value.okWide P w r b0 t v) (hd : DataW.Trod enc P w base spare held t v d ps) :
    ∃ (cs : Array Value) (fuel : Nat), v = .agg cs ∧ DataW.trod enc P w base spare held fuel t cs.toList = some (d, ps) := by
  obtain ⟨cs, rfl, _⟩ := okWide_struct ht hval
  obtain ⟨fuel, hf⟩ := hd
  exact ⟨cs, fuel, rfl, hf⟩
structure LRec where
  f : FRec
  A : Value
  B : Value
  C : Value
  a : List Int
  b : List Int
  c : List Int
def LRec.v (r : LRec) : Value := .agg #[.int .i64 r.f.p, .int .i64 r.f.M, r.f.mo, r.A, r.B, r.C]
structure LOf (w : World) (r : LRec) : Prop where
  f : FOf w r.f
  A : Ints w r.A r.a
  B : Ints w r.B r.b
  C : Ints w r.C r.c
  a : LFit r.a
  b : LFit r.b
  c : LFit r.c
structure LT (P : Program) (t : TypeId) : Prop where
  ex : ∃ (f0 f1 f2 f3 : Field) (e : TypeId), P.underlying t = some (.struct #[f0, f1, f2, f3]) ∧ P.cellsOf t = 6 ∧ f0.offset = 0 ∧ f1.offset = 3 ∧ f2.offset = 4 ∧ f3.offset = 5 ∧ P.cellsOf f0.type = 3 ∧ P.cellsOf f1.type = 1 ∧ P.cellsOf f2.type = 1 ∧ P.cellsOf f3.type = 1 ∧
    FT P f0.type ∧ P.underlying f1.type = some (.slice e) ∧ P.underlying f2.type = some (.slice e) ∧ P.underlying f3.type = some (.slice e) ∧ P.underlying e = some (.int .i64) ∧ P.cellsOf e = 1 ∧ P.bytesOf e = 8
end
end Go.Fr


namespace Go.Fr
open Go Go.Sx Go.Pl Go.RowKit Go.ChangeShapes Go.WideShapes
section
variable {H : Type} {enc : TypeId × Value → H} {P : Program} {w : World} {base : Nat} {spare : Nat → Bool} {held : Bool} {t e q : TypeId} {fuel : Nat} {cs : List Value} {d : DataW H} {ps : List MemPlace}
theorem weightsAll_mem {d : DataW H} {n : Nat} : ∀ {l : List (DataW H)}, d ∈ l → n ∈ d.weights P e → n ∈ DataW.weightsAll P e l
  | [], h, _ => by cases h
  | x :: r, h, hn => by
    rw [DataW.weightsAll]
    rcases List.mem_cons.1 h with rfl | h
    · exact List.mem_append_left _ hn
    · exact List.mem_append_right _ (weightsAll_mem h hn)
def LLFit (L : List (List Int)) : Prop := (∀ z ∈ L, LFit z) ∧ L.length ≤ 17592186044416
theorem cop_intss (ht : P.underlying t = some (.slice e)) (he : P.underlying e = some (.slice q)) (hq : P.underlying q = some (.int .i64)) (ce : P.cellsOf e = 1) (cq : P.cellsOf q = 1) (be : 8 ≤ P.bytesOf e) (bq : P.bytesOf q = 8)
    (h : DataW.trod enc P w base (fun _ => true) held fuel t cs = some (d, ps)) (hw : WOK P t d) : ∃ v L, cs = [v] ∧ LL w v L ∧ LLFit L := by
  rcases Go.Deep.open_int_rows ht he hq ce cq h with ⟨rfl, _⟩ | ⟨a, len, cap, A, L, C, Z, rfl, _, hl, hm, hx, hrow⟩
  · exact ⟨_, [], rfl, LL.nil w, by simp, by simp⟩
  · obtain ⟨rfl, _⟩ := Prod.mk.inj hx
    have hrb : reachBytes ≤ 140737488355328 := by decide
    have hsz : ∀ r, r < len → (Z r).length ≤ 17592186044416 := fun r hr => by
      obtain ⟨h1, h2, h3, h4, h5, h6, h7⟩ := hrow r (by omega)
      rcases hA : A r with _ | a'
      · have := h6 hA; omega
      · have hin : (Go.Deep.intRow (H := H) .i64 (A r) (L r) (Z r)) ∈ (List.range len).map fun r => Go.Deep.intRow (H := H) .i64 (A r) (L r) (Z r) := List.mem_map.2 ⟨r, List.mem_range.2 hr, rfl⟩
        have h8 := List.all_eq_true.1 hw ((Z r).length * P.bytesOf q) (by
          simp only [DataW.weights, ht]
          refine List.mem_cons_of_mem _ (List.mem_append_left _ (weightsAll_mem hin ?_))
          rw [hA]
          simp only [Go.Deep.intRow, DataW.weights, he, lits, List.length_map, List.length_take, List.length_drop]
          refine List.mem_cons.2 (.inl ?_)
          congr 1
          omega)
        rw [bq] at h8
        simp only [decide_eq_true_eq] at h8
        omega
    have hlen0 : len ≤ 17592186044416 := by
      have h8 := List.all_eq_true.1 hw ((len + (cap - len)) * P.bytesOf e) (by simp [DataW.weights, ht])
      simp only [decide_eq_true_eq] at h8
      have h9 : (len + (cap - len)) * 8 ≤ (len + (cap - len)) * P.bytesOf e := Nat.mul_le_mul_left _ be
      omega
    refine ⟨_, tab len fun r => (Z r).take (L r), rfl, ⟨tab len fun r => .slice (A r) (L r) (C r), ⟨⟨some a, cap, by rw [tab_length], by rw [tab_length]; exact hl, fun _ => ⟨a, rfl, fun j u hu => ?_⟩⟩, by rw [tab_length]; omega⟩, by rw [tab_length, tab_length], fun i r zs hr hz => ?_⟩, fun z hz => ?_, ?_⟩
    · have hj : j < len := by
        have := (List.getElem?_eq_some_iff.1 hu).1
        rwa [tab_length] at this
      rw [tab_get hj] at hu
      cases hu
      exact (hrow j (by omega)).1
    · have hj : i < len := by
        have := (List.getElem?_eq_some_iff.1 hr).1
        rwa [tab_length] at this
      rw [tab_get hj] at hr hz
      cases hr
      cases hz
      obtain ⟨h1, h2, h3, h4, h5, h6, h7⟩ := hrow i (by omega)
      have hlen : ((Z i).take (L i)).length = L i := by rw [List.length_take]; omega
      refine ⟨⟨A i, C i, by rw [List.length_map, hlen], by rw [List.length_map, hlen]; exact h2, fun h0 => ?_⟩, by rw [List.length_map, hlen]; have := hsz i hj; omega⟩
      rw [List.length_map, hlen] at h0
      rcases hA : A i with _ | a'
      · have := h6 hA; omega
      · refine ⟨a', rfl, fun j u hu => ?_⟩
        rw [List.getElem?_map, List.getElem?_take] at hu
        split at hu
        · rename_i hjl
          have hjz : j < (Z i).length := by omega
          rw [(h7 a' hA).2 j (by omega)]
          simp [hjz] at hu
          simp [hjz, hu]
        · simp at hu
    · rw [tab, List.mem_map] at hz
      obtain ⟨r, hr, rfl⟩ := hz
      have hr' := List.mem_range.1 hr
      obtain ⟨h1, h2, h3, h4, h5, h6, h7⟩ := hrow r (by omega)
      refine ⟨fun z hz => bounds_i64 (h5 z (List.mem_of_mem_take hz)), ?_⟩
      rw [List.length_take]
      have := hsz r hr'
      omega
    · rw [tab_length]; exact hlen0
end
end Go.Fr


namespace Go.Sx
open Go Go.RowKit Go.Pl
section
variable {P : Program} {N : Nat} {l : Env} {w : World} {ops : Array Oper} {dr : Bool} {Q : Act → World → Prop} {π : List Nat} {i d : Nat} {v : Value} {op : Op} {ty : TypeId} {pos : String} {after : Array Edge} {g : Option (Nat × Bool)}
variable {x y c p : Operand} {u z : Int} {T T' : TypeId}
theorem CVX {f : FuncId} {fs cs : List Value} {cl : List Operand} {ats : Array TypeId} {vs : List Value} {Φ : Value → World → Prop} (hi : ops[i]? = some ⟨some d, .call ⟨.value x, cl.toArray, ats⟩, ty, pos, after, g⟩) (hw : Wt ops N l g) (hd : Nat.blt d N = true)
    (hx : ev l x = some (.func (.func f) fs.toArray cs.toArray)) (hv : evs l cl = some vs) (hf : ∀ args w, (callFunc f args).run P w = .ok (.enter f args) w) (hc : Calls P f (fs ++ vs ++ cs).toArray w (RetX w Φ))
    (h : ∀ v w', Ext w w' → Φ v w' → WR P N ops dr Q π ((d, v) :: l) w') : WR P N ops dr Q (i :: π) l w := fun a ha => by
  refine ⟨_, hi, ?_⟩
  rw [if_pos (hw a ha _ rfl)]
  refine .inr ⟨rfl, ?_⟩
  have hm := ha.evals hv
  have hrun : (execOp a.eval ⟨some d, .call ⟨.value x, cl.toArray, ats⟩, ty, pos, after, g⟩).run P w = .ok (.enter f (fs ++ vs ++ cs).toArray) w := by
    simp only [execOp, resolve, List.map_toArray, hm, ha.eval hx, Deferred.ofValue]
    simp [invoke, hf]
  unfold Oper.wp
  rw [hrun, Oper.upon_enter]
  refine hc.mono fun e w' he => ?_
  cases e with
  | returned v => exact ⟨⟨v, rfl⟩, fun _ _ => he.1, h v w' he.1 he.2 _ (ha.put hd v)⟩
  | panicked c => exact he
  | outgrown => exact he.elim
theorem geqK {k : IntKind} (hx : ev l x = some (.int k u)) (hy : ev l y = some (.int k z)) : Yl P N (.binOp .geq T x y T') ty l w (.bool (decide (z ≤ u))) :=
  yl_bin hx hy (fun w => by rw [binOp_geq]; simp) (fun _ _ _ => eqGuard_int)
theorem cvK {k : IntKind} {q : IntKind} (hx : ev l x = some (.int k u)) (hs : (P.underlying T).isSome = true) (hd : P.underlying T' = some (.int q)) : Yl P N (.convert T T' x) ty l w (.int q (q.wrap u)) := fun a ha w' _ o ho _ => by
  have e : P.intKind T' = q := by simp [Program.intKind, hd]
  have h := run_convert_int (P := P) w' T T' k u hs (by rw [e]; exact hd)
  rw [e] at h
  simp [execOp, ho, ha.eval hx, h]
theorem ixS {s : ByteArray} {k : IntKind} (hx : ev l x = some (.string s)) (hy : ev l y = some (.int k u)) (hT : P.underlying T = some .string) (h0 : 0 ≤ u) (h1 : u < s.size) : Yl P N (.index T x y) ty l w (.int .u8 ((s[u.toNat]'(by omega)).toNat : Int)) := fun a ha w' _ o ho _ => by
  have h := run_index_string (P := P) w' T s k u hT
  rw [dif_pos ⟨h0, h1⟩] at h
  simp [execOp, ho, ha.eval hx, ha.eval hy, h]
end
end Go.Sx

