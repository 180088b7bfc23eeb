/-
  The walking framework: ranges over functions. Code within a round, and code behind a loop (where a mark stands among the deferred calls), is walked by 'wi_..' as by 'wc_..' elsewhere.
-/
import Derived.Test.YtlcokneidokfnaaSxScope
import Derived.Test.YtlcokneidokfnaaSxFn
import Derived.RangeFuncWrites
import Derived.RangeFuncRecord
namespace Go.Sx
open Go Go.RowKit Go.Pl

/-- The fence that asks nothing, in a round or not. -/
def ro (r : Option Nat) : Fence := { Fence.wide with round := r }
section
variable {P : Program} {r : Option Nat} {n : Nat}
theorem ci_of {f : FuncId} {args : Array Value} {w : World} {R : Ending → World → Prop} (h : Calls P f args w R) : CallsIn (ro r) n P f args w R := (callsIn_wide (n := n)).2 h
theorem ci_to {f : FuncId} {args : Array Value} {w : World} {R : Ending → World → Prop} (h : CallsIn (ro r) n P f args w R) : Calls P f args w R := (callsIn_wide (n := n)).1 h

/-- No operation defers a call. -/
def noDefer (ops : Array Oper) : Bool := ops.toList.all fun o => match o.op with
  | .defer _ => false
  | _ => true
theorem noDefer_at {ops : Array Oper} (h : noDefer ops = true) {i : Nat} {o : Oper} (hi : ops[i]? = some o) : ∀ c, o.op ≠ .defer c := fun c hc => by
  have := List.all_eq_true.1 h o (Array.mem_toList_iff.2 (Array.mem_of_getElem? hi))
  rw [hc] at this
  cases this
theorem put_defers (a : Act) (ds : List Deferred) (d : Option Tmp) (v : Value) : ({ a with defers := ds } : Act).put d v = { a.put d v with defers := ds } := by
  cases d <;> rfl
theorem eval_defers (a : Act) (ds : List Deferred) : ({ a with defers := ds } : Act).eval = a.eval := by
  funext x; cases x <;> rfl
theorem wpOpsIn_of_RL {ops : Array Oper} {ds : List Deferred} {K : Act → World → Prop} {Q : Exit → Act → World → Prop} {ρ : List Nat} (hnd : noDefer ops = true) (hQ : ∀ a w, K a w → wpOpsIn (ro r) n P ops Q ρ { a with defers := ds } w) :
    ∀ (l : List Nat) (a : Act) (w : World), RL P ops false K l a w → wpOpsIn (ro r) n P ops Q (l ++ ρ) { a with defers := ds } w
  | [], a, w, h => hQ _ _ h
  | i :: π, a, w, h => by
    obtain ⟨o, ho, h⟩ := h
    have hsem : ∀ ρ', Oper.semAt (ro r).round ρ' o = execOp ρ' o := fun ρ' => Oper.semAt_eq _ _ _ (noDefer_at hnd ho)
    simp only [List.cons_append, wpOpsIn, ho]
    split
    · rename_i hw
      rw [if_pos hw] at h
      refine ⟨fun _ _ => trivial, ?_⟩
      rw [hsem, eval_defers]
      rcases h with ⟨_, v, hv, hq⟩ | ⟨_, hq⟩
      · rw [hv w (Ext.refl w)]
        show wpOpsIn (ro r) n P ops Q (π ++ ρ) (({ a with defers := ds } : Act).put o.dst v) w
        rw [put_defers]
        exact wpOpsIn_of_RL hnd hQ π _ _ hq
      · unfold Oper.wp at hq
        have next : ∀ a' w', ((∃ v, a' = a.put o.dst v) ∧ (false = true → isTail ops i = false → Ext w w') ∧ RL P ops false K π a' w') → wpOpsIn (ro r) n P ops Q (π ++ ρ) { a' with defers := ds } w' :=
          fun a' w' h => wpOpsIn_of_RL hnd hQ π _ _ h.2.2
        match hr : (execOp a.eval o).run P w with
        | .ok (.value v) w' =>
          rw [hr] at hq
          have := next _ _ hq
          show wpOpsIn (ro r) n P ops Q (π ++ ρ) (({ a with defers := ds } : Act).put o.dst v) w'
          rwa [put_defers]
        | .ok .skip w' =>
          rw [hr] at hq
          have := next _ _ hq
          show wpOpsIn (ro r) n P ops Q (π ++ ρ) (({ a with defers := ds } : Act).put o.dst undef) w'
          rwa [put_defers]
        | .ok (.defer d) w' =>
          rw [hr] at hq
          obtain ⟨⟨v, hv⟩, _⟩ := hq
          have : (d :: a.defers).length = a.defers.length := by
            have h1 := congrArg Act.defers hv
            cases hd : o.dst <;> rw [hd] at h1 <;> exact congrArg List.length h1
          simp at this
        | .ok (.enter f args) w' =>
          rw [hr] at hq
          refine ⟨fun h => (by cases h), ci_of (Calls.mono hq fun e w'' he => ?_)⟩
          cases e with
          | returned v =>
            have := next _ _ he
            show wpOpsIn (ro r) n P ops Q (π ++ ρ) (({ a with defers := ds } : Act).put o.dst v) w''
            rwa [put_defers]
          | panicked c => exact he.elim
          | outgrown => obtain ⟨_, _, hf⟩ := he; exact hf.elim
        | .ok (.row row args) w' =>
          rw [hr] at hq
          refine ⟨fun h => (by cases h), fun c cs _ => ?_⟩
          obtain ⟨v, w'', h1, h2⟩ := hq c cs
          refine ⟨v, w'', ?_, stepsIn_wide.2 h2⟩
          have := next _ _ h1
          show wpOpsIn (ro r) n P ops Q (π ++ ρ) (({ a with defers := ds } : Act).put o.dst v) w''
          rwa [put_defers]
        | .ok (.round a1 a2 a3 a4 a5) w' => rw [hr] at hq; exact hq.elim
        | .halt (.panic v) w' => rw [hr] at hq; exact hq.elim
        | .ok (.callThen _ _ _ _) w' => rw [hr] at hq; exact hq.elim
        | .ok (.stack _ _) w' => rw [hr] at hq; exact hq.elim
        | .ok .recover w' => rw [hr] at hq; exact hq.elim
        | .ok (.spawn _) w' => rw [hr] at hq; exact hq.elim
        | .ok (.comm _ _ _) w' => rw [hr] at hq; exact hq.elim
        | .ok .numGoroutine w' => rw [hr] at hq; exact hq.elim
        | .ok .collect w' => rw [hr] at hq; exact hq.elim
        | .ok (.watch _) w' => rw [hr] at hq; exact hq.elim
        | .ok (.newcoro _ _) w' => rw [hr] at hq; exact hq.elim
        | .ok (.coroswitch _ _) w' => rw [hr] at hq; exact hq.elim
        | .ok (.sleep _) w' => rw [hr] at hq; exact hq.elim
        | .ok (.timer _) w' => rw [hr] at hq; exact hq.elim
        | .ok (.alone _ _) w' => rw [hr] at hq; exact hq.elim
        | .halt .blocked w' => rw [hr] at hq; exact hq.elim
        | .halt .waiting w' => rw [hr] at hq; exact hq.elim
        | .halt (.exit _) w' => rw [hr] at hq; exact hq.elim
        | .halt (.fatal _) w' => rw [hr] at hq; exact hq.elim
        | .halt (.throw _) w' => rw [hr] at hq; exact hq.elim
        | .halt .goexit w' => rw [hr] at hq; exact hq.elim
        | .halt (.unsupported _) w' => rw [hr] at hq; exact hq.elim
        | .halt (.stuck _) w' => rw [hr] at hq; exact hq.elim
    · rename_i hw
      rw [if_neg hw] at h
      refine ⟨fun _ _ => trivial, ?_⟩
      rw [put_defers]
      exact wpOpsIn_of_RL hnd hQ π _ _ h
end

/-! ### The judgements -/
/-- The frame holds the environment; its deferred calls are ds. -/
def AtD (N : Nat) (ds : List Deferred) (a : Act) (l : Env) : Prop := a.defers = ds ∧ At N { a with defers := [] } l
theorem AtD.sub {N : Nat} {ds : List Deferred} {a : Act} {l m : Env} (h : AtD N ds a l) (hs : Sub l m) : AtD N ds a m := ⟨h.1, h.2.sub hs⟩
theorem AtD.eval {N : Nat} {ds : List Deferred} {a : Act} {l : Env} (h : AtD N ds a l) {x : Operand} {v : Value} (hx : ev l x = some v) : a.eval x = v := by
  rw [← eval_defers a []]; exact h.2.eval hx
section
variable (P : Program) (r : Option Nat) (n : Nat) (ds : List Deferred) (N : Nat)
def WI (c : Code) (Q : Exit → Act → World → Prop) (l : Env) (w : World) : Prop := ∀ a, AtD N ds a l → c.wpIn (ro r) n P Q a w
def PostD (Q : Exit → Act → World → Prop) (e : Exit) (l : Env) (w : World) : Prop := ∀ a, AtD N ds a l → Q e a w
end
section
variable {P : Program} {r : Option Nat} {n : Nat} {ds : List Deferred} {N : Nat} {Q : Exit → Act → World → Prop} {l : Env} {w : World} {ops : Array Oper}
theorem atd_eta {a : Act} (h : a.defers = ds) : ({ a with defers := ds } : Act) = a := by cases a; cases h; rfl
/-- What the operations of a region come to. -/
def RegQ (ds : List Deferred) (Q : Exit → Act → World → Prop) : Exit → Act → World → Prop := fun e a w => Q e { a with defers := ds } w
theorem wi_region {id : Nat} (π : List Nat) (hπ : List.range ops.size = π) (h : WR P N ops false (RegQ ds Q .normal) π l w) (hnd : noDefer ops = true := by kernel_rfl) : WI P r n ds N (.region id ops false) Q l w := by
  intro a ha
  refine wpIn_region ?_
  have := wpOpsIn_of_RL (ds := ds) (r := r) (n := n) (Q := Q) (ρ := []) hnd (fun a w hk => hk) π _ w (h _ ha.2)
  rw [List.append_nil, show ({ ({ a with defers := [] } : Act) with defers := ds } : Act) = a from atd_eta ha.1] at this
  rw [hπ]
  exact this
theorem wir_nil (h : PostD ds N Q .normal l w) : WR P N ops false (RegQ ds Q .normal) [] l w := fun a ha => h _ ⟨rfl, by rw [← ha.defers] at *; cases a; exact ha⟩
/-- A region whose operation i is a call of yield: up to there, and from there on. -/
def YieldQ (P : Program) (r : Option Nat) (n : Nat) (ds : List Deferred) (ops : Array Oper) (Q : Exit → Act → World → Prop) (ρ : List Nat) : Act → World → Prop := fun a w => wpOpsIn (ro r) n P ops Q ρ { a with defers := ds } w
theorem wi_regionY {id : Nat} (π ρ : List Nat) (hπ : List.range ops.size = π ++ ρ) (h : WR P N ops false (YieldQ P r n ds ops Q ρ) π l w) (hnd : noDefer ops = true := by kernel_rfl) : WI P r n ds N (.region id ops false) Q l w := by
  intro a ha
  refine wpIn_region ?_
  have := wpOpsIn_of_RL (ds := ds) (r := r) (n := n) (Q := Q) (ρ := ρ) hnd (fun a w hk => hk) π _ w (h _ ha.2)
  rw [show ({ ({ a with defers := [] } : Act) with defers := ds } : Act) = a from atd_eta ha.1] at this
  rw [hπ]
  exact this
theorem wir_yield {i d : Nat} {ρ : List Nat} {x : Operand} {cl : List Operand} {vs : List Value} {ats : Array TypeId} {ty : TypeId} {pos : String} {after : Array Edge} {rl : Nat} {R : Ending → World → Prop}
    (hi : ops[i]? = some ⟨some d, .call ⟨.value x, cl.toArray, ats⟩, ty, pos, after, none⟩) (hnd : noDefer ops = true) (hd : Nat.blt d N = true) (hx : ev l x = some (.func (.yield rl) #[] #[])) (hv : evs l cl = some vs)
    (hY : YieldAt (ro r) (n - 1) P rl vs.toArray w R) (h : ∀ e w', R e w' → ∃ v, e = .returned v ∧ WR P N ops false (RegQ ds Q .normal) ρ ((d, v) :: l) w') :
    WR P N ops false (YieldQ P r n ds ops Q (i :: ρ)) [] l w := by
  intro a ha
  obtain ⟨fn, tmps, assign, body, hy, hR⟩ := hY
  show wpOpsIn (ro r) n P ops Q (i :: ρ) { a with defers := ds } w
  simp only [wpOpsIn, hi]
  have hm := ha.evals hv
  have hrun : (execOp a.eval ⟨some d, .call ⟨.value x, cl.toArray, ats⟩, ty, pos, after, none⟩).run P w = .ok (.round rl fn tmps assign body) w := by
    simp only [execOp, resolve, List.map_toArray, hm, ha.eval hx, Deferred.ofValue]
    simp [invoke, hy]
  split
  · refine ⟨fun _ _ => trivial, ?_⟩
    rw [Oper.semAt_eq _ _ _ (noDefer_at hnd hi), eval_defers, hrun]
    refine ⟨fun h => (by cases h), hR.mono fun e w' he => ?_⟩
    obtain ⟨v, rfl, hw⟩ := h e w' he
    show wpOpsIn (ro r) n P ops Q ρ (({ a with defers := ds } : Act).put (some d) v) w'
    rw [put_defers, ← List.append_nil ρ]
    exact wpOpsIn_of_RL hnd (fun a w hk => hk) ρ _ w' (hw _ (ha.put hd v))
  · rename_i hw
    exact (hw (by simp [Region.wanted])).elim
theorem wi_seq {x y : Code} (h : WI P r n ds N x (Exit.then (fun a w => y.wpIn (ro r) n P Q a w) Q) l w) : WI P r n ds N (.seq x y) Q l w := fun a ha => wpIn_seq (h a ha)
theorem wi_skip (h : PostD ds N Q .normal l w) : WI P r n ds N .skip Q l w := fun a ha => wpIn_skip (h a ha)
theorem wi_ret (h : PostD ds N Q .ret l w) : WI P r n ds N .ret Q l w := fun a ha => wpIn_ret (h a ha)
theorem wi_exit {id : Nat} (h : PostD ds N Q (.exit id) l w) : WI P r n ds N (.exit id) Q l w := fun a ha => wpIn_exit (h a ha)
theorem wi_block {id : Nat} {c : Code} (h : WI P r n ds N c (Exit.inBlock id Q) l w) : WI P r n ds N (.block id c) Q l w := fun a ha => wpIn_block (h a ha)
theorem wi_cond {c : Operand} {x y : Code} {b : Bool} (hc : ev l c = some (.bool b)) (ht : b = true → WI P r n ds N x Q l w) (hf : b = false → WI P r n ds N y Q l w) : WI P r n ds N (.cond c x y) Q l w :=
  fun a ha => wpIn_cond_split (ha.eval hc) (fun h => ht h a ha) (fun h => hf h a ha)
theorem wi_condT {c : Operand} {x y : Code} {b : Bool} (hc : ev l c = some (.bool b)) (hb : b = true) (ht : WI P r n ds N x Q l w) : WI P r n ds N (.cond c x y) Q l w :=
  wi_cond hc (fun _ => ht) (fun h => by rw [hb] at h; cases h)
theorem wi_condF {c : Operand} {x y : Code} {b : Bool} (hc : ev l c = some (.bool b)) (hb : b = false) (hf : WI P r n ds N y Q l w) : WI P r n ds N (.cond c x y) Q l w :=
  wi_cond hc (fun h => by rw [hb] at h; cases h) (fun _ => hf)
def LoopQD {σ : Type} (ds : List Deferred) (N : Nat) (L : σ → Env) (I : σ → World → Prop) (μ : σ → Nat) (m : Nat) (Q : Exit → Act → World → Prop) : Exit → Act → World → Prop :=
  Exit.then (fun a w => ∃ s, AtD N ds a (L s) ∧ I s w ∧ μ s < m) Q
theorem wpIn_loop_ind {F : Fence} {c : Code} (J : Nat → Act → World → Prop) (round : ∀ m a w, J m a w → c.wpIn F n P (Exit.then (fun a' w' => ∃ k, k < m ∧ J k a' w') Q) a w) :
    ∀ m a w, J m a w → (Code.loop c).wpIn F n P Q a w := by
  intro m a w h b k cs hro hb hr
  have key : ∀ j a w, J j a w →
      ∃ e a' w', Q e a' w' ∧ ArrivesIn (Machine.fenced P F) P (lone (b.atR a (.code c :: .inLoop c :: k)) cs w) b k cs e a' w' := by
    intro j
    induction j using Nat.strongRecOn with
    | _ j ih =>
      intro a w hJ
      obtain ⟨e, a₁, w₁, hq, harr⟩ := round j a w hJ b (.inLoop c :: k) cs hro hb hr
      cases e with
      | normal =>
        obtain ⟨j', hlt, hJ₁⟩ := hq
        obtain ⟨e₂, a₂, w₂, hq₂, harr₂⟩ := ih j' hlt a₁ w₁ hJ₁
        exact ⟨e₂, a₂, w₂, hq₂, .of_steps (StepsIn.trans harr (.one (fenced_calm hb hr rfl) stepR_inLoop)) harr₂⟩
      | exit id => exact ⟨_, a₁, w₁, hq, .pass (x := .inLoop c) rfl (fun _ _ => .inl (by simp)) harr⟩
      | goto l => exact ⟨_, a₁, w₁, hq, .pass (x := .inLoop c) rfl (fun _ _ => .inl (by simp)) harr⟩
      | ret => exact ⟨_, a₁, w₁, hq, .pass (x := .inLoop c) rfl (fun _ _ => .inl (by simp)) harr⟩
      | panic ch => exact ⟨_, a₁, w₁, hq, .pass (x := .inLoop c) rfl (fun _ _ => .inl (by simp)) harr⟩
      | outgrown => exact ⟨_, a₁, w₁, hq, .pass (x := .inLoop c) rfl (fun _ _ => .inl (by simp)) harr⟩
  obtain ⟨e, a', w', hq, harr⟩ := key m a w h
  exact ⟨e, a', w', hq, .of_steps (.one (fenced_calm hb hr rfl) stepR_loop) harr⟩
theorem wi_loop {σ : Type} (L : σ → Env) (I : σ → World → Prop) (μ : σ → Nat) (s0 : σ) {body : Code} (hL : Sub l (L s0)) (hI : I s0 w)
    (round : ∀ s w, I s w → WI P r n ds N body (LoopQD ds N L I μ (μ s) Q) (L s) w) : WI P r n ds N (.loop body) Q l w := by
  intro a ha
  refine wpIn_loop_ind (P := P) (Q := Q) (fun m a w => ∃ s, AtD N ds a (L s) ∧ I s w ∧ μ s = m) ?_ (μ s0) a w ⟨s0, ha.sub hL, hI, rfl⟩
  rintro m a w ⟨s, hA, hI, rfl⟩
  refine wpIn_mono (round s w hI a hA) (fun e a' w' hq => ?_)
  cases e with
  | normal => obtain ⟨s', h1, h2, h3⟩ := hq; exact ⟨μ s', h3, s', h1, h2, rfl⟩
  | _ => exact hq
theorem posti_thenN {y : Code} {Q' : Exit → Act → World → Prop} (h : WI P r n ds N y Q l w) : PostD ds N (Exit.then (fun a w => y.wpIn (ro r) n P Q a w) Q') .normal l w := h
theorem posti_thenE {K : Act → World → Prop} {id : Nat} (h : PostD ds N Q (.exit id) l w) : PostD ds N (Exit.then K Q) (.exit id) l w := h
theorem posti_thenR {K : Act → World → Prop} (h : PostD ds N Q .ret l w) : PostD ds N (Exit.then K Q) .ret l w := h
theorem posti_loopN {σ : Type} {L : σ → Env} {I : σ → World → Prop} {μ : σ → Nat} {m : Nat} (s' : σ) (hL : Sub l (L s')) (hI : I s' w) (hm : μ s' < m) : PostD ds N (LoopQD ds N L I μ m Q) .normal l w :=
  fun _ ha => ⟨s', ha.sub hL, hI, hm⟩
theorem posti_loopE {σ : Type} {L : σ → Env} {I : σ → World → Prop} {μ : σ → Nat} {m : Nat} {id : Nat} (h : PostD ds N Q (.exit id) l w) : PostD ds N (LoopQD ds N L I μ m Q) (.exit id) l w := h
theorem posti_loopR {σ : Type} {L : σ → Env} {I : σ → World → Prop} {μ : σ → Nat} {m : Nat} (h : PostD ds N Q .ret l w) : PostD ds N (LoopQD ds N L I μ m Q) .ret l w := h
theorem posti_blockN {id : Nat} (h : PostD ds N Q .normal l w) : PostD ds N (Exit.inBlock id Q) .normal l w := h
theorem posti_blockR {id : Nat} (h : PostD ds N Q .ret l w) : PostD ds N (Exit.inBlock id Q) .ret l w := h
theorem posti_blockX {id : Nat} (h : PostD ds N Q .normal l w) : PostD ds N (Exit.inBlock id Q) (.exit id) l w := fun a ha => by
  show (if id = id then Q .normal a w else Q (.exit id) a w)
  rw [if_pos rfl]
  exact h a ha
theorem posti_blockE {id id' : Nat} (hne : Nat.beq id' id = false) (h : PostD ds N Q (.exit id') l w) : PostD ds N (Exit.inBlock id Q) (.exit id') l w := fun a ha => by
  show (if id' = id then Q .normal a w else Q (.exit id') a w)
  rw [if_neg (fun e => by subst e; simp at hne)]
  exact h a ha
end

/-! ### In and out, and the loop itself -/
def mark (D : Nat) : List Deferred := [{ target := .collected D, args := #[] }]
section
variable {P : Program} {r : Option Nat} {n : Nat} {ds : List Deferred} {N : Nat} {Q : Exit → Act → World → Prop} {l : Env} {w : World} {fn : Func} {R : Ending → World → Prop}
theorem posti_of {e : Exit} (h : Post N Q e l w) : PostD [] N Q e l w := fun a ha => h a (by have := ha.2; rwa [atd_eta ha.1] at this)
theorem atd_of {a : Act} (h : At N a l) : AtD N [] a l := ⟨h.defers, by rw [atd_eta h.defers]; exact h⟩
theorem at_args {args : List Value} {M : Nat} (hN : M = N) (hlen : Nat.ble args.length N = true) (hl : ∀ t v, lk l t = some v → args[t]? = some v) : At N { tmps := args.toArray ++ Array.replicate (M - args.toArray.size) undef, defers := [] } l := by
  refine ⟨rfl, ?_, ?_⟩
  · have : args.length ≤ N := Nat.le_of_ble_eq_true hlen
    simp [hN]; omega
  · intro t v ht
    have := hl t v ht
    have hlt : t < args.length := (List.getElem?_eq_some_iff.1 this).1
    simp [Array.getElem?_append, hlt]
    simpa [List.getElem?_eq_getElem hlt] using this
/-- An iterator's function, by its body; it is called with yield and one captured variable. -/
theorem iter_of2 {f : FuncId} {c : Code} {v0 v1 : Value} (hf : P.funcs[f]? = some fn) (hb : fn.body = some c) (hN : Nat.ble 2 fn.ntmps = true := by rfl) (h : WI P none n [] fn.ntmps c (bodyPost P fn R) [(0, v0), (1, v1)] w) : CallsIn (ro none) n P f #[v0, v1] w R :=
  callsIn_of_wp hf hb trivial (h _ (atd_of (at_args (args := [v0, v1]) rfl hN (fun t _ h => match t, h with
    | 0, h => h
    | 1, h => h
    | _ + 2, h => h)))) rfl
theorem iter_of3 {f : FuncId} {c : Code} {v0 v1 v2 : Value} (hf : P.funcs[f]? = some fn) (hb : fn.body = some c) (hN : Nat.ble 3 fn.ntmps = true := by rfl) (h : WI P none n [] fn.ntmps c (bodyPost P fn R) [(0, v0), (1, v1), (2, v2)] w) : CallsIn (ro none) n P f #[v0, v1, v2] w R :=
  callsIn_of_wp hf hb trivial (h _ (atd_of (at_args (args := [v0, v1, v2]) rfl hN (fun t _ h => match t, h with
    | 0, h => h
    | 1, h => h
    | 2, h => h
    | _ + 3, h => h)))) rfl
/-- A function that holds a range over a function. -/
theorem callsM1 {f : FuncId} {c : Code} {v0 : Value} (hf : P.funcs[f]? = some fn) (hb : fn.body = some c) (hN : Nat.ble 1 fn.ntmps = true := by rfl) (h : WI P none 2 [] fn.ntmps c (bodyPostM (ro none) 2 P fn R) [(0, v0)] w) : Calls P f #[v0] w R :=
  ci_to (callsIn_of_wp_marks hf hb trivial (h _ (atd_of (at_args (args := [v0]) rfl hN (fun t _ h => match t, h with
    | 0, h => h
    | _ + 1, h => h)))) rfl)
theorem callsM2 {f : FuncId} {c : Code} {v0 v1 : Value} (hf : P.funcs[f]? = some fn) (hb : fn.body = some c) (hN : Nat.ble 2 fn.ntmps = true := by rfl) (h : WI P none 2 [] fn.ntmps c (bodyPostM (ro none) 2 P fn R) [(0, v0), (1, v1)] w) : Calls P f #[v0, v1] w R :=
  ci_to (callsIn_of_wp_marks hf hb trivial (h _ (atd_of (at_args (args := [v0, v1]) rfl hN (fun t _ h => match t, h with
    | 0, h => h
    | 1, h => h
    | _ + 2, h => h)))) rfl)
theorem posti_retM {D : Nat} (hk : w.heap[D]? = some (.deferred (some []))) (h : Post N (bodyPost P fn R) .ret l (w.putObj D (.deferred none))) : PostD (mark D) N (bodyPostM (ro none) n P fn R) .ret l w := fun a ha => by
  obtain ⟨_, v, h1, h2⟩ := h _ ha.2
  show LeavesInM (ro none) n P fn a.tmps R a.defers .returning w
  rw [ha.1]
  exact ⟨by simp, .inl ⟨D, _, rfl, run_takeDeferred hk, v, h1, h2⟩⟩
/-- A return ahead of every loop. -/
theorem posti_retM0 (h : Post N (bodyPost P fn R) .ret l w) : PostD [] N (bodyPostM (ro none) n P fn R) .ret l w := fun a ha => by
  obtain ⟨_, v, h1, h2⟩ := h _ ha.2
  show LeavesInM (ro none) n P fn a.tmps R a.defers .returning w
  rw [ha.1]
  exact ⟨v, h1, h2⟩
theorem Ext.putObj {w0 w : World} (h : Ext w0 w) {D : Nat} (hD : w0.heap.size ≤ D) (o : Obj) : Ext w0 (w.putObj D o) :=
  Below.grown h (grownBy_putObj' w D o) h.size (fun k e => by cases e; exact hD)
theorem putObj_other {k D : Nat} {o : Obj} (h : k ≠ D) : (w.putObj D o).heap[k]? = w.heap[k]? := World.putObj_heap_other h

theorem wp_assign1 {id p d : Nat} {ty : TypeId} {pos : String} {after : Array Edge} {K : Act → World → Prop} {Q' : Exit → Act → World → Prop} {a : Act} (h : K (a.put (some d) (a.eval (.tmp p))) w) :
    (Code.region id #[⟨some d, .assign (.tmp p), ty, pos, after, none⟩] false).wpIn (ro r) n P (Exit.then K Q') a w := by
  refine wpIn_region ?_
  show wpOpsIn _ n P _ _ [0] a w
  simp only [wpOpsIn, List.getElem?_toArray, List.getElem?_cons_zero]
  rw [if_pos (by simp [Region.wanted])]
  refine ⟨fun _ _ => trivial, ?_⟩
  rw [Oper.semAt_eq _ _ _ (fun c hc => by cases hc)]
  exact h
/-- The range over a function with one loop variable. -/
theorem wi_rangeFunc {α : Type} {g : Operand} {id p d : Nat} {ty : TypeId} {pos : String} {after : Array Edge} {body : Code} {gf : Nat} {lb : Array Value} {enc : α → Value} {S Sp : List α → Prop} {M : Nat}
    (I : List α → World → Prop) (Ix : Code → List α → World → Prop)
    (hg : ev l g = some (.func (.func gf) #[] lb)) (eg : ∀ args w, (callFunc gf args).run P w = .ok (.enter gf args) w)
    (hp : Nat.blt p N = true) (hd : Nat.blt d N = true) (hseq : SeqStopsK (ro none) 1 P gf lb (fun x => #[enc x]) (fun _ _ => True) S Sp M w)
    (hI : OwnFrom w.heap.size I) (hIx : ∀ c, OwnFrom w.heap.size (Ix c)) (h0 : I [] w)
    (hbody : ∀ (rl : Nat) (pre : List α) (x : α) (W : World), I pre W → pre.length < M → WI P (some rl) 0 [] N body (ownPostG w.heap.size (fun _ _ => True) I Ix (pre ++ [x]) W) ((d, enc x) :: (p, enc x) :: l) W)
    (hdone : ∀ (D : Nat) (xs : List α) (W : World), w.heap.size ≤ D → S xs → I xs W → W.heap[D]? = some (.deferred (some [])) → PostD (mark D) N Q .normal l W)
    (hstop : ∀ (D : Nat) (c : Code) (pre : List α) (W : World), w.heap.size ≤ D → Sp pre → Ix c pre W → W.heap[D]? = some (.deferred (some [])) → WI P none 2 (mark D) N c Q l W) :
    WI P none 2 [] N (.rangeFunc g #[p] (.region id #[⟨some d, .assign (.tmp p), ty, pos, after, none⟩] false) body) Q l w := by
  intro a ha
  have ha0 : At N a l := by have := ha.2; rwa [atd_eta ha.1] at this
  refine wpIn_rangeFunc_ownG (F := ro none) (a₁ := fun x => (({ a with defers := [] } : Act).put (some p) (enc x)).put (some d) (enc x)) rfl (by omega) (ha.eval hg) trivial eg hseq (fun _ _ => trivial) (fun _ _ _ _ _ _ _ _ => trivial) (Below.refl _ _) (fun _ => rfl) I Ix hI hIx h0 ?_ ?_ ?_ ?_
  · intro rl x W K hK
    refine wp_assign1 (r := some rl) ?_
    have e1 : ({ tmps := ((#[p] : Array Tmp).zip #[enc x]).foldl (fun t (p, v) => t.setIfInBounds p v) a.tmps, defers := [] } : Act) = ({ a with defers := [] } : Act).put (some p) (enc x) := by
      simp [Act.put]
    rw [e1]
    have e2 : (({ a with defers := [] } : Act).put (some p) (enc x)).eval (.tmp p) = enc x := (ha.2.put hp (enc x)).eval (show ev ((p, enc x) :: l) (.tmp p) = some (enc x) by show lk _ _ = _; rw [lk_cons, if_pos rfl])
    rw [e2]
    exact hK
  · intro rl pre x W hi hl
    exact hbody rl pre x W hi hl _ (atd_of ((ha.2.put hp _).put hd _))
  · intro D xs W hD hS hi hk
    exact hdone D xs W hD hS hi hk _ ⟨by rw [ha.1]; rfl, ha.2⟩
  · intro D c pre W hD hS hi hk
    exact hstop D c pre W hD hS hi hk _ ⟨by rw [ha.1]; rfl, ha.2⟩
theorem post_retC {t b : Nat} {T tb : TypeId} {v : Value} (hr : fn.results = #[.cell t T]) (hp : lk l t = some (.pointer (some ⟨b, 0, none⟩))) (hna : NA P T) (hB : Blk w b tb #[v]) (hR : R (.returned v) w) :
    Post N (bodyPost P fn R) .ret l w := fun a ha => by
  refine ⟨ha.defers, v, ?_, hR⟩
  have h1 := ha.slots _ _ hp
  have hc : w.cell? ⟨b, 0, none⟩ = some v := hB.cell (by simp)
  simp [results, hr, h1, asAddr, loadVar, hna w, hc]
theorem keeps_ext {B : Nat} {W W' : World} (h : Ext W W') : KeepsFrom B W W' := ⟨h.size, fun k o _ hk _ => (Below.block h k (Array.getElem?_eq_some_iff.1 hk).1).trans hk⟩
theorem own_and {β : Type} {B : Nat} {A : β → Prop} {I : β → World → Prop} (h : OwnFrom B I) : OwnFrom B (fun s W => A s ∧ I s W) := fun s W W' row hs hg hr => ⟨hs.1, h s W W' row hs.2 hg hr⟩
theorem own_blk {β : Type} {B b t : Nat} {cs : β → Array Value} (hb : b < B) : OwnFrom B (fun s W => Blk W b t (cs s)) := fun s W W' row hs hg hr => by
  have h1 : W.heap[b]? = some (.cells (cs s) t) := hs
  show W'.heap[b]? = some (.cells (cs s) t)
  rw [hg.block b (Array.getElem?_eq_some_iff.1 h1).1 (fun e => by have := (hr b e.symm).1; omega)]
  exact h1
end
end Go.Sx
