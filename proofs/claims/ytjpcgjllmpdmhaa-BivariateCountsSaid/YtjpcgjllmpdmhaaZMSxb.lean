/-
  The walking framework: ranges over functions. Code within a round, and code behind a loop (where a mark stands among the deferred calls), is walked by 'wi_..' as by 'wc_..' elsewhere. The walking framework, part 10: slices of structs of ints: reading, literals of one element, append. The walking framework, part 12: calls that write into blocks that the caller names. The walking framework, part 18: what lies outside of the blocks that a function value writes; append onto a slice that is full; calls of function values that write. The walking framework, part 19: a slice of slices of slices of ints that a function writes, element by element, into blocks that its caller names.
-/
import Derived.Test.YtjpcgjllmpdmhaaZMSxa
import Derived.RangeFuncWrites
import Derived.RangeFuncRecord
import Derived.Deep.AppendSrc
namespace Go.Sx
open Go Go.RowKit Go.Pl

/-- The fence that asks nothing, in a round or not. -/
def ro (r : Option Nat) : Fence := { Fence.wide with round := r }
section
variable {P : Program} {r : Option Nat} {n : Nat}
theorem ci_of {f : FuncId} {args : Array Value} {w : World} {R : Ending → World → Prop} (h : Calls P f args w R) : CallsIn (ro r) n P f args w R := (callsIn_wide (n := n)).2 h
theorem ci_to {f : FuncId} {args : Array Value} {w : World} {R : Ending → World → Prop} (h : CallsIn (ro r) n P f args w R) : Calls P f args w R := (callsIn_wide (n := n)).1 h

/-- No operation defers a call. -/
def noDefer (ops : Array Oper) : Bool := ops.toList.all fun o => match o.op with
  | .defer _ => false
  | _ => true
theorem noDefer_at {ops : Array Oper} (h : noDefer ops = true) {i : Nat} {o : Oper} (hi : ops[i]? = some o) : ∀ c, o.op ≠ .defer c := fun c hc => by
  have := List.all_eq_true.1 h o (Array.mem_toList_iff.2 (Array.mem_of_getElem? hi))
  rw [hc] at this
  cases this
theorem put_defers (a : Act) (ds : List Deferred) (d : Option Tmp) (v : Value) : ({ a with defers := ds } : Act).put d v = { a.put d v with defers := ds } := by
  cases d <;> rfl
theorem eval_defers (a : Act) (ds : List Deferred) : ({ a with defers := ds } : Act).eval = a.eval := by
  funext x; cases x <;> rfl
theorem wpOpsIn_of_RL {ops : Array Oper} {ds : List Deferred} {K : Act → World → Prop} {Q : Exit → Act → World → Prop} {ρ : List Nat} (hnd : noDefer ops = true) (hQ : ∀ a w, K a w → wpOpsIn (ro r) n P ops Q ρ { a with defers := ds } w) :
    ∀ (l : List Nat) (a : Act) (w : World), RL P ops false K l a w → wpOpsIn (ro r) n P ops Q (l ++ ρ) { a with defers := ds } w
  | [], a, w, h => hQ _ _ h
  | i :: π, a, w, h => by
    obtain ⟨o, ho, h⟩ := h
    have hsem : ∀ ρ', Oper.semAt (ro r).round ρ' o = execOp ρ' o := fun ρ' => Oper.semAt_eq _ _ _ (noDefer_at hnd ho)
    simp only [List.cons_append, wpOpsIn, ho]
    split
    · rename_i hw
      rw [if_pos hw] at h
      refine ⟨fun _ _ => trivial, ?_⟩
      rw [hsem, eval_defers]
      rcases h with ⟨_, v, hv, hq⟩ | ⟨_, hq⟩
      · rw [hv w (.inr (Ext.refl w))]
        show wpOpsIn (ro r) n P ops Q (π ++ ρ) (({ a with defers := ds } : Act).put o.dst v) w
        rw [put_defers]
        exact wpOpsIn_of_RL hnd hQ π _ _ hq
      · unfold Oper.wp at hq
        have next : ∀ a' w', ((∃ v, a' = a.put o.dst v) ∧ (false = true → isTail ops i = false → Ext w w') ∧ RL P ops false K π a' w') → wpOpsIn (ro r) n P ops Q (π ++ ρ) { a' with defers := ds } w' :=
          fun a' w' h => wpOpsIn_of_RL hnd hQ π _ _ h.2.2
        match hr : (execOp a.eval o).run P w with
        | .ok (.value v) w' =>
          rw [hr] at hq
          have := next _ _ hq
          show wpOpsIn (ro r) n P ops Q (π ++ ρ) (({ a with defers := ds } : Act).put o.dst v) w'
          rwa [put_defers]
        | .ok .skip w' =>
          rw [hr] at hq
          have := next _ _ hq
          show wpOpsIn (ro r) n P ops Q (π ++ ρ) (({ a with defers := ds } : Act).put o.dst undef) w'
          rwa [put_defers]
        | .ok (.defer d) w' =>
          rw [hr] at hq
          obtain ⟨⟨v, hv⟩, _⟩ := hq
          have : (d :: a.defers).length = a.defers.length := by
            have h1 := congrArg Act.defers hv
            cases hd : o.dst <;> rw [hd] at h1 <;> exact congrArg List.length h1
          simp at this
        | .ok (.enter f args) w' =>
          rw [hr] at hq
          refine ⟨fun h => (by cases h), ci_of (Calls.mono hq fun e w'' he => ?_)⟩
          cases e with
          | returned v =>
            have := next _ _ he
            show wpOpsIn (ro r) n P ops Q (π ++ ρ) (({ a with defers := ds } : Act).put o.dst v) w''
            rwa [put_defers]
          | panicked c => exact he.elim
          | outgrown => obtain ⟨_, _, hf⟩ := he; exact hf.elim
        | .ok (.row row args) w' =>
          rw [hr] at hq
          refine ⟨fun h => (by cases h), fun c cs _ => ?_⟩
          obtain ⟨v, w'', h1, h2⟩ := hq c cs
          refine ⟨v, w'', ?_, stepsIn_wide.2 h2⟩
          have := next _ _ h1
          show wpOpsIn (ro r) n P ops Q (π ++ ρ) (({ a with defers := ds } : Act).put o.dst v) w''
          rwa [put_defers]
        | .ok (.round a1 a2 a3 a4 a5) w' => rw [hr] at hq; exact hq.elim
        | .halt (.panic v) w' => rw [hr] at hq; exact hq.elim
        | .ok (.callThen _ _ _ _) w' => rw [hr] at hq; exact hq.elim
        | .ok (.stack _ _) w' => rw [hr] at hq; exact hq.elim
        | .ok .recover w' => rw [hr] at hq; exact hq.elim
        | .ok (.spawn _) w' => rw [hr] at hq; exact hq.elim
        | .ok (.comm _ _ _) w' => rw [hr] at hq; exact hq.elim
        | .ok .numGoroutine w' => rw [hr] at hq; exact hq.elim
        | .ok .collect w' => rw [hr] at hq; exact hq.elim
        | .ok (.watch _) w' => rw [hr] at hq; exact hq.elim
        | .ok (.newcoro _ _) w' => rw [hr] at hq; exact hq.elim
        | .ok (.coroswitch _ _) w' => rw [hr] at hq; exact hq.elim
        | .ok (.sleep _) w' => rw [hr] at hq; exact hq.elim
        | .ok (.timer _) w' => rw [hr] at hq; exact hq.elim
        | .ok (.alone _ _) w' => rw [hr] at hq; exact hq.elim
        | .halt .blocked w' => rw [hr] at hq; exact hq.elim
        | .halt .waiting w' => rw [hr] at hq; exact hq.elim
        | .halt (.exit _) w' => rw [hr] at hq; exact hq.elim
        | .halt (.fatal _) w' => rw [hr] at hq; exact hq.elim
        | .halt (.throw _) w' => rw [hr] at hq; exact hq.elim
        | .halt .goexit w' => rw [hr] at hq; exact hq.elim
        | .halt (.unsupported _) w' => rw [hr] at hq; exact hq.elim
        | .halt (.stuck _) w' => rw [hr] at hq; exact hq.elim
    · rename_i hw
      rw [if_neg hw] at h
      refine ⟨fun _ _ => trivial, ?_⟩
      rw [put_defers]
      exact wpOpsIn_of_RL hnd hQ π _ _ h
end

/-! ### The judgements -/
/-- The frame holds the environment; its deferred calls are ds. -/
def AtD (N : Nat) (ds : List Deferred) (a : Act) (l : Env) : Prop := a.defers = ds ∧ At N { a with defers := [] } l
theorem AtD.sub {N : Nat} {ds : List Deferred} {a : Act} {l m : Env} (h : AtD N ds a l) (hs : Sub l m) : AtD N ds a m := ⟨h.1, h.2.sub hs⟩
theorem AtD.eval {N : Nat} {ds : List Deferred} {a : Act} {l : Env} (h : AtD N ds a l) {x : Operand} {v : Value} (hx : ev l x = some v) : a.eval x = v := by
  rw [← eval_defers a []]; exact h.2.eval hx
section
variable (P : Program) (r : Option Nat) (n : Nat) (ds : List Deferred) (N : Nat)
def WI (c : Code) (Q : Exit → Act → World → Prop) (l : Env) (w : World) : Prop := ∀ a, AtD N ds a l → c.wpIn (ro r) n P Q a w
def PostD (Q : Exit → Act → World → Prop) (e : Exit) (l : Env) (w : World) : Prop := ∀ a, AtD N ds a l → Q e a w
end
section
variable {P : Program} {r : Option Nat} {n : Nat} {ds : List Deferred} {N : Nat} {Q : Exit → Act → World → Prop} {l : Env} {w : World} {ops : Array Oper}
theorem atd_eta {a : Act} (h : a.defers = ds) : ({ a with defers := ds } : Act) = a := by cases a; cases h; rfl
/-- What the operations of a region come to. -/
def RegQ (ds : List Deferred) (Q : Exit → Act → World → Prop) : Exit → Act → World → Prop := fun e a w => Q e { a with defers := ds } w
theorem wi_region {id : Nat} (π : List Nat) (hπ : List.range ops.size = π) (h : WR P N ops false (RegQ ds Q .normal) π l w) (hnd : noDefer ops = true := by kernel_rfl) : WI P r n ds N (.region id ops false) Q l w := by
  intro a ha
  refine wpIn_region ?_
  have := wpOpsIn_of_RL (ds := ds) (r := r) (n := n) (Q := Q) (ρ := []) hnd (fun a w hk => hk) π _ w (h _ ha.2)
  rw [List.append_nil, show ({ ({ a with defers := [] } : Act) with defers := ds } : Act) = a from atd_eta ha.1] at this
  rw [hπ]
  exact this
theorem wir_nil (h : PostD ds N Q .normal l w) : WR P N ops false (RegQ ds Q .normal) [] l w := fun a ha => h _ ⟨rfl, by rw [← ha.defers] at *; cases a; exact ha⟩
/-- A region whose operation i is a call of yield: up to there, and from there on. -/
def YieldQ (P : Program) (r : Option Nat) (n : Nat) (ds : List Deferred) (ops : Array Oper) (Q : Exit → Act → World → Prop) (ρ : List Nat) : Act → World → Prop := fun a w => wpOpsIn (ro r) n P ops Q ρ { a with defers := ds } w
theorem wi_regionY {id : Nat} (π ρ : List Nat) (hπ : List.range ops.size = π ++ ρ) (h : WR P N ops false (YieldQ P r n ds ops Q ρ) π l w) (hnd : noDefer ops = true := by kernel_rfl) : WI P r n ds N (.region id ops false) Q l w := by
  intro a ha
  refine wpIn_region ?_
  have := wpOpsIn_of_RL (ds := ds) (r := r) (n := n) (Q := Q) (ρ := ρ) hnd (fun a w hk => hk) π _ w (h _ ha.2)
  rw [show ({ ({ a with defers := [] } : Act) with defers := ds } : Act) = a from atd_eta ha.1] at this
  rw [hπ]
  exact this
theorem wir_yield {i d : Nat} {ρ : List Nat} {x : Operand} {cl : List Operand} {vs : List Value} {ats : Array TypeId} {ty : TypeId} {pos : String} {after : Array Edge} {rl : Nat} {R : Ending → World → Prop}
    (hi : ops[i]? = some ⟨some d, .call ⟨.value x, cl.toArray, ats⟩, ty, pos, after, none⟩) (hnd : noDefer ops = true) (hd : Nat.blt d N = true) (hx : ev l x = some (.func (.yield rl) #[] #[])) (hv : evs l cl = some vs)
    (hY : YieldAt (ro r) (n - 1) P rl vs.toArray w R) (h : ∀ e w', R e w' → ∃ v, e = .returned v ∧ WR P N ops false (RegQ ds Q .normal) ρ ((d, v) :: l) w') :
    WR P N ops false (YieldQ P r n ds ops Q (i :: ρ)) [] l w := by
  intro a ha
  obtain ⟨fn, tmps, assign, body, hy, hR⟩ := hY
  show wpOpsIn (ro r) n P ops Q (i :: ρ) { a with defers := ds } w
  simp only [wpOpsIn, hi]
  have hm := ha.evals hv
  have hrun : (execOp a.eval ⟨some d, .call ⟨.value x, cl.toArray, ats⟩, ty, pos, after, none⟩).run P w = .ok (.round rl fn tmps assign body) w := by
    simp only [execOp, resolve, List.map_toArray, hm, ha.eval hx, Deferred.ofValue]
    simp [invoke, hy]
  split
  · refine ⟨fun _ _ => trivial, ?_⟩
    rw [Oper.semAt_eq _ _ _ (noDefer_at hnd hi), eval_defers, hrun]
    refine ⟨fun h => (by cases h), hR.mono fun e w' he => ?_⟩
    obtain ⟨v, rfl, hw⟩ := h e w' he
    show wpOpsIn (ro r) n P ops Q ρ (({ a with defers := ds } : Act).put (some d) v) w'
    rw [put_defers, ← List.append_nil ρ]
    exact wpOpsIn_of_RL hnd (fun a w hk => hk) ρ _ w' (hw _ (ha.put hd v))
  · rename_i hw
    exact (hw (by simp [Region.wanted])).elim
theorem wi_seq {x y : Code} (h : WI P r n ds N x (Exit.then (fun a w => y.wpIn (ro r) n P Q a w) Q) l w) : WI P r n ds N (.seq x y) Q l w := fun a ha => wpIn_seq (h a ha)
theorem wi_skip (h : PostD ds N Q .normal l w) : WI P r n ds N .skip Q l w := fun a ha => wpIn_skip (h a ha)
theorem wi_ret (h : PostD ds N Q .ret l w) : WI P r n ds N .ret Q l w := fun a ha => wpIn_ret (h a ha)
theorem wi_exit {id : Nat} (h : PostD ds N Q (.exit id) l w) : WI P r n ds N (.exit id) Q l w := fun a ha => wpIn_exit (h a ha)
theorem wi_block {id : Nat} {c : Code} (h : WI P r n ds N c (Exit.inBlock id Q) l w) : WI P r n ds N (.block id c) Q l w := fun a ha => wpIn_block (h a ha)
theorem wi_cond {c : Operand} {x y : Code} {b : Bool} (hc : ev l c = some (.bool b)) (ht : b = true → WI P r n ds N x Q l w) (hf : b = false → WI P r n ds N y Q l w) : WI P r n ds N (.cond c x y) Q l w :=
  fun a ha => wpIn_cond_split (ha.eval hc) (fun h => ht h a ha) (fun h => hf h a ha)
theorem wi_condT {c : Operand} {x y : Code} {b : Bool} (hc : ev l c = some (.bool b)) (hb : b = true) (ht : WI P r n ds N x Q l w) : WI P r n ds N (.cond c x y) Q l w :=
  wi_cond hc (fun _ => ht) (fun h => by rw [hb] at h; cases h)
theorem wi_condF {c : Operand} {x y : Code} {b : Bool} (hc : ev l c = some (.bool b)) (hb : b = false) (hf : WI P r n ds N y Q l w) : WI P r n ds N (.cond c x y) Q l w :=
  wi_cond hc (fun h => by rw [hb] at h; cases h) (fun _ => hf)
def LoopQD {σ : Type} (ds : List Deferred) (N : Nat) (L : σ → Env) (I : σ → World → Prop) (μ : σ → Nat) (m : Nat) (Q : Exit → Act → World → Prop) : Exit → Act → World → Prop :=
  Exit.then (fun a w => ∃ s, AtD N ds a (L s) ∧ I s w ∧ μ s < m) Q
theorem wpIn_loop_ind {F : Fence} {c : Code} (J : Nat → Act → World → Prop) (round : ∀ m a w, J m a w → c.wpIn F n P (Exit.then (fun a' w' => ∃ k, k < m ∧ J k a' w') Q) a w) :
    ∀ m a w, J m a w → (Code.loop c).wpIn F n P Q a w := by
  intro m a w h b k cs hro hb hr
  have key : ∀ j a w, J j a w →
      ∃ e a' w', Q e a' w' ∧ ArrivesIn (Machine.fenced P F) P (lone (b.atR a (.code c :: .inLoop c :: k)) cs w) b k cs e a' w' := by
    intro j
    induction j using Nat.strongRecOn with
    | _ j ih =>
      intro a w hJ
      obtain ⟨e, a₁, w₁, hq, harr⟩ := round j a w hJ b (.inLoop c :: k) cs hro hb hr
      cases e with
      | normal =>
        obtain ⟨j', hlt, hJ₁⟩ := hq
        obtain ⟨e₂, a₂, w₂, hq₂, harr₂⟩ := ih j' hlt a₁ w₁ hJ₁
        exact ⟨e₂, a₂, w₂, hq₂, .of_steps (StepsIn.trans harr (.one (fenced_calm hb hr rfl) stepR_inLoop)) harr₂⟩
      | exit id => exact ⟨_, a₁, w₁, hq, .pass (x := .inLoop c) rfl (fun _ _ => .inl (by simp)) harr⟩
      | goto l => exact ⟨_, a₁, w₁, hq, .pass (x := .inLoop c) rfl (fun _ _ => .inl (by simp)) harr⟩
      | ret => exact ⟨_, a₁, w₁, hq, .pass (x := .inLoop c) rfl (fun _ _ => .inl (by simp)) harr⟩
      | panic ch => exact ⟨_, a₁, w₁, hq, .pass (x := .inLoop c) rfl (fun _ _ => .inl (by simp)) harr⟩
      | outgrown => exact ⟨_, a₁, w₁, hq, .pass (x := .inLoop c) rfl (fun _ _ => .inl (by simp)) harr⟩
  obtain ⟨e, a', w', hq, harr⟩ := key m a w h
  exact ⟨e, a', w', hq, .of_steps (.one (fenced_calm hb hr rfl) stepR_loop) harr⟩
theorem wi_loop {σ : Type} (L : σ → Env) (I : σ → World → Prop) (μ : σ → Nat) (s0 : σ) {body : Code} (hL : Sub l (L s0)) (hI : I s0 w)
    (round : ∀ s w, I s w → WI P r n ds N body (LoopQD ds N L I μ (μ s) Q) (L s) w) : WI P r n ds N (.loop body) Q l w := by
  intro a ha
  refine wpIn_loop_ind (P := P) (Q := Q) (fun m a w => ∃ s, AtD N ds a (L s) ∧ I s w ∧ μ s = m) ?_ (μ s0) a w ⟨s0, ha.sub hL, hI, rfl⟩
  rintro m a w ⟨s, hA, hI, rfl⟩
  refine wpIn_mono (round s w hI a hA) (fun e a' w' hq => ?_)
  cases e with
  | normal => obtain ⟨s', h1, h2, h3⟩ := hq; exact ⟨μ s', h3, s', h1, h2, rfl⟩
  | _ => exact hq
theorem posti_thenN {y : Code} {Q' : Exit → Act → World → Prop} (h : WI P r n ds N y Q l w) : PostD ds N (Exit.then (fun a w => y.wpIn (ro r) n P Q a w) Q') .normal l w := h
theorem posti_thenE {K : Act → World → Prop} {id : Nat} (h : PostD ds N Q (.exit id) l w) : PostD ds N (Exit.then K Q) (.exit id) l w := h
theorem posti_thenR {K : Act → World → Prop} (h : PostD ds N Q .ret l w) : PostD ds N (Exit.then K Q) .ret l w := h
theorem posti_loopN {σ : Type} {L : σ → Env} {I : σ → World → Prop} {μ : σ → Nat} {m : Nat} (s' : σ) (hL : Sub l (L s')) (hI : I s' w) (hm : μ s' < m) : PostD ds N (LoopQD ds N L I μ m Q) .normal l w :=
  fun _ ha => ⟨s', ha.sub hL, hI, hm⟩
theorem posti_loopE {σ : Type} {L : σ → Env} {I : σ → World → Prop} {μ : σ → Nat} {m : Nat} {id : Nat} (h : PostD ds N Q (.exit id) l w) : PostD ds N (LoopQD ds N L I μ m Q) (.exit id) l w := h
theorem posti_loopR {σ : Type} {L : σ → Env} {I : σ → World → Prop} {μ : σ → Nat} {m : Nat} (h : PostD ds N Q .ret l w) : PostD ds N (LoopQD ds N L I μ m Q) .ret l w := h
theorem posti_blockN {id : Nat} (h : PostD ds N Q .normal l w) : PostD ds N (Exit.inBlock id Q) .normal l w := h
theorem posti_blockR {id : Nat} (h : PostD ds N Q .ret l w) : PostD ds N (Exit.inBlock id Q) .ret l w := h
theorem posti_blockX {id : Nat} (h : PostD ds N Q .normal l w) : PostD ds N (Exit.inBlock id Q) (.exit id) l w := fun a ha => by
  show (if id = id then Q .normal a w else Q (.exit id) a w)
  rw [if_pos rfl]
  exact h a ha
theorem posti_blockE {id id' : Nat} (hne : Nat.beq id' id = false) (h : PostD ds N Q (.exit id') l w) : PostD ds N (Exit.inBlock id Q) (.exit id') l w := fun a ha => by
  show (if id' = id then Q .normal a w else Q (.exit id') a w)
  rw [if_neg (fun e => by subst e; simp at hne)]
  exact h a ha
end

/-! ### In and out, and the loop itself -/
def mark (D : Nat) : List Deferred := [{ target := .collected D, args := #[] }]
section
variable {P : Program} {r : Option Nat} {n : Nat} {ds : List Deferred} {N : Nat} {Q : Exit → Act → World → Prop} {l : Env} {w : World} {fn : Func} {R : Ending → World → Prop}
theorem posti_of {e : Exit} (h : Post N Q e l w) : PostD [] N Q e l w := fun a ha => h a (by have := ha.2; rwa [atd_eta ha.1] at this)
theorem atd_of {a : Act} (h : At N a l) : AtD N [] a l := ⟨h.defers, by rw [atd_eta h.defers]; exact h⟩
theorem at_args {args : List Value} {M : Nat} (hN : M = N) (hlen : Nat.ble args.length N = true) (hl : ∀ t v, lk l t = some v → args[t]? = some v) : At N { tmps := args.toArray ++ Array.replicate (M - args.toArray.size) undef, defers := [] } l := by
  refine ⟨rfl, ?_, ?_⟩
  · have : args.length ≤ N := Nat.le_of_ble_eq_true hlen
    simp [hN]; omega
  · intro t v ht
    have := hl t v ht
    have hlt : t < args.length := (List.getElem?_eq_some_iff.1 this).1
    simp [Array.getElem?_append, hlt]
    simpa [List.getElem?_eq_getElem hlt] using this
/-- An iterator's function, by its body; it is called with yield and one captured variable. -/
theorem iter_of2 {f : FuncId} {c : Code} {v0 v1 : Value} (hf : P.funcs[f]? = some fn) (hb : fn.body = some c) (hN : Nat.ble 2 fn.ntmps = true := by rfl) (h : WI P none n [] fn.ntmps c (bodyPost P fn R) [(0, v0), (1, v1)] w) : CallsIn (ro none) n P f #[v0, v1] w R :=
  callsIn_of_wp hf hb trivial (h _ (atd_of (at_args (args := [v0, v1]) rfl hN (fun t _ h => match t, h with
    | 0, h => h
    | 1, h => h
    | _ + 2, h => h)))) rfl
theorem iter_of3 {f : FuncId} {c : Code} {v0 v1 v2 : Value} (hf : P.funcs[f]? = some fn) (hb : fn.body = some c) (hN : Nat.ble 3 fn.ntmps = true := by rfl) (h : WI P none n [] fn.ntmps c (bodyPost P fn R) [(0, v0), (1, v1), (2, v2)] w) : CallsIn (ro none) n P f #[v0, v1, v2] w R :=
  callsIn_of_wp hf hb trivial (h _ (atd_of (at_args (args := [v0, v1, v2]) rfl hN (fun t _ h => match t, h with
    | 0, h => h
    | 1, h => h
    | 2, h => h
    | _ + 3, h => h)))) rfl
/-- A function that holds a range over a function. -/
theorem callsM1 {f : FuncId} {c : Code} {v0 : Value} (hf : P.funcs[f]? = some fn) (hb : fn.body = some c) (hN : Nat.ble 1 fn.ntmps = true := by rfl) (h : WI P none 2 [] fn.ntmps c (bodyPostM (ro none) 2 P fn R) [(0, v0)] w) : Calls P f #[v0] w R :=
  ci_to (callsIn_of_wp_marks hf hb trivial (h _ (atd_of (at_args (args := [v0]) rfl hN (fun t _ h => match t, h with
    | 0, h => h
    | _ + 1, h => h)))) rfl)
theorem callsM2 {f : FuncId} {c : Code} {v0 v1 : Value} (hf : P.funcs[f]? = some fn) (hb : fn.body = some c) (hN : Nat.ble 2 fn.ntmps = true := by rfl) (h : WI P none 2 [] fn.ntmps c (bodyPostM (ro none) 2 P fn R) [(0, v0), (1, v1)] w) : Calls P f #[v0, v1] w R :=
  ci_to (callsIn_of_wp_marks hf hb trivial (h _ (atd_of (at_args (args := [v0, v1]) rfl hN (fun t _ h => match t, h with
    | 0, h => h
    | 1, h => h
    | _ + 2, h => h)))) rfl)
theorem posti_retM {D : Nat} (hk : w.heap[D]? = some (.deferred (some []))) (h : Post N (bodyPost P fn R) .ret l (w.putObj D (.deferred none))) : PostD (mark D) N (bodyPostM (ro none) n P fn R) .ret l w := fun a ha => by
  obtain ⟨_, v, h1, h2⟩ := h _ ha.2
  show LeavesInM (ro none) n P fn a.tmps R a.defers .returning w
  rw [ha.1]
  exact ⟨by simp, .inl ⟨D, _, rfl, run_takeDeferred hk, v, h1, h2⟩⟩
/-- A return ahead of every loop. -/
theorem posti_retM0 (h : Post N (bodyPost P fn R) .ret l w) : PostD [] N (bodyPostM (ro none) n P fn R) .ret l w := fun a ha => by
  obtain ⟨_, v, h1, h2⟩ := h _ ha.2
  show LeavesInM (ro none) n P fn a.tmps R a.defers .returning w
  rw [ha.1]
  exact ⟨v, h1, h2⟩
theorem Ext.putObj {w0 w : World} (h : Ext w0 w) {D : Nat} (hD : w0.heap.size ≤ D) (o : Obj) : Ext w0 (w.putObj D o) :=
  Below.grown h (grownBy_putObj' w D o) h.size (fun k e => by cases e; exact hD)
theorem putObj_other {k D : Nat} {o : Obj} (h : k ≠ D) : (w.putObj D o).heap[k]? = w.heap[k]? := World.putObj_heap_other h

theorem wp_assign1 {id p d : Nat} {ty : TypeId} {pos : String} {after : Array Edge} {K : Act → World → Prop} {Q' : Exit → Act → World → Prop} {a : Act} (h : K (a.put (some d) (a.eval (.tmp p))) w) :
    (Code.region id #[⟨some d, .assign (.tmp p), ty, pos, after, none⟩] false).wpIn (ro r) n P (Exit.then K Q') a w := by
  refine wpIn_region ?_
  show wpOpsIn _ n P _ _ [0] a w
  simp only [wpOpsIn, List.getElem?_toArray, List.getElem?_cons_zero]
  rw [if_pos (by simp [Region.wanted])]
  refine ⟨fun _ _ => trivial, ?_⟩
  rw [Oper.semAt_eq _ _ _ (fun c hc => by cases hc)]
  exact h
/-- The range over a function with one loop variable. -/
theorem wi_rangeFunc {α : Type} {g : Operand} {id p d : Nat} {ty : TypeId} {pos : String} {after : Array Edge} {body : Code} {gf : Nat} {lb : Array Value} {enc : α → Value} {S Sp : List α → Prop} {M : Nat}
    (I : List α → World → Prop) (Ix : Code → List α → World → Prop)
    (hg : ev l g = some (.func (.func gf) #[] lb)) (eg : ∀ args w, (callFunc gf args).run P w = .ok (.enter gf args) w)
    (hp : Nat.blt p N = true) (hd : Nat.blt d N = true) (hseq : SeqStopsK (ro none) 1 P gf lb (fun x => #[enc x]) (fun _ _ => True) S Sp M w)
    (hI : OwnFrom w.heap.size I) (hIx : ∀ c, OwnFrom w.heap.size (Ix c)) (h0 : I [] w)
    (hbody : ∀ (rl : Nat) (pre : List α) (x : α) (W : World), I pre W → pre.length < M → WI P (some rl) 0 [] N body (ownPostG w.heap.size (fun _ _ => True) I Ix (pre ++ [x]) W) ((d, enc x) :: (p, enc x) :: l) W)
    (hdone : ∀ (D : Nat) (xs : List α) (W : World), w.heap.size ≤ D → S xs → I xs W → W.heap[D]? = some (.deferred (some [])) → PostD (mark D) N Q .normal l W)
    (hstop : ∀ (D : Nat) (c : Code) (pre : List α) (W : World), w.heap.size ≤ D → Sp pre → Ix c pre W → W.heap[D]? = some (.deferred (some [])) → WI P none 2 (mark D) N c Q l W) :
    WI P none 2 [] N (.rangeFunc g #[p] (.region id #[⟨some d, .assign (.tmp p), ty, pos, after, none⟩] false) body) Q l w := by
  intro a ha
  have ha0 : At N a l := by have := ha.2; rwa [atd_eta ha.1] at this
  refine wpIn_rangeFunc_ownG (F := ro none) (a₁ := fun x => (({ a with defers := [] } : Act).put (some p) (enc x)).put (some d) (enc x)) rfl (by omega) (ha.eval hg) trivial eg hseq (fun _ _ => trivial) (fun _ _ _ _ _ _ _ _ => trivial) (Below.refl _ _) (fun _ => rfl) I Ix hI hIx h0 ?_ ?_ ?_ ?_
  · intro rl x W K hK
    refine wp_assign1 (r := some rl) ?_
    have e1 : ({ tmps := ((#[p] : Array Tmp).zip #[enc x]).foldl (fun t (p, v) => t.setIfInBounds p v) a.tmps, defers := [] } : Act) = ({ a with defers := [] } : Act).put (some p) (enc x) := by
      simp [Act.put]
    rw [e1]
    have e2 : (({ a with defers := [] } : Act).put (some p) (enc x)).eval (.tmp p) = enc x := (ha.2.put hp (enc x)).eval (show ev ((p, enc x) :: l) (.tmp p) = some (enc x) by show lk _ _ = _; rw [lk_cons, if_pos rfl])
    rw [e2]
    exact hK
  · intro rl pre x W hi hl
    exact hbody rl pre x W hi hl _ (atd_of ((ha.2.put hp _).put hd _))
  · intro D xs W hD hS hi hk
    exact hdone D xs W hD hS hi hk _ ⟨by rw [ha.1]; rfl, ha.2⟩
  · intro D c pre W hD hS hi hk
    exact hstop D c pre W hD hS hi hk _ ⟨by rw [ha.1]; rfl, ha.2⟩
theorem post_retC {t b : Nat} {T tb : TypeId} {v : Value} (hr : fn.results = #[.cell t T]) (hp : lk l t = some (.pointer (some ⟨b, 0, none⟩))) (hna : NA P T) (hB : Blk w b tb #[v]) (hR : R (.returned v) w) :
    Post N (bodyPost P fn R) .ret l w := fun a ha => by
  refine ⟨ha.defers, v, ?_, hR⟩
  have h1 := ha.slots _ _ hp
  have hc : w.cell? ⟨b, 0, none⟩ = some v := hB.cell (by simp)
  simp [results, hr, h1, asAddr, loadVar, hna w, hc]
theorem keeps_ext {B : Nat} {W W' : World} (h : Ext W W') : KeepsFrom B W W' := ⟨h.size, fun k o _ hk _ => (Below.block h k (Array.getElem?_eq_some_iff.1 hk).1).trans hk⟩
theorem own_and {β : Type} {B : Nat} {A : β → Prop} {I : β → World → Prop} (h : OwnFrom B I) : OwnFrom B (fun s W => A s ∧ I s W) := fun s W W' row hs hg hr => ⟨hs.1, h s W W' row hs.2 hg hr⟩
theorem own_blk {β : Type} {B b t : Nat} {cs : β → Array Value} (hb : b < B) : OwnFrom B (fun s W => Blk W b t (cs s)) := fun s W W' row hs hg hr => by
  have h1 : W.heap[b]? = some (.cells (cs s) t) := hs
  show W'.heap[b]? = some (.cells (cs s) t)
  rw [hg.block b (Array.getElem?_eq_some_iff.1 h1).1 (fun e => by have := (hr b e.symm).1; omega)]
  exact h1
end
end Go.Sx

namespace Go.Sx
open Go Go.RowKit Go.Pl
def flatI (L : List (List Int)) : List Value := L.flatten.map (Value.int .i64)
theorem add_add_s (a : Addr) (m n : Nat) : (a.add m).add n = a.add (m + n) := by
  unfold Addr.add
  by_cases hm : m = 0
  · subst hm; simp
  · by_cases hn : n = 0
    · subst hn; simp [hm]
    · simp [hm, hn, Nat.add_assoc]
theorem flat_length {s : Nat} : ∀ {L : List (List Int)}, (∀ r ∈ L, r.length = s) → L.flatten.length = L.length * s
  | [], _ => by simp
  | r :: L, h => by
    have ih := flat_length (L := L) fun x hx => h x (List.mem_cons_of_mem _ hx)
    have h1 := h r (List.mem_cons_self ..)
    simp only [List.flatten_cons, List.length_append, List.length_cons, ih, h1, Nat.add_mul, Nat.one_mul, Nat.add_comm]
theorem flat_get {s : Nat} : ∀ {L : List (List Int)} (u : Nat), (∀ r ∈ L, r.length = s) → u < L.length → (L.flatten.drop (u * s)).take s = L.getD u []
  | [], _, _, h => absurd h (by simp)
  | r :: L, 0, h, _ => by
    have h1 := h r (List.mem_cons_self ..)
    rw [List.flatten_cons, Nat.zero_mul, List.drop_zero, List.take_append_of_le_length (by omega), ← h1, List.take_length]
    rfl
  | r :: L, u + 1, h, hu => by
    have h1 := h r (List.mem_cons_self ..)
    have ih := flat_get (L := L) u (fun x hx => h x (List.mem_cons_of_mem _ hx)) (by simpa using hu)
    have e : (r ++ L.flatten).drop s = L.flatten := by rw [← h1, List.drop_left]
    rw [List.flatten_cons, Nat.add_mul, Nat.one_mul, Nat.add_comm (u * s) s, ← List.drop_drop, e, ih]
    rfl
/-- A slice of structs of s ints each. -/
structure RowsI (w : World) (v : Value) (s : Nat) (L : List (List Int)) : Prop where
  ex : ∃ a c, v = .slice a L.length c ∧ L.length ≤ c ∧ (0 < L.length → ∃ ad, a = some ad ∧ ∀ j u, (flatI L)[j]? = some u → w.cell? (ad.add j) = some u)
  rows : ∀ r ∈ L, r.length = s
  le : L.length ≤ 140737488355328
theorem RowsI.ext {w w' : World} {v : Value} {s : Nat} {L : List (List Int)} (h : RowsI w v s L) (hE : Ext w w') : RowsI w' v s L := by
  obtain ⟨⟨a, c, h1, h2, h3⟩, h4, h5⟩ := h
  refine ⟨⟨a, c, h1, h2, fun hp => ?_⟩, h4, h5⟩
  obtain ⟨ad, e, hc⟩ := h3 hp
  exact ⟨ad, e, fun j u hu => hE.cell (hc j u hu)⟩
theorem RowsI.nil (w : World) (s : Nat) : RowsI w (.slice none 0 0) s [] := ⟨⟨none, 0, rfl, Nat.le_refl _, fun h => absurd h (by simp)⟩, by simp, by simp⟩
/-- The call's own slice of structs. -/
structure OwnR (B : Nat) (w : World) (v : Value) (E : TypeId) (s : Nat) (L : List (List Int)) : Prop where
  row : w.ownsRow B E s v L.length (flatI L)
  rows : ∀ r ∈ L, r.length = s
  le : L.length ≤ 140737488355328
theorem OwnR.nil (B : Nat) (w : World) (E : TypeId) (s : Nat) : OwnR B w (.slice none 0 0) E s [] := ⟨World.ownsRow_nil w B E s, by simp, by simp⟩
theorem OwnR.ext {B : Nat} {w w' : World} {v : Value} {E : TypeId} {s : Nat} {L : List (List Int)} (h : OwnR B w v E s L) (hE : Ext w w') : OwnR B w' v E s L := by
  refine ⟨h.row.kept (row := none) ⟨hE.os, hE.tape, hE.output, hE.size, fun k hk _ => hE.block k hk⟩ ?_, h.rows, h.le⟩
  cases v.ownBlock <;> simp
theorem OwnR.kept {B : Nat} {w w' : World} {v v2 : Value} {E : TypeId} {s : Nat} {L : List (List Int)} (h : OwnR B w v E s L) (hg : w.grownBy w' v2.ownBlock) (hne : v.ownBlock ≠ v2.ownBlock) : OwnR B w' v E s L :=
  ⟨h.row.kept hg (.inr hne), h.rows, h.le⟩
theorem OwnR.keptB {B : Nat} {w w' : World} {v : Value} {E : TypeId} {s : Nat} {L : List (List Int)} {b : Nat} (h : OwnR B w v E s L) (hg : w.grownBy w' (some b)) (hne : v.ownBlock ≠ some b) : OwnR B w' v E s L :=
  ⟨h.row.kept hg (.inr hne), h.rows, h.le⟩
theorem OwnR.lt {B : Nat} {w : World} {v : Value} {E : TypeId} {s : Nat} {L : List (List Int)} (h : OwnR B w v E s L) : ∀ k, v.ownBlock = some k → B ≤ k ∧ k < w.heap.size := h.row.lt
theorem OwnR.read {B : Nat} {w : World} {v : Value} {E : TypeId} {s : Nat} {L : List (List Int)} (h : OwnR B w v E s L) : RowsI w v s L := by
  obtain ⟨h1, h2, h3⟩ := h
  refine ⟨?_, h2, h3⟩
  rcases h1.2 with ⟨rfl, hn⟩ | ⟨g, cap, cur, rfl, _, hg, hnc, _⟩
  · exact ⟨none, 0, by rw [hn], by omega, fun h => absurd h (by omega)⟩
  · exact ⟨some ⟨g, 0, none⟩, cap, rfl, hnc, fun _ => ⟨_, rfl, h1.cells rfl⟩⟩
theorem Ext.grownR {w0 w w' : World} {v : Value} {B : Nat} {E : TypeId} {s : Nat} {L : List (List Int)} (h : Ext w0 w) (hg : w.grownBy w' v.ownBlock) (ho : OwnR B w v E s L) (hB : w0.heap.size ≤ B) : Ext w0 w' :=
  Below.grown h hg h.size (fun k hk => by have := (ho.lt k hk).1; omega)

section
variable {P : Program} {N : Nat} {l : Env} {w : World} {ops : Array Oper} {dr : Bool} {Q : Act → World → Prop} {π : List Nat} {i d : Nat} {v : Value} {op : Op} {ty : TypeId} {pos : String} {after : Array Edge} {g : Option (Nat × Bool)}
variable {x y c p : Operand} {u z : Int} {T T' E : TypeId} {s b : Nat} {zv : Value} {L : List (List Int)}
theorem lenR {w0 : World} (hx : ev l x = some v) (hT : SlT P T E zv s b) (hs : RowsI w0 v s L := by assumption) :
    Yl P N (.call ⟨.builtin .len, #[x], #[T]⟩) ty l w (.int .i64 L.length) := fun a ha w' _ o ho _ => by
  obtain ⟨⟨ad, cc, rfl, _⟩, _⟩ := hs
  simp [execOp, ho, ha.eval hx, resolve, invoke, builtin, Builtin.len_, run_underlying hT.und, goInt]
theorem iadR {w0 : World} (hx : ev l x = some v) (hy : ev l y = some (.int .i64 u)) (hT : SlT P T E zv s b) (hs : RowsI w0 v s L := by assumption) (h0 : 0 ≤ u := by omega) (h1 : u < L.length := by omega) :
    Yl P N (.indexAddr T x y) ty l w (eptr v s u) := fun a ha w' _ o ho _ => by
  obtain ⟨⟨ad, cc, rfl, hc, hx'⟩, _⟩ := hs
  obtain ⟨ad, rfl, _⟩ := hx' (by omega)
  obtain ⟨j, hj, _, hj2, _⟩ := info_of hT
  simp [execOp, ho, ha.eval hx, ha.eval hy, Instr.indexAt, run_underlying hT.und, asIntOf, h0, h1, eptr, sizeOf, typeInfo, hj, hj2]
theorem ldR {w0 : World} {v0 : Value} (hp : ev l p = some (eptr v0 s u)) (hA : AG P T s) (hs : RowsI w0 v0 s L := by assumption) (hE : Ext w0 w := by first | exact Ext.refl _ | assumption) (h0 : 0 ≤ u := by omega) (h1 : u < L.length := by omega) :
    Yl P N (.load T p) ty l w (.agg ((L.getD u.toNat []).map (Value.int .i64)).toArray) := fun a ha w' hE' o ho _ => by
  replace hE' := hE'.resolve_left (by simp [isM])
  obtain ⟨⟨ad, cc, rfl, hc, hx'⟩, hr, _⟩ := hs
  obtain ⟨ad, rfl, hcell⟩ := hx' (by omega)
  have hu : u.toNat < L.length := by omega
  have hfl := flat_length hr
  have hle : u.toNat * s + s ≤ L.length * s := by
    rw [← Nat.succ_mul]
    exact Nat.mul_le_mul_right _ (by omega)
  have hrow : ((flatI L).drop (u.toNat * s)).take s = (L.getD u.toNat []).map (Value.int .i64) := by
    rw [flatI, ← List.map_drop, ← List.map_take, flat_get _ hr hu]
  have hcs : ∀ j v, ((L.getD u.toNat []).map (Value.int .i64))[j]? = some v → w'.cell? ((ad.add (u.toNat * s)).add j) = some v := by
    intro j v hv
    rw [← hrow] at hv
    have hlt : j < s := by
      have := (List.getElem?_eq_some_iff.1 hv).1
      simp at this; omega
    rw [List.getElem?_take, if_pos hlt, List.getElem?_drop] at hv
    have := (hE.trans hE').cell (hcell _ _ hv)
    rw [← this, add_add_s]
  have hl := run_loadCells_list (P := P) w' (ad.add (u.toNat * s)) _ hcs
  have hlen : ((L.getD u.toNat []).map (Value.int .i64)).length = s := by rw [← hrow, List.length_take, List.length_drop, flatI, List.length_map, hfl]; omega
  rw [hlen] at hl
  simp [execOp, ho, ha.eval hp, eptr, Instr.loadAt, Instr.sureAddr, loadVar, hA.agg w', hA.size w', hl]
theorem fill_one {place : Nat → Option (Nat × Nat)} {cells cs : Array Value} {s : Nat} (hp : place 0 = some (0, s)) (hs : cs.size = s) (hc : cells.size = s) : Instr.fill place cells [(0, .agg cs)] = some cs := by
  have hcs : (Value.agg cs).cells = cs := rfl
  simp only [Instr.fill, hp, hcs, hs, hc]
  rw [if_neg (by simp)]
  congr 1
  subst hs
  have key : ∀ (k : Nat) (acc : Array Value), acc.size = cs.size → k ≤ cs.size → (∀ j, j < k → acc[j]? = cs[j]?) →
      ((cs.toList.drop k).zipIdx k).foldl (fun a (q : Value × Nat) => a.setIfInBounds (0 + q.2) q.1) acc = cs := by
    intro k
    induction hn : cs.size - k generalizing k with
    | zero =>
      intro acc h1 h2 h3
      rw [List.drop_of_length_le (by simp; omega)]
      simp only [List.zipIdx_nil, List.foldl_nil]
      apply Array.ext_getElem?
      intro j
      by_cases hj : j < k
      · exact h3 j hj
      · rw [Array.getElem?_eq_none (by omega), Array.getElem?_eq_none (by omega)]
    | succ n ih =>
      intro acc h1 h2 h3
      have hk : k < cs.size := by omega
      rw [List.drop_eq_getElem_cons (by simpa using hk), List.zipIdx_cons, List.foldl_cons]
      refine ih (k + 1) (by omega) _ (by simpa using h1) (by omega) fun j hj => ?_
      simp only [Nat.zero_add]
      by_cases e : j = k
      · subst e
        simp [h1, hk]
      · rw [Array.getElem?_setIfInBounds_ne (Ne.symm e)]
        exact h3 j (by omega)
  have := key 0 cells hc (Nat.zero_le _) (fun j hj => absurd hj (by omega))
  rw [List.drop_zero] at this
  simp only [Nat.zero_add] at this
  rw [← Array.foldl_toList, Array.toList_zipIdx]
  simpa using this
/-- A slice literal of one struct. -/
theorem BSR {r : List Int} (hi : ops[i]? = some ⟨some d, .buildSlice T 1 #[(0, x)], ty, pos, after, g⟩) (hw : Wt ops N l g) (hd : Nat.blt d N = true) (hx : ev l x = some (.agg (r.map (Value.int .i64)).toArray)) (hT : SlT P T E zv s b) (hr : r.length = s) (hs : 0 < s) (hsb : s ≤ 1000)
    (h : ∀ v w', Ext w w' → RowsI w' v s [r] → WR P N ops dr Q π ((d, v) :: l) w') : WR P N ops dr Q (i :: π) l w := by
  obtain ⟨j, hj, hj1, hj2, _⟩ := info_of hT
  have hfr : flatI [r] = r.map (Value.int .i64) := by simp [flatI]
  have hown : (w.alloc (.cells (r.map (Value.int .i64)).toArray E)).ownsRow w.heap.size E s (.slice (some ⟨w.heap.size, 0, none⟩) 1 1) 1 (flatI [r]) := by
    refine ⟨by simp [hfr, hr], .inr ⟨w.heap.size, 1, (r.map (Value.int .i64)).toArray, rfl, Nat.le_refl _, heap_alloc_new w _, Nat.le_refl _, by unfold maxLen; omega, by simp [hr], ?_⟩⟩
    rw [hfr, Nat.one_mul]
    exact List.take_of_length_le (by simp [hr])
  have hro : RowsI (w.alloc (.cells (r.map (Value.int .i64)).toArray E)) (.slice (some ⟨w.heap.size, 0, none⟩) 1 1) s [r] := OwnR.read (B := w.heap.size) (E := E) ⟨hown, by simp [hr], by simp⟩
  refine F (v := .slice (some ⟨w.heap.size, 0, none⟩) 1 1) (w' := w.alloc (.cells (r.map (Value.int .i64)).toArray E)) hi hw rfl hd (fun a ha => ?_) (fun _ _ => Ext.alloc _ _) (h _ _ (Ext.alloc _ _) hro)
  have hf : ∀ cells : Array Value, cells.size = s → Instr.fill (fun i => some (i * s, s)) cells [(0, .agg (r.map (Value.int .i64)).toArray)] = some (r.map (Value.int .i64)).toArray := fun cells hc => fill_one (by simp) (by simp [hr]) hc
  have h2 : ¬ 16777216 < s := by omega
  have h3 : ¬ s = 0 := by omega
  simp [execOp, ha.eval hx, Instr.buildSlice, run_underlying hT.und, sizeOf, typeInfo, hj, hj1, hj2, newRow, zeroValue, h2, h3, hf]
/-- append of one struct onto nil or the call's own slice. -/
theorem APR {v0 v1 : Value} {B : Nat} {r : List Int} {w0 : World} (hi : ops[i]? = some ⟨some d, .call ⟨.builtin .append, #[x, y], #[T, T]⟩, ty, pos, after, g⟩) (hw : Wt ops N l g) (hd : Nat.blt d N = true) (hx : ev l x = some v0) (hy : ev l y = some v1)
    (hT : SlT P T E zv s b) (hz : zv.cells.size = s) (hs0 : 0 < s) (htl : dr = true → isTail ops i = false → Ext w w → v0.ownBlock = none)
    (h : ∀ v w', w.grownBy w' v0.ownBlock → (∀ w0, w0.heap.size ≤ B → Ext w0 w → Ext w0 w') → OwnR B w' v E s (L ++ [r]) → (v.ownBlock = v0.ownBlock ∨ v.ownBlock = some w.heap.size) → WR P N ops dr Q π ((d, v) :: l) w')
    (ho : OwnR B w v0 E s L := by assumption) (hB : B ≤ w.heap.size := by first | exact Nat.le_refl _ | exact Ext.size (by assumption)) (hs : RowsI w0 v1 s [r] := by assumption) (hE : Ext w0 w := by first | exact Ext.refl _ | assumption)
    (hlen : (L.length + 1) * b ≤ 140737488355328 := by omega) (hlen1 : L.length + 1 ≤ 140737488355328 := by omega) : WR P N ops dr Q (i :: π) l w := by
  obtain ⟨j, hj, hj1, hj2, hj3⟩ := info_parts hT.inf
  obtain ⟨⟨a1, c1, rfl, hc1, hx1⟩, hr1, _⟩ := hs.ext hE
  obtain ⟨ad, rfl, hcell⟩ := hx1 (by simp)
  have hrl : r.length = s := hr1 r (by simp)
  have hfr : flatI [r] = r.map (Value.int .i64) := by simp [flatI]
  obtain ⟨v', w', hrun, h2, h3, _, h5⟩ := run_append_own_at (P := P) w B T ty E j zv s b hT.und hj hj1 hj2 hj3 hz hs0 v0 L.length (flatI L) ho.row ad 1 c1 (flatI [r]) (by rw [hfr]; simp [hrl]) hcell (by rw [hfr]; intro u hu; obtain ⟨_, _, rfl⟩ := List.mem_map.1 hu; rfl) (by unfold maxLen; omega) hlen hB
  have hfl : flatI L ++ flatI [r] = flatI (L ++ [r]) := by simp [flatI]
  rw [hfl] at h2
  refine F (v := v') (w' := w') hi hw rfl hd (fun a ha => ?_) (fun hdr ht => ?_) (h v' w' h3 (fun w0 hB0 hE0 => hE0.grownR h3 ho hB0) ⟨by simpa using h2, fun q hq => ?_, by simpa using hlen1⟩ h5)
  · have e1 : [r].length = 1 := rfl
    simp [execOp, resolve, invoke, builtin, ha.eval hx, ha.eval hy, e1, hrun]
  · rw [htl hdr ht (Ext.refl _)] at h3
    exact Ext.of_grown h3
  · rcases List.mem_append.1 hq with hq | hq
    · exact ho.rows q hq
    · exact hr1 q hq
end
end Go.Sx

namespace Go.Sx
open Go Go.RowKit Go.Pl
/-- The world grew; of the old blocks only those in X may have changed. -/
structure Gr (X : List Nat) (w w' : World) : Prop where
  os : w'.os = w.os
  tape : w'.tape = w.tape
  output : w'.output = w.output
  size : w.heap.size ≤ w'.heap.size
  block : ∀ k, k < w.heap.size → k ∉ X → w'.heap[k]? = w.heap[k]?
theorem Gr.refl (X : List Nat) (w : World) : Gr X w w := ⟨rfl, rfl, rfl, Nat.le_refl _, fun _ _ _ => rfl⟩
theorem Gr.trans {X : List Nat} {a b c : World} (h : Gr X a b) (k : Gr X b c) : Gr X a c :=
  ⟨k.os.trans h.os, k.tape.trans h.tape, k.output.trans h.output, Nat.le_trans h.size k.size, fun j hj hx => (k.block j (Nat.lt_of_lt_of_le hj h.size) hx).trans (h.block j hj hx)⟩
theorem Gr.mono {X Y : List Nat} {a b : World} (h : Gr X a b) (hX : ∀ k ∈ X, k ∈ Y) : Gr Y a b := ⟨h.os, h.tape, h.output, h.size, fun k hk hy => h.block k hk (fun hx => hy (hX k hx))⟩
theorem Gr.of_grown {X : List Nat} {w w' : World} {row : Option Nat} (h : w.grownBy w' row) (hr : ∀ k, row = some k → k ∈ X) : Gr X w w' :=
  ⟨h.os, h.tape, h.output, h.size, fun k hk hx => h.block k hk (fun e => hx (hr k e.symm))⟩
theorem Gr.of_ext {X : List Nat} {w w' : World} (h : Ext w w') : Gr X w w' := ⟨h.os, h.tape, h.output, h.size, fun k hk _ => h.block k hk⟩
theorem Gr.ext {X : List Nat} {w0 w w' : World} (h : Gr X w w') (hE : Ext w0 w) (hX : ∀ k ∈ X, w0.heap.size ≤ k) : Ext w0 w' :=
  ⟨h.os.trans hE.os, h.tape.trans hE.tape, h.output.trans hE.output, Nat.le_trans hE.size h.size, fun k hk => (h.block k (Nat.lt_of_lt_of_le hk hE.size) (fun hx => by have := hX k hx; omega)).trans (hE.block k hk)⟩
theorem Gr.ext' {w w' : World} (h : Gr [] w w') : Ext w w' := h.ext (Ext.refl w) (by simp)
theorem ownsRow_block {B : Nat} {w w' : World} {v : Value} {E : TypeId} {s n : Nat} {xs : List Value} (h : w.ownsRow B E s v n xs) (hb : ∀ k, v.ownBlock = some k → w'.heap[k]? = w.heap[k]?) : w'.ownsRow B E s v n xs := by
  obtain ⟨h0, h1⟩ := h
  refine ⟨h0, ?_⟩
  rcases h1 with h1 | ⟨g, cap, cur, hv, hg, hc, r⟩
  · exact .inl h1
  · refine .inr ⟨g, cap, cur, hv, hg, ?_, r⟩
    rw [hb g (by rw [hv]; rfl)]
    exact hc
theorem Own.gr {B : Nat} {w w' : World} {v : Value} {E : TypeId} {xs : List Value} {X : List Nat} (h : Own B w v E xs) (hg : Gr X w w') (hX : ∀ k, v.ownBlock = some k → k ∉ X) : Own B w' v E xs :=
  ⟨ownsRow_block h.row fun k hk => hg.block k (h.lt k hk).2 (hX k hk), h.le⟩
theorem OwnR.gr {B : Nat} {w w' : World} {v : Value} {E : TypeId} {s : Nat} {L : List (List Int)} {X : List Nat} (h : OwnR B w v E s L) (hg : Gr X w w') (hX : ∀ k, v.ownBlock = some k → k ∉ X) : OwnR B w' v E s L :=
  ⟨ownsRow_block h.row fun k hk => hg.block k (h.lt k hk).2 (hX k hk), h.rows, h.le⟩
theorem Blk.gr {w w' : World} {g : Nat} {t : TypeId} {cs : Array Value} {X : List Nat} (h : Blk w g t cs) (hg : Gr X w w') (hX : g ∉ X) : Blk w' g t cs := (hg.block g h.lt hX).trans h
theorem Sl.gr {w w' : World} {v : Value} {xs : List Value} {X : List Nat} (h : Sl w v xs) (hg : Gr X w w') (hX : ∀ k, v.ownBlock = some k → k ∉ X) : Sl w' v xs := by
  obtain ⟨⟨a, c, hv, hc, hx⟩, hl⟩ := h
  refine ⟨⟨a, c, hv, hc, fun h0 => ?_⟩, hl⟩
  obtain ⟨ad, ha, hh⟩ := hx h0
  subst ha hv
  refine ⟨ad, rfl, fun j u hu => ?_⟩
  have hcell := hh j u hu
  have hlt := World.block_lt_of_cell? w _ hcell
  have hb : (ad.add j).block = ad.block := by
    simp only [Addr.add]
    split <;> rfl
  rw [hb] at hlt
  have := hg.block ad.block hlt (hX _ rfl)
  unfold World.cell? at hcell ⊢
  rw [hb] at hcell ⊢
  rw [this]
  exact hcell
theorem Ints.gr {w w' : World} {v : Value} {zs : List Int} {X : List Nat} (h : Ints w v zs) (hg : Gr X w w') (hX : ∀ k, v.ownBlock = some k → k ∉ X) : Ints w' v zs := Sl.gr h hg hX
theorem RowsI.gr {w w' : World} {v : Value} {s : Nat} {L : List (List Int)} {X : List Nat} (h : RowsI w v s L) (hg : Gr X w w') (hX : ∀ k, v.ownBlock = some k → k ∉ X) : RowsI w' v s L := by
  obtain ⟨⟨a, c, hv, hc, hx⟩, hr, hl⟩ := h
  refine ⟨⟨a, c, hv, hc, fun h0 => ?_⟩, hr, hl⟩
  obtain ⟨ad, ha, hh⟩ := hx h0
  subst ha hv
  refine ⟨ad, rfl, fun j u hu => ?_⟩
  have hcell := hh j u hu
  have hlt := World.block_lt_of_cell? w _ hcell
  have hb : (ad.add j).block = ad.block := by
    simp only [Addr.add]
    split <;> rfl
  rw [hb] at hlt
  have := hg.block ad.block hlt (hX _ rfl)
  unfold World.cell? at hcell ⊢
  rw [hb] at hcell ⊢
  rw [this]
  exact hcell
def RetG (X : List Nat) (w : World) (Φ : Value → World → Prop) : Ending → World → Prop := Ret (fun v w' => Gr X w w' ∧ Φ v w')
section
variable {P : Program} {N : Nat} {l : Env} {w : World} {ops : Array Oper} {dr : Bool} {Q : Act → World → Prop} {π : List Nat} {i d : Nat} {v : Value} {op : Op} {ty : TypeId} {pos : String} {after : Array Edge} {g : Option (Nat × Bool)}
/-- A call of a function that writes into the blocks X. -/
theorem CG {X : List Nat} {f : FuncId} {cl : List Operand} {ats : Array TypeId} {vs : List Value} {Φ : Value → World → Prop} (hi : ops[i]? = some ⟨some d, .call ⟨.value (.func f), cl.toArray, ats⟩, ty, pos, after, g⟩) (hw : Wt ops N l g) (hd : Nat.blt d N = true)
    (hv : evs l cl = some vs) (hf : ∀ args w, (callFunc f args).run P w = .ok (.enter f args) w) (hc : Calls P f vs.toArray w (RetG X w Φ)) (htl : dr = true → isTail ops i = true)
    (h : ∀ v w', Gr X w w' → Φ v w' → WR P N ops dr Q π ((d, v) :: l) w') : WR P N ops dr Q (i :: π) l w := fun a ha => by
  refine ⟨_, hi, ?_⟩
  rw [if_pos (hw a ha _ rfl)]
  refine .inr ⟨rfl, ?_⟩
  have hm := ha.evals hv
  have hrun : (execOp a.eval ⟨some d, .call ⟨.value (.func f), cl.toArray, ats⟩, ty, pos, after, g⟩).run P w = .ok (.enter f vs.toArray) w := by
    simp only [execOp, resolve, List.map_toArray, hm, Act.eval, Deferred.ofValue]
    simp [invoke, hf]
  unfold Oper.wp
  rw [hrun, Oper.upon_enter]
  refine hc.mono fun e w' he => ?_
  cases e with
  | returned v => exact ⟨⟨v, rfl⟩, fun h1 h2 => (by rw [htl h1] at h2; cases h2), h v w' he.1 he.2 _ (ha.put hd v)⟩
  | panicked c => exact he
  | outgrown => exact he.elim
end
end Go.Sx

namespace Go.Sx
open Go Go.RowKit Go.Pl

/-- The slice's block is none of X. -/
def NB (X : List Nat) (v : Value) : Prop := ∀ k, v.ownBlock = some k → k ∉ X
/-- X' is X and what was made since. -/
def Newer (w : World) (X X' : List Nat) : Prop := ∀ k ∈ X', k ∈ X ∨ w.heap.size ≤ k
theorem Newer.refl (w : World) (X : List Nat) : Newer w X X := fun k h => .inl h
theorem Newer.trans {w w' : World} {X Y Z : List Nat} (h : Newer w X Y) (k : Newer w' Y Z) (hs : w.heap.size ≤ w'.heap.size) : Newer w X Z := fun j hj => by
  rcases k j hj with h1 | h1
  · exact h j h1
  · exact .inr (by omega)
/-- A slice of ints that lies outside of X. -/
def IntsX (X : List Nat) (w : World) (v : Value) (z : List Int) : Prop := Ints w v z ∧ (z = [] ∨ NB X v)
/-- A slice of slices of ints that lies outside of X, rows and all. -/
def LLX (X : List Nat) (w : World) (v : Value) (L : List (List Int)) : Prop :=
  ∃ rows, Sl w v rows ∧ rows.length = L.length ∧ (L = [] ∨ NB X v) ∧ ∀ (i : Nat) r zs, rows[i]? = some r → L[i]? = some zs → IntsX X w r zs
theorem ints_empty {w w' : World} {v : Value} (h : Ints w v []) : Ints w' v [] := by
  obtain ⟨⟨a, c, hv, hc, _⟩, hl⟩ := h
  exact ⟨⟨a, c, hv, hc, fun h => absurd h (by simp)⟩, hl⟩
theorem IntsX.ext {X : List Nat} {w w' : World} {v : Value} {z : List Int} (h : IntsX X w v z) (hE : Ext w w') : IntsX X w' v z := ⟨h.1.ext hE, h.2⟩
theorem IntsX.gr {X X' : List Nat} {w w' : World} {v : Value} {z : List Int} (h : IntsX X w v z) (hg : Gr X w w') (hX : Newer w X X') : IntsX X' w' v z := by
  rcases Nat.eq_zero_or_pos z.length with h0 | h0
  · obtain rfl := List.eq_nil_of_length_eq_zero h0
    exact ⟨ints_empty h.1, .inl rfl⟩
  · have hn : NB X v := h.2.resolve_left (fun e => by rw [e] at h0; simp at h0)
    refine ⟨h.1.gr hg hn, .inr fun k hk hx => ?_⟩
    obtain ⟨j, hj, hlt⟩ := h.1.lt h0
    rw [hj] at hk
    cases hk
    rcases hX _ hx with h1 | h1
    · exact hn _ hj h1
    · omega
theorem LLX.ll {X : List Nat} {w : World} {v : Value} {L : List (List Int)} (h : LLX X w v L) : LL w v L := by
  obtain ⟨rows, h1, h2, _, h3⟩ := h
  exact ⟨rows, h1, h2, fun i r zs a b => (h3 i r zs a b).1⟩
theorem LLX.ext {X : List Nat} {w w' : World} {v : Value} {L : List (List Int)} (h : LLX X w v L) (hE : Ext w w') : LLX X w' v L := by
  obtain ⟨rows, h1, h2, h0, h3⟩ := h
  exact ⟨rows, h1.ext hE, h2, h0, fun i r zs a b => (h3 i r zs a b).ext hE⟩
theorem LLX.gr {X X' : List Nat} {w w' : World} {v : Value} {L : List (List Int)} (h : LLX X w v L) (hg : Gr X w w') (hX : Newer w X X') : LLX X' w' v L := by
  obtain ⟨rows, h1, h2, h0, h3⟩ := h
  rcases Nat.eq_zero_or_pos L.length with hz | hz
  · obtain rfl := List.eq_nil_of_length_eq_zero hz
    obtain rfl := List.eq_nil_of_length_eq_zero (l := rows) (by simpa using h2)
    obtain ⟨⟨a, c, hv, hc, _⟩, hl⟩ := h1
    exact ⟨[], ⟨⟨a, c, hv, hc, fun h => absurd h (by simp)⟩, hl⟩, rfl, .inl rfl, fun i r zs a => by simp at a⟩
  · have hn : NB X v := h0.resolve_left (fun e => by rw [e] at hz; simp at hz)
    refine ⟨rows, h1.gr hg hn, h2, .inr fun k hk hx => ?_, fun i r zs a b => (h3 i r zs a b).gr hg hX⟩
    obtain ⟨j, hj, hlt⟩ := h1.lt (by omega)
    rw [hj] at hk
    cases hk
    rcases hX _ hx with h4 | h4
    · exact hn _ hj h4
    · omega
theorem LO.llx {B : Nat} {w : World} {v : Value} {E : TypeId} {L : List (List Int)} {X : List Nat} (h : LO B w v E L) (hX : ∀ k ∈ X, k < B) : LLX X w v L := by
  obtain ⟨h0, rows, h1, h2, h3⟩ := h
  refine ⟨rows, h1.sl, h2, .inr fun k hk hx => ?_, fun i r zs a b => ⟨(h3 i r zs a b).1, (h3 i r zs a b).2.imp id fun h4 k hk hx => ?_⟩⟩
  · have := (h1.lt k hk).1
    have := hX k hx
    omega
  · have := h4.2 k hk
    have := hX k hx
    omega
theorem OwnI.intsX {B : Nat} {w : World} {v : Value} {E : TypeId} {z : List Int} {X : List Nat} (h : OwnI B w v E z) (hX : ∀ k ∈ X, k < B) : IntsX X w v z := ⟨OwnI.ints h, .inr fun k hk hx => by
  have := (Own.lt h k hk).1
  have := hX k hx
  omega⟩
/-- Row i. -/
theorem LLX.row {X : List Nat} {w : World} {v : Value} {L : List (List Int)} (h : LLX X w v L) : ∃ rows, Sl w v rows ∧ rows.length = L.length ∧ ∀ i : Nat, i < L.length → ∃ r, rows[i]? = some r ∧ IntsX X w r (L.getD i []) := by
  obtain ⟨rows, h1, h2, _, h3⟩ := h
  refine ⟨rows, h1, h2, fun i hi => ⟨rows[i]'(by omega), by simp [h2, hi], ?_⟩⟩
  exact h3 i _ _ (by simp [h2, hi]) (by simp [hi])
section
variable {P : Program} {N : Nat} {l : Env} {w : World} {ops : Array Oper} {dr : Bool} {Q : Act → World → Prop} {π : List Nat} {i d : Nat} {v : Value} {op : Op} {ty : TypeId} {pos : String} {after : Array Edge} {g : Option (Nat × Bool)}
variable {x y z c p : Operand} {u lo hi : Int} {T T' : TypeId}
/-- 's[:hi:hi]': the cap is the length. -/
def capTo (v : Value) (n : Nat) : Value := match v with
  | .slice a _ _ => .slice a n n
  | v => v
theorem slHM {w0 : World} {xs : List Value} {E : TypeId} {zv : Value} {b : Nat} (hx : ev l x = some v) (hy : ev l y = some (.int .i64 hi)) (hz : ev l z = some (.int .i64 hi)) (hT : SlT P T E zv 1 b) (hs : Sl w0 v xs) (hh : hi = xs.length) :
    Yl P N (.slice T x none (some y) (some z)) ty l w (capTo v xs.length) := fun a ha w' _ o ho _ => by
  obtain ⟨⟨ad, cc, rfl, hc, _⟩, _⟩ := hs
  obtain ⟨j, hj, _, hj2, _⟩ := info_of hT
  have hu : P.underlying T = some (.slice (P.elem T)) := by rw [elem_of hT.und]; exact hT.und
  have e : ∀ q : Addr, q.add 0 = q := fun q => by simp [Addr.add]
  have e2 : ad.map (fun x => x.add 0) = ad := by cases ad <;> simp [e]
  subst hh
  simp [execOp, ho, ha.eval hx, ha.eval hy, ha.eval hz, run_sliceAt_slice w' T _ _ _ _ hu, run_slice_hm w' T ad xs.length cc hu .i64 .i64 xs.length xs.length (by omega) (by omega) (by omega), elem_of hT.und, sizeOf, typeInfo, hj, hj2, sliced, capTo, e2]
theorem Ints.cap {w : World} {v : Value} {zs : List Int} (h : Ints w v zs) : Ints w (capTo v zs.length) zs := by
  obtain ⟨⟨a, c, rfl, hc, hx⟩, hl⟩ := h
  exact ⟨⟨a, zs.length, by simp [capTo], by simp, hx⟩, hl⟩
theorem capTo_cap {w : World} {v : Value} {zs : List Int} (h : Ints w v zs) : ∃ a, capTo v zs.length = .slice a zs.length zs.length := by
  obtain ⟨⟨a, c, rfl, _, _⟩, _⟩ := h
  exact ⟨a, rfl⟩
/-- append onto a slice whose cap is its length: always into new memory. -/
theorem APF {a0 : Option Addr} {v1 : Value} {E : TypeId} {xs ys : List Int} {w0 w1 : World} (hi : ops[i]? = some ⟨some d, .call ⟨.builtin .append, #[x, y], #[T, T]⟩, ty, pos, after, g⟩) (hw : Wt ops N l g) (hd : Nat.blt d N = true) (hx : ev l x = some (.slice a0 xs.length xs.length)) (hy : ev l y = some v1)
    (hT : SlT P T E (.int .i64 0) 1 8) (h0 : Ints w0 (.slice a0 xs.length xs.length) xs) (hE0 : Ext w0 w) (hs : Ints w1 v1 ys) (hE1 : Ext w1 w) (hpos : 0 < ys.length) (hlen : xs.length + ys.length ≤ 17592186044416)
    (h : ∀ v w', Ext w w' → Ints w' v (xs ++ ys) → v.ownBlock = some w.heap.size → WR P N ops dr Q π ((d, v) :: l) w') : WR P N ops dr Q (i :: π) l w := by
  obtain ⟨j, hj, hj1, hj2, hj3⟩ := info_parts hT.inf
  have hs' := hs.ext hE1
  obtain ⟨⟨a1, c1, rfl, hc1, hx1⟩, _⟩ := hs'
  rw [List.length_map] at hx1 hc1 hy
  obtain ⟨ad, rfl, hcell⟩ := hx1 hpos
  have hsrc := run_firstCells_some (P := P) w.drew j.size ys.length ad ys.length c1 (ys.map (Value.int .i64)) (by rw [hj2]; simp) (by simpa using hcell)
  have hold : (Builtin.firstCells j.size xs.length (.slice a0 xs.length xs.length)).run P w.drew = .ok (xs.map (Value.int .i64)).toArray w.drew := by
    rcases Nat.eq_zero_or_pos xs.length with hz | hz
    · obtain rfl := List.eq_nil_of_length_eq_zero hz
      cases a0 <;> simp [Builtin.firstCells, loadCells, loadCellsFrom]
    · obtain ⟨⟨a, c, hv, hc, hcells⟩, _⟩ := h0.ext hE0
      rw [List.length_map] at hcells hv
      obtain ⟨ad0, ha0, hcell0⟩ := hcells hz
      cases hv
      rw [ha0]
      exact run_firstCells_some (P := P) w.drew j.size xs.length ad0 xs.length xs.length (xs.map (Value.int .i64)) (by rw [hj2]; simp) (by simpa using hcell0)
  have hsl : Src P j.size T (.slice (some ad) ys.length c1) ys.length (ys.map (Value.int .i64)) w := Src.ofSlice w hT.und ad ys.length c1 _ (by rw [hj2]; simp) hcell (fun u hu => by obtain ⟨_, _, rfl⟩ := List.mem_map.1 hu; rfl)
  have hr := run_append_grow_src (P := P) w T T ty E j (.int .i64 0) hT.und hj hj1 a0 xs.length xs.length (xs.map (Value.int .i64)) hold _ ys.length _ hsl (by omega) (by omega) (growslice_fits (by omega) (by rw [hj3]; omega))
  have hge := grownCap_ge w (xs.length + ys.length) xs.length E
  have hB : Blk (w.drew.alloc (.cells ((xs.map (Value.int .i64) ++ ys.map (Value.int .i64)).toArray ++ Builtin.zeroCells (Value.int .i64 0).cells (grownCap w (xs.length + ys.length) xs.length E - (xs.length + ys.length))) E)) w.heap.size E _ := heap_alloc_new w.drew _
  have hEx := (Ext.drew w).trans (Ext.alloc w.drew (.cells ((xs.map (Value.int .i64) ++ ys.map (Value.int .i64)).toArray ++ Builtin.zeroCells (Value.int .i64 0).cells (grownCap w (xs.length + ys.length) xs.length E - (xs.length + ys.length))) E))
  refine F (v := _) (w' := _) hi hw rfl hd (fun a ha => ?_) (fun _ _ => hEx) (h _ _ hEx ⟨⟨some ⟨w.heap.size, 0, none⟩, grownCap w (xs.length + ys.length) xs.length E, by rw [List.length_map, List.length_append], by rw [List.length_map, List.length_append]; omega, fun _ => ⟨_, rfl, fun k u hu => ?_⟩⟩, by rw [List.length_map, List.length_append]; omega⟩ rfl)
  · simp [execOp, resolve, invoke, builtin, ha.eval hx, ha.eval hy, hr]
  · rw [Addr.add_lit]
    refine hB.cell ?_
    have hk := (List.getElem?_eq_some_iff.1 hu).1
    simp only [Nat.zero_add]
    rw [← List.map_append, Array.getElem?_append_left (by simpa using hk)]
    simpa using hu
/-- A call of a function value; what it did is told by an ending's predicate. -/
theorem CVG {f : FuncId} {fs cs : List Value} {cl : List Operand} {ats : Array TypeId} {vs : List Value} {Φ : Value → World → Prop} (hi : ops[i]? = some ⟨some d, .call ⟨.value x, cl.toArray, ats⟩, ty, pos, after, g⟩) (hw : Wt ops N l g) (hd : Nat.blt d N = true)
    (hx : ev l x = some (.func (.func f) fs.toArray cs.toArray)) (hv : evs l cl = some vs) (hf : ∀ args w, (callFunc f args).run P w = .ok (.enter f args) w) (hc : Calls P f (fs ++ vs ++ cs).toArray w (Ret Φ)) (htl : dr = true → isTail ops i = true)
    (h : ∀ v w', Φ v w' → WR P N ops dr Q π ((d, v) :: l) w') : WR P N ops dr Q (i :: π) l w := fun a ha => by
  refine ⟨_, hi, ?_⟩
  rw [if_pos (hw a ha _ rfl)]
  refine .inr ⟨rfl, ?_⟩
  have hm := ha.evals hv
  have hrun : (execOp a.eval ⟨some d, .call ⟨.value x, cl.toArray, ats⟩, ty, pos, after, g⟩).run P w = .ok (.enter f (fs ++ vs ++ cs).toArray) w := by
    simp only [execOp, resolve, List.map_toArray, hm, ha.eval hx, Deferred.ofValue]
    simp [invoke, hf]
  unfold Oper.wp
  rw [hrun, Oper.upon_enter]
  refine hc.mono fun e w' he => ?_
  cases e with
  | returned v => exact ⟨⟨v, rfl⟩, fun h1 h2 => (by rw [htl h1] at h2; cases h2), h v w' he _ (ha.put hd v)⟩
  | panicked c => exact he
  | outgrown => exact he.elim
/-- The same for a function by name. -/
theorem CRG {f : FuncId} {cl : List Operand} {ats : Array TypeId} {vs : List Value} {Φ : Value → World → Prop} (hi : ops[i]? = some ⟨some d, .call ⟨.value (.func f), cl.toArray, ats⟩, ty, pos, after, g⟩) (hw : Wt ops N l g) (hd : Nat.blt d N = true)
    (hv : evs l cl = some vs) (hf : ∀ args w, (callFunc f args).run P w = .ok (.enter f args) w) (hc : Calls P f vs.toArray w (Ret Φ)) (htl : dr = true → isTail ops i = true)
    (h : ∀ v w', Φ v w' → WR P N ops dr Q π ((d, v) :: l) w') : WR P N ops dr Q (i :: π) l w := fun a ha => by
  refine ⟨_, hi, ?_⟩
  rw [if_pos (hw a ha _ rfl)]
  refine .inr ⟨rfl, ?_⟩
  have hm := ha.evals hv
  have hrun : (execOp a.eval ⟨some d, .call ⟨.value (.func f), cl.toArray, ats⟩, ty, pos, after, g⟩).run P w = .ok (.enter f vs.toArray) w := by
    simp only [execOp, resolve, List.map_toArray, hm, Act.eval, Deferred.ofValue]
    simp [invoke, hf]
  unfold Oper.wp
  rw [hrun, Oper.upon_enter]
  refine hc.mono fun e w' he => ?_
  cases e with
  | returned v => exact ⟨⟨v, rfl⟩, fun h1 h2 => (by rw [htl h1] at h2; cases h2), h v w' he _ (ha.put hd v)⟩
  | panicked c => exact he
  | outgrown => exact he.elim
/-- The call's own slice, whose rows read as the lists; a row that holds something lies outside of X and of the slice's block. -/
def LOX (X : List Nat) (B : Nat) (w : World) (v : Value) (E : TypeId) (L : List (List Int)) : Prop :=
  ∃ rows, Own B w v E rows ∧ rows.length = L.length ∧ ∀ (i : Nat) r zs, rows[i]? = some r → L[i]? = some zs → Ints w r zs ∧ (zs = [] ∨ (r.ownBlock ≠ v.ownBlock ∧ NB X r))
theorem LOX.ext {X : List Nat} {B : Nat} {w w' : World} {v : Value} {E : TypeId} {L : List (List Int)} (h : LOX X B w v E L) (hE : Ext w w') : LOX X B w' v E L := by
  obtain ⟨rows, h1, h2, h3⟩ := h
  exact ⟨rows, h1.ext hE, h2, fun i r zs a b => ⟨(h3 i r zs a b).1.ext hE, (h3 i r zs a b).2⟩⟩
theorem LOX.llx {X : List Nat} {B : Nat} {w : World} {v : Value} {E : TypeId} {L : List (List Int)} (h : LOX X B w v E L) (hX : ∀ k ∈ X, k < B) : LLX X w v L := by
  obtain ⟨rows, h1, h2, h3⟩ := h
  refine ⟨rows, h1.sl, h2, .inr fun k hk hx => ?_, fun i r zs a b => ⟨(h3 i r zs a b).1, (h3 i r zs a b).2.imp id (·.2)⟩⟩
  have := (h1.lt k hk).1
  have := hX k hx
  omega
theorem MKX {X : List Nat} {E : TypeId} {b n : Nat} {cl : Int} (hi : ops[i]? = some ⟨some d, .makeSlice T x x, ty, pos, after, g⟩) (hw : Wt ops N l g) (hd : Nat.blt d N = true) (hx : ev l x = some (.int .i64 cl)) (hT : SlT P T E (.slice none 0 0) 1 b)
    (h : ∀ v w', Ext w w' → LOX X w.heap.size w' v E (tab n fun _ => []) → WR P N ops dr Q π ((d, v) :: l) w')
    (hn : cl = (n : Int) := by omega) (hle : n ≤ 140737488355328 := by omega) (hby : b * n ≤ 281474976710656 := by omega) : WR P N ops dr Q (i :: π) l w :=
  MK hi hw hd hx hT rfl (hn := hn) (hle := hle) (hby := hby) (h := fun v w' hE ho hb => h v w' hE ⟨_, ho, by rw [List.length_replicate, tab_length], fun i r zs a b => by
    have hin : i < n := by
      have := (List.getElem?_eq_some_iff.1 a).1
      simpa using this
    rw [List.getElem?_replicate, if_pos hin] at a
    rw [tab_get hin] at b
    cases a
    cases b
    exact ⟨Ints.nil _, .inl rfl⟩⟩)
theorem STX {X : List Nat} {v0 r0 : Value} {B : Nat} {E : TypeId} {L : List (List Int)} {zs : List Int} (hi : ops[i]? = some ⟨none, .store T p x, ty, pos, after, g⟩) (hw : Wt ops N l g) (hp : ev l p = some (eptr v0 1 u)) (hx : ev l x = some r0)
    (hT : ∃ j, P.info? T = some j ∧ j.size = 1) (htl : dr = true → isTail ops i = true) (hr : Ints w r0 zs) (hne : zs = [] ∨ (r0.ownBlock ≠ v0.ownBlock ∧ NB X r0))
    (h : ∀ w', w.grownBy w' v0.ownBlock → (∀ w0, w0.heap.size ≤ B → Ext w0 w → Ext w0 w') → LOX X B w' v0 E (L.set u.toNat zs) → WR P N ops dr Q π l w')
    (ho : LOX X B w v0 E L := by assumption) (h0 : 0 ≤ u := by omega) (h1 : u < L.length := by omega) : WR P N ops dr Q (i :: π) l w := by
  obtain ⟨rows, ho1, ho2, ho3⟩ := ho
  obtain ⟨a, cc, hsl⟩ := Sl.slice hr
  have keepR : ∀ {w' : World} {r : Value} {ys : List Int}, w.grownBy w' v0.ownBlock → Ints w r ys → (ys = [] ∨ r.ownBlock ≠ v0.ownBlock) → Ints w' r ys := by
    intro w' r ys hg hri hd
    rcases hd with rfl | hd
    · exact ints_empty hri
    · exact hri.kept hg hd
  refine ST hi hw hp hx hT (Value.slice_cells _ ⟨_, _, _, hsl⟩) htl (ho := ho1) (h0 := h0) (h1 := by omega) (h := fun w' hg ho' => ?_)
  refine h w' hg (fun w0 hB hE => hE.grown hg ho1 hB) ⟨rows.set u.toNat r0, ho', by simp [ho2], fun i r ys a b => ?_⟩
  by_cases e : u.toNat = i
  · subst e
    have hl1 := (List.getElem?_eq_some_iff.1 a).1
    rw [List.length_set] at hl1
    rw [List.getElem?_set_self hl1] at a
    rw [List.getElem?_set_self (by omega)] at b
    cases a
    cases b
    exact ⟨keepR hg hr (hne.imp id (·.1)), hne⟩
  · rw [List.getElem?_set_ne e] at a b
    have h3 := ho3 i r ys a b
    exact ⟨keepR hg h3.1 (h3.2.imp id (·.1)), h3.2⟩
/-- One row is appended. -/
theorem APX {X : List Nat} {v0 v1 r : Value} {B b : Nat} {E : TypeId} {zv : Value} {L : List (List Int)} {z : List Int} {w0 : World} (hi : ops[i]? = some ⟨some d, .call ⟨.builtin .append, #[x, y], #[T, T]⟩, ty, pos, after, g⟩) (hw : Wt ops N l g) (hd : Nat.blt d N = true) (hx : ev l x = some v0) (hy : ev l y = some v1)
    (hT : SlT P T E zv 1 b) (hz : zv.cells = #[zv]) (htl : dr = true → isTail ops i = false → Ext w w → v0.ownBlock = none) (ho : LOX X B w v0 E L) (hB : B ≤ w.heap.size) (hs : Sl w0 v1 [r]) (hE : Ext w0 w) (hr : Ints w r z) (hne : z = [] ∨ (r.ownBlock ≠ v0.ownBlock ∧ NB X r))
    (hlen : (L.length + 1) * b ≤ 140737488355328) (hlen1 : L.length + 1 ≤ 140737488355328)
    (h : ∀ v w', w.grownBy w' v0.ownBlock → (∀ w0, w0.heap.size ≤ B → Ext w0 w → Ext w0 w') → LOX X B w' v E (L ++ [z]) → WR P N ops dr Q π ((d, v) :: l) w') : WR P N ops dr Q (i :: π) l w := by
  obtain ⟨rows, ho1, ho2, ho3⟩ := ho
  refine AP hi hw hd hx hy hT hz htl ho1 hB hs hE (by intro q hq; obtain rfl : q = r := (by simpa using hq); exact (Sl.slice hr).elim fun a ha => ha.elim fun c hc => Value.slice_cells _ ⟨_, _, _, hc⟩) (by rw [ho2]; simpa using hlen) (by rw [ho2]; simpa using hlen1) (fun v w' hg hX ho' hb => h v w' hg hX ⟨rows ++ [r], ho', by simp [ho2], ?_⟩)
  have keep : ∀ {q : Value} {ys : List Int}, Ints w q ys → (ys = [] ∨ (q.ownBlock ≠ v0.ownBlock ∧ NB X q)) → Ints w' q ys ∧ (ys = [] ∨ (q.ownBlock ≠ v.ownBlock ∧ NB X q)) := fun {q ys} hq hd => by
    rcases Nat.eq_zero_or_pos ys.length with h0 | h0
    · obtain rfl := List.eq_nil_of_length_eq_zero h0
      exact ⟨ints_empty hq, .inl rfl⟩
    · have hd' := hd.resolve_left (List.ne_nil_of_length_pos h0)
      refine ⟨hq.kept hg hd'.1, .inr ⟨fun e => ?_, hd'.2⟩⟩
      obtain ⟨k, hk, hlt⟩ := hq.lt h0
      rcases hb with hb | hb
      · exact hd'.1 (e.trans hb)
      · rw [hb, hk] at e
        have := Option.some.inj e
        omega
  intro i q ys a b'
  rw [List.getElem?_append] at a b'
  by_cases hi' : i < rows.length
  · rw [if_pos hi'] at a
    rw [if_pos (by omega)] at b'
    have h3 := ho3 i q ys a b'
    exact keep h3.1 h3.2
  · rw [if_neg hi'] at a
    rw [if_neg (by omega)] at b'
    have hl0 : i - rows.length = 0 := by
      have := (List.getElem?_eq_some_iff.1 a).1
      simp at this; omega
    rw [hl0] at a
    rw [show i - L.length = 0 by omega] at b'
    simp at a b'
    subst a b'
    exact keep hr hne
theorem LOX.nil (X : List Nat) (B : Nat) (w : World) (E : TypeId) : LOX X B w (.slice none 0 0) E [] := ⟨[], Own.nil B w E, rfl, fun i r zs h => by simp at h⟩
theorem LOX.ll {X : List Nat} {B : Nat} {w : World} {v : Value} {E : TypeId} {L : List (List Int)} (h : LOX X B w v E L) : LL w v L := by
  obtain ⟨rows, h1, h2, h3⟩ := h
  exact ⟨rows, h1.sl, h2, fun i r zs a b => (h3 i r zs a b).1⟩
theorem LOX.lt {X : List Nat} {B : Nat} {w : World} {v : Value} {E : TypeId} {L : List (List Int)} (h : LOX X B w v E L) : ∀ k, v.ownBlock = some k → B ≤ k ∧ k < w.heap.size := by
  obtain ⟨rows, h1, _⟩ := h
  exact h1.lt
theorem row_newX {B B' : Nat} {w w' : World} {v r : Value} {E E' : TypeId} {L : List (List Int)} {zs : List Int} (ho : LOX [] B w v E L) (hr : OwnI B' w' r E' zs) (hB : w.heap.size ≤ B') : zs = [] ∨ (r.ownBlock ≠ v.ownBlock ∧ NB [] r) := by
  rcases Nat.eq_zero_or_pos zs.length with h0 | h0
  · exact .inl (List.eq_nil_of_length_eq_zero h0)
  · right
    obtain ⟨k, hk, _⟩ := (OwnI.ints hr).lt h0
    refine ⟨fun e => ?_, fun _ _ h => by cases h⟩
    have h1 := (Own.lt hr k hk).1
    have h2 := (ho.lt k (e.symm.trans hk)).2
    omega
theorem slv_block (v : Value) (lo hi : Int) : (slv v lo hi).ownBlock = v.ownBlock := by
  cases v <;> try rfl
  rename_i a n c
  cases a with
  | none => simp only [slv, sliced]; split <;> rfl
  | some ad =>
    simp only [slv, sliced]
    split
    · rfl
    · simp only [Option.map_some, Value.ownBlock, Addr.add]
      split <;> rfl
theorem Gr.comp {X X' : List Nat} {a b c : World} (h : Gr X a b) (hX : Newer a X X') (k : Gr X' b c) : Gr X a c :=
  ⟨k.os.trans h.os, k.tape.trans h.tape, k.output.trans h.output, Nat.le_trans h.size k.size, fun j hj hx => (k.block j (Nat.lt_of_lt_of_le hj h.size) (fun hx' => by
    rcases hX j hx' with h1 | h1
    · exact hx h1
    · omega)).trans (h.block j hj hx)⟩
end
theorem intsX_new {X : List Nat} {w w' : World} {v : Value} {z : List Int} (h : Ints w' v z) (hb : v.ownBlock = some w.heap.size) (hX : ∀ k ∈ X, k < w.heap.size) : IntsX X w' v z := ⟨h, .inr fun k hk hx => by
  rw [hb] at hk
  cases hk
  have := hX _ hx
  omega⟩
section
variable {P : Program} {N : Nat} {l : Env} {w : World} {x y : Operand} {T T' : TypeId} {ty : TypeId}
/-- 'p == nil' for a pointer. -/
theorem eqlPn {a : Option Addr} {E : TypeId} (hx : ev l x = some (.pointer a)) (hy : ev l y = some (.pointer none)) (hT : P.underlying T = some (.pointer E)) : Yl P N (.binOp .eql T x y T') ty l w (.bool a.isNone) := by
  have hd : ∃ d, Op.maxDepth = d + 1 := ⟨Op.maxDepth - 1, rfl⟩
  obtain ⟨d, hd⟩ := hd
  refine yl_bin hx hy (fun w => ?_) (fun w x y => ?_)
  · cases a <;> simp [binOp, Op.equal, hd, Op.equalIn, run_underlying hT]
  · unfold eqGuard
    split <;> rfl
end
section
variable {P : Program} {N : Nat} {l : Env} {w : World} {x y : Operand} {T : TypeId} {ty : TypeId} {u : Int}
/-- T is an array of n elements of one cell. -/
structure ArT (P : Program) (T E : TypeId) (n : Nat) : Prop where
  und : P.underlying T = some (.array n E)
  sz : ∃ j, P.info? E = some j ∧ j.size = 1
theorem iadA {g off n : Nat} {E : TypeId} (hx : ev l x = some (.pointer (some ⟨g, off, none⟩))) (hy : ev l y = some (.int .i64 u)) (hT : ArT P T E n) (h0 : 0 ≤ u := by omega) (h1 : u < n := by omega) :
    Yl P N (.indexAddr T x y) ty l w (.pointer (some ⟨g, off + u.toNat, none⟩)) := fun a ha w' _ o ho _ => by
  obtain ⟨j, hj, hj2⟩ := hT.sz
  have h := run_indexAt_array (P := P) w' T ⟨g, off, none⟩ .i64 u (by simp [Program.arrayLen, Program.elem, hT.und])
  have e1 : P.arrayLen T = n := by simp [Program.arrayLen, hT.und]
  have e2 : P.elem T = E := by simp [Program.elem, hT.und]
  rw [e1, e2, if_pos ⟨h0, h1⟩] at h
  simp [execOp, ho, ha.eval hx, ha.eval hy, h, sizeOf, typeInfo, hj, hj2, Addr.add_lit]
end
theorem rows3 {w : World} {r s t : Value} {z y x : List Int} (h : Ints w r z) (k : Ints w s y) (m : Ints w t x) : RowsOk w [r, s, t] [z, y, x] := ⟨rfl, fun i r' zs a b => by
  match i with
  | 0 => cases a; cases b; exact h
  | 1 => cases a; cases b; exact k
  | 2 => cases a; cases b; exact m
  | i + 3 => simp at a⟩
/-- A function value that takes lists and keeps what it takes in blocks of its own: 'J taken blocks world'. -/
structure Fnd (P : Program) (w0 : World) (fc : FuncId) (fs cs : List Value) (M : Nat) (J : List (List Int) → List Nat → World → Prop) : Prop where
  enter : ∀ args w, (callFunc fc args).run P w = .ok (.enter fc args) w
  call : ∀ pre X w v z, J pre X w → pre.length < M → Ext w0 w → Ints w v z → z.length ≤ 64 → Calls P fc (fs ++ [v] ++ cs).toArray w (Ret fun _ w' => ∃ X', J (pre ++ [z]) X' w' ∧ Gr X w w' ∧ Newer w X X')
  ext : ∀ pre X w w', J pre X w → Ext w w' → J pre X w'
  lt : ∀ pre X w, J pre X w → ∀ k ∈ X, k < w.heap.size ∧ w0.heap.size ≤ k
theorem LL.llx {X : List Nat} {w : World} {v : Value} {L : List (List Int)} (h : LL w v L) (hX : ∀ k ∈ X, w.heap.size ≤ k) : LLX X w v L := by
  obtain ⟨rows, h1, h2, h3⟩ := h
  refine ⟨rows, h1, h2, ?_, fun i r zs a b => ⟨h3 i r zs a b, ?_⟩⟩
  · rcases Nat.eq_zero_or_pos L.length with h0 | h0
    · exact .inl (List.eq_nil_of_length_eq_zero h0)
    · right
      intro k hk hx
      obtain ⟨q, hq, hlt⟩ := h1.lt (by omega)
      rw [hq] at hk; cases hk
      have := hX _ hx
      omega
  · rcases Nat.eq_zero_or_pos zs.length with h0 | h0
    · exact .inl (List.eq_nil_of_length_eq_zero h0)
    · right
      intro k hk hx
      obtain ⟨q, hq, hlt⟩ := (h3 i r zs a b).lt h0
      rw [hq] at hk; cases hk
      have := hX _ hx
      omega
end Go.Sx

namespace Go.Sx
open Go Go.RowKit Go.Pl
/-- A slice in a block of X, made since B, whose elements read as the lists of lists and lie outside of X. -/
def BO (X : List Nat) (B : Nat) (w : World) (v : Value) (E : TypeId) (Ls : List (List (List Int))) : Prop :=
  ∃ us, Own B w v E us ∧ us.length = Ls.length ∧ ∀ (i : Nat) u L, us[i]? = some u → Ls[i]? = some L → LLX X w u L
theorem BO.ext {X : List Nat} {B : Nat} {w w' : World} {v : Value} {E : TypeId} {Ls : List (List (List Int))} (h : BO X B w v E Ls) (hE : Ext w w') : BO X B w' v E Ls := by
  obtain ⟨us, h1, h2, h3⟩ := h
  exact ⟨us, h1.ext hE, h2, fun i u L a b => (h3 i u L a b).ext hE⟩
/-- Another block of X was written. -/
theorem BO.kept {X : List Nat} {B : Nat} {w w' : World} {v v2 : Value} {E : TypeId} {Ls : List (List (List Int))} (h : BO X B w v E Ls) (hg : w.grownBy w' v2.ownBlock) (hne : v.ownBlock ≠ v2.ownBlock) (hX : ∀ k, v2.ownBlock = some k → k ∈ X) : BO X B w' v E Ls := by
  obtain ⟨us, h1, h2, h3⟩ := h
  exact ⟨us, h1.kept hg (.inl hne), h2, fun i u L a b => (h3 i u L a b).gr (Gr.of_grown hg hX) (Newer.refl _ _)⟩
/-- Blocks outside of X were written. -/
theorem BO.row {X : List Nat} {B : Nat} {w : World} {v : Value} {E : TypeId} {Ls : List (List (List Int))} (h : BO X B w v E Ls) : ∃ us, Sl w v us ∧ us.length = Ls.length ∧ ∀ i : Nat, i < Ls.length → ∃ u, us[i]? = some u ∧ LLX X w u (Ls.getD i []) := by
  obtain ⟨us, h1, h2, h3⟩ := h
  refine ⟨us, h1.sl, h2, fun i hi => ⟨us[i]'(by omega), by simp [h2, hi], ?_⟩⟩
  exact h3 i _ _ (by simp [h2, hi]) (by simp [hi])
theorem BO.lt {X : List Nat} {B : Nat} {w : World} {v : Value} {E : TypeId} {Ls : List (List (List Int))} (h : BO X B w v E Ls) : ∀ k, v.ownBlock = some k → B ≤ k ∧ k < w.heap.size := by
  obtain ⟨us, h1, _⟩ := h
  exact h1.lt
/-- An older block was written. -/
theorem LO.kept {B : Nat} {w w' : World} {v v2 : Value} {E : TypeId} {L : List (List Int)} (h : LO B w v E L) (hg : w.grownBy w' v2.ownBlock) (hlt : ∀ k, v2.ownBlock = some k → k < B) : LO B w' v E L := by
  obtain ⟨h0, rows, h1, h2, h3⟩ := h
  refine ⟨Nat.le_trans h0 hg.size, rows, h1.kept hg ?_, h2, fun i r zs a b => ?_⟩
  · rcases hv : v.ownBlock with _ | k
    · exact .inr rfl
    · left
      intro e
      have h4 := (h1.lt k hv).1
      have h5 := hlt k e.symm
      omega
  · obtain ⟨h4, h5⟩ := h3 i r zs a b
    refine ⟨?_, h5⟩
    rcases h5 with rfl | ⟨_, h6⟩
    · exact ints_empty h4
    · rcases Nat.eq_zero_or_pos zs.length with h0' | h0'
      · obtain rfl := List.eq_nil_of_length_eq_zero h0'
        exact ints_empty h4
      · obtain ⟨k, hk, _⟩ := h4.lt h0'
        refine h4.kept hg fun e => ?_
        rw [hk] at e
        have := h6 k hk
        have := hlt k e.symm
        omega
theorem IntsX.less {X X' : List Nat} {w : World} {v : Value} {z : List Int} (h : IntsX X' w v z) (hX : ∀ k ∈ X, k ∈ X') : IntsX X w v z := ⟨h.1, h.2.imp id fun h4 k hk hx => h4 k hk (hX k hx)⟩
theorem LLX.less {X X' : List Nat} {w : World} {v : Value} {L : List (List Int)} (h : LLX X' w v L) (hX : ∀ k ∈ X, k ∈ X') : LLX X w v L := by
  obtain ⟨rows, h1, h2, h0, h3⟩ := h
  exact ⟨rows, h1, h2, h0.imp id fun h4 k hk hx => h4 k hk (hX k hx), fun i r zs a b => (h3 i r zs a b).less hX⟩
theorem LLX.nil (X : List Nat) (w : World) : LLX X w (.slice none 0 0) [] := ⟨[], Sl.nil w, rfl, .inl rfl, fun i r zs a => by simp at a⟩
section
variable {P : Program} {N : Nat} {l : Env} {w : World} {ops : Array Oper} {dr : Bool} {Q : Act → World → Prop} {π : List Nat} {i d : Nat} {v : Value} {op : Op} {ty : TypeId} {pos : String} {after : Array Edge} {g : Option (Nat × Bool)}
variable {p x : Operand} {u : Int} {T : TypeId}
/-- An element is stored. -/
theorem STBO {X : List Nat} {v0 r0 : Value} {B : Nat} {E : TypeId} {Ls : List (List (List Int))} {L : List (List Int)} (hi : ops[i]? = some ⟨none, .store T p x, ty, pos, after, g⟩) (hw : Wt ops N l g) (hp : ev l p = some (eptr v0 1 u)) (hx : ev l x = some r0)
    (hT : ∃ j, P.info? T = some j ∧ j.size = 1) (htl : dr = true → isTail ops i = true) (hr : LLX X w r0 L) (hX : ∀ k, v0.ownBlock = some k → k ∈ X)
    (h : ∀ w', w.grownBy w' v0.ownBlock → (∀ w0, w0.heap.size ≤ B → Ext w0 w → Ext w0 w') → BO X B w' v0 E (Ls.set u.toNat L) → WR P N ops dr Q π l w')
    (ho : BO X B w v0 E Ls := by assumption) (h0 : 0 ≤ u := by omega) (h1 : u < Ls.length := by omega) : WR P N ops dr Q (i :: π) l w := by
  obtain ⟨us, ho1, ho2, ho3⟩ := ho
  refine ST hi hw hp hx hT hr.ll.one htl (ho := ho1) (h0 := h0) (h1 := by omega) (h := fun w' hg ho' => ?_)
  have hGr : Gr X w w' := Gr.of_grown hg hX
  refine h w' hg (fun w0 hB hE => hE.grown hg ho1 hB) ⟨us.set u.toNat r0, ho', by simp [ho2], fun i r ys a b => ?_⟩
  by_cases e : u.toNat = i
  · subst e
    have hl1 := (List.getElem?_eq_some_iff.1 a).1
    rw [List.length_set] at hl1
    rw [List.getElem?_set_self hl1] at a
    rw [List.getElem?_set_self (by omega)] at b
    cases a
    cases b
    exact hr.gr hGr (Newer.refl _ _)
  · rw [List.getElem?_set_ne e] at a b
    exact (ho3 i r ys a b).gr hGr (Newer.refl _ _)
theorem calls8 {f : FuncId} {fn : Func} {c : Code} {v0 v1 v2 v3 v4 v5 v6 v7 : Value} {R : Ending → World → Prop} (hf : P.funcs[f]? = some fn) (hb : fn.body = some c) (hN : Nat.ble 8 fn.ntmps = true := by rfl) (h : WC P fn.ntmps c (bodyPost P fn R) [(0, v0), (1, v1), (2, v2), (3, v3), (4, v4), (5, v5), (6, v6), (7, v7)] w) : Calls P f #[v0, v1, v2, v3, v4, v5, v6, v7] w R :=
  calls_of (args := [v0, v1, v2, v3, v4, v5, v6, v7]) [(0, v0), (1, v1), (2, v2), (3, v3), (4, v4), (5, v5), (6, v6), (7, v7)] hf hb rfl hN (fun t _ h => match t, h with
    | 0, h => h
    | 1, h => h
    | 2, h => h
    | 3, h => h
    | 4, h => h
    | 5, h => h
    | 6, h => h
    | 7, h => h
    | _ + 8, h => h) h
end
end Go.Sx
