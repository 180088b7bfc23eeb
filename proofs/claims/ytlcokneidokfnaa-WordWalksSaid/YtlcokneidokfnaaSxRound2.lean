/-
  The walking framework: ranges over functions whose iterator has a state of its own that it writes.
-/
import Derived.Test.YtlcokneidokfnaaSxRound
namespace Go.Sx
open Go Go.RowKit Go.Pl

/-- I speaks of what lies below B alone. -/
def OwnA {β : Type} (B : Nat) (I : β → World → Prop) : Prop := ∀ s W W', I s W → Below B W W' → I s W'
/-- Whatever lies from B on lies as it lay. -/
structure KA (B : Nat) (W W' : World) : Prop where
  size : W.heap.size ≤ W'.heap.size
  same : ∀ k, B ≤ k → k < W.heap.size → W'.heap[k]? = W.heap[k]?
theorem KA.refl (B : Nat) (W : World) : KA B W W := ⟨Nat.le_refl _, fun _ _ _ => rfl⟩
theorem KA.trans {B : Nat} {X Y Z : World} (h : KA B X Y) (k : KA B Y Z) : KA B X Z := ⟨Nat.le_trans h.size k.size, fun i hB hi => (k.same i hB (by have := h.size; omega)).trans (h.same i hB hi)⟩
theorem KA.ext {B : Nat} {W W' : World} (h : Ext W W') : KA B W W' := ⟨h.size, fun k _ hk => Below.block h k hk⟩
theorem KA.grown {B : Nat} {W W' : World} {row : Option Nat} (hg : W.grownBy W' row) (hr : ∀ j, row = some j → j < B) : KA B W W' :=
  ⟨hg.size, fun k hB hk => hg.block k hk (fun e => by have := hr k e.symm; omega)⟩
theorem KA.mono {B B' : Nat} {W W' : World} (h : KA B W W') (hB : B ≤ B') : KA B' W W' := ⟨h.size, fun k hk hl => h.same k (by omega) hl⟩
theorem KA.putObj (B : Nat) (W : World) (l : Nat) (o : Obj) (hl : l < B) : KA B W (W.putObj l o) := ⟨by simp [World.putObj], fun k hB _ => World.putObj_heap_other (by omega)⟩
theorem ownA_and {β : Type} {B : Nat} {A : β → Prop} {I : β → World → Prop} (h : OwnA B I) : OwnA B (fun s W => A s ∧ I s W) := fun s W W' hs hb => ⟨hs.1, h s W W' hs.2 hb⟩
theorem ownA_and2 {β : Type} {B : Nat} {I J : β → World → Prop} (h : OwnA B I) (k : OwnA B J) : OwnA B (fun s W => I s W ∧ J s W) := fun s W W' hs hb => ⟨h s W W' hs.1 hb, k s W W' hs.2 hb⟩
theorem ownA_ext {β : Type} {B : Nat} {w : World} (hB : w.heap.size ≤ B) : OwnA B (fun (_ : β) W => Ext w W) := fun _ _ _ hs hb => Below.trans hs (Below.mono hb hB)
theorem ownA_blk {β : Type} {B b t : Nat} {cs : β → Array Value} (hb : b < B) : OwnA B (fun s W => Blk W b t (cs s)) := fun s W W' hs h => by
  have h1 : W.heap[b]? = some (.cells (cs s) t) := hs
  show W'.heap[b]? = some (.cells (cs s) t)
  rw [h.block b hb]
  exact h1
theorem below_putObj {B l : Nat} {W : World} (o : Obj) (hB : B ≤ l) (hs : B ≤ W.heap.size) : Below B W (W.putObj l o) :=
  (Below.refl B W).grown (grownBy_putObj' W l o) hs (fun k e => by cases e; exact hB)
theorem OwnA.putObj {β : Type} {B : Nat} {I : β → World → Prop} (h : OwnA B I) {s : β} {W : World} {l : Nat} (o' : Obj) (hs : I s W) (hB : B ≤ l) (hz : B ≤ W.heap.size) : I s (W.putObj l o') :=
  h s W _ hs (below_putObj o' hB hz)
theorem OwnA.alloc {β : Type} {B : Nat} {I : β → World → Prop} (h : OwnA B I) {s : β} {W : World} (o : Obj) (hs : I s W) (hz : B ≤ W.heap.size) : I s (W.alloc o) :=
  h s W _ hs ((Below.refl B W).alloc hz o)

/-- The contract of an iterator: it gives elements of which El holds, until it is stopped or has given S. -/
def SeqA {α : Type} (P : Program) (gf : Nat) (lb : Array Value) (enc : α → Value) (El : α → World → Prop) (S Sp : List α → Prop) (w : World) : Prop :=
  ∀ (l : Nat) (J Jx : List α → World → Prop) (W : World), Below w.heap.size w W → OwnA W.heap.size J → OwnA W.heap.size Jx →
    (∀ pre x W1, J pre W1 → El x W1 → YieldAt (ro none) 0 P l #[enc x] W1 fun e W' =>
      (e = .returned (.bool true) ∧ J (pre ++ [x]) W' ∧ KA W.heap.size W1 W') ∨ (e = .returned (.bool false) ∧ Jx (pre ++ [x]) W')) →
    J [] W →
    CallsIn (ro none) 1 P gf (#[.func (.yield l) #[] #[]] ++ lb) W fun e W' => (∃ v, e = .returned v) ∧ ((∃ xs, S xs ∧ J xs W') ∨ (∃ pre, Sp pre ∧ Jx pre W'))
/-- How a round may end. -/
def RoundQ {α : Type} (B : Nat) (I : List α → World → Prop) (Ix : Code → List α → World → Prop) (xs : List α) (W : World) : Exit → Act → World → Prop
  | .normal, _, W' => KA B W W' ∧ I xs W'
  | .ret, _, W' => KA B W W' ∧ Ix .ret xs W'
  | .exit id, _, W' => KA B W W' ∧ Ix (.exit id) xs W'
  | .goto t, _, W' => KA B W W' ∧ Ix (.goto t) xs W'
  | .panic _, _, _ => False
  | .outgrown, _, _ => False
section
variable {P : Program} {N : Nat} {Q : Exit → Act → World → Prop} {l : Env} {w : World}
theorem wi_rangeA {α : Type} {g : Operand} {id p d : Nat} {ty : TypeId} {pos : String} {after : Array Edge} {body : Code} {gf : Nat} {lb : Array Value} {enc : α → Value} {El : α → World → Prop} {S Sp : List α → Prop}
    (I : List α → World → Prop) (Ix : Code → List α → World → Prop)
    (hg : ev l g = some (.func (.func gf) #[] lb)) (eg : ∀ args w, (callFunc gf args).run P w = .ok (.enter gf args) w)
    (hp : Nat.blt p N = true) (hd : Nat.blt d N = true) (hseq : SeqA P gf lb enc El S Sp w)
    (hI : OwnA w.heap.size I) (hIx : ∀ c, OwnA w.heap.size (Ix c)) (hEl : ∀ (rl : Nat) (o : Obj) x W, El x W → (∃ r, W.heap[rl]? = some (.loop r)) → El x (W.putObj rl o)) (h0 : I [] w)
    (hbody : ∀ (rl : Nat) (pre : List α) (x : α) (W : World), I pre W → El x W → WI P (some rl) 0 [] N body (RoundQ w.heap.size I Ix (pre ++ [x]) W) ((d, enc x) :: (p, enc x) :: l) W)
    (hdone : ∀ (D : Nat) (xs : List α) (W : World), w.heap.size ≤ D → S xs → I xs W → W.heap[D]? = some (.deferred (some [])) → PostD (mark D) N Q .normal l W)
    (hstop : ∀ (D : Nat) (c : Code) (pre : List α) (W : World), w.heap.size ≤ D → Sp pre → Ix c pre W → W.heap[D]? = some (.deferred (some [])) → WI P none 2 (mark D) N c Q l W) :
    WI P none 2 [] N (.rangeFunc g #[p] (.region id #[⟨some d, .assign (.tmp p), ty, pos, after, none⟩] false) body) Q l w := by
  intro a ha
  have hge := ha.eval hg
  refine wpIn_rangeFunc ?_
  intro fn _
  obtain ⟨asg, hasg⟩ : ∃ asg, asg = Code.region id #[⟨some d, .assign (.tmp p), ty, pos, after, none⟩] false := ⟨_, rfl⟩
  obtain ⟨rec, hrec⟩ : ∃ rec : LoopState → Option Code → Loop, rec = fun st pe => { state := st, pending := pe, fn, tmps := a.tmps, params := #[p], assign := asg, body, defers := w.heap.size } := ⟨_, rfl⟩
  obtain ⟨W1, hW1⟩ : ∃ W1, (w.alloc (.deferred (some []))).alloc (.loop (rec .ready none)) = W1 := ⟨_, rfl⟩
  have hs1 : W1.heap.size = w.heap.size + 2 := by rw [← hW1]; simp
  have hL1 : W1.heap[w.heap.size + 1]? = some (.loop (rec .ready none)) := by
    rw [← hW1]; have := World.alloc_heap_new (w.alloc (.deferred (some []))) (.loop (rec .ready none)); rwa [World.size_alloc] at this
  have hK1 : W1.heap[w.heap.size]? = some (.deferred (some [])) := by
    rw [← hW1]; exact (Below.heap_alloc _ _ _ (by simp)).trans (World.alloc_heap_new w _)
  have hI1 : I [] W1 := by rw [← hW1]; exact hI.alloc _ (hI.alloc _ h0 (Nat.le_refl _)) (by simp)
  have hb1 : Below w.heap.size w W1 := by
    rw [← hW1]; exact ((Below.refl _ w).alloc (Nat.le_refl _) _).alloc (by simp) _
  refine ⟨w.heap.size + 1, [{ target := .collected w.heap.size, args := #[] }], W1, { target := .fn (.func gf) lb, args := #[.func (.yield (w.heap.size + 1)) #[] #[]] }, W1, gf,
    #[.func (.yield (w.heap.size + 1)) #[] #[]] ++ lb, W1, ?_, ?_, ?_, ?_, fun h => (by cases h), ?_⟩
  · rw [← hW1, hrec, ← hasg]; exact run_enterLoop_outer _ _ _ _ _
  · simp only [resolve, hge]
    simp [go_sem]
  · intro f' hf'; trivial
  · simp [invoke, go_sem, eg]
  · refine (hseq (w.heap.size + 1)
      (fun pre W => I pre W ∧ W.heap[w.heap.size + 1]? = some (.loop (rec .ready none)) ∧ W.heap[w.heap.size]? = some (.deferred (some [])))
      (fun pre W => ∃ c, Ix c pre W ∧ W.heap[w.heap.size + 1]? = some (.loop (rec .done (some c))) ∧ W.heap[w.heap.size]? = some (.deferred (some [])))
      W1 hb1
      (fun s A B hs hb => ⟨hI s A B hs.1 (hb.mono (by omega)), (hb.block _ (by omega)).trans hs.2.1, (hb.block _ (by omega)).trans hs.2.2⟩)
      (fun s A B hs hb => by
        obtain ⟨c, hc, hl, hk⟩ := hs
        exact ⟨c, hIx c s A B hc (hb.mono (by omega)), (hb.block _ (by omega)).trans hl, (hb.block _ (by omega)).trans hk⟩)
      ?_ ⟨hI1, hL1, hK1⟩).mono ?_
    · rintro pre x W ⟨hi, hl, hk⟩ hel
      have hlt : w.heap.size + 1 < W.heap.size := (Array.getElem?_eq_some_iff.1 hl).1
      have hy := run_yield (P := P) (args := #[enc x]) hl (by rw [hrec]; rfl)
      rw [hrec] at hy
      refine ⟨fn, _, asg, body, hy, roundIn_of_wpIn trivial ?_⟩
      rw [hasg]
      refine wp_assign1 (r := some (w.heap.size + 1)) ⟨_, run_beginRound hl (by rw [hrec]), ?_⟩
      have e1 : ({ tmps := ((#[p] : Array Tmp).zip #[enc x]).foldl (fun t (p, v) => t.setIfInBounds p v) a.tmps, defers := [] } : Act) = ({ a with defers := [] } : Act).put (some p) (enc x) := by
        simp [Act.put]
      have e2 : (({ a with defers := [] } : Act).put (some p) (enc x)).eval (.tmp p) = enc x := (ha.2.put hp (enc x)).eval (show ev ((p, enc x) :: l) (.tmp p) = some (enc x) by show lk _ _ = _; rw [lk_cons, if_pos rfl])
      rw [e1, e2]
      have hl2 : (W.putObj (w.heap.size + 1) (.loop { rec .ready none with state := .busy })).heap[w.heap.size + 1]? = some (.loop { rec .ready none with state := .busy }) := World.putObj_heap_same hlt
      have hk2 : (W.putObj (w.heap.size + 1) (.loop { rec .ready none with state := .busy })).heap[w.heap.size]? = some (.deferred (some [])) := (World.putObj_heap_other (by omega)).trans hk
      refine wpIn_mono (hbody (w.heap.size + 1) pre x _ (hI.putObj _ hi (by omega) (by omega)) (hEl _ _ x W hel ⟨_, hl⟩) _ (atd_of ((ha.2.put hp _).put hd _))) ?_
      have fin : ∀ (jump : Option Code) (W3 : World), KA w.heap.size (W.putObj (w.heap.size + 1) (.loop { rec .ready none with state := .busy })) W3 →
          (Instr.endRound (w.heap.size + 1) jump).run P W3 = .ok (.bool jump.isNone) (W3.putObj (w.heap.size + 1) (.loop (rec (if jump.isNone then .ready else .done) jump))) ∧
          (W3.putObj (w.heap.size + 1) (.loop (rec (if jump.isNone then .ready else .done) jump))).heap[w.heap.size + 1]? = some (.loop (rec (if jump.isNone then .ready else .done) jump)) ∧
          (W3.putObj (w.heap.size + 1) (.loop (rec (if jump.isNone then .ready else .done) jump))).heap[w.heap.size]? = some (.deferred (some [])) ∧
          KA W1.heap.size W (W3.putObj (w.heap.size + 1) (.loop (rec (if jump.isNone then .ready else .done) jump))) := fun jump W3 hk3 => by
        have hl3 := (hk3.same _ (by omega) (Array.getElem?_eq_some_iff.1 hl2).1).trans hl2
        have hk4 := (hk3.same _ (by omega) (Array.getElem?_eq_some_iff.1 hk2).1).trans hk2
        have := run_endRound (P := P) jump hl3
        rw [hrec] at this ⊢
        rw [hrec] at hl3
        refine ⟨this, World.putObj_heap_same (Array.getElem?_eq_some_iff.1 hl3).1, (World.putObj_heap_other (by omega)).trans hk4, ?_⟩
        rw [hrec] at hk3
        exact ((KA.putObj _ W _ _ (by omega)).trans (hk3.mono (by omega))).trans (KA.putObj _ W3 _ _ (by omega))
      rintro e a3 W3 hp3
      cases e with
      | normal =>
        obtain ⟨hk3, hi3⟩ := hp3
        obtain ⟨hr, hl4, hk4, hka⟩ := fin none W3 hk3
        exact ⟨_, _, hr, .inl ⟨rfl, ⟨hI.putObj _ hi3 (by omega) (by have := hk3.size; simp [World.putObj] at this; omega), hl4, hk4⟩, hka⟩⟩
      | ret =>
        obtain ⟨hk3, hi3⟩ := hp3
        obtain ⟨hr, hl4, hk4, hka⟩ := fin (some .ret) W3 hk3
        exact ⟨_, _, hr, .inr ⟨rfl, .ret, (hIx _).putObj _ hi3 (by omega) (by have := hk3.size; simp [World.putObj] at this; omega), hl4, hk4⟩⟩
      | exit id =>
        obtain ⟨hk3, hi3⟩ := hp3
        obtain ⟨hr, hl4, hk4, hka⟩ := fin (some (.exit id)) W3 hk3
        exact ⟨_, _, hr, .inr ⟨rfl, .exit id, (hIx _).putObj _ hi3 (by omega) (by have := hk3.size; simp [World.putObj] at this; omega), hl4, hk4⟩⟩
      | goto t =>
        obtain ⟨hk3, hi3⟩ := hp3
        obtain ⟨hr, hl4, hk4, hka⟩ := fin (some (.goto t)) W3 hk3
        exact ⟨_, _, hr, .inr ⟨rfl, .goto t, (hIx _).putObj _ hi3 (by omega) (by have := hk3.size; simp [World.putObj] at this; omega), hl4, hk4⟩⟩
      | panic ch => exact hp3.elim
      | outgrown => exact hp3.elim
    · rintro e W2 ⟨⟨v, rfl⟩, (⟨xs, hS, hi, hl, hk⟩ | ⟨pre, hSp, c, hi, hl, hk⟩)⟩
      · refine ⟨none, _, by have := run_endLoop (P := P) hl (by rw [hrec]; simp); rw [hrec] at this; exact this, hdone _ xs _ (Nat.le_refl _) hS (hI.putObj _ hi (by omega) (by have := (Array.getElem?_eq_some_iff.1 hl).1; omega)) ((World.putObj_heap_other (by omega)).trans hk) _ ⟨by rw [ha.1]; rfl, ha.2⟩⟩
      · exact ⟨some c, _, by have := run_endLoop (P := P) hl (by rw [hrec]; simp); rw [hrec] at this; exact this, hstop _ c pre _ (Nat.le_refl _) hSp ((hIx c).putObj _ hi (by omega) (by have := (Array.getElem?_eq_some_iff.1 hl).1; omega)) ((World.putObj_heap_other (by omega)).trans hk) _ ⟨by rw [ha.1]; rfl, ha.2⟩⟩
theorem wi_cut {r : Option Nat} {n : Nat} {ds : List Deferred} {c y : Code} {Q' : Exit → Act → World → Prop} {σ : Type} (L : σ → Env) (I : σ → World → Prop)
    (h : WI P r n ds N c (Exit.then (fun a w => ∃ s, AtD N ds a (L s) ∧ I s w) Q') l w) (hy : ∀ s w, I s w → WI P r n ds N y Q (L s) w) :
    WI P r n ds N c (Exit.then (fun a w => y.wpIn (ro r) n P Q a w) Q') l w := fun a ha => wpIn_mono (h a ha) (fun e a' w' hq => by
  cases e with
  | normal => obtain ⟨s, h1, h2⟩ := hq; exact hy s w' h2 a' h1
  | _ => exact hq)
theorem posti_cutN {ds : List Deferred} {σ : Type} {L : σ → Env} {I : σ → World → Prop} {Q' : Exit → Act → World → Prop} (s : σ) (hL : Sub l (L s)) (hI : I s w) :
    PostD ds N (Exit.then (fun a w => ∃ s, AtD N ds a (L s) ∧ I s w) Q') .normal l w := fun _ ha => ⟨s, ha.sub hL, hI⟩
theorem eqlF {x y : Operand} {T T' ty : TypeId} {f : Fn} {fs cs : Array Value} {ps rs : Array TypeId} {b : Bool} (hx : ev l x = some (.func f fs cs)) (hy : ev l y = some .nilFunc) (hT : P.underlying T = some (.func ps rs b)) : Yl P N (.binOp .eql T x y T') ty l w (.bool false) := by
  have hd : ∃ d, Op.maxDepth = d + 1 := ⟨Op.maxDepth - 1, rfl⟩
  obtain ⟨d, hd⟩ := hd
  refine yl_bin hx hy (fun w => ?_) (fun w x y => ?_)
  · simp [binOp, Op.equal, hd, Op.equalIn, run_underlying hT]
  · unfold eqGuard
    split <;> rfl
theorem cell_loop {W : World} {rl : Nat} {o : Obj} {p : Addr} {v : Value} (hr : ∃ r, W.heap[rl]? = some (.loop r)) (h : W.cell? p = some v) : (W.putObj rl o).cell? p = some v := by
  by_cases e : p.block = rl
  · obtain ⟨r, hr⟩ := hr
    rw [← e] at hr
    simp [World.cell?, hr] at h
  · rw [World.cell?_of_block (w := W) (World.putObj_heap_other e)]
    exact h
theorem ints_loop {W : World} {rl : Nat} {o : Obj} {v : Value} {zs : List Int} (h : Ints W v zs) (hr : ∃ r, W.heap[rl]? = some (.loop r)) : Ints (W.putObj rl o) v zs := by
  obtain ⟨⟨a, c, hv, hc, hx⟩, hl⟩ := h
  refine ⟨⟨a, c, hv, hc, fun h0 => ?_⟩, hl⟩
  obtain ⟨ad, ha, hh⟩ := hx h0
  exact ⟨ad, ha, fun j u hu => cell_loop hr (hh j u hu)⟩
end
end Go.Sx
