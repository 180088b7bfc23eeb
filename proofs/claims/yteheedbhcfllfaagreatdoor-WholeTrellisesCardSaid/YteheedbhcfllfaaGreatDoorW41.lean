import Derived.Test.YteheedbhcfllfaaGreatDoorW40
import Derived.Test.YteheedbhcfllfaaGreatDoorW28
import Derived.Test.YteheedbhcfllfaaGreatDoorW39
namespace Go.Sx
open Go Go.RowKit Go.Pl
def StE {β : Type} (I : β → World → Prop) : Prop := ∀ s W W', I s W → Ext W W' → I s W'
def StL {β : Type} (B : Nat) (I : β → World → Prop) : Prop := ∀ s W rl o, I s W → B ≤ rl → (∃ r, W.heap[rl]? = some (.loop r)) → I s (W.putObj rl o)
def KR (W W' : World) : Prop := ∀ (k : Nat) (o : Obj), W.heap[k]? = some o → ((∃ r, o = Obj.loop r) ∨ ∃ d, o = Obj.deferred d) → W'.heap[k]? = some o
theorem KR.ext {W W' : World} (h : Ext W W') : KR W W' := fun k _ hk _ => (Below.block h k (Array.getElem?_eq_some_iff.1 hk).1).trans hk
theorem KR.trans {X Y Z : World} (h : KR X Y) (k : KR Y Z) : KR X Z := fun i o hi ho => k i o (h i o hi ho) ho
theorem KR.grown {W W' : World} {row : Option Nat} (hg : W.grownBy W' row) (hr : ∀ j, row = some j → ∃ cs t, W.heap[j]? = some (.cells cs t)) : KR W W' := fun k o hk ho => (hg.block k (Array.getElem?_eq_some_iff.1 hk).1 fun e => by
 obtain ⟨cs, t, h⟩ := hr k e.symm
 rw [hk] at h
 cases h
 rcases ho with ⟨r, e⟩ | ⟨r, e⟩ <;> cases e).trans hk
def SeqB {α : Type} (P : Program) (gf : Nat) (lb : Array Value) (enc : α → Value) (xs : List α) (w : World) : Prop :=
 ∀ (l : Nat) (J : List α → World → Prop) (W : World), (∀ pre W, J pre W → Ext w W) →
  (∀ pre x W1, (∃ post, xs = pre ++ x :: post) → J pre W1 → YieldAt (ro none) 0 P l #[enc x] W1 fun e W' => e = .returned (.bool true) ∧ J (pre ++ [x]) W') →
  J [] W →
  CallsIn (ro none) 1 P gf (#[.func (.yield l) #[] #[]] ++ lb) W fun e W' => (∃ v, e = .returned v) ∧ J xs W'
section
variable {P : Program} {N : Nat} {Q : Exit → Act → World → Prop} {l : Env} {w : World}
theorem wi_rangeB {α : Type} {g : Operand} {id p d : Nat} {ty : TypeId} {pos : String} {after : Array Edge} {body : Code} {gf : Nat} {lb : Array Value} {enc : α → Value} {xs : List α} {w0 : World}
  (I : List α → World → Prop)
  (hg : ev l g = some (.func (.func gf) #[] lb)) (eg : ∀ args w, (callFunc gf args).run P w = .ok (.enter gf args) w)
  (hp : Nat.blt p N = true) (hd : Nat.blt d N = true) (hseq : SeqB P gf lb enc xs w0)
  (hI : StE I) (hIL : StL w.heap.size I) (hIw : ∀ pre W, I pre W → Ext w0 W) (h0 : I [] w)
  (hbody : ∀ (rl : Nat) (pre : List α) (x : α) (W : World), (∃ post, xs = pre ++ x :: post) → I pre W → WI P (some rl) 0 [] N body (fun e _ W' => e = .normal ∧ KR W W' ∧ I (pre ++ [x]) W') ((d, enc x) :: (p, enc x) :: l) W)
  (hdone : ∀ (D : Nat) (W : World), w.heap.size ≤ D → I xs W → W.heap[D]? = some (.deferred (some [])) → PostD (mark D) N Q .normal l W) :
  WI P none 2 [] N (.rangeFunc g #[p] (.region id #[⟨some d, .assign (.tmp p), ty, pos, after, none⟩] false) body) Q l w := by
 intro a ha
 have hge := ha.eval hg
 refine wpIn_rangeFunc ?_
 intro fn _
 obtain ⟨asg, hasg⟩ : ∃ asg, asg = Code.region id #[⟨some d, .assign (.tmp p), ty, pos, after, none⟩] false := ⟨_, rfl⟩
 obtain ⟨rec, hrec⟩ : ∃ rec : LoopState → Option Code → Loop, rec = fun st pe => { state := st, pending := pe, fn, tmps := a.tmps, params := #[p], assign := asg, body, defers := w.heap.size } := ⟨_, rfl⟩
 obtain ⟨W1, hW1⟩ : ∃ W1, (w.alloc (.deferred (some []))).alloc (.loop (rec .ready none)) = W1 := ⟨_, rfl⟩
 have hs1 : W1.heap.size = w.heap.size + 2 := by rw [← hW1]; simp
 have hL1 : W1.heap[w.heap.size + 1]? = some (.loop (rec .ready none)) := by
  rw [← hW1]; have := World.alloc_heap_new (w.alloc (.deferred (some []))) (.loop (rec .ready none)); rwa [World.size_alloc] at this
 have hK1 : W1.heap[w.heap.size]? = some (.deferred (some [])) := by
  rw [← hW1]; exact (Below.heap_alloc _ _ _ (by simp)).trans (World.alloc_heap_new w _)
 have hb1 : Ext w W1 := by
  rw [← hW1]; exact ((Below.refl _ w).alloc (Nat.le_refl _) _).alloc (by simp) _
 have hI1 : I [] W1 := hI _ _ _ h0 hb1
 refine ⟨w.heap.size + 1, [{ target := .collected w.heap.size, args := #[] }], W1, { target := .fn (.func gf) lb, args := #[.func (.yield (w.heap.size + 1)) #[] #[]] }, W1, gf,
  #[.func (.yield (w.heap.size + 1)) #[] #[]] ++ lb, W1, ?_, ?_, ?_, ?_, fun h => (by cases h), ?_⟩
 ·rw [← hW1, hrec, ← hasg]; exact run_enterLoop_outer _ _ _ _ _
 ·simp only [resolve, hge]
  simp [go_sem]
 ·intro f' hf'; trivial
 ·simp [invoke, go_sem, eg]
 ·refine (hseq (w.heap.size + 1)
   (fun pre W => I pre W ∧ W.heap[w.heap.size + 1]? = some (.loop (rec .ready none)) ∧ W.heap[w.heap.size]? = some (.deferred (some [])))
   W1 (fun pre W h => hIw pre W h.1) ?_ ⟨hI1, hL1, hK1⟩).mono ?_
  ·rintro pre x W hpost ⟨hi, hl, hk⟩
   have hlt : w.heap.size + 1 < W.heap.size := (Array.getElem?_eq_some_iff.1 hl).1
   have hy := run_yield (P := P) (args := #[enc x]) hl (by rw [hrec]; rfl)
   rw [hrec] at hy
   refine ⟨fn, _, asg, body, hy, roundIn_of_wpIn trivial ?_⟩
   rw [hasg]
   refine Qdp (r := some (w.heap.size + 1)) ⟨_, run_beginRound hl (by rw [hrec]), ?_⟩
   have e1 : ({ tmps := ((#[p] : Array Tmp).zip #[enc x]).foldl (fun t (p, v) => t.setIfInBounds p v) a.tmps, defers := [] } : Act) = ({ a with defers := [] } : Act).put (some p) (enc x) := by
    simp [Act.put]
   have e2 : (({ a with defers := [] } : Act).put (some p) (enc x)).eval (.tmp p) = enc x := (ha.2.put hp (enc x)).eval (show ev ((p, enc x) :: l) (.tmp p) = some (enc x) by show lk _ _ = _; rw [JF, if_pos rfl])
   rw [e1, e2]
   have hl2 : (W.putObj (w.heap.size + 1) (.loop { rec .ready none with state := .busy })).heap[w.heap.size + 1]? = some (.loop { rec .ready none with state := .busy }) := World.putObj_heap_same hlt
   have hk2 : (W.putObj (w.heap.size + 1) (.loop { rec .ready none with state := .busy })).heap[w.heap.size]? = some (.deferred (some [])) := (World.putObj_heap_other (by omega)).trans hk
   refine wpIn_mono (hbody (w.heap.size + 1) pre x _ hpost (hIL _ _ _ _ hi (by omega) ⟨_, hl⟩) _ (atd_of ((ha.2.put hp _).put hd _))) ?_
   rintro e a3 W3 ⟨rfl, hk3, hi3⟩
   have hl3 := hk3 _ _ hl2 (.inl ⟨_, rfl⟩)
   have hk4 := hk3 _ _ hk2 (.inr ⟨_, rfl⟩)
   have hend := run_endRound (P := P) none hl3
   rw [hrec] at hend
   rw [hrec] at hl3
   refine ⟨_, _, hend, rfl, hIL _ _ _ _ hi3 (by omega) ⟨_, hl3⟩, ?_, (World.putObj_heap_other (by omega)).trans hk4⟩
   rw [hrec]
   exact World.putObj_heap_same (Array.getElem?_eq_some_iff.1 hl3).1
  ·rintro e W2 ⟨⟨v, rfl⟩, hi, hl, hk⟩
   exact ⟨none, _, by have := run_endLoop (P := P) hl (by rw [hrec]; simp); rw [hrec] at this; exact this, hdone _ _ (Nat.le_refl _) (hIL _ _ _ _ hi (by omega) ⟨_, hl⟩) ((World.putObj_heap_other (by omega)).trans hk) _ ⟨by rw [ha.1]; rfl, ha.2⟩⟩
end
end Go.Sx
namespace Go.Sx
open Go Go.RowKit Go.Pl
theorem Own.cells {B : Nat} {w : World} {v : Value} {E : TypeId} {xs : List Value} (h : Own B w v E xs) : ∀ k, v.ownBlock = some k → ∃ cs t, w.heap[k]? = some (.cells cs t) := by
 intro k hk
 obtain ⟨h1, _⟩ := h
 rcases h1.2 with ⟨rfl, _⟩ | ⟨g, cap, cur, rfl, _, hg, _⟩
 ·cases hk
 ·cases hk
  exact ⟨_, _, hg⟩
theorem Own.other {B : Nat} {W : World} {rl : Nat} {o : Obj} {v : Value} {E : TypeId} {xs : List Value} (h : Own B W v E xs) (hr : v.ownBlock ≠ some rl) : Own B (W.putObj rl o) v E xs :=
 Own.gr (X := [rl]) h (Gr.of_grown (grownBy_putObj' W rl o) (fun k e => by simp [Option.some.inj e])) (fun k hk e => hr (by rw [List.mem_singleton.1 e] at hk; exact hk))
theorem Own.loop {B : Nat} {W : World} {rl : Nat} {o : Obj} {v : Value} {E : TypeId} {xs : List Value} (h : Own B W v E xs) (hr : ∃ r, W.heap[rl]? = some (.loop r)) : Own B (W.putObj rl o) v E xs :=
 h.other fun hk => by
  obtain ⟨cs, t, e⟩ := h.cells rl hk
  obtain ⟨r, hr⟩ := hr
  rw [hr] at e
  cases e
end Go.Sx
namespace Go.Proofs.YteheedbhcfllfaaGreatDoor
open Go Go.Sx Go.Pl Go.RowKit Go.Fd Go.Alg
theorem sqValues (s : Value) (l : List Int) (w : World) (hs : Ints w s l) :
  Calls Tryz.prog 40 #[s] w (RetX w fun r w' => ∃ sb, r = .func (.func 75) #[] #[.pointer (some ⟨sb, 0, none⟩)] ∧ Blk w' sb 22 #[s] ∧ w.heap.size ≤ sb) := by
 have hs1 := hs.one
 refine QJ Tryz.func40 rfl rfl (Qc (Qb [0,1] rfl (BXV rfl wu rfl rfl (by first | rfl | assumption) ?_)))
 intro sb w1 hE hB hb
 refine Qi rfl rfl (Qd (Qa (Qc (Qb [0,1] rfl (Vw rfl (mkf rfl rfl) (Qi rfl rfl (Qd (Qa (Qs (Qk rfl rfl ?_))))))))))
 exact ⟨hE, sb, rfl, hB, hb⟩
set_option maxRecDepth 10000 in
theorem Qb8 (s : Value) (l : List Int) (sb : Nat) (w : World) (hs : Ints w s l) (hB : Blk w sb 22 #[s]) :
  SeqB Tryz.prog 75 #[.pointer (some ⟨sb, 0, none⟩)] (fun x : Int => .int .i64 x) l w := by
 intro rl J W hJ hY h0
 have hle := hs.le
 have hW := hJ _ _ h0
 refine iter_of2 Tryz.func75 rfl rfl (JW (ZH [0,1,2] rfl (Vw rfl (ldB rfl Zl (hB.ext hW)) (Vw rfl (Zk rfl Qy (hs.ext hW)) (mvV rfl rfl (Jn (Zj (Kf ?_))))))))
 refine wi_loop (fun i : Nat => [(0, .func (.yield rl) #[] #[]), (5, s), (6, .int .i64 l.length), (7, .int .i64 i)])
  (fun i w' => i ≤ l.length ∧ J (l.take i) w') (fun i => l.length - i) 0 ⟨rfl, rfl, rfl, rfl, trivial⟩ ⟨by omega, h0⟩ ?_
 clear h0 hW
 rintro i w3 ⟨i1, hj⟩
 have hE := hJ _ _ hj
 try dsimp only
 refine JW (ZH [0] rfl (Qz rfl rfl rfl (Jn (Zj (JW (wi_cond rfl ?_ ?_))))))
 ·intro hi
  simp at hi
  have hgi : gi l i = l[i]'hi := by simp [gi, List.getD_eq_getElem?_getD, hi]
  have htk : l.take (i + 1) = l.take i ++ [gi l i] := by
   rw [List.take_add_one, List.getElem?_eq_getElem hi, hgi]; rfl
  have hpost : ∃ post, l = l.take i ++ gi l i :: post := ⟨l.drop (i + 1), by
   rw [hgi, List.getElem_cons_drop, List.take_append_drop]⟩
  refine wi_skip (Zj (JW (Kf (JW (ZH [0,1,2] rfl (Vw rfl (QP rfl rfl Qy (hs.ext hE) (by omega) (by omega)) (Vw rfl (ldI rfl na3 (hs.ext hE) (Ext.refl _) (by omega) (by omega)) (Qi rfl rfl (Jn (Zj (JW (Qdq [0,1] [2,3] rfl (mvV rfl rfl (mvV rfl rfl (wir_yield rfl (by kernel_rfl) rfl rfl rfl (hY (l.take i) (gi l i) _ hpost hj) ?_)))))))))))))))
  rintro e w5 ⟨rfl, hj5⟩
  refine ⟨_, rfl, ?_⟩
  refine ZW rfl rfl (Jn (Zj (wi_condF rfl (by simp) (wi_skip (JD (Zj (ZH [0,1] rfl (Qw rfl rfl rfl (mvV rfl rfl (Jn ?_))))))))))
  exact Qch (i + 1) ⟨rfl, rfl, rfl, rfl, trivial⟩ ⟨by omega, by rw [htk]; exact hj5⟩ (by omega)
 ·intro hi
  simp at hi
  obtain rfl : i = l.length := by omega
  rw [List.take_length] at hj
  refine wi_exit (Qcg (Qci (QbD ?_)))
  exact posti_of (QV rfl ⟨⟨_, rfl⟩, hj⟩)
set_option maxRecDepth 10000 in
theorem Qb9 (s : Value) (l : List Int) (sb : Nat) (w : World) (hs : Ints w s l) (hBs : Blk w sb 22 #[s]) (hl12 : l.length ≤ 100000) :
  Calls Tryz.prog 119 #[.slice none 0 0, .func (.func 75) #[] #[.pointer (some ⟨sb, 0, none⟩)]] w (RetX w fun r w' => OwnI w.heap.size w' r 3 l) := by
 refine callsM2 Tryz.func119 rfl rfl (JW (ZH [0,1] rfl (BXV rfl wu rfl rfl (by first | rfl | assumption) ?_)))
 intro cb w1 hE1 hC hcb
 refine Qi rfl rfl (Jn (Zj (JW (JW ?_))))
 have hlC := hC.lt
 have hz1 := hE1.size
 refine ZH [0] rfl (mvV rfl rfl (Jn (Zj (Kf ?_))))
 refine wi_rangeB (w0 := w) (fun pre W => Ext w W ∧ w1.heap.size ≤ W.heap.size ∧ ∃ ov, Blk W cb 22 #[ov] ∧ OwnI w1.heap.size W ov 3 pre)
  rfl (fun _ _ => by rfl) rfl rfl (Qb8 s l sb w hs hBs) ?_ ?_ (fun pre W h => h.1) ⟨hE1, Nat.le_refl _, _, hC, OwnI.nil _ _ _⟩ ?_ ?_
 ·rintro pre W W' ⟨a, b, ov, c, d⟩ hE
  exact ⟨a.trans hE, Nat.le_trans b hE.size, ov, c.ext hE, OwnI.ext d hE⟩
 ·rintro pre W rl o ⟨a, b, ov, c, d⟩ hrl hr
  refine ⟨a.putObj (by omega) _, by simpa [World.putObj] using b, ov, ?_, ?_⟩
  ·show (W.putObj rl o).heap[cb]? = _
   rw [World.putObj_heap_other (by omega)]
   exact c
  ·exact Own.loop d hr
 ·rintro rl pre x W ⟨post, hpost⟩ ⟨hE, hz, ov, hC, ho⟩
  have hpl : pre.length + 1 ≤ l.length := by rw [hpost]; simp
  refine Kf (ZH [0,1,2,3,4] rfl (Vw rfl (ldB rfl Zl hC) (mvV rfl rfl (BSI (zs := [x]) rfl wu rfl rfl rfl rfl Qy ?_))))
  intro kv w9 hE9 hko hki hkb
  have hC9 := hC.ext hE9
  refine API rfl wu rfl rfl rfl Qy nofun ?_ (ho := OwnI.ext ho hE9) (hB := by have h91 := hE9.size; omega) (hs := hki) (hE := Ext.refl _) (hlen := by simp only [List.length_cons, List.length_nil]; omega)
  intro ov2 w10 hg10 hX10 ho10 hi10 hb10
  have hC10 := hC9.grown hg10 (fun e => by have := (Own.lt ho cb (show ov.ownBlock = some cb from e)).1; omega)
  have hone := hi10.one
  refine STV rfl wu rfl rfl sv22 nofun (hC10) (hone) ?_
  intro w11 hg11 hX11 hC11
  refine Jn (JD ?_)
  have hz9 := hE9.size
  have hz10 := hg10.size
  have hz11 := hg11.size
  have hcbne : ov2.ownBlock ≠ some cb := fun e => by have := (Own.lt ho10 cb e).1; omega
  exact fun _ _ => ⟨rfl, ((KR.ext hE9).trans (KR.grown hg10 fun j e => Own.cells (OwnI.ext ho hE9) j e)).trans (KR.grown hg11 fun j e => by cases e; exact ⟨_, _, hC10⟩), hX11 w hcb (hX10 w (by omega) (hE.trans hE9)), by omega, ov2, hC11, Own.gr (X := [cb]) ho10 (Gr.of_grown hg11 (fun k e => by simp [Option.some.inj e])) (fun k hk e => hcbne (by rw [List.mem_singleton.1 e] at hk; exact hk))⟩
 ·rintro D W hD ⟨hE, hz, ov, hC, ho⟩ hk
  refine JD (Zj (JW (ZH [0,1] rfl (Vw rfl (ldB rfl Zl hC) (Qi rfl rfl (Jn (Zj (wi_ret ?_))))))))
  have hDc : ov.ownBlock ≠ some D := fun e => by
   obtain ⟨cs, t, h⟩ := Own.cells ho D e
   rw [hk] at h
   cases h
  exact QdB hk (Qk rfl rfl ⟨hE.putObj (by omega) _, Own.mono (Own.other ho hDc) hz1⟩)
theorem sqCollect (s : Value) (l : List Int) (sb : Nat) (w : World) (hs : Ints w s l) (hBs : Blk w sb 22 #[s]) (hl12 : l.length ≤ 100000) :
  Calls Tryz.prog 73 #[.func (.func 75) #[] #[.pointer (some ⟨sb, 0, none⟩)]] w (RetX w fun r w' => OwnI w.heap.size w' r 3 l) := by
 refine QJ Tryz.func73 rfl rfl (Qc (Qb [0] rfl (Qi rfl rfl (Qd (Qa (Qc (Qb [0,1,2] rfl (mvV rfl rfl (C rfl wu rfl rfl Tryz.call119 (Qb9 s l sb _ hs hBs hl12) ?_)))))))))
 rintro r w1 hE ho
 refine Qi rfl rfl (Qd (Qa (Qs (Qk rfl rfl ?_))))
 exact ⟨hE, ho⟩
theorem sqSorted (s : Value) (l : List Int) (sb : Nat) (w : World) (hs : Ints w s l) (hBs : Blk w sb 22 #[s]) (hl12 : l.length ≤ 12) :
  Calls Tryz.prog 39 #[.func (.func 75) #[] #[.pointer (some ⟨sb, 0, none⟩)]] w (RetX w fun r w' => ∃ L, L.Perm l ∧ ZoI L L.length ∧ OwnI w.heap.size w' r 3 L) := by
 refine QJ Tryz.func39 rfl rfl (Qc (Qb [0] rfl (Qi rfl rfl (Qd (Qa (Qc (Qb [0,1,2] rfl (mvV rfl rfl (C rfl wu rfl rfl Tryz.call73 (sqCollect s l sb _ hs hBs (by omega)) ?_)))))))))
 rintro r w1 hE ho
 refine Qi rfl rfl (Qd (Qa (Qc ?_)))
 have hlt := Own.lt ho
 refine Qb [0,1] rfl (mvV rfl rfl (CG rfl wu rfl rfl Tryz.call74 (zSort r l w.heap.size _ ho hl12) nofun ?_))
 rintro _ w9 hG9 ⟨rfl, L, hp, hso, hgo⟩
 refine Qd (Qa (Qc (Qb [0,1] rfl (mvV rfl rfl (Qi rfl rfl (Qd (Qa (Qs (Qk rfl rfl ?_)))))))))
 exact ⟨hG9.ext hE fun k hk => (hlt k (by simpa using hk)).1, L, hp, hso, hgo⟩
end Go.Proofs.YteheedbhcfllfaaGreatDoor
namespace Go.Ml
open Go.Pl
def spanL (lo hi : Nat) : List Int := tab (hi - lo) fun i => ((lo + i : Nat) : Int)
theorem spanL_len {lo hi : Nat} : (spanL lo hi).length = hi - lo := Qp _ _
theorem spanL_snoc {lo hi : Nat} (h : lo ≤ hi) : spanL lo (hi + 1) = spanL lo hi ++ [(hi : Int)] := by
 rw [spanL, show hi + 1 - lo = (hi - lo) + 1 by omega, spanL]
 simp only [tab, List.range_succ, List.map_append, List.map_cons, List.map_nil]
 rw [show lo + (hi - lo) = hi by omega]
theorem spanL_nil (lo : Nat) : spanL lo lo = [] := by rw [spanL, Nat.sub_self]; rfl
theorem spanL_get {lo hi k : Nat} (h : k < hi - lo) : gi (spanL lo hi) k = ((lo + k : Nat) : Int) := by rw [spanL, Zw (by omega) (by omega), Int.toNat_natCast]
theorem spanL_mem {lo hi : Nat} {x : Int} : x ∈ spanL lo hi ↔ ∃ i : Nat, lo ≤ i ∧ i < hi ∧ x = i := by
 simp only [spanL, tab, List.mem_map, List.mem_range]
 constructor
 ·rintro ⟨i, hi, rfl⟩
  exact ⟨lo + i, by omega, by omega, rfl⟩
 ·rintro ⟨i, h1, h2, rfl⟩
  exact ⟨i - lo, by omega, by omega⟩
def profL (o : Ops) (L : List (List Int)) (n : Nat) : List Int := tab (n + 1) fun i => (rankM o L (spanL 0 i) : Int) + rankM o L (spanL i n) - L.length
end Go.Ml
namespace Go.Proofs.YteheedbhcfllfaaGreatDoor
open Go Go.Sx Go.Pl Go.RowKit Go.Fd Go.Alg
theorem QcS {n lo hi : Nat} (h : hi ≤ n) : AscIn n (Ml.spanL lo hi) := by
 refine ⟨fun x hx => ?_, fun k h0 h1 => ?_⟩
 ·obtain ⟨i, _, h2, rfl⟩ := Ml.spanL_mem.1 hx
  omega
 ·rw [Ml.spanL_len] at h1
  have e : (k : Int) - 1 = ((k - 1 : Nat) : Int) := by omega
  rw [e, Ml.spanL_get (by omega), Ml.spanL_get h1]
  omega
theorem trSpan (lo hi : Nat) (w : World) (h : lo ≤ hi) (hh : hi ≤ 1000) :
  Calls Tryz.prog 44 #[.int .i64 lo, .int .i64 hi] w (RetX w fun r w' => OwnI w.heap.size w' r 3 (Ml.spanL lo hi)) := by
 refine QC Tryz.func44 rfl rfl (Qc (Qb [0] rfl (Qi rfl rfl (Qd (Qa (Qc (Qb [0] rfl (Qi rfl rfl (Qd (Qa (Qc (Qc (Qb [0,1] rfl (mvV rfl rfl ?_))))))))))))))
 refine Qi rfl rfl (Qd (Qa (Qf ?_)))
 refine Qu (fun s : Nat × Value => [(1, .int .i64 hi), (5, s.2), (6, .int .i64 s.1)]) (fun s w' => lo ≤ s.1 ∧ s.1 ≤ hi ∧ Ext w w' ∧ OwnI w.heap.size w' s.2 3 (Ml.spanL lo s.1)) (fun s => hi - s.1) (lo, .slice none 0 0) ⟨rfl, rfl, rfl, trivial⟩ ⟨Nat.le_refl _, h, Ext.refl _, by dsimp only; rw [Ml.spanL_nil]; exact OwnI.nil _ _ _⟩ ?_
 rintro ⟨i, ov⟩ w1 ⟨i0, i1, hE, ho⟩
 dsimp only at i0 i1 hE ho
 have hl := Ml.spanL_len (lo := lo) (hi := i)
 try dsimp only
 refine Qc (Qc (Qb [0,1,2] rfl (mvV rfl rfl (mvV rfl rfl (Qz rfl rfl rfl (Qd (Qa (Qq rfl ?_ ?_))))))))
 ·intro hi'
  simp at hi'
  refine Qe (Qa (Qc (Qf (Qb [0,1,2,3,4] rfl (mvV rfl rfl (mvV rfl rfl (BSI (zs := [(i : Int)]) rfl wu rfl rfl rfl rfl Qy ?_)))))))
  intro kv w9 hE9 hko hki hkb
  refine API rfl wu rfl rfl rfl Qy nofun ?_ (ho := OwnI.ext ho hE9) (hB := by have h1 := hE.size; have h2 := hE9.size; omega) (hs := hki) (hE := Ext.refl _) (hlen := by simp only [List.length_cons, List.length_nil]; omega)
  intro ov2 w10 hg10 hX10 ho10 hi10 hb10
  refine Qi rfl rfl (Qd (Qg (Qa (Qb [0,1,2] rfl (mvV rfl rfl (Qw rfl rfl rfl (Qi rfl rfl (Qd ?_))))))))
  exact Qj (i + 1, ov2) ⟨rfl, rfl, rfl, trivial⟩ ⟨by dsimp only; omega, by dsimp only; omega, hX10 w (Nat.le_refl _) (hE.trans hE9), by dsimp only; rw [Ml.spanL_snoc i0]; exact ho10⟩ (by dsimp only; omega)
 ·intro hi'
  simp at hi'
  obtain rfl : i = hi := by omega
  refine Qt (Ql (Qm (Qh (Qa (Qc (Qb [0,1] rfl (mvV rfl rfl (Qi rfl rfl (Qd (Qa (Qs (Qk rfl rfl ?_))))))))))))
  exact ⟨hE, ho⟩
set_option maxRecDepth 10000 in
theorem trRanks (p M : Int) (mo v : Value) (md : List Int) (n : Nat) (L : List (List Int)) (i : Nat) (w : World) (hc : CdOk p M md n L) (hi : i ≤ n) (hmd : Ints w mo md) (hL : LL w v L) :
  Calls Tryz.prog 22 #[.agg #[.int .i64 p, .int .i64 M, mo, .int .i64 n, v], .int .i64 i] w (RetX w fun r _ => r = .tuple #[.int .i64 (Ml.rankM (opsP hc.P) L (Ml.spanL 0 i) : Nat), .int .i64 (Ml.rankM (opsP hc.P) L (Ml.spanL i n) : Nat)]) := by
 have hv1 := hL.one
 have hm1 := hmd.one
 have hn64 := hc.h2
 refine QC Tryz.func22 rfl rfl (Qc (Qb [0,1,2] rfl (BXA rfl wu rfl rfl ?_)))
 intro cb w1 hE hB hcb
 refine Qi rfl rfl (Qi rfl rfl (Qd (Qa (Qc (QA QM [0,1,2,3,4,5,6,7,8] (by kernel_rfl) ?_)))))
 intro w2 hd _
 replace hE := hE.trans hd
 replace hB := hB.ext hd
 refine Vw rfl (ldA rfl ZE hB) (mvV rfl rfl (C rfl wu rfl rfl Tryz.call44 (trSpan 0 i _ (Nat.zero_le _) (by omega)) ?_))
 rintro sv w3 hE3 hs
 replace hE := hE.trans hE3
 replace hB := hB.ext hE3
 refine C rfl wu rfl rfl Tryz.call43 (Qc8 p M mo v md n L sv _ _ hc (hmd.ext hE) (hL.ext hE) (OwnI.ints hs) (by rw [Ml.spanL_len]; omega) (QcS hi)) ?_
 rintro _ w4 hE4 rfl
 replace hE := hE.trans hE4
 replace hB := hB.ext hE4
 refine mvV rfl rfl (QI rfl rfl rfl (QI rfl rfl rfl (Qi rfl rfl (Qi rfl rfl (Qd (Qa (Qc (QA QM [0,1,2,3,4,5,6,7,8,9,10] (by kernel_rfl) ?_))))))))
 intro w5 hd5 _
 replace hE := hE.trans hd5
 replace hB := hB.ext hd5
 refine Vw rfl (ldA rfl ZE hB) (mvV rfl rfl (Qx rfl rfl Za (Vw rfl (ldB rfl na3 hB) (C rfl wu rfl rfl Tryz.call44 (trSpan i n _ hi (by omega)) ?_))))
 rintro tv w6 hE6 ht
 replace hE := hE.trans hE6
 replace hB := hB.ext hE6
 refine C rfl wu rfl rfl Tryz.call43 (Qc8 p M mo v md n L tv _ _ hc (hmd.ext hE) (hL.ext hE) (OwnI.ints ht) (by rw [Ml.spanL_len]; omega) (QcS (Nat.le_refl _))) ?_
 rintro _ w7 hE7 rfl
 replace hE := hE.trans hE7
 refine mvV rfl rfl (QI rfl rfl rfl (QI rfl rfl rfl (Qi rfl rfl (Qi rfl rfl (Qd (Qa (Qc (Qb [0,1,2,3] rfl (mvV rfl rfl (mvV rfl rfl (Qi rfl rfl ?_)))))))))))
 refine Qi rfl rfl (Qd (Qa (Qs (QE rfl rfl rfl ?_))))
 exact ⟨hE, rfl⟩
set_option maxRecDepth 10000 in
theorem trProfile (p M : Int) (mo v : Value) (md : List Int) (n : Nat) (L : List (List Int)) (w : World) (hc : CdOk p M md n L) (hmd : Ints w mo md) (hL : LL w v L) :
  Calls Tryz.prog 10 #[.agg #[.int .i64 p, .int .i64 M, mo, .int .i64 n, v]] w (RetX w fun r w' => ∃ ov, r = .tuple #[ov, .int .i64 0] ∧ OwnI w.heap.size w' ov 3 (Ml.profL (opsP hc.P) L n)) := by
 have hv1 := hL.one
 have hm1 := hmd.one
 have hn64 := hc.h2
 have hll := hc.mv.len
 obtain ⟨rows, hs, hrl, hrr⟩ := hL.row
 refine QJ Tryz.func10 rfl rfl (Qc (Qb [0,1,2] rfl (BXA rfl wu rfl rfl ?_)))
 intro cb w1 hE hB hcb
 refine Qi rfl rfl (Qi rfl rfl (Qd (Qa (Qc (Qc ?_)))))
 have hz1 := hE.size
 refine Qb [0,1,2] rfl (Vw rfl (ldA rfl ZE hB) (C rfl wu rfl rfl Tryz.call16 (JK p M mo v md n L _ hc.ok (hmd.ext hE) (hL.ext hE) hc.mv hc.can hc.h1 hc.h2) ?_))
 rintro _ w2 hE2 rfl
 replace hB := hB.ext hE2
 replace hE := hE.trans hE2
 refine Qi rfl rfl (Qd (Qa (Qc (Qb [0,1] rfl (mvV rfl rfl (QH rfl rfl rfl (Qd (Qa (Qo rfl (rfl) (Qe (Qa (Qc ?_))))))))))))
 have hz2 := hE.size
 refine Qb [0,1,2,3,4] rfl (Qx rfl rfl Za (Vw rfl (ldB rfl na3 hB) (Qw rfl rfl rfl (MKI (n := n + 1) rfl wu rfl rfl Qy ?_))))
 intro ov w3 hE3 ho hi hob
 refine Qi rfl rfl (Qd (Qa (Qc (Qc ?_))))
 have hE3' := hE.trans hE3
 have ho0 : OwnI w2.heap.size w3 ov 3 (tab (n + 1) fun y => if y < 0 then (Ml.rankM (opsP hc.P) L (Ml.spanL 0 y) : Int) + Ml.rankM (opsP hc.P) L (Ml.spanL y n) - L.length else 0) := ho
 refine Qb [0,1,2] rfl (mvV rfl rfl (Vw rfl (Zk rfl Qy hi) (mvV rfl rfl (Qd (Qa (Qf ?_))))))
 rw [Qp]
 refine Qu (fun i : Nat => [(1, .pointer (some ⟨cb, 0, none⟩)), (5, ov), (19, .int .i64 (n + 1 : Nat)), (20, .int .i64 i)])
  (fun i w' => i ≤ n + 1 ∧ Ext w w' ∧ Ext w2 w' ∧ OwnI w2.heap.size w' ov 3 (tab (n + 1) fun y => if y < i then (Ml.rankM (opsP hc.P) L (Ml.spanL 0 y) : Int) + Ml.rankM (opsP hc.P) L (Ml.spanL y n) - L.length else 0)) (fun i => n + 1 - i) 0 ⟨rfl, rfl, rfl, rfl, trivial⟩
  ⟨by omega, hE3', hE3, ho0⟩ ?_
 clear ho ho0 hi hE3 hE3'
 rintro i w3 ⟨i1, hE, hX, ho⟩
 try dsimp only
 refine Qc (Qb [0] rfl (Qz rfl rfl rfl (Qd (Qa (Qc (Qq rfl ?_ ?_))))))
 ·intro hi
  simp at hi
  have hr1 : Ml.rankM (opsP hc.P) L (Ml.spanL 0 i) ≤ i := by have := Ml.rankM_le (o := opsP hc.P) (L := L) (l := Ml.spanL 0 i); rw [Ml.spanL_len] at this; omega
  have hr2 : Ml.rankM (opsP hc.P) L (Ml.spanL i n) ≤ n := by have := Ml.rankM_le (o := opsP hc.P) (L := L) (l := Ml.spanL i n); rw [Ml.spanL_len] at this; omega
  refine Qe (Qa (Qc (Qf (Qc (Qb [0,1] rfl (mvV rfl rfl (Qi rfl rfl (Qd (Qa (Qc (Qb [0,1,2,3,4,5,6,7] rfl (Vw rfl (ldA rfl ZE (hB.ext hX)) (mvV rfl rfl (C rfl wu rfl rfl Tryz.call22 (trRanks p M mo v md n L i _ hc (by omega) (hmd.ext hE) (hL.ext hE)) ?_))))))))))))))
  rintro _ w4 hE4 rfl
  replace hE := hE.trans hE4
  replace hX := hX.trans hE4
  replace ho := OwnI.ext ho hE4
  refine mvV rfl rfl (QI rfl rfl rfl (QI rfl rfl rfl (Qi rfl rfl (Qi rfl rfl (Qd (Qa (Qb [0,1,2,3,4,5,6,7,8,9,10] rfl (mvV rfl rfl (mvV rfl rfl (mvV rfl rfl ?_))))))))))
  refine mvV rfl rfl (Qw rfl rfl rfl (Qx rfl rfl ZI (Vw rfl (ldB rfl ZC (hB.ext hX)) (Vw rfl (ZD rfl QS (hs.ext hE)) ?_))))
  rw [hrl]
  refine QU rfl rfl rfl (Vw rfl (QP rfl rfl Qy (OwnI.ints ho) (by omega) (by rw [Qp]; omega)) (STI rfl wu rfl rfl sz3 nofun ?_ (ho := ho) (h0 := by omega) (h1 := by rw [Qp]; omega)))
  intro w5 hg5 hX5 ho5 hi5
  rw [ZS] at ho5
  refine Qd (Qg (Qa (Qb [0,1] rfl (Qw rfl rfl rfl (mvV rfl rfl (Qd ?_))))))
  have ht5 : ∀ y, y < n + 1 → (if y = ((i : Nat) : Int).toNat then (Ml.rankM (opsP hc.P) L (Ml.spanL 0 i) : Int) + Ml.rankM (opsP hc.P) L (Ml.spanL i n) - L.length else if y < i then (Ml.rankM (opsP hc.P) L (Ml.spanL 0 y) : Int) + Ml.rankM (opsP hc.P) L (Ml.spanL y n) - L.length else 0) = if y < i + 1 then (Ml.rankM (opsP hc.P) L (Ml.spanL 0 y) : Int) + Ml.rankM (opsP hc.P) L (Ml.spanL y n) - L.length else 0 := fun y _ => by
   rw [Int.toNat_natCast]
   by_cases e : y = i
   ·rw [if_pos e, if_pos (by omega), e]
   ·rw [if_neg e]
    by_cases e2 : y < i
    ·rw [if_pos e2, if_pos (by omega)]
    ·rw [if_neg e2, if_neg (by omega)]
  rw [QB ht5] at ho5
  exact Qj (i + 1) ⟨rfl, rfl, rfl, rfl, trivial⟩ ⟨by omega, hX5 w hz2 hE, hX5 w2 (Nat.le_refl _) hX, ho5⟩ (by omega)
 ·intro hi
  simp at hi
  obtain rfl : i = n + 1 := by omega
  refine Qt (Ql (Qm (Qh (Qa (Qc (Qb [0,1,2] rfl (mvV rfl rfl (Qi rfl rfl (Qi rfl rfl (Qd (Qa (Qs (QE rfl rfl rfl ?_)))))))))))))
  refine ⟨hE, ov, rfl, ?_⟩
  have e : ∀ y, y < n + 1 → (if y < n + 1 then (Ml.rankM (opsP hc.P) L (Ml.spanL 0 y) : Int) + Ml.rankM (opsP hc.P) L (Ml.spanL y n) - L.length else 0) = (Ml.rankM (opsP hc.P) L (Ml.spanL 0 y) : Int) + Ml.rankM (opsP hc.P) L (Ml.spanL y n) - L.length := fun y hy => if_pos hy
  rw [QB e] at ho
  exact Own.mono ho hz2
end Go.Proofs.YteheedbhcfllfaaGreatDoor
