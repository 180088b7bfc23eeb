/-
  Field.Elements as an iterator: it gives 0, 1, .. in order, until it is stopped; what a range over it may keep.
-/
import Derived.Test.YtmnojknfjbimdaaGreatWMSya
import Derived.Test.YtmnojknfjbimdaaGreatWMSxa
import Derived.Test.YtmnojknfjbimdaaGreatWGF2
import Derived.Test.YtmnojknfjbimdaaGreatWMPa
namespace Go.Sx
open Go Go.RowKit Go.Pl
theorem cells_ne {w : World} {v : Value} {B : Nat} {E : TypeId} {xs : List Value} (h : Own B w v E xs) {k : Nat} (hk : v.ownBlock = some k) {o : Obj} (ho : w.heap[k]? = some o) : o.isCells = true := by
  rcases h.row.2 with ⟨rfl, _⟩ | ⟨g, cap, cur, rfl, _, hg, _⟩
  · cases hk
  · cases hk
    rw [hg] at ho
    cases ho
    rfl
theorem keeps_own {B B0 : Nat} {w w' : World} {v : Value} {E : TypeId} {xs : List Value} (h : Own B0 w v E xs) (hg : w.grownBy w' v.ownBlock) : KeepsFrom B w w' := ⟨hg.size, fun k o _ hk ho => (hg.block k (Array.getElem?_eq_some_iff.1 hk).1 (fun e => by
  have := cells_ne h e.symm hk
  rw [ho] at this; cases this)).trans hk⟩
theorem Own.nocells {B0 B : Nat} {w w' : World} {v : Value} {E : TypeId} {xs : List Value} {row : Option Nat} (h : Own B0 w v E xs) (hg : w.grownBy w' row) (hr : ∀ r, row = some r → B ≤ r ∧ ∃ o : Obj, w.heap[r]? = some o ∧ o.isCells = false) : Own B0 w' v E xs := by
  refine ⟨h.row.kept hg ?_, h.le⟩
  rcases hv : v.ownBlock with _ | k
  · exact .inl rfl
  · right
    intro e
    obtain ⟨_, o, ho, hc⟩ := hr k (by rw [← e])
    have := cells_ne h hv ho
    rw [hc] at this; cases this
theorem Blk.nocells {B : Nat} {w w' : World} {b : Nat} {t : TypeId} {cs : Array Value} {row : Option Nat} (h : Blk w b t cs) (hg : w.grownBy w' row) (hr : ∀ r, row = some r → B ≤ r ∧ ∃ o : Obj, w.heap[r]? = some o ∧ o.isCells = false) : Blk w' b t cs := by
  refine (hg.block b h.lt (fun e => ?_)).trans h
  obtain ⟨_, o, ho, hc⟩ := hr b e.symm
  rw [show w.heap[b]? = _ from h] at ho
  cases ho; cases hc
theorem Gr.nocells {X : List Nat} {B : Nat} {w0 w w' : World} {row : Option Nat} (h : Gr X w0 w) (hB : w0.heap.size ≤ B) (hg : w.grownBy w' row) (hr : ∀ r, row = some r → B ≤ r ∧ ∃ o : Obj, w.heap[r]? = some o ∧ o.isCells = false) : Gr X w0 w' :=
  ⟨hg.os.trans h.os, hg.tape.trans h.tape, hg.output.trans h.output, Nat.le_trans h.size hg.size, fun k hk hx => (hg.block k (Nat.lt_of_lt_of_le hk h.size) (fun e => by have := (hr k e.symm).1; omega)).trans (h.block k hk hx)⟩
theorem Gr.new {X : List Nat} {w0 w w' : World} {row : Option Nat} (h : Gr X w0 w) (hg : w.grownBy w' row) (hr : ∀ k, row = some k → w0.heap.size ≤ k) : Gr X w0 w' :=
  ⟨hg.os.trans h.os, hg.tape.trans h.tape, hg.output.trans h.output, Nat.le_trans h.size hg.size, fun k hk hx => (hg.block k (Nat.lt_of_lt_of_le hk h.size) (fun e => by have := hr k e.symm; omega)).trans (h.block k hk hx)⟩
end Go.Sx
namespace Go.Proofs.YtmnojknfjbimdaaGreat
open Go Go.Sx Go.Pl Go.RowKit Go.Fd Go.Alg
theorem naE84 : NA Tryz.prog 84 := fun w => Tryz.isAgg84 w
theorem gElems (P : FP) (g : Value) (w : World) (hG : GFV w P g) :
    Calls Tryz.prog 162 #[g] w (RetX w fun v w' => ∃ b, v = .func (.func 173) #[] #[.pointer (some ⟨b, 0, none⟩)] ∧ Blk w' b 84 #[g]) := by
  have hg1 : g.oneCell' = true := by
    obtain ⟨gb, _, _, _, _, _, _, rfl, _⟩ := hG.ex
    rfl
  refine calls1 Tryz.func162 rfl rfl ?_
  refine wc_seq ?_
  refine wc_region [0,1] rfl ?_
  refine BXV rfl wu rfl rfl (by first | rfl | assumption) ?_
  intro b w1 hE hB hb
  refine Go.Sx.V rfl wu rfl rfl (asg rfl) ?_
  refine wr_nil (post_thenN (wc_seq ?_))
  refine wc_region [0,1] rfl ?_
  refine Go.Sx.V rfl wu rfl rfl (mkf rfl rfl) ?_
  refine Go.Sx.V rfl wu rfl rfl (asg rfl) ?_
  refine wr_nil (post_thenN (wc_ret ?_))
  refine post_ret1 rfl rfl ?_
  exact ⟨hE, b, rfl, hB⟩
theorem gElemsSeq (P : FP) (g : Value) (b : Nat) (w : World) (hG : GFV w P g) (hB : Blk w b 84 #[g]) :
    SeqStopsK (ro none) 1 Tryz.prog 173 #[.pointer (some ⟨b, 0, none⟩)] (fun x : Int => #[.int .i64 x]) (fun _ _ => True) (fun xs => xs = els P.q.toNat) (fun pre => ∃ n : Nat, (n : Int) < P.q ∧ pre = els (n + 1)) P.q.toNat w := by
  intro rl J Jx W hW hJ hJx hY h0
  replace hB := hB.ext hW
  replace hG := hG.ext hW
  have hq2 := P.q_two
  have hq := hG.q
  obtain ⟨gb, mc, exp, log, md, lg, x0, rfl, hBg, hF, hx, hei, hli, hL⟩ := hG.ex
  refine iter_of2 Tryz.func173 rfl rfl ?_
  refine wi_seq ?_
  refine wi_region [0,1,2,3,4] rfl ?_
  refine Go.Sx.V rfl wu rfl rfl (ldB rfl naE84 hB) ?_
  refine Go.Sx.V rfl wu rfl rfl (nchk rfl) ?_
  refine Go.Sx.V rfl wu rfl rfl (fad rfl fa120_1) ?_
  refine Go.Sx.V rfl wu rfl rfl (ldB rfl na3) ?_
  refine Go.Sx.V rfl wu rfl rfl (mv rfl) ?_
  refine wir_nil (posti_thenN (wi_block ?_))
  refine wi_loop (fun i : Nat => [(0, .func (.yield rl) #[] #[]), (1, .pointer (some ⟨b, 0, none⟩)), (7, .int .i64 P.q), (8, .int .i64 i)]) (fun i w' => (i : Int) ≤ P.q ∧ J (els i) w') (fun i => P.q.toNat - i) 0 ⟨rfl, rfl, rfl, rfl, trivial⟩ ⟨by show (0 : Int) ≤ P.q; omega, h0⟩ ?_
  rintro i w1 ⟨i1, hJ1⟩
  try dsimp only
  refine wi_seq ?_
  refine wi_region [0] rfl ?_
  refine Go.Sx.V rfl wu rfl rfl (lssI rfl rfl) ?_
  refine wir_nil (posti_thenN (wi_seq ?_))
  refine wi_cond rfl ?_ ?_
  · intro hl
    simp at hl
    refine wi_skip (posti_thenN (wi_seq (wi_block (wi_seq ?_))))
    refine wi_region [0,1] rfl ?_
    refine Go.Sx.V rfl wu rfl rfl (mv rfl) ?_
    refine Go.Sx.V rfl wu rfl rfl (asg rfl) ?_
    refine wir_nil (posti_thenN (wi_seq ?_))
    refine wi_regionY [0,1] [2,3] rfl ?_
    refine Go.Sx.V rfl wu rfl rfl (mv rfl) ?_
    refine Go.Sx.V rfl wu rfl rfl (mv rfl) ?_
    refine wir_yield rfl (by kernel_rfl) rfl rfl rfl (hY (els i) i _ hJ1 (by rw [els_length]; omega)) ?_
    rintro e w2 (⟨rfl, hJ2, _⟩ | ⟨rfl, hJ2⟩)
    · refine ⟨_, rfl, ?_⟩
      refine Go.Sx.V rfl wu rfl rfl (notB rfl) ?_
      refine wir_nil (posti_thenN ?_)
      refine wi_condF rfl (by simp) ?_
      refine wi_skip (posti_blockN (posti_thenN ?_))
      refine wi_region [0,1] rfl ?_
      refine Go.Sx.V rfl wu rfl rfl (addI rfl rfl) ?_
      refine Go.Sx.V rfl wu rfl rfl (mv rfl) ?_
      refine wir_nil ?_
      exact posti_loopN (i + 1) ⟨rfl, rfl, rfl, rfl, trivial⟩ ⟨by show ((i + 1 : Nat) : Int) ≤ P.q; omega, by rw [els_succ]; exact hJ2⟩ (by show P.q.toNat - (i + 1) < P.q.toNat - i; omega)
    · refine ⟨_, rfl, ?_⟩
      refine Go.Sx.V rfl wu rfl rfl (notB rfl) ?_
      refine wir_nil (posti_thenN ?_)
      refine wi_condT rfl (by simp) ?_
      refine wi_ret (posti_blockR (posti_thenR (posti_loopR (posti_blockR ?_))))
      exact posti_of (post_ret0 rfl ⟨⟨_, rfl⟩, .inr ⟨_, ⟨i, hl, (els_succ i).symm⟩, hJ2⟩⟩)
  · intro hl
    simp at hl
    refine wi_exit (posti_thenE (posti_loopE (posti_blockX ?_)))
    obtain rfl : i = P.q.toNat := by omega
    exact posti_of (post_end0 rfl ⟨⟨_, rfl⟩, .inl ⟨_, rfl, hJ1⟩⟩)
end Go.Proofs.YtmnojknfjbimdaaGreat

