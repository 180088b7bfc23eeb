/-
  The library's slices.SortFunc at few lists of ints, by contract.
-/
import Derived.Test.YtmnojknfjbimdaaGreatWLib1
namespace Go.Sx
open Go Go.RowKit Go.Pl
theorem keepRow {w w' : World} {v r : Value} {z : List Int} (hg : w.grownBy w' v.ownBlock) (h : Ints w r z) (hd : z = [] ∨ (r.ownBlock ≠ v.ownBlock ∧ NB [] r)) : Ints w' r z := by
  rcases hd with rfl | hd
  · exact ints_empty h
  · exact h.kept hg hd.1
theorem LOX.rowsX {B : Nat} {w : World} {v : Value} {E : TypeId} {L : List (List Int)} (h : LOX [] B w v E L) : ∃ rows, Sl w v rows ∧ rows.length = L.length ∧ ∀ i : Nat, i < L.length → ∃ r, rows[i]? = some r ∧ Ints w r (L.getD i []) ∧ (L.getD i [] = [] ∨ (r.ownBlock ≠ v.ownBlock ∧ NB [] r)) := by
  obtain ⟨rows, h1, h2, h3⟩ := h
  refine ⟨rows, h1.sl, h2, fun i hi => ?_⟩
  have hr : rows[i]? = some (rows[i]'(by omega)) := List.getElem?_eq_getElem (by omega)
  have hz : L[i]? = some (L.getD i []) := by rw [List.getD_eq_getElem?_getD, List.getElem?_eq_getElem hi]; rfl
  exact ⟨_, hr, (h3 i _ _ hr hz).1, (h3 i _ _ hr hz).2⟩
def Sorts (B : Nat) (w w' : World) : Prop := ∀ w0 : World, w0.heap.size ≤ B → Ext w0 w → Ext w0 w'
theorem Sorts.refl (B : Nat) (w : World) : Sorts B w w := fun _ _ h => h
theorem Sorts.ext {B : Nat} {w w' w'' : World} (h : Sorts B w w') (hE : Ext w' w'') : Sorts B w w'' := fun w0 h0 h1 => (h w0 h0 h1).trans hE
end Go.Sx
namespace Go.Proofs.YtmnojknfjbimdaaGreat
open Go Go.Sx Go.Pl Go.RowKit Go.Fd
def cmpF : Value := .func (.func 65) #[] #[]
set_option maxRecDepth 10000 in
theorem sInsertion (v : Value) (L0 : List (List Int)) (B : Nat) (w : World) (ho : LOX [] B w v 22 L0) (hn : L0.length ≤ 1048576) :
    Calls Tryz.prog 131 #[v, .int .i64 0, .int .i64 L0.length, cmpF] w (Ret fun _ w' => Sorts B w w' ∧ ∃ L, L.Perm L0 ∧ SoI L L.length ∧ LOX [] B w' v 22 L) := by
  refine calls4 Tryz.func131 rfl rfl ?_
  refine wc_seq ?_
  refine wc_region [0,1,2] rfl ?_
  refine Go.Sx.V rfl wu rfl rfl (mv rfl) ?_
  refine Go.Sx.V rfl wu rfl rfl (addI rfl rfl) ?_
  refine Go.Sx.V rfl wu rfl rfl (asg rfl) ?_
  refine wr_nil (post_thenN (wc_block ?_))
  refine wc_loop (fun i : Nat => [(0, v), (1, .int .i64 0), (2, .int .i64 L0.length), (3, cmpF), (8, .int .i64 i)])
    (fun i w' => 1 ≤ i ∧ i ≤ L0.length + 1 ∧ Sorts B w w' ∧ ∃ L, L.Perm L0 ∧ SoI L (min i L0.length) ∧ LOX [] B w' v 22 L) (fun i => L0.length + 1 - i) 1 ⟨rfl, rfl, rfl, rfl, rfl, trivial⟩ ⟨by omega, by omega, Sorts.refl _ _, L0, List.Perm.refl _, fun p q hpq hq => by omega, ho⟩ ?_
  clear ho
  rintro i w1 ⟨i0, i1, hS, L, hp, hso, ho⟩
  have hlen := hp.length_eq
  try dsimp only
  refine wc_seq (wc_seq ?_)
  refine wc_region [0,1,2] rfl ?_
  refine Go.Sx.V rfl wu rfl rfl (mv rfl) ?_
  refine Go.Sx.V rfl wu rfl rfl (mv rfl) ?_
  refine Go.Sx.V rfl wu rfl rfl (lssI rfl rfl) ?_
  refine wr_nil (post_thenN ?_)
  refine wc_cond rfl ?_ ?_
  · intro hc
    simp at hc
    refine wc_skip (post_thenN (wc_seq (wc_block (wc_seq ?_))))
    refine wc_region [0,1] rfl ?_
    refine Go.Sx.V rfl wu rfl rfl (mv rfl) ?_
    refine Go.Sx.V rfl wu rfl rfl (asg rfl) ?_
    refine wr_nil (post_thenN (wc_block ?_))
    refine wc_loop (fun j : Nat => [(0, v), (1, .int .i64 0), (2, .int .i64 L0.length), (3, cmpF), (8, .int .i64 i), (9, .int .i64 j)])
      (fun j w' => j ≤ i ∧ Sorts B w w' ∧ ∃ L, L.Perm L0 ∧ SoJ L i j ∧ LOX [] B w' v 22 L) (fun j => j) i ⟨rfl, rfl, rfl, rfl, rfl, rfl, trivial⟩ ⟨by omega, hS, L, hp, (hso.le (j := i) (by omega)).begin, ho⟩ ?_
    clear hS hp hso ho hlen
    clear L w1
    rintro j w1 ⟨j1, hS, L, hp, hso, ho⟩
    have hlen := hp.length_eq
    obtain ⟨rows, hs, hrl, hrr⟩ := ho.rowsX
    try dsimp only
    refine wc_seq (wc_seq ?_)
    rcases Nat.eq_zero_or_pos j with rfl | hj0
    · skip
      refine wc_draw mixed [0,1,2,3,4,5,6,7,8,9,10,11,12,13,14,15,16] (by kernel_rfl) ?_
      intro w2 hd _
      replace hS := hS.ext hd
      replace ho := ho.ext hd
      refine Go.Sx.V rfl wu rfl rfl (mv rfl) ?_
      refine Go.Sx.V rfl wu rfl rfl (mv rfl) ?_
      refine Go.Sx.V rfl wu rfl rfl (gtrI rfl rfl) ?_
      refine Go.Sx.V rfl wu rfl rfl (mv rfl) ?_
      refine KB 21 false rfl (by simp) ?_
      refine SK rfl rfl rfl rfl rfl ?_
      refine SK rfl rfl rfl rfl rfl ?_
      refine SK rfl rfl rfl rfl rfl ?_
      refine SK rfl rfl rfl rfl rfl ?_
      refine SK rfl rfl rfl rfl rfl ?_
      refine SK rfl rfl rfl rfl rfl ?_
      refine SK rfl rfl rfl rfl rfl ?_
      refine SK rfl rfl rfl rfl rfl ?_
      refine SK rfl rfl rfl rfl rfl ?_
      refine SK rfl rfl rfl rfl rfl ?_
      refine SK rfl rfl rfl rfl rfl ?_
      refine SK rfl rfl rfl rfl rfl ?_
      refine Go.Sx.V rfl wu rfl rfl (pk rfl rfl) ?_
      refine wr_nil (post_thenN ?_)
      refine wc_condF rfl (by rfl) ?_
      refine wc_exit (post_thenE (post_loopE (post_blockX (post_blockN (post_thenN ?_)))))
      refine wc_region [0,1,2] rfl ?_
      refine Go.Sx.V rfl wu rfl rfl (mv rfl) ?_
      refine Go.Sx.V rfl wu rfl rfl (addI rfl rfl) ?_
      refine Go.Sx.V rfl wu rfl rfl (asg rfl) ?_
      refine wr_nil ?_
      exact post_loopN (i + 1) ⟨rfl, rfl, rfl, rfl, rfl, trivial⟩ ⟨by omega, by omega, hS, L, hp, by rw [Nat.min_eq_left (by omega)]; exact hso.stop (.inl rfl) (by omega), ho⟩ (by omega)
    · obtain ⟨k, rfl⟩ : ∃ k, j = k + 1 := ⟨j - 1, by omega⟩
      obtain ⟨r1, hr1, hi1, hd1⟩ := hrr (k + 1) (by omega)
      obtain ⟨r2, hr2, hi2, hd2⟩ := hrr k (by omega)
      have e1 : (((k + 1 : Nat) : Int)).toNat = k + 1 := by omega
      have e2 : (((k + 1 : Nat) : Int) - 1).toNat = k := by omega
      refine wc_draw mixed [0,1,2,3,4,5,6,7,8,9,10,11,12,13,14,15,16] (by kernel_rfl) ?_
      intro w2 hd _
      replace hS := hS.ext hd
      replace ho := ho.ext hd
      replace hi1 := hi1.ext hd
      replace hi2 := hi2.ext hd
      refine Go.Sx.V rfl wu rfl rfl (mv rfl) ?_
      refine Go.Sx.V rfl wu rfl rfl (mv rfl) ?_
      refine Go.Sx.V rfl wu rfl rfl (gtrI rfl rfl) ?_
      refine Go.Sx.V rfl wu rfl rfl (mv rfl) ?_
      refine KB 21 true rfl (by simp) ?_
      refine Go.Sx.V rfl (wg rfl rfl) rfl rfl (mv rfl) ?_
      refine Go.Sx.V rfl (wg rfl rfl) rfl rfl (mv rfl) ?_
      refine Go.Sx.V rfl (wg rfl rfl) rfl rfl (mv rfl) ?_
      refine Go.Sx.V rfl (wg rfl rfl) rfl rfl (iad rfl rfl ty29 hs (by omega) (by omega)) ?_
      refine Go.Sx.V rfl (wg rfl rfl) rfl rfl (ldE rfl na22 hs (by rw [e1]; exact hr1) hd) ?_
      refine Go.Sx.V rfl (wg rfl rfl) rfl rfl (mv rfl) ?_
      refine Go.Sx.V rfl (wg rfl rfl) rfl rfl (mv rfl) ?_
      refine Go.Sx.V rfl (wg rfl rfl) rfl rfl (subI rfl rfl) ?_
      refine Go.Sx.V rfl (wg rfl rfl) rfl rfl (iad rfl rfl ty29 hs (by omega) (by omega)) ?_
      refine Go.Sx.V rfl (wg rfl rfl) rfl rfl (ldE rfl na22 hs (by rw [e2]; exact hr2) hd) ?_
      refine CVX (fs := []) (cs := []) (vs := [r1, r2]) rfl (wg rfl rfl) rfl rfl rfl Tryz.call65 (sCompare r1 r2 _ _ _ hi1 hi2) ?_
      rintro _ w3 hE3 rfl
      replace hS := hS.ext hE3
      replace ho := ho.ext hE3
      replace hi1 := hi1.ext hE3
      replace hi2 := hi2.ext hE3
      refine Go.Sx.V rfl (wg rfl rfl) rfl rfl (lssI rfl rfl) ?_
      refine Go.Sx.V rfl wu rfl rfl (pk rfl rfl) ?_
      refine wr_nil (post_thenN ?_)
      refine wc_cond rfl ?_ ?_
      · intro hc1
        replace hc1 := of_decide_eq_true hc1
        obtain ⟨rows, hs, hrl, hrr⟩ := ho.rowsX
        obtain ⟨r1, hr1, hi1, hd1⟩ := hrr (k + 1) (by omega)
        obtain ⟨r2, hr2, hi2, hd2⟩ := hrr k (by omega)
        refine wc_skip (post_thenN (wc_seq (wc_block ?_)))
        refine wc_draw mixed [0,1,2,3,4,5,6,7,8,9,10,11,12,13,14,15,16,17] (by kernel_rfl) ?_
        intro w4 hd4 _
        replace hS := hS.ext hd4
        replace ho := ho.ext hd4
        replace hi1 := hi1.ext hd4
        replace hi2 := hi2.ext hd4
        refine Go.Sx.V rfl wu rfl rfl (mv rfl) ?_
        refine Go.Sx.V rfl wu rfl rfl (mv rfl) ?_
        refine Go.Sx.V rfl wu rfl rfl (mv rfl) ?_
        refine Go.Sx.V rfl wu rfl rfl (mv rfl) ?_
        refine Go.Sx.V rfl wu rfl rfl (subI rfl rfl) ?_
        refine Go.Sx.V rfl wu rfl rfl (mv rfl) ?_
        refine Go.Sx.V rfl wu rfl rfl (mv rfl) ?_
        refine Go.Sx.V rfl wu rfl rfl (subI rfl rfl) ?_
        refine Go.Sx.V rfl wu rfl rfl (iad rfl rfl ty29 hs (by omega) (by omega)) ?_
        refine Go.Sx.V rfl wu rfl rfl (ldE rfl na22 hs (by rw [e2]; exact hr2) hd4) ?_
        refine Go.Sx.V rfl wu rfl rfl (mv rfl) ?_
        refine Go.Sx.V rfl wu rfl rfl (mv rfl) ?_
        refine Go.Sx.V rfl wu rfl rfl (iad rfl rfl ty29 hs (by omega) (by omega)) ?_
        refine Go.Sx.V rfl wu rfl rfl (ldE rfl na22 hs (by rw [e1]; exact hr1) hd4) ?_
        refine Go.Sx.V rfl wu rfl rfl (iad rfl rfl ty29 hs (by omega) (by omega)) ?_
        refine STX rfl wu rfl rfl sz22 (by intro h; kernel_rfl) (hi2) (hd2) ?_
        intro w5 hg5 hX5 ho5
        have hi1' := keepRow hg5 hi1 hd1
        refine Go.Sx.V rfl wu rfl rfl (iad rfl rfl ty29 hs (by omega) (by omega)) ?_
        refine STX rfl wu rfl rfl sz22 (by intro h; kernel_rfl) hi1' hd1 ?_ ho5 (by omega) (by rw [List.length_set]; omega)
        intro w6 hg6 hX6 ho6
        refine wr_nil (post_blockN (post_thenN ?_))
        rw [e1, e2] at ho6
        replace ho6 : LOX [] B w6 v 22 (swL L (k + 1) k) := ho6
        have hS6 : Sorts B w w6 := fun w0 h0 h1 => hX6 w0 h0 (hX5 w0 h0 (hS w0 h0 h1))
        refine wc_region [0,1,2] rfl ?_
        refine Go.Sx.V rfl wu rfl rfl (mv rfl) ?_
        refine Go.Sx.V rfl wu rfl rfl (subI rfl rfl) ?_
        refine Go.Sx.V rfl wu rfl rfl (asg rfl) ?_
        refine wr_nil ?_
        rw [show (((k + 1 : Nat) : Int) - 1) = ((k : Nat) : Int) by omega]
        exact post_loopN k ⟨rfl, rfl, rfl, rfl, rfl, rfl, trivial⟩ ⟨by omega, hS6, _, (swL_perm (by omega) (by omega)).trans hp, hso.step (by omega) (by omega) hc1, ho6⟩ (by omega)
      · intro hc1
        replace hc1 := of_decide_eq_false hc1
        refine wc_exit (post_thenE (post_loopE (post_blockX (post_blockN (post_thenN ?_)))))
        refine wc_region [0,1,2] rfl ?_
        refine Go.Sx.V rfl wu rfl rfl (mv rfl) ?_
        refine Go.Sx.V rfl wu rfl rfl (addI rfl rfl) ?_
        refine Go.Sx.V rfl wu rfl rfl (asg rfl) ?_
        refine wr_nil ?_
        exact post_loopN (i + 1) ⟨rfl, rfl, rfl, rfl, rfl, trivial⟩ ⟨by omega, by omega, hS, L, hp, by rw [Nat.min_eq_left (by omega)]; exact hso.stop (.inr ⟨k, rfl, by omega⟩) (by omega), ho⟩ (by omega)
  · intro hc
    simp at hc
    refine wc_exit (post_thenE (post_loopE (post_blockX ?_)))
    refine post_end0 rfl ⟨hS, L, hp, ?_, ho⟩
    rw [hlen]
    exact hso.le (by omega)
set_option maxRecDepth 10000 in
theorem sPdq (v : Value) (L0 : List (List Int)) (B : Nat) (lim : Int) (w : World) (ho : LOX [] B w v 22 L0) (hn : L0.length ≤ 12) :
    Calls Tryz.prog 96 #[v, .int .i64 0, .int .i64 L0.length, .int .i64 lim, cmpF] w (Ret fun _ w' => Sorts B w w' ∧ ∃ L, L.Perm L0 ∧ SoI L L.length ∧ LOX [] B w' v 22 L) := by
  refine calls5 Tryz.func96 rfl rfl ?_
  refine wc_seq ?_
  refine wc_region [0] rfl ?_
  refine Go.Sx.V rfl wu rfl rfl (asg rfl) ?_
  refine wr_nil (post_thenN (wc_seq ?_))
  refine wc_region [0] rfl ?_
  refine Go.Sx.V rfl wu rfl rfl (asg rfl) ?_
  refine wr_nil (post_thenN (wc_block ?_))
  refine wc_loop (fun _ : Unit => [(0, v), (1, .int .i64 0), (2, .int .i64 L0.length), (4, cmpF)]) (fun _ w' => w' = w) (fun _ => 0) () ⟨rfl, rfl, rfl, rfl, trivial⟩ rfl ?_
  rintro _ w1 rfl
  try dsimp only
  refine wc_block (wc_seq ?_)
  refine wc_region [0,1,2,3] rfl ?_
  refine Go.Sx.V rfl wu rfl rfl (mv rfl) ?_
  refine Go.Sx.V rfl wu rfl rfl (mv rfl) ?_
  refine Go.Sx.V rfl wu rfl rfl (subI rfl rfl) ?_
  refine Go.Sx.V rfl wu rfl rfl (asg rfl) ?_
  refine wr_nil (post_thenN (wc_seq (wc_seq ?_)))
  refine wc_region [0,1] rfl ?_
  refine Go.Sx.V rfl wu rfl rfl (mv rfl) ?_
  refine Go.Sx.V rfl wu rfl rfl (leqI rfl rfl) ?_
  refine wr_nil (post_thenN ?_)
  refine wc_condT rfl (by simp; omega) ?_
  refine wc_seq ?_
  refine wc_region [0,1,2,3,4] rfl ?_
  refine Go.Sx.V rfl wu rfl rfl (mv rfl) ?_
  refine Go.Sx.V rfl wu rfl rfl (mv rfl) ?_
  refine Go.Sx.V rfl wu rfl rfl (mv rfl) ?_
  refine Go.Sx.V rfl wu rfl rfl (mv rfl) ?_
  refine CRG rfl wu rfl rfl Tryz.call131 (sInsertion v L0 B _ ho (by omega)) (by intro h; cases h) ?_
  rintro _ w2 hfin
  refine wr_nil (post_thenN (wc_ret (post_thenR (post_blockR (post_loopR (post_blockR ?_))))))
  refine post_ret0 rfl ?_
  exact hfin
set_option maxRecDepth 10000 in
theorem sSortFunc (v : Value) (L0 : List (List Int)) (B : Nat) (w : World) (ho : LOX [] B w v 22 L0) (hn : L0.length ≤ 12) :
    Calls Tryz.prog 64 #[v, cmpF] w (Ret fun _ w' => Sorts B w w' ∧ ∃ L, L.Perm L0 ∧ SoI L L.length ∧ LOX [] B w' v 22 L) := by
  obtain ⟨rows, hs, hrl, hrr⟩ := ho.rowsX
  have hw8 : IntKind.u64.wrap (L0.length : Int) = L0.length := by simp [IntKind.wrap, IntKind.bits, IntKind.signed]; omega
  refine calls2 Tryz.func64 rfl rfl ?_
  refine wc_seq ?_
  refine wc_region [0,1,2] rfl ?_
  refine Go.Sx.V rfl wu rfl rfl (mv rfl) ?_
  refine Go.Sx.V rfl wu rfl rfl (lenS rfl ty29 hs) ?_
  refine Go.Sx.V rfl wu rfl rfl (asg rfl) ?_
  refine wr_nil (post_thenN ?_)
  rw [hrl]
  refine wc_region [0,1,2,3,4,5,6] rfl ?_
  refine Go.Sx.V rfl wu rfl rfl (mv rfl) ?_
  refine Go.Sx.V rfl wu rfl rfl (mv rfl) ?_
  refine Go.Sx.V rfl wu rfl rfl (mv rfl) ?_
  refine Go.Sx.V rfl wu rfl rfl (cvK (q := .u64) rfl (by kernel_rfl) (by kernel_rfl)) ?_
  rw [hw8]
  refine C rfl wu rfl rfl Tryz.call97 (bLen L0.length _ (by omega) (by omega)) ?_
  rintro _ w1 hE ⟨lim, rfl⟩
  refine Go.Sx.V rfl wu rfl rfl (mv rfl) ?_
  refine CRG rfl wu rfl rfl Tryz.call96 (sPdq v L0 B lim _ (ho.ext hE) hn) (by intro h; cases h) ?_
  rintro _ w2 ⟨hS, hfin⟩
  refine wr_nil ?_
  exact post_end0 rfl ⟨fun w0 h0 h1 => hS w0 h0 (h1.trans hE), hfin⟩
end Go.Proofs.YtmnojknfjbimdaaGreat

