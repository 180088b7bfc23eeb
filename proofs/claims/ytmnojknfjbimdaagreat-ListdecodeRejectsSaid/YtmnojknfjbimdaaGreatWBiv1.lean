/-
  The package bivariate, by contract, part 1: trim, Canon, Add, Mul, Eval, Substitute, next.
-/
import Derived.Test.YtmnojknfjbimdaaGreatWPoly1
import Derived.Test.YtmnojknfjbimdaaGreatWMPa
import Derived.Test.YtmnojknfjbimdaaGreatWMSxa
namespace Go.Proofs.YtmnojknfjbimdaaGreat
open Go Go.Sx Go.Pl Go.RowKit Go.Fd Go.Alg
set_option maxRecDepth 10000 in
theorem bTrim (v : Value) (L : List (List Int)) (w : World) (hv : LL w v L) :
    Calls Tryz.prog 89 #[v] w (RetX w fun r _ => r = cutTo v (trimB L).length) := by
  have hle := hv.le
  have hself : cutTo v L.length = v := by
    obtain ⟨rows, hs, hl, _⟩ := hv
    have := Sl.cut_self hs
    rwa [hl] at this
  refine calls1 Tryz.func89 rfl rfl ?_
  refine wc_seq ?_
  refine wc_region [0] rfl ?_
  refine Go.Sx.V rfl wu rfl rfl (asg rfl) ?_
  refine wr_nil (post_thenN (wc_seq (wc_block ?_)))
  refine wc_loop (fun k : Nat => [(0, cutTo v k)]) (fun k w' => k ≤ L.length ∧ trimB L = trimB (L.take k) ∧ w' = w) (fun k => k) L.length ⟨by rw [hself]; rfl, trivial⟩ ⟨Nat.le_refl _, by rw [List.take_length], rfl⟩ ?_
  rintro k w1 ⟨k1, ht, rfl⟩
  obtain ⟨rows, hs, hrl, hrr⟩ := hv.cut k1
  have hlk : (L.take k).length = k := by simp; omega
  rw [hlk] at hrl
  have hcc : ∀ j : Nat, slv (cutTo v k) 0 (j : Int) = cutTo v j := fun j => by
    rw [Sl.part0 hs, cut_cut]; simp
  have hlast : 0 < k → ∃ r, rows[((rows.length : Int) - 1).toNat]? = some r ∧ Ints w1 r (L.getD (k - 1) []) := fun h0 => by
    rw [show ((rows.length : Int) - 1).toNat = k - 1 by omega]
    have h1 : (L.take k)[k - 1]? = some (L.getD (k - 1) []) := by
      rw [List.getElem?_take, if_pos (by omega), List.getD_eq_getElem?_getD, List.getElem?_eq_getElem (by omega)]; rfl
    exact ⟨rows[k - 1]'(by omega), List.getElem?_eq_getElem (by omega), hrr _ _ _ (List.getElem?_eq_getElem (by omega)) h1⟩
  by_cases hk0 : 0 < k
  · obtain ⟨r, hr, hri⟩ := hlast hk0
    try dsimp only
    refine wc_seq (wc_seq ?_)
    refine wc_region [0,1,2,3,4,5,6,7,8,9,10,11,12] rfl ?_
    refine Go.Sx.V rfl wu rfl rfl (mv rfl) ?_
    refine Go.Sx.V rfl wu rfl rfl (lenS rfl ty30) ?_
    refine Go.Sx.V rfl wu rfl rfl (gtrI rfl rfl) ?_
    refine Go.Sx.V rfl wu rfl rfl (mv rfl) ?_
    refine AND (π1 := [4,5,6,7,8,9,10,11,12]) (π2 := []) (tc := 6) (tp := 15) rfl rfl rfl (by
        intro hg
        simp at hg
        refine Go.Sx.V rfl (wg rfl rfl) rfl rfl (mv rfl) ?_
        refine Go.Sx.V rfl (wg rfl rfl) rfl rfl (mv rfl) ?_
        refine Go.Sx.V rfl (wg rfl rfl) rfl rfl (lenS rfl ty30) ?_
        refine Go.Sx.V rfl (wg rfl rfl) rfl rfl (subI rfl rfl) ?_
        refine Go.Sx.V rfl (wg rfl rfl) rfl rfl (iad rfl rfl ty30 hs (by omega) (by omega)) ?_
        refine Go.Sx.V rfl (wg rfl rfl) rfl rfl (ldE rfl na22 hs hr) ?_
        refine Go.Sx.V rfl (wg rfl rfl) rfl rfl (lenI rfl ty22) ?_
        refine Go.Sx.V rfl (wg rfl rfl) rfl rfl (eqlI rfl rfl) ?_
        refine Go.Sx.V rfl wu rfl rfl (pk rfl rfl) ?_
        exact join rfl) (by
        intro _
        refine SK rfl rfl rfl rfl rfl ?_
        refine SK rfl rfl rfl rfl rfl ?_
        refine SK rfl rfl rfl rfl rfl ?_
        refine SK rfl rfl rfl rfl rfl ?_
        refine SK rfl rfl rfl rfl rfl ?_
        refine SK rfl rfl rfl rfl rfl ?_
        refine SK rfl rfl rfl rfl rfl ?_
        refine SK rfl rfl rfl rfl rfl ?_
        refine Go.Sx.V rfl wu rfl rfl (pk rfl rfl) ?_
        exact join rfl) ?_
    refine wr_nil (post_thenN ?_)
    refine wc_cond rfl ?_ ?_
    · intro h
      simp at h
      refine wc_skip (post_thenN (wc_block ?_))
      refine wc_region [0,1,2,3,4,5] rfl ?_
      refine Go.Sx.V rfl wu rfl rfl (mv rfl) ?_
      refine Go.Sx.V rfl wu rfl rfl (mv rfl) ?_
      refine Go.Sx.V rfl wu rfl rfl (lenS rfl ty30) ?_
      refine Go.Sx.V rfl wu rfl rfl (subI rfl rfl) ?_
      refine Go.Sx.V rfl wu rfl rfl (slH rfl rfl ty30 hs (by omega) (by omega)) ?_
      refine Go.Sx.V rfl wu rfl rfl (asg rfl) ?_
      refine wr_nil (post_blockN ?_)
      rw [hrl, show ((k : Int) - 1) = ((k - 1 : Nat) : Int) by omega, hcc]
      have h2 := trimB_take0 (l := L) (k := k - 1) (by omega) h.2
      rw [show k - 1 + 1 = k by omega] at h2
      exact post_loopN (k - 1) ⟨rfl, trivial⟩ ⟨by omega, by rw [ht, h2], rfl⟩ (by omega)
    · intro h
      simp at h
      refine wc_exit (post_thenE (post_loopE (post_blockX (post_thenN (wc_seq ?_)))))
      refine wc_region [0,1] rfl ?_
      refine Go.Sx.V rfl wu rfl rfl (mv rfl) ?_
      refine Go.Sx.V rfl wu rfl rfl (asg rfl) ?_
      refine wr_nil (post_thenN (wc_ret ?_))
      refine post_ret1 rfl rfl ?_
      refine ⟨Ext.refl _, ?_⟩
      have : (trimB L).length = k := by
        rw [ht]
        have h2 := trimB_takeN (l := L) (k := k - 1) (by omega) (h (by omega))
        rw [show k - 1 + 1 = k by omega] at h2
        rw [h2, hlk]
      rw [this]
  · skip
    try dsimp only
    refine wc_seq (wc_seq ?_)
    refine wc_region [0,1,2,3,4,5,6,7,8,9,10,11,12] rfl ?_
    refine Go.Sx.V rfl wu rfl rfl (mv rfl) ?_
    refine Go.Sx.V rfl wu rfl rfl (lenS rfl ty30) ?_
    refine Go.Sx.V rfl wu rfl rfl (gtrI rfl rfl) ?_
    refine Go.Sx.V rfl wu rfl rfl (mv rfl) ?_
    refine KB 6 false rfl (by rw [decide_eq_false_iff_not]; omega) ?_
    refine SK rfl rfl rfl rfl rfl ?_
    refine SK rfl rfl rfl rfl rfl ?_
    refine SK rfl rfl rfl rfl rfl ?_
    refine SK rfl rfl rfl rfl rfl ?_
    refine SK rfl rfl rfl rfl rfl ?_
    refine SK rfl rfl rfl rfl rfl ?_
    refine SK rfl rfl rfl rfl rfl ?_
    refine SK rfl rfl rfl rfl rfl ?_
    refine Go.Sx.V rfl wu rfl rfl (pk rfl rfl) ?_
    refine wr_nil (post_thenN ?_)
    refine wc_condF rfl (by simp) ?_
    refine wc_exit (post_thenE (post_loopE (post_blockX (post_thenN (wc_seq ?_)))))
    refine wc_region [0,1] rfl ?_
    refine Go.Sx.V rfl wu rfl rfl (mv rfl) ?_
    refine Go.Sx.V rfl wu rfl rfl (asg rfl) ?_
    refine wr_nil (post_thenN (wc_ret ?_))
    refine post_ret1 rfl rfl ?_
    refine ⟨Ext.refl _, ?_⟩
    have e0 : k = 0 := by omega
    rw [ht, e0]; rfl
theorem cutB {B : Nat} {w : World} {v : Value} {E : TypeId} {L : List (List Int)} (h : LO B w v E L) : LO B w (cutTo v (trimB L).length) E (trimB L) := by
  have := h.cut (trimB_len L)
  rwa [trimB_take] at this
set_option maxRecDepth 10000 in
theorem bCanon (P : FP) (g u : Value) (A : List (List Int)) (w : World) (hG : GFV w P g) (hu : LL w u A) (hA : RB 17592186044416 A) (hl : A.length ≤ 1099511627776) :
    Calls Tryz.prog 58 #[g, u] w (RetX w fun r w' => LO w.heap.size w' r 22 (bcl (bz P A))) := by
  obtain ⟨rows, hs, hrl, hrr⟩ := hu.row
  refine calls2 Tryz.func58 rfl rfl ?_
  refine wc_seq ?_
  refine wc_region [0] rfl ?_
  refine Go.Sx.V rfl wu rfl rfl (asg rfl) ?_
  refine wr_nil (post_thenN (wc_seq ?_))
  refine wc_region [0,1,2,3] rfl ?_
  refine Go.Sx.V rfl wu rfl rfl (mv rfl) ?_
  refine Go.Sx.V rfl wu rfl rfl (lenS rfl ty30 hs) ?_
  refine MKL (n := A.length) rfl wu rfl rfl ty30 ?_
  intro out w2 hE ho
  refine Go.Sx.V rfl wu rfl rfl (asg rfl) ?_
  refine wr_nil (post_thenN (wc_seq (wc_seq ?_)))
  refine wc_region [0,1,2] rfl ?_
  refine Go.Sx.V rfl wu rfl rfl (mv rfl) ?_
  refine Go.Sx.V rfl wu rfl rfl (lenS rfl ty30 hs) ?_
  refine Go.Sx.V rfl wu rfl rfl (mv rfl) ?_
  refine wr_nil (post_thenN (wc_block ?_))
  rw [hrl]
  rw [← updB_zero A.length (fun t => cl ((bz P A).co t)) (fun _ => [])] at ho
  refine wc_loop (fun i : Nat => [(0, g), (5, out), (11, u), (12, .int .i64 A.length), (13, .int .i64 i)])
    (fun i w' => i ≤ A.length ∧ Ext w w' ∧ LO w.heap.size w' out 22 (updB A.length (fun t => cl ((bz P A).co t)) (fun _ => []) i)) (fun i => A.length - i) 0 ⟨rfl, rfl, rfl, rfl, rfl, trivial⟩ ⟨by omega, hE, ho⟩ ?_
  clear hE ho
  rintro i w4 ⟨i1, hE, ho⟩
  have hul := updB_length A.length (fun t => cl ((bz P A).co t)) (fun _ => []) i
  obtain ⟨orows, hos, hol, _⟩ := ho.ll.row
  try dsimp only
  refine wc_seq ?_
  refine wc_region [0] rfl ?_
  refine Go.Sx.V rfl wu rfl rfl (lssI rfl rfl) ?_
  refine wr_nil (post_thenN (wc_seq ?_))
  refine wc_cond rfl ?_ ?_
  · intro hc
    simp at hc
    obtain ⟨r, hr, hri⟩ := hrr i hc
    refine wc_skip (post_thenN (wc_seq (wc_block (wc_seq ?_))))
    refine wc_region [0,1,2,3,4] rfl ?_
    refine Go.Sx.V rfl wu rfl rfl (mv rfl) ?_
    refine Go.Sx.V rfl wu rfl rfl (iad rfl rfl ty30 hs (by omega) (by omega)) ?_
    refine Go.Sx.V rfl wu rfl rfl (ldE rfl na22 hs hr hE) ?_
    refine Go.Sx.V rfl wu rfl rfl (asg rfl) ?_
    refine Go.Sx.V rfl wu rfl rfl (asg rfl) ?_
    refine wr_nil (post_thenN ?_)
    refine wc_region [0,1,2,3,4,5,6] rfl ?_
    refine Go.Sx.V rfl wu rfl rfl (mv rfl) ?_
    refine Go.Sx.V rfl wu rfl rfl (mv rfl) ?_
    refine Go.Sx.V rfl wu rfl rfl (mv rfl) ?_
    refine Go.Sx.V rfl wu rfl rfl (mv rfl) ?_
    refine C rfl wu rfl rfl Tryz.call88 (pCanon P g r _ _ (hG.ext hE) (hri.ext hE) (hA i)) ?_
    intro z w5 hE5 hz
    have hne := row_newI ho hz (Nat.le_refl _)
    replace ho := ho.ext hE5
    replace hE := hE.trans hE5
    refine Go.Sx.V rfl wu rfl rfl (iad rfl rfl ty30 hos (by omega) (by omega)) ?_
    refine STL rfl wu rfl rfl sz22 (by intro h; cases h) (OwnI.ints hz) (hne) ?_
    intro w6 hg6 hX6 ho6
    refine wr_nil (post_blockN (post_thenN ?_))
    rw [← co_bz, updB_step (f := fun t => cl ((bz P A).co t))] at ho6
    refine wc_region [0,1] rfl ?_
    refine Go.Sx.V rfl wu rfl rfl (addI rfl rfl) ?_
    refine Go.Sx.V rfl wu rfl rfl (mv rfl) ?_
    refine wr_nil ?_
    exact post_loopN (i + 1) ⟨rfl, rfl, rfl, rfl, rfl, trivial⟩ ⟨by omega, hX6 _ (Nat.le_refl _) hE, ho6⟩ (by omega)
  · intro hc
    simp at hc
    refine wc_exit (post_thenE (post_loopE (post_blockX (post_thenN (wc_seq ?_)))))
    rw [show i = A.length by omega, updB_last] at ho
    refine wc_region [0,1,2] rfl ?_
    refine Go.Sx.V rfl wu rfl rfl (mv rfl) ?_
    refine C rfl wu rfl rfl Tryz.call89 (bTrim out _ _ ho.ll) ?_
    rintro _ w5 hE5 rfl
    replace ho := ho.ext hE5
    refine Go.Sx.V rfl wu rfl rfl (asg rfl) ?_
    refine wr_nil (post_thenN (wc_ret ?_))
    refine post_ret1 rfl rfl ?_
    have := cutB ho
    rw [bcl_tab (fun i hi => co_bz_over hi)] at this ⊢
    exact ⟨hE.trans hE5, this⟩
set_option maxRecDepth 10000 in
theorem bAdd (P : FP) (g u v : Value) (A B : List (List Int)) (w : World) (hG : GFV w P g) (hu : LL w u A) (hv : LL w v B) (hA : RB 17592186044416 A) (hB : RB 17592186044416 B) (hl : A.length ≤ 1099511627776) (hm : B.length ≤ 1099511627776) :
    Calls Tryz.prog 152 #[g, u, v] w (RetX w fun r w' => LO w.heap.size w' r 22 (bcl (bz P A + bz P B))) := by
  obtain ⟨rows, hs, hrl, hrr⟩ := hu.row
  obtain ⟨rows2, hs2, hrl2, hrr2⟩ := hv.row
  obtain ⟨m, hmm⟩ : ∃ m : Nat, m = max A.length B.length := ⟨_, rfl⟩
  refine calls3 Tryz.func152 rfl rfl ?_
  refine wc_seq ?_
  refine wc_region [0] rfl ?_
  refine Go.Sx.V rfl wu rfl rfl (asg rfl) ?_
  refine wr_nil (post_thenN (wc_seq ?_))
  refine wc_region [0,1,2,3,4,5,6] rfl ?_
  refine Go.Sx.V rfl wu rfl rfl (mv rfl) ?_
  refine Go.Sx.V rfl wu rfl rfl (lenS rfl ty30 hs) ?_
  refine Go.Sx.V rfl wu rfl rfl (mv rfl) ?_
  refine Go.Sx.V rfl wu rfl rfl (lenS rfl ty30 hs2) ?_
  refine Go.Sx.V rfl wu rfl rfl (maxI rfl rfl) ?_
  refine MKL (n := m) rfl wu rfl rfl ty30 ?_
  intro out w2 hE ho
  refine Go.Sx.V rfl wu rfl rfl (asg rfl) ?_
  refine wr_nil (post_thenN (wc_seq (wc_seq ?_)))
  obtain ⟨orows, hos, hol, hx⟩ := ho.ll.row
  clear hx
  rw [tab_length] at hol
  refine wc_region [0,1,2] rfl ?_
  refine Go.Sx.V rfl wu rfl rfl (mv rfl) ?_
  refine Go.Sx.V rfl wu rfl rfl (lenS rfl ty30 hos) ?_
  refine Go.Sx.V rfl wu rfl rfl (mv rfl) ?_
  refine wr_nil (post_thenN (wc_block ?_))
  rw [hol]
  rw [← updB_zero m (fun t => cl ((bz P A + bz P B).co t)) (fun _ => [])] at ho
  refine wc_loop (fun i : Nat => [(0, g), (1, u), (2, v), (7, out), (17, out), (18, .int .i64 m), (19, .int .i64 i)])
    (fun i w' => i ≤ m ∧ Ext w w' ∧ LO w.heap.size w' out 22 (updB m (fun t => cl ((bz P A + bz P B).co t)) (fun _ => []) i)) (fun i => m - i) 0 ⟨rfl, rfl, rfl, rfl, rfl, rfl, rfl, trivial⟩ ⟨by omega, hE, ho⟩ ?_
  clear hE ho hos hol
  clear orows
  rintro i w4 ⟨i1, hE, ho⟩
  have hul := updB_length m (fun t => cl ((bz P A + bz P B).co t)) (fun _ => []) i
  obtain ⟨orows, hos, hol, _⟩ := ho.ll.row
  try dsimp only
  refine wc_seq ?_
  refine wc_region [0] rfl ?_
  refine Go.Sx.V rfl wu rfl rfl (lssI rfl rfl) ?_
  refine wr_nil (post_thenN (wc_seq ?_))
  refine wc_cond rfl ?_ ?_
  · intro hc
    simp at hc
    refine wc_skip (post_thenN (wc_seq (wc_block (wc_seq ?_))))
    refine wc_region [0,1] rfl ?_
    refine Go.Sx.V rfl wu rfl rfl (mv rfl) ?_
    refine Go.Sx.V rfl wu rfl rfl (asg rfl) ?_
    refine wr_nil (post_thenN (wc_seq ?_))
    refine wc_region [0,1] rfl ?_
    refine Go.Sx.V rfl wu rfl rfl (asg rfl) ?_
    refine Go.Sx.V rfl wu rfl rfl (asg rfl) ?_
    refine wr_nil (post_thenN (wc_seq (wc_seq ?_)))
    refine wc_region [0,1,2,3] rfl ?_
    refine Go.Sx.V rfl wu rfl rfl (mv rfl) ?_
    refine Go.Sx.V rfl wu rfl rfl (mv rfl) ?_
    refine Go.Sx.V rfl wu rfl rfl (lenS rfl ty30 hs) ?_
    refine Go.Sx.V rfl wu rfl rfl (lssI rfl rfl) ?_
    refine wr_nil (post_thenN ?_)
    refine wc_cut (σ := Value) (fun a => [(0, g), (1, u), (2, v), (7, out), (8, .int .i64 i), (9, a), (10, .slice none 0 0), (17, out), (18, .int .i64 m), (19, .int .i64 i)]) (fun a w' => w' = w4 ∧ Ints w4 a (A.getD i [])) ?_ ?_
    · skip
      refine wc_cond rfl ?_ ?_
      · intro h1
        simp at h1
        obtain ⟨r, hr, hri⟩ := hrr i (by omega)
        refine wc_region [0,1,2,3,4] rfl ?_
        refine Go.Sx.V rfl wu rfl rfl (mv rfl) ?_
        refine Go.Sx.V rfl wu rfl rfl (mv rfl) ?_
        refine Go.Sx.V rfl wu rfl rfl (iad rfl rfl ty30 hs (by omega) (by omega)) ?_
        refine Go.Sx.V rfl wu rfl rfl (ldE rfl na22 hs hr hE) ?_
        refine Go.Sx.V rfl wu rfl rfl (asg rfl) ?_
        exact wr_nil (post_cutN r ⟨rfl, rfl, rfl, rfl, rfl, rfl, rfl, rfl, rfl, rfl, trivial⟩ ⟨rfl, hri.ext hE⟩)
      · intro h1
        simp at h1
        have e : A.getD i [] = [] := by rw [List.getD_eq_getElem?_getD, List.getElem?_eq_none (by omega)]; rfl
        exact wc_skip (post_cutN (.slice none 0 0) ⟨rfl, rfl, rfl, rfl, rfl, rfl, rfl, rfl, rfl, rfl, trivial⟩ ⟨rfl, by rw [e]; exact Ints.nil _⟩)
    · rintro a w9 ⟨rfl, ha⟩
      refine wc_seq (wc_seq ?_)
      refine wc_region [0,1,2,3] rfl ?_
      refine Go.Sx.V rfl wu rfl rfl (mv rfl) ?_
      refine Go.Sx.V rfl wu rfl rfl (mv rfl) ?_
      refine Go.Sx.V rfl wu rfl rfl (lenS rfl ty30 hs2) ?_
      refine Go.Sx.V rfl wu rfl rfl (lssI rfl rfl) ?_
      refine wr_nil (post_thenN ?_)
      refine wc_cut (σ := Value) (fun b => [(0, g), (1, u), (2, v), (7, out), (8, .int .i64 i), (9, a), (10, b), (17, out), (18, .int .i64 m), (19, .int .i64 i)]) (fun b w' => w' = w9 ∧ Ints w9 b (B.getD i [])) ?_ ?_
      · skip
        refine wc_cond rfl ?_ ?_
        · intro h1
          simp at h1
          obtain ⟨r, hr, hri⟩ := hrr2 i (by omega)
          refine wc_region [0,1,2,3,4] rfl ?_
          refine Go.Sx.V rfl wu rfl rfl (mv rfl) ?_
          refine Go.Sx.V rfl wu rfl rfl (mv rfl) ?_
          refine Go.Sx.V rfl wu rfl rfl (iad rfl rfl ty30 hs2 (by omega) (by omega)) ?_
          refine Go.Sx.V rfl wu rfl rfl (ldE rfl na22 hs2 hr hE) ?_
          refine Go.Sx.V rfl wu rfl rfl (asg rfl) ?_
          exact wr_nil (post_cutN r ⟨rfl, rfl, rfl, rfl, rfl, rfl, rfl, rfl, rfl, rfl, trivial⟩ ⟨rfl, hri.ext hE⟩)
        · intro h1
          simp at h1
          have e : B.getD i [] = [] := by rw [List.getD_eq_getElem?_getD, List.getElem?_eq_none (by omega)]; rfl
          exact wc_skip (post_cutN (.slice none 0 0) ⟨rfl, rfl, rfl, rfl, rfl, rfl, rfl, rfl, rfl, rfl, trivial⟩ ⟨rfl, by rw [e]; exact Ints.nil _⟩)
      · rintro b w8 ⟨rfl, hb⟩
        refine wc_region [0,1,2,3,4,5,6,7] rfl ?_
        refine Go.Sx.V rfl wu rfl rfl (mv rfl) ?_
        refine Go.Sx.V rfl wu rfl rfl (mv rfl) ?_
        refine Go.Sx.V rfl wu rfl rfl (mv rfl) ?_
        refine Go.Sx.V rfl wu rfl rfl (mv rfl) ?_
        refine Go.Sx.V rfl wu rfl rfl (mv rfl) ?_
        refine C rfl wu rfl rfl Tryz.call172 (pAdd P g a b _ _ _ (hG.ext hE) ha hb (hA i) (hB i)) ?_
        intro z w5 hE5 hz
        have hne := row_newI ho hz (Nat.le_refl _)
        replace ho := ho.ext hE5
        replace hE := hE.trans hE5
        refine Go.Sx.V rfl wu rfl rfl (iad rfl rfl ty30 hos (by omega) (by omega)) ?_
        refine STL rfl wu rfl rfl sz22 (by intro h; cases h) (OwnI.ints hz) (hne) ?_
        intro w6 hg6 hX6 ho6
        refine wr_nil (post_blockN (post_thenN ?_))
        rw [← co_bz, ← co_bz, ← co_add, updB_step (f := fun t => cl ((bz P A + bz P B).co t))] at ho6
        refine wc_region [0,1] rfl ?_
        refine Go.Sx.V rfl wu rfl rfl (addI rfl rfl) ?_
        refine Go.Sx.V rfl wu rfl rfl (mv rfl) ?_
        refine wr_nil ?_
        exact post_loopN (i + 1) ⟨rfl, rfl, rfl, rfl, rfl, rfl, rfl, trivial⟩ ⟨by omega, hX6 _ (Nat.le_refl _) hE, ho6⟩ (by omega)
  · intro hc
    simp at hc
    refine wc_exit (post_thenE (post_loopE (post_blockX (post_thenN (wc_seq ?_)))))
    rw [show i = m by omega, updB_last] at ho
    refine wc_region [0,1,2] rfl ?_
    refine Go.Sx.V rfl wu rfl rfl (mv rfl) ?_
    refine C rfl wu rfl rfl Tryz.call89 (bTrim out _ _ ho.ll) ?_
    rintro _ w5 hE5 rfl
    replace ho := ho.ext hE5
    refine Go.Sx.V rfl wu rfl rfl (asg rfl) ?_
    refine wr_nil (post_thenN (wc_ret ?_))
    refine post_ret1 rfl rfl ?_
    have := cutB ho
    rw [bcl_tab (fun i hi => by rw [co_add, co_bz_over (by omega), co_bz_over (by omega), zero_add])] at this ⊢
    exact ⟨hE.trans hE5, this⟩
theorem two_len {a b : List Int} {na nb : Nat} (ha : a.length ≤ na) (hb : b.length ≤ nb) (hna : na ≤ 1048576) (hnb : nb ≤ 1048576) : ∀ (i : Nat) z, [a, b][i]? = some z → z.length ≤ 1048576 := fun i z h => by
  match i with
  | 0 => cases h; omega
  | 1 => cases h; omega
  | i + 2 => simp at h
theorem mul_len2 {P : FP} {a b : List Int} {na nb : Nat} (ha : a.length ≤ na) (hb : b.length ≤ nb) (hna : na ≤ 1048576) (hnb : nb ≤ 1048576) : (cl (pz P a * pz P b)).length ≤ 17592186044416 := by
  have h := cl_mul_len (pz P a) (pz P b)
  have h1 := cl_pz_len (P := P) a
  have h2 := cl_pz_len (P := P) b
  omega
set_option maxRecDepth 10000 in
theorem bMul (P : FP) (g u v : Value) (A B : List (List Int)) (na nb : Nat) (w : World) (hG : GFV w P g) (hu : LL w u A) (hv : LL w v B) (hA : RB na A) (hB : RB nb B) (hna : na ≤ 1048576) (hnb : nb ≤ 1048576) (hl : A.length ≤ 1048576) (hm : B.length ≤ 1048576) :
    Calls Tryz.prog 153 #[g, u, v] w (RetX w fun r w' => LO w.heap.size w' r 22 (bcl (bz P A * bz P B))) := by
  obtain ⟨rows, hs, hrl, hrr⟩ := hu.row
  obtain ⟨rows2, hs2, hrl2, hrr2⟩ := hv.row
  refine calls3 Tryz.func153 rfl rfl ?_
  refine wc_seq ?_
  refine wc_region [0] rfl ?_
  refine Go.Sx.V rfl wu rfl rfl (asg rfl) ?_
  refine wr_nil (post_thenN (wc_seq (wc_seq ?_)))
  refine wc_region [0,1,2,3,4,5,6,7] rfl ?_
  refine Go.Sx.V rfl wu rfl rfl (mv rfl) ?_
  refine Go.Sx.V rfl wu rfl rfl (lenS rfl ty30 hs) ?_
  refine Go.Sx.V rfl wu rfl rfl (eqlI rfl rfl) ?_
  refine Go.Sx.V rfl wu rfl rfl (mv rfl) ?_
  refine OR (π1 := [4,5,6,7]) (π2 := []) (tc := 15) (tp := 19) rfl rfl rfl (by
      intro _
      refine SK rfl rfl rfl rfl rfl ?_
      refine SK rfl rfl rfl rfl rfl ?_
      refine SK rfl rfl rfl rfl rfl ?_
      refine Go.Sx.V rfl wu rfl rfl (pk rfl rfl) ?_
      exact join rfl) (by
      intro hg
      simp at hg
      refine Go.Sx.V rfl (wg rfl rfl) rfl rfl (mv rfl) ?_
      refine Go.Sx.V rfl (wg rfl rfl) rfl rfl (lenS rfl ty30 hs2) ?_
      refine Go.Sx.V rfl (wg rfl rfl) rfl rfl (eqlI rfl rfl) ?_
      refine Go.Sx.V rfl wu rfl rfl (pk rfl rfl) ?_
      exact join rfl) ?_
  refine wr_nil (post_thenN ?_)
  rw [hrl, hrl2]
  refine wc_cond rfl ?_ ?_
  · intro hc
    simp at hc
    refine wc_seq ?_
    refine wc_region [0] rfl ?_
    refine Go.Sx.V rfl wu rfl rfl (asg rfl) ?_
    refine wr_nil (post_thenN (wc_ret (post_thenR ?_)))
    refine post_ret1 rfl rfl ?_
    refine ⟨Ext.refl _, ?_⟩
    have : bcl (bz P A * bz P B) = [] := bcl_nil.2 (by
      have z0 : ∀ L : List (List Int), L = [] → bz P L = 0 := fun L e => Pol.ext fun i => by rw [e]; exact co_bz_over (by simp)
      rcases hc with e | e
      · rw [z0 A e, zero_mul]
      · rw [z0 B e, mul_zero])
    rw [this]
    exact LO.nil _ _ _
  · intro hc
    simp at hc
    have l0 : 0 < A.length := List.length_pos_iff.2 hc.1
    have l1 : 0 < B.length := List.length_pos_iff.2 hc.2
    obtain ⟨N, hN⟩ : ∃ N, N = A.length + B.length - 1 := ⟨_, rfl⟩
    refine wc_skip (post_thenN (wc_seq ?_))
    refine wc_region [0,1,2,3,4,5,6,7] rfl ?_
    refine Go.Sx.V rfl wu rfl rfl (mv rfl) ?_
    refine Go.Sx.V rfl wu rfl rfl (lenS rfl ty30 hs) ?_
    refine Go.Sx.V rfl wu rfl rfl (mv rfl) ?_
    refine Go.Sx.V rfl wu rfl rfl (lenS rfl ty30 hs2) ?_
    refine Go.Sx.V rfl wu rfl rfl (addI rfl rfl) ?_
    refine Go.Sx.V rfl wu rfl rfl (subI rfl rfl) ?_
    refine MKL (n := N) rfl wu rfl rfl ty30 ?_
    intro out w3 hE ho
    refine Go.Sx.V rfl wu rfl rfl (asg rfl) ?_
    refine wr_nil (post_thenN (wc_seq (wc_seq ?_)))
    rw [← mstB_zero (bz P A) (bz P B) N] at ho
    refine wc_region [0,1,2] rfl ?_
    refine Go.Sx.V rfl wu rfl rfl (mv rfl) ?_
    refine Go.Sx.V rfl wu rfl rfl (lenS rfl ty30 hs) ?_
    refine Go.Sx.V rfl wu rfl rfl (mv rfl) ?_
    refine wr_nil (post_thenN (wc_block ?_))
    rw [hrl]
    refine wc_loop (fun i : Nat => [(0, g), (2, v), (7, out), (27, u), (28, .int .i64 A.length), (29, .int .i64 i)])
      (fun i w' => i ≤ A.length ∧ Ext w w' ∧ LO w.heap.size w' out 22 (mstB (bz P A) (bz P B) N i 0)) (fun i => A.length - i) 0 ⟨rfl, rfl, rfl, rfl, rfl, rfl, trivial⟩ ⟨by omega, hE, ho⟩ ?_
    clear hE ho
    rintro i w4 ⟨i1, hE, ho⟩
    try dsimp only
    refine wc_seq ?_
    refine wc_region [0] rfl ?_
    refine Go.Sx.V rfl wu rfl rfl (lssI rfl rfl) ?_
    refine wr_nil (post_thenN (wc_seq ?_))
    refine wc_cond rfl ?_ ?_
    · intro hc
      simp at hc
      obtain ⟨r, hr, hri⟩ := hrr i hc
      refine wc_skip (post_thenN (wc_seq (wc_block (wc_seq ?_))))
      refine wc_region [0,1,2,3,4] rfl ?_
      refine Go.Sx.V rfl wu rfl rfl (mv rfl) ?_
      refine Go.Sx.V rfl wu rfl rfl (iad rfl rfl ty30 hs (by omega) (by omega)) ?_
      refine Go.Sx.V rfl wu rfl rfl (ldE rfl na22 hs hr hE) ?_
      refine Go.Sx.V rfl wu rfl rfl (asg rfl) ?_
      refine Go.Sx.V rfl wu rfl rfl (asg rfl) ?_
      refine wr_nil (post_thenN (wc_seq ?_))
      refine wc_region [0,1,2] rfl ?_
      refine Go.Sx.V rfl wu rfl rfl (mv rfl) ?_
      refine Go.Sx.V rfl wu rfl rfl (lenS rfl ty30 hs2) ?_
      refine Go.Sx.V rfl wu rfl rfl (mv rfl) ?_
      refine wr_nil (post_thenN (wc_block ?_))
      rw [hrl2]
      refine wc_loop (fun j : Nat => [(0, g), (2, v), (7, out), (8, .int .i64 i), (9, r), (27, u), (28, .int .i64 A.length), (29, .int .i64 i), (34, v), (35, .int .i64 B.length), (36, .int .i64 j)])
        (fun j w' => j ≤ B.length ∧ Ext w w' ∧ LO w.heap.size w' out 22 (mstB (bz P A) (bz P B) N i j)) (fun j => B.length - j) 0 ⟨rfl, rfl, rfl, rfl, rfl, rfl, rfl, rfl, rfl, rfl, rfl, trivial⟩ ⟨by omega, hE, ho⟩ ?_
      clear hE ho
      clear w4
      rintro j w4 ⟨j1, hE, ho⟩
      have hl' := mstB_length (bz P A) (bz P B) N i j
      obtain ⟨orows, hos, hol, horr⟩ := ho.ll.row
      try dsimp only
      refine wc_seq ?_
      refine wc_region [0] rfl ?_
      refine Go.Sx.V rfl wu rfl rfl (lssI rfl rfl) ?_
      refine wr_nil (post_thenN (wc_seq ?_))
      refine wc_cond rfl ?_ ?_
      · intro hc2
        simp at hc2
        obtain ⟨r2, hr2, hri2⟩ := hrr2 j hc2
        obtain ⟨ro, hro, hroi⟩ := horr (i + j) (by omega)
        rw [mstB_get (by omega)] at hroi
        have hro' : orows[((i : Int) + j).toNat]? = some ro := by rw [show ((i : Int) + j).toNat = i + j by omega]; exact hro
        have hxb := cl_len ((hA.xb (P := P)).mst (hB.xb (P := P)) (i := i) (j := j) (i + j))
        refine wc_skip (post_thenN (wc_seq (wc_block (wc_seq ?_))))
        refine wc_region [0,1,2,3,4] rfl ?_
        refine Go.Sx.V rfl wu rfl rfl (mv rfl) ?_
        refine Go.Sx.V rfl wu rfl rfl (iad rfl rfl ty30 hs2 (by omega) (by omega)) ?_
        refine Go.Sx.V rfl wu rfl rfl (ldE rfl na22 hs2 hr2 hE) ?_
        refine Go.Sx.V rfl wu rfl rfl (asg rfl) ?_
        refine Go.Sx.V rfl wu rfl rfl (asg rfl) ?_
        refine wr_nil (post_thenN ?_)
        refine wc_draw mixed [0,1,2,3,4,5,6,7,8,9,10,11,12,13,14,15,16,17,18] (by kernel_rfl) ?_
        intro w5 hd _
        replace hE := hE.trans hd
        replace hos := hos.ext hd
        replace hroi := hroi.ext hd
        replace ho := ho.ext hd
        refine Go.Sx.V rfl wu rfl rfl (mv rfl) ?_
        refine Go.Sx.V rfl wu rfl rfl (mv rfl) ?_
        refine Go.Sx.V rfl wu rfl rfl (mv rfl) ?_
        refine Go.Sx.V rfl wu rfl rfl (addI rfl rfl) ?_
        refine Go.Sx.V rfl wu rfl rfl (mv rfl) ?_
        refine Go.Sx.V rfl wu rfl rfl (mv rfl) ?_
        refine Go.Sx.V rfl wu rfl rfl (mv rfl) ?_
        refine Go.Sx.V rfl wu rfl rfl (mv rfl) ?_
        refine Go.Sx.V rfl wu rfl rfl (addI rfl rfl) ?_
        refine Go.Sx.V rfl wu rfl rfl (iad rfl rfl ty30 hos (by omega) (by omega)) ?_
        refine Go.Sx.V rfl wu rfl rfl (ldE rfl na22 hos hro') ?_
        refine Go.Sx.V rfl wu rfl rfl (mv rfl) ?_
        refine Go.Sx.V rfl wu rfl rfl (mv rfl) ?_
        refine Go.Sx.V rfl wu rfl rfl (mv rfl) ?_
        refine BSL (us := [r, r2]) (L := [A.getD i [], B.getD j []]) rfl wu rfl rfl rfl rfl ty29 (Go.Sx.rows2 (hri.ext hE) (hri2.ext hE)) ?_
        intro sv w6 hE6 hsv
        replace hE := hE.trans hE6
        replace hroi := hroi.ext hE6
        replace ho := ho.ext hE6
        refine C rfl wu rfl rfl Tryz.call161 (pMul P g sv _ _ (hG.ext hE) hsv (two_len (hA i) (hB j) hna hnb) (by simp)) ?_
        intro pr w7 hE7 hpr
        rw [prodP_two] at hpr
        replace hE := hE.trans hE7
        replace hroi := hroi.ext hE7
        replace ho := ho.ext hE7
        refine C rfl wu rfl rfl Tryz.call172 (pAdd P g ro pr _ _ _ (hG.ext hE) hroi (OwnI.ints hpr) (by omega) (mul_len2 (hA i) (hB j) hna hnb)) ?_
        intro z w8 hE8 hz
        rw [pz_cl, pz_cl] at hz
        have hne := row_newI ho hz (Nat.le_refl _)
        replace ho := ho.ext hE8
        replace hE := hE.trans hE8
        refine Go.Sx.V rfl wu rfl rfl (iad rfl rfl ty30 hos (by omega) (by omega)) ?_
        refine STL rfl wu rfl rfl sz22 (by intro h; kernel_rfl) (OwnI.ints hz) (hne) ?_
        intro w9 hg9 hX9 ho9
        refine wr_nil (post_blockN (post_thenN ?_))
        rw [mstB_step (co_bz A i).symm (co_bz B j).symm] at ho9
        refine wc_region [0,1] rfl ?_
        refine Go.Sx.V rfl wu rfl rfl (addI rfl rfl) ?_
        refine Go.Sx.V rfl wu rfl rfl (mv rfl) ?_
        refine wr_nil ?_
        exact post_loopN (j + 1) ⟨rfl, rfl, rfl, rfl, rfl, rfl, rfl, rfl, rfl, rfl, rfl, trivial⟩ ⟨by omega, hX9 _ (Nat.le_refl _) hE, ho9⟩ (by omega)
      · intro hc2
        simp at hc2
        refine wc_exit (post_thenE (post_loopE (post_blockX (post_blockN (post_thenN ?_)))))
        rw [show j = B.length by omega, mstB_row (fun t ht => co_bz_over ht)] at ho
        refine wc_region [0,1] rfl ?_
        refine Go.Sx.V rfl wu rfl rfl (addI rfl rfl) ?_
        refine Go.Sx.V rfl wu rfl rfl (mv rfl) ?_
        refine wr_nil ?_
        exact post_loopN (i + 1) ⟨rfl, rfl, rfl, rfl, rfl, rfl, trivial⟩ ⟨by omega, hE, ho⟩ (by omega)
    · intro hc
      simp at hc
      refine wc_exit (post_thenE (post_loopE (post_blockX (post_thenN (wc_seq ?_)))))
      rw [show i = A.length by omega, mstB_all (fun t ht => co_bz_over ht)] at ho
      refine wc_region [0,1,2] rfl ?_
      refine Go.Sx.V rfl wu rfl rfl (mv rfl) ?_
      refine C rfl wu rfl rfl Tryz.call89 (bTrim out _ _ ho.ll) ?_
      rintro _ w5 hE5 rfl
      replace ho := ho.ext hE5
      refine Go.Sx.V rfl wu rfl rfl (asg rfl) ?_
      refine wr_nil (post_thenN (wc_ret ?_))
      refine post_ret1 rfl rfl ?_
      have := cutB ho
      rw [bcl_tab (fun i hi => mul_over (fun t ht => co_bz_over ht) (fun t ht => co_bz_over ht) (by omega))] at this ⊢
      exact ⟨hE.trans hE5, this⟩
set_option maxRecDepth 10000 in
theorem bNext (P : FP) (g u : Value) (A : List (List Int)) (r : Int) (na : Nat) (w : World) (hG : GFV w P g) (hu : LL w u A) (hA : RB na A) (hna : na + A.length + 2 ≤ 1048576) :
    Calls Tryz.prog 130 #[g, u, .int .i64 r] w (RetX w fun v w' => LO w.heap.size w' v 22 (bcl (nx (inK P r) (bz P A)))) := by
  obtain ⟨rows, hs, hrl, hrr⟩ := hu.row
  have hsl := hs.le
  refine calls3 Tryz.func130 rfl rfl ?_
  refine wc_seq ?_
  refine wc_region [0] rfl ?_
  refine Go.Sx.V rfl wu rfl rfl (asg rfl) ?_
  refine wr_nil (post_thenN (wc_seq ?_))
  refine wc_region [0] rfl ?_
  refine Go.Sx.V rfl wu rfl rfl (asg rfl) ?_
  refine wr_nil (post_thenN (wc_seq (wc_seq ?_)))
  refine wc_region [0,1,2,3] rfl ?_
  refine Go.Sx.V rfl wu rfl rfl (mv rfl) ?_
  refine Go.Sx.V rfl wu rfl rfl (lenS rfl ty30 hs) ?_
  refine Go.Sx.V rfl wu rfl rfl (subI rfl rfl) ?_
  refine Go.Sx.V rfl wu rfl rfl (asg rfl) ?_
  refine wr_nil (post_thenN (wc_block ?_))
  rw [hrl]
  have h0 : bcl (nx (inK P r) (dropP A.length (bz P A))) = [] := by rw [dropP_all (YB.bz A), (nx_hom _).zero]; exact bcl_zero
  refine wc_loop (fun s : Nat × Value => [(0, g), (1, u), (2, .int .i64 r), (7, s.2), (8, .int .i64 ((s.1 : Int) - 1))])
    (fun s w' => s.1 ≤ A.length ∧ Ext w w' ∧ LO w.heap.size w' s.2 22 (bcl (nx (inK P r) (dropP s.1 (bz P A))))) (fun s => s.1) (A.length, .slice none 0 0) ⟨rfl, rfl, rfl, rfl, rfl, trivial⟩ ⟨Nat.le_refl _, Ext.refl _, by show LO _ _ _ _ (bcl (nx (inK P r) (dropP A.length (bz P A)))); rw [h0]; exact LO.nil _ _ _⟩ ?_
  rintro ⟨i, out⟩ w4 ⟨i1, hE, ho⟩
  dsimp only at i1 ho
  obtain ⟨b1, b2⟩ := nx_bounds (inK P r) (YB.bz A) (hA.xb (P := P)) i (A.length - i) (by omega)
  have rb2 : RB 2 [[r], [0, 1]] := fun j => by
    match j with
    | 0 => simp
    | 1 => simp
    | j + 2 => simp
  have hm1 := XB.rb (XB.mul b2 (rb2.xb (P := P)))
  have hm2 := bcl_len (YB.mul b1 (YB.bz (P := P) [[r], [0, 1]]))
  have hm3 := XB.rb b2
  have hm4 := bcl_len b1
  have rb1 : RB 17592186044416 [A.getD (i - 1) []] := fun j => by
    match j with
    | 0 => have := hA (i - 1); show (A.getD (i - 1) []).length ≤ _; omega
    | j + 1 => simp
  try dsimp only
  refine wc_seq (wc_seq ?_)
  refine wc_region [0,1] rfl ?_
  refine Go.Sx.V rfl wu rfl rfl (mv rfl) ?_
  refine Go.Sx.V rfl wu rfl rfl (geqI rfl rfl) ?_
  refine wr_nil (post_thenN ?_)
  refine wc_cond rfl ?_ ?_
  · intro hc
    simp at hc
    obtain ⟨ro, hr, hri⟩ := hrr (i - 1) (by omega)
    have hr' : rows[((i : Int) - 1).toNat]? = some ro := by rw [show ((i : Int) - 1).toNat = i - 1 by omega]; exact hr
    refine wc_skip (post_thenN (wc_seq (wc_block ?_)))
    refine wc_cutQ (σ := Value) (fun z => [(0, g), (1, u), (2, .int .i64 r), (7, z), (8, .int .i64 ((i : Int) - 1))]) (fun z w' => Ext w w' ∧ LO w.heap.size w' z 22 (bcl (nx (inK P r) (dropP (i - 1) (bz P A))))) ?_ ?_
    · skip
      refine wc_draw3 mixed (.tr [0,1,2,3,8,9,10,11] (.br [4] (.br [5] (.br [6] (.leaf [7,12,13,14]) (.leaf [12,7,13,14])) (.leaf [12,6,7,13,14])) (.leaf [12,5,6,7,13,14])) (.br [5] (.br [4] (.br [6] (.leaf [7,12,13,14]) (.leaf [12,7,13,14])) (.leaf [12,6,7,13,14])) (.leaf [12,4,6,7,13,14])) (.br [12] (.leaf [4,5,6,7,13,14]) (.leaf [5,4,6,7,13,14]))) (by kernel_rfl) ?_
      intro w5 hd _
      replace hE := hE.trans hd
      replace ho := ho.ext hd
      refine w3_tr ?_
      refine Go.Sx.V rfl wu rfl rfl (mv rfl) ?_
      refine Go.Sx.V rfl wu rfl rfl (mv rfl) ?_
      refine Go.Sx.V rfl wu rfl rfl (mv rfl) ?_
      refine Go.Sx.V rfl wu rfl rfl (mv rfl) ?_
      refine Go.Sx.V rfl wu rfl rfl (mv rfl) ?_
      refine Go.Sx.V rfl wu rfl rfl (mv rfl) ?_
      refine Go.Sx.V rfl wu rfl rfl (iad rfl rfl ty30 hs (by omega) (by omega)) ?_
      refine Go.Sx.V rfl wu rfl rfl (ldE rfl na22 hs hr' hE) ?_
      refine w3r_tr ?_ ?_ ?_
      · skip
        refine w3_br ?_
        refine BSI (zs := [r]) rfl wu rfl rfl rfl rfl ty22 ?_
        intro sr wa hEa hoa hi4 hba
        replace hE := hE.trans hEa
        replace ho := ho.ext hEa
        try replace hi5 := hi5.ext hEa
        try replace h6 := h6.ext hEa
        try replace h7 := h7.ext hEa
        try replace h12 := h12.ext hEa
        refine w3r_br ?_ ?_
        · skip
          refine w3_br ?_
          refine BSI (zs := [0, 1]) rfl wu rfl rfl rfl rfl ty22 ?_
          intro sx wa hEa hoa hi5 hba
          replace hE := hE.trans hEa
          replace ho := ho.ext hEa
          try replace hi4 := hi4.ext hEa
          try replace h6 := h6.ext hEa
          try replace h7 := h7.ext hEa
          try replace h12 := h12.ext hEa
          refine w3r_br ?_ ?_
          · skip
            refine w3_br ?_
            refine BSL (us := [sr, sx]) (L := [[r], [0, 1]]) rfl wu rfl rfl rfl rfl ty30 (Go.Sx.rows2 hi4 hi5) ?_
            intro s2 wa hEa h6
            replace hE := hE.trans hEa
            replace ho := ho.ext hEa
            try replace h7 := h7.ext hEa
            try replace h12 := h12.ext hEa
            refine w3r_br ?_ ?_
            · skip
              refine w3_leaf ?_
              refine C rfl wu rfl rfl Tryz.call153 (bMul P g out s2 _ _ (na + (A.length - i)) 2 _ (hG.ext hE) ho.ll h6 hm3 rb2 (by omega) (by omega) (by omega) (by simp)) ?_
              intro pr wa hEa h7
              rw [bz_bcl] at h7
              replace hE := hE.trans hEa
              replace ho := ho.ext hEa
              try replace h12 := h12.ext hEa
              refine BSL (us := [ro]) (L := [A.getD (i - 1) []]) rfl wu rfl rfl rfl rfl ty30 (rows1 (hri.ext hE)) ?_
              intro s12 wa hEa h12
              replace hE := hE.trans hEa
              replace ho := ho.ext hEa
              try replace hi4 := hi4.ext hEa
              try replace hi5 := hi5.ext hEa
              try replace h6 := h6.ext hEa
              try replace h7 := h7.ext hEa
              refine C rfl wu rfl rfl Tryz.call152 (bAdd P g pr s12 _ _ _ (hG.ext hE) h7.ll h12 (hm1.mono (by omega)) rb1 (by simp only [List.length_cons, List.length_nil] at hm2; omega) (by simp)) ?_
              intro z wa hEa hz
              replace hz := hz.mono hE.size
              replace hE := hE.trans hEa
              refine Go.Sx.V rfl wu rfl rfl (asg rfl) ?_
              refine wr_cutQ z ⟨rfl, rfl, rfl, rfl, rfl, trivial⟩ ⟨hE, ?_⟩
              have e := nx_horner (inK P r) (bz P A) (i - 1)
              rw [show i - 1 + 1 = i by omega, co_bz] at e
              rw [bz_bcl, bz_two, bz_one, pz_single, pz_x, ← e] at hz
              exact hz
            · skip
              refine w3_leaf ?_
              refine BSL (us := [ro]) (L := [A.getD (i - 1) []]) rfl wu rfl rfl rfl rfl ty30 (rows1 (hri.ext hE)) ?_
              intro s12 wa hEa h12
              replace hE := hE.trans hEa
              replace ho := ho.ext hEa
              try replace hi4 := hi4.ext hEa
              try replace hi5 := hi5.ext hEa
              try replace h6 := h6.ext hEa
              try replace h7 := h7.ext hEa
              refine C rfl wu rfl rfl Tryz.call153 (bMul P g out s2 _ _ (na + (A.length - i)) 2 _ (hG.ext hE) ho.ll h6 hm3 rb2 (by omega) (by omega) (by omega) (by simp)) ?_
              intro pr wa hEa h7
              rw [bz_bcl] at h7
              replace hE := hE.trans hEa
              replace ho := ho.ext hEa
              try replace h12 := h12.ext hEa
              refine C rfl wu rfl rfl Tryz.call152 (bAdd P g pr s12 _ _ _ (hG.ext hE) h7.ll h12 (hm1.mono (by omega)) rb1 (by simp only [List.length_cons, List.length_nil] at hm2; omega) (by simp)) ?_
              intro z wa hEa hz
              replace hz := hz.mono hE.size
              replace hE := hE.trans hEa
              refine Go.Sx.V rfl wu rfl rfl (asg rfl) ?_
              refine wr_cutQ z ⟨rfl, rfl, rfl, rfl, rfl, trivial⟩ ⟨hE, ?_⟩
              have e := nx_horner (inK P r) (bz P A) (i - 1)
              rw [show i - 1 + 1 = i by omega, co_bz] at e
              rw [bz_bcl, bz_two, bz_one, pz_single, pz_x, ← e] at hz
              exact hz
          · skip
            refine w3_leaf ?_
            refine BSL (us := [ro]) (L := [A.getD (i - 1) []]) rfl wu rfl rfl rfl rfl ty30 (rows1 (hri.ext hE)) ?_
            intro s12 wa hEa h12
            replace hE := hE.trans hEa
            replace ho := ho.ext hEa
            try replace hi4 := hi4.ext hEa
            try replace hi5 := hi5.ext hEa
            try replace h6 := h6.ext hEa
            try replace h7 := h7.ext hEa
            refine BSL (us := [sr, sx]) (L := [[r], [0, 1]]) rfl wu rfl rfl rfl rfl ty30 (Go.Sx.rows2 hi4 hi5) ?_
            intro s2 wa hEa h6
            replace hE := hE.trans hEa
            replace ho := ho.ext hEa
            try replace h7 := h7.ext hEa
            try replace h12 := h12.ext hEa
            refine C rfl wu rfl rfl Tryz.call153 (bMul P g out s2 _ _ (na + (A.length - i)) 2 _ (hG.ext hE) ho.ll h6 hm3 rb2 (by omega) (by omega) (by omega) (by simp)) ?_
            intro pr wa hEa h7
            rw [bz_bcl] at h7
            replace hE := hE.trans hEa
            replace ho := ho.ext hEa
            try replace h12 := h12.ext hEa
            refine C rfl wu rfl rfl Tryz.call152 (bAdd P g pr s12 _ _ _ (hG.ext hE) h7.ll h12 (hm1.mono (by omega)) rb1 (by simp only [List.length_cons, List.length_nil] at hm2; omega) (by simp)) ?_
            intro z wa hEa hz
            replace hz := hz.mono hE.size
            replace hE := hE.trans hEa
            refine Go.Sx.V rfl wu rfl rfl (asg rfl) ?_
            refine wr_cutQ z ⟨rfl, rfl, rfl, rfl, rfl, trivial⟩ ⟨hE, ?_⟩
            have e := nx_horner (inK P r) (bz P A) (i - 1)
            rw [show i - 1 + 1 = i by omega, co_bz] at e
            rw [bz_bcl, bz_two, bz_one, pz_single, pz_x, ← e] at hz
            exact hz
        · skip
          refine w3_leaf ?_
          refine BSL (us := [ro]) (L := [A.getD (i - 1) []]) rfl wu rfl rfl rfl rfl ty30 (rows1 (hri.ext hE)) ?_
          intro s12 wa hEa h12
          replace hE := hE.trans hEa
          replace ho := ho.ext hEa
          try replace hi4 := hi4.ext hEa
          try replace hi5 := hi5.ext hEa
          try replace h6 := h6.ext hEa
          try replace h7 := h7.ext hEa
          refine BSI (zs := [0, 1]) rfl wu rfl rfl rfl rfl ty22 ?_
          intro sx wa hEa hoa hi5 hba
          replace hE := hE.trans hEa
          replace ho := ho.ext hEa
          try replace hi4 := hi4.ext hEa
          try replace h6 := h6.ext hEa
          try replace h7 := h7.ext hEa
          try replace h12 := h12.ext hEa
          refine BSL (us := [sr, sx]) (L := [[r], [0, 1]]) rfl wu rfl rfl rfl rfl ty30 (Go.Sx.rows2 hi4 hi5) ?_
          intro s2 wa hEa h6
          replace hE := hE.trans hEa
          replace ho := ho.ext hEa
          try replace h7 := h7.ext hEa
          try replace h12 := h12.ext hEa
          refine C rfl wu rfl rfl Tryz.call153 (bMul P g out s2 _ _ (na + (A.length - i)) 2 _ (hG.ext hE) ho.ll h6 hm3 rb2 (by omega) (by omega) (by omega) (by simp)) ?_
          intro pr wa hEa h7
          rw [bz_bcl] at h7
          replace hE := hE.trans hEa
          replace ho := ho.ext hEa
          try replace h12 := h12.ext hEa
          refine C rfl wu rfl rfl Tryz.call152 (bAdd P g pr s12 _ _ _ (hG.ext hE) h7.ll h12 (hm1.mono (by omega)) rb1 (by simp only [List.length_cons, List.length_nil] at hm2; omega) (by simp)) ?_
          intro z wa hEa hz
          replace hz := hz.mono hE.size
          replace hE := hE.trans hEa
          refine Go.Sx.V rfl wu rfl rfl (asg rfl) ?_
          refine wr_cutQ z ⟨rfl, rfl, rfl, rfl, rfl, trivial⟩ ⟨hE, ?_⟩
          have e := nx_horner (inK P r) (bz P A) (i - 1)
          rw [show i - 1 + 1 = i by omega, co_bz] at e
          rw [bz_bcl, bz_two, bz_one, pz_single, pz_x, ← e] at hz
          exact hz
      · skip
        refine w3_br ?_
        refine BSI (zs := [0, 1]) rfl wu rfl rfl rfl rfl ty22 ?_
        intro sx wa hEa hoa hi5 hba
        replace hE := hE.trans hEa
        replace ho := ho.ext hEa
        try replace hi4 := hi4.ext hEa
        try replace h6 := h6.ext hEa
        try replace h7 := h7.ext hEa
        try replace h12 := h12.ext hEa
        refine w3r_br ?_ ?_
        · skip
          refine w3_br ?_
          refine BSI (zs := [r]) rfl wu rfl rfl rfl rfl ty22 ?_
          intro sr wa hEa hoa hi4 hba
          replace hE := hE.trans hEa
          replace ho := ho.ext hEa
          try replace hi5 := hi5.ext hEa
          try replace h6 := h6.ext hEa
          try replace h7 := h7.ext hEa
          try replace h12 := h12.ext hEa
          refine w3r_br ?_ ?_
          · skip
            refine w3_br ?_
            refine BSL (us := [sr, sx]) (L := [[r], [0, 1]]) rfl wu rfl rfl rfl rfl ty30 (Go.Sx.rows2 hi4 hi5) ?_
            intro s2 wa hEa h6
            replace hE := hE.trans hEa
            replace ho := ho.ext hEa
            try replace h7 := h7.ext hEa
            try replace h12 := h12.ext hEa
            refine w3r_br ?_ ?_
            · skip
              refine w3_leaf ?_
              refine C rfl wu rfl rfl Tryz.call153 (bMul P g out s2 _ _ (na + (A.length - i)) 2 _ (hG.ext hE) ho.ll h6 hm3 rb2 (by omega) (by omega) (by omega) (by simp)) ?_
              intro pr wa hEa h7
              rw [bz_bcl] at h7
              replace hE := hE.trans hEa
              replace ho := ho.ext hEa
              try replace h12 := h12.ext hEa
              refine BSL (us := [ro]) (L := [A.getD (i - 1) []]) rfl wu rfl rfl rfl rfl ty30 (rows1 (hri.ext hE)) ?_
              intro s12 wa hEa h12
              replace hE := hE.trans hEa
              replace ho := ho.ext hEa
              try replace hi4 := hi4.ext hEa
              try replace hi5 := hi5.ext hEa
              try replace h6 := h6.ext hEa
              try replace h7 := h7.ext hEa
              refine C rfl wu rfl rfl Tryz.call152 (bAdd P g pr s12 _ _ _ (hG.ext hE) h7.ll h12 (hm1.mono (by omega)) rb1 (by simp only [List.length_cons, List.length_nil] at hm2; omega) (by simp)) ?_
              intro z wa hEa hz
              replace hz := hz.mono hE.size
              replace hE := hE.trans hEa
              refine Go.Sx.V rfl wu rfl rfl (asg rfl) ?_
              refine wr_cutQ z ⟨rfl, rfl, rfl, rfl, rfl, trivial⟩ ⟨hE, ?_⟩
              have e := nx_horner (inK P r) (bz P A) (i - 1)
              rw [show i - 1 + 1 = i by omega, co_bz] at e
              rw [bz_bcl, bz_two, bz_one, pz_single, pz_x, ← e] at hz
              exact hz
            · skip
              refine w3_leaf ?_
              refine BSL (us := [ro]) (L := [A.getD (i - 1) []]) rfl wu rfl rfl rfl rfl ty30 (rows1 (hri.ext hE)) ?_
              intro s12 wa hEa h12
              replace hE := hE.trans hEa
              replace ho := ho.ext hEa
              try replace hi4 := hi4.ext hEa
              try replace hi5 := hi5.ext hEa
              try replace h6 := h6.ext hEa
              try replace h7 := h7.ext hEa
              refine C rfl wu rfl rfl Tryz.call153 (bMul P g out s2 _ _ (na + (A.length - i)) 2 _ (hG.ext hE) ho.ll h6 hm3 rb2 (by omega) (by omega) (by omega) (by simp)) ?_
              intro pr wa hEa h7
              rw [bz_bcl] at h7
              replace hE := hE.trans hEa
              replace ho := ho.ext hEa
              try replace h12 := h12.ext hEa
              refine C rfl wu rfl rfl Tryz.call152 (bAdd P g pr s12 _ _ _ (hG.ext hE) h7.ll h12 (hm1.mono (by omega)) rb1 (by simp only [List.length_cons, List.length_nil] at hm2; omega) (by simp)) ?_
              intro z wa hEa hz
              replace hz := hz.mono hE.size
              replace hE := hE.trans hEa
              refine Go.Sx.V rfl wu rfl rfl (asg rfl) ?_
              refine wr_cutQ z ⟨rfl, rfl, rfl, rfl, rfl, trivial⟩ ⟨hE, ?_⟩
              have e := nx_horner (inK P r) (bz P A) (i - 1)
              rw [show i - 1 + 1 = i by omega, co_bz] at e
              rw [bz_bcl, bz_two, bz_one, pz_single, pz_x, ← e] at hz
              exact hz
          · skip
            refine w3_leaf ?_
            refine BSL (us := [ro]) (L := [A.getD (i - 1) []]) rfl wu rfl rfl rfl rfl ty30 (rows1 (hri.ext hE)) ?_
            intro s12 wa hEa h12
            replace hE := hE.trans hEa
            replace ho := ho.ext hEa
            try replace hi4 := hi4.ext hEa
            try replace hi5 := hi5.ext hEa
            try replace h6 := h6.ext hEa
            try replace h7 := h7.ext hEa
            refine BSL (us := [sr, sx]) (L := [[r], [0, 1]]) rfl wu rfl rfl rfl rfl ty30 (Go.Sx.rows2 hi4 hi5) ?_
            intro s2 wa hEa h6
            replace hE := hE.trans hEa
            replace ho := ho.ext hEa
            try replace h7 := h7.ext hEa
            try replace h12 := h12.ext hEa
            refine C rfl wu rfl rfl Tryz.call153 (bMul P g out s2 _ _ (na + (A.length - i)) 2 _ (hG.ext hE) ho.ll h6 hm3 rb2 (by omega) (by omega) (by omega) (by simp)) ?_
            intro pr wa hEa h7
            rw [bz_bcl] at h7
            replace hE := hE.trans hEa
            replace ho := ho.ext hEa
            try replace h12 := h12.ext hEa
            refine C rfl wu rfl rfl Tryz.call152 (bAdd P g pr s12 _ _ _ (hG.ext hE) h7.ll h12 (hm1.mono (by omega)) rb1 (by simp only [List.length_cons, List.length_nil] at hm2; omega) (by simp)) ?_
            intro z wa hEa hz
            replace hz := hz.mono hE.size
            replace hE := hE.trans hEa
            refine Go.Sx.V rfl wu rfl rfl (asg rfl) ?_
            refine wr_cutQ z ⟨rfl, rfl, rfl, rfl, rfl, trivial⟩ ⟨hE, ?_⟩
            have e := nx_horner (inK P r) (bz P A) (i - 1)
            rw [show i - 1 + 1 = i by omega, co_bz] at e
            rw [bz_bcl, bz_two, bz_one, pz_single, pz_x, ← e] at hz
            exact hz
        · skip
          refine w3_leaf ?_
          refine BSL (us := [ro]) (L := [A.getD (i - 1) []]) rfl wu rfl rfl rfl rfl ty30 (rows1 (hri.ext hE)) ?_
          intro s12 wa hEa h12
          replace hE := hE.trans hEa
          replace ho := ho.ext hEa
          try replace hi4 := hi4.ext hEa
          try replace hi5 := hi5.ext hEa
          try replace h6 := h6.ext hEa
          try replace h7 := h7.ext hEa
          refine BSI (zs := [r]) rfl wu rfl rfl rfl rfl ty22 ?_
          intro sr wa hEa hoa hi4 hba
          replace hE := hE.trans hEa
          replace ho := ho.ext hEa
          try replace hi5 := hi5.ext hEa
          try replace h6 := h6.ext hEa
          try replace h7 := h7.ext hEa
          try replace h12 := h12.ext hEa
          refine BSL (us := [sr, sx]) (L := [[r], [0, 1]]) rfl wu rfl rfl rfl rfl ty30 (Go.Sx.rows2 hi4 hi5) ?_
          intro s2 wa hEa h6
          replace hE := hE.trans hEa
          replace ho := ho.ext hEa
          try replace h7 := h7.ext hEa
          try replace h12 := h12.ext hEa
          refine C rfl wu rfl rfl Tryz.call153 (bMul P g out s2 _ _ (na + (A.length - i)) 2 _ (hG.ext hE) ho.ll h6 hm3 rb2 (by omega) (by omega) (by omega) (by simp)) ?_
          intro pr wa hEa h7
          rw [bz_bcl] at h7
          replace hE := hE.trans hEa
          replace ho := ho.ext hEa
          try replace h12 := h12.ext hEa
          refine C rfl wu rfl rfl Tryz.call152 (bAdd P g pr s12 _ _ _ (hG.ext hE) h7.ll h12 (hm1.mono (by omega)) rb1 (by simp only [List.length_cons, List.length_nil] at hm2; omega) (by simp)) ?_
          intro z wa hEa hz
          replace hz := hz.mono hE.size
          replace hE := hE.trans hEa
          refine Go.Sx.V rfl wu rfl rfl (asg rfl) ?_
          refine wr_cutQ z ⟨rfl, rfl, rfl, rfl, rfl, trivial⟩ ⟨hE, ?_⟩
          have e := nx_horner (inK P r) (bz P A) (i - 1)
          rw [show i - 1 + 1 = i by omega, co_bz] at e
          rw [bz_bcl, bz_two, bz_one, pz_single, pz_x, ← e] at hz
          exact hz
      · skip
        refine w3_br ?_
        refine BSL (us := [ro]) (L := [A.getD (i - 1) []]) rfl wu rfl rfl rfl rfl ty30 (rows1 (hri.ext hE)) ?_
        intro s12 wa hEa h12
        replace hE := hE.trans hEa
        replace ho := ho.ext hEa
        try replace hi4 := hi4.ext hEa
        try replace hi5 := hi5.ext hEa
        try replace h6 := h6.ext hEa
        try replace h7 := h7.ext hEa
        refine w3r_br ?_ ?_
        · skip
          refine w3_leaf ?_
          refine BSI (zs := [r]) rfl wu rfl rfl rfl rfl ty22 ?_
          intro sr wa hEa hoa hi4 hba
          replace hE := hE.trans hEa
          replace ho := ho.ext hEa
          try replace hi5 := hi5.ext hEa
          try replace h6 := h6.ext hEa
          try replace h7 := h7.ext hEa
          try replace h12 := h12.ext hEa
          refine BSI (zs := [0, 1]) rfl wu rfl rfl rfl rfl ty22 ?_
          intro sx wa hEa hoa hi5 hba
          replace hE := hE.trans hEa
          replace ho := ho.ext hEa
          try replace hi4 := hi4.ext hEa
          try replace h6 := h6.ext hEa
          try replace h7 := h7.ext hEa
          try replace h12 := h12.ext hEa
          refine BSL (us := [sr, sx]) (L := [[r], [0, 1]]) rfl wu rfl rfl rfl rfl ty30 (Go.Sx.rows2 hi4 hi5) ?_
          intro s2 wa hEa h6
          replace hE := hE.trans hEa
          replace ho := ho.ext hEa
          try replace h7 := h7.ext hEa
          try replace h12 := h12.ext hEa
          refine C rfl wu rfl rfl Tryz.call153 (bMul P g out s2 _ _ (na + (A.length - i)) 2 _ (hG.ext hE) ho.ll h6 hm3 rb2 (by omega) (by omega) (by omega) (by simp)) ?_
          intro pr wa hEa h7
          rw [bz_bcl] at h7
          replace hE := hE.trans hEa
          replace ho := ho.ext hEa
          try replace h12 := h12.ext hEa
          refine C rfl wu rfl rfl Tryz.call152 (bAdd P g pr s12 _ _ _ (hG.ext hE) h7.ll h12 (hm1.mono (by omega)) rb1 (by simp only [List.length_cons, List.length_nil] at hm2; omega) (by simp)) ?_
          intro z wa hEa hz
          replace hz := hz.mono hE.size
          replace hE := hE.trans hEa
          refine Go.Sx.V rfl wu rfl rfl (asg rfl) ?_
          refine wr_cutQ z ⟨rfl, rfl, rfl, rfl, rfl, trivial⟩ ⟨hE, ?_⟩
          have e := nx_horner (inK P r) (bz P A) (i - 1)
          rw [show i - 1 + 1 = i by omega, co_bz] at e
          rw [bz_bcl, bz_two, bz_one, pz_single, pz_x, ← e] at hz
          exact hz
        · skip
          refine w3_leaf ?_
          refine BSI (zs := [0, 1]) rfl wu rfl rfl rfl rfl ty22 ?_
          intro sx wa hEa hoa hi5 hba
          replace hE := hE.trans hEa
          replace ho := ho.ext hEa
          try replace hi4 := hi4.ext hEa
          try replace h6 := h6.ext hEa
          try replace h7 := h7.ext hEa
          try replace h12 := h12.ext hEa
          refine BSI (zs := [r]) rfl wu rfl rfl rfl rfl ty22 ?_
          intro sr wa hEa hoa hi4 hba
          replace hE := hE.trans hEa
          replace ho := ho.ext hEa
          try replace hi5 := hi5.ext hEa
          try replace h6 := h6.ext hEa
          try replace h7 := h7.ext hEa
          try replace h12 := h12.ext hEa
          refine BSL (us := [sr, sx]) (L := [[r], [0, 1]]) rfl wu rfl rfl rfl rfl ty30 (Go.Sx.rows2 hi4 hi5) ?_
          intro s2 wa hEa h6
          replace hE := hE.trans hEa
          replace ho := ho.ext hEa
          try replace h7 := h7.ext hEa
          try replace h12 := h12.ext hEa
          refine C rfl wu rfl rfl Tryz.call153 (bMul P g out s2 _ _ (na + (A.length - i)) 2 _ (hG.ext hE) ho.ll h6 hm3 rb2 (by omega) (by omega) (by omega) (by simp)) ?_
          intro pr wa hEa h7
          rw [bz_bcl] at h7
          replace hE := hE.trans hEa
          replace ho := ho.ext hEa
          try replace h12 := h12.ext hEa
          refine C rfl wu rfl rfl Tryz.call152 (bAdd P g pr s12 _ _ _ (hG.ext hE) h7.ll h12 (hm1.mono (by omega)) rb1 (by simp only [List.length_cons, List.length_nil] at hm2; omega) (by simp)) ?_
          intro z wa hEa hz
          replace hz := hz.mono hE.size
          replace hE := hE.trans hEa
          refine Go.Sx.V rfl wu rfl rfl (asg rfl) ?_
          refine wr_cutQ z ⟨rfl, rfl, rfl, rfl, rfl, trivial⟩ ⟨hE, ?_⟩
          have e := nx_horner (inK P r) (bz P A) (i - 1)
          rw [show i - 1 + 1 = i by omega, co_bz] at e
          rw [bz_bcl, bz_two, bz_one, pz_single, pz_x, ← e] at hz
          exact hz
    · rintro z w6 ⟨hE, hz⟩
      refine post_blockN (post_thenN ?_)
      refine wc_region [0,1,2] rfl ?_
      refine Go.Sx.V rfl wu rfl rfl (mv rfl) ?_
      refine Go.Sx.V rfl wu rfl rfl (subI rfl rfl) ?_
      refine Go.Sx.V rfl wu rfl rfl (asg rfl) ?_
      refine wr_nil ?_
      exact post_loopN (i - 1, z) ⟨rfl, rfl, rfl, rfl, by show _ = some (Value.int .i64 (((i - 1 : Nat) : Int) - 1)); rw [show ((i - 1 : Nat) : Int) = (i : Int) - 1 by omega]; rfl, trivial⟩ ⟨by show i - 1 ≤ _; omega, hE, hz⟩ (by show i - 1 < i; omega)
  · intro hc
    simp at hc
    refine wc_exit (post_thenE (post_loopE (post_blockX (post_thenN (wc_seq ?_)))))
    refine wc_region [0,1] rfl ?_
    refine Go.Sx.V rfl wu rfl rfl (mv rfl) ?_
    refine Go.Sx.V rfl wu rfl rfl (asg rfl) ?_
    refine wr_nil (post_thenN (wc_ret ?_))
    refine post_ret1 rfl rfl ?_
    rw [show i = 0 by omega, dropP_none] at ho
    exact ⟨hE, ho⟩
end Go.Proofs.YtmnojknfjbimdaaGreat

