/-
  The package poly, by contract: trim, Canon, combine, Add, product, Mul, Eval. Each answers the canonical list of the polynomial that is meant.
-/
import Derived.Test.YtmnojknfjbimdaaGreatWMPa
import Derived.Test.YtmnojknfjbimdaaGreatWGF2
import Derived.Test.YtmnojknfjbimdaaGreatWMTya
namespace Go.Proofs.YtmnojknfjbimdaaGreat
open Go Go.Sx Go.Pl Go.RowKit Go.Fd Go.Alg
theorem GFV.nzd {w : World} {P : FP} {v : Value} (h : GFV w P v) : NZD (K P) := by
  obtain ⟨x, hx⟩ := h.gen
  exact k_nzd hx
theorem upd_skip' {m : Nat} {f g : Nat → Int} {i : Int} (h0 : 0 ≤ i) (h : f i.toNat = g i.toNat) : upd m f g i = upd m f g (i + 1) := by
  refine tab_congr fun t ht => ?_
  by_cases e : t = i.toNat
  · subst e; rw [if_neg (by omega), if_pos (by omega), h]
  · by_cases h2 : (t : Int) < i
    · rw [if_pos h2, if_pos (by omega)]
    · rw [if_neg h2, if_neg (by omega)]
set_option maxRecDepth 10000 in
theorem pTrim (v : Value) (zs : List Int) (w : World) (hz : Ints w v zs) :
    Calls Tryz.prog 127 #[v] w (RetX w fun r _ => r = cutTo v (trimL zs).length) := by
  have hle := hz.le
  have hself : cutTo v zs.length = v := by have := Sl.cut_self hz; simpa using this
  refine calls1 Tryz.func127 rfl rfl ?_
  refine wc_seq ?_
  refine wc_region [0] rfl ?_
  refine Go.Sx.V rfl wu rfl rfl (asg rfl) ?_
  refine wr_nil (post_thenN (wc_seq (wc_block ?_)))
  refine wc_loop (fun k : Nat => [(0, cutTo v k)]) (fun k w' => k ≤ zs.length ∧ trimL zs = trimL (zs.take k) ∧ w' = w) (fun k => k) zs.length ⟨by rw [hself]; rfl, trivial⟩ ⟨Nat.le_refl _, by rw [List.take_length], rfl⟩ ?_
  rintro k _ ⟨k1, ht, rfl⟩
  have hk := hz.cut k1
  have hkl : (zs.take k).length = k := by simp; omega
  have hcc : ∀ j : Nat, slv (cutTo v k) 0 (j : Int) = cutTo v j := fun j => by
    rw [Sl.part0 hk, cut_cut]; simp
  have hgi : 0 < k → gi (zs.take k) ((k : Int) - 1) = zs.getD (k - 1) 0 := fun h0 => by
    rw [gi, show ((k : Int) - 1).toNat = k - 1 by omega, List.getD_eq_getElem?_getD, List.getD_eq_getElem?_getD, List.getElem?_take, if_pos (by omega)]
  obtain ⟨zk, hzk⟩ : ∃ z, z = zs.take k := ⟨_, rfl⟩
  rw [← hzk] at hk hkl hgi
  try dsimp only
  refine wc_seq (wc_seq ?_)
  refine wc_region [0,1,2,3,4,5,6,7,8,9,10,11] rfl ?_
  refine Go.Sx.V rfl wu rfl rfl (mv rfl) ?_
  refine Go.Sx.V rfl wu rfl rfl (lenI rfl ty22) ?_
  refine Go.Sx.V rfl wu rfl rfl (gtrI rfl rfl) ?_
  refine Go.Sx.V rfl wu rfl rfl (mv rfl) ?_
  refine AND (π1 := [4,5,6,7,8,9,10,11]) (π2 := []) (tc := 6) (tp := 14) rfl rfl rfl (by
      intro hg
      simp at hg
      refine Go.Sx.V rfl (wg rfl rfl) rfl rfl (mv rfl) ?_
      refine Go.Sx.V rfl (wg rfl rfl) rfl rfl (mv rfl) ?_
      refine Go.Sx.V rfl (wg rfl rfl) rfl rfl (lenI rfl ty22) ?_
      refine Go.Sx.V rfl (wg rfl rfl) rfl rfl (subI rfl rfl) ?_
      refine Go.Sx.V rfl (wg rfl rfl) rfl rfl (iadI rfl rfl ty22) ?_
      refine Go.Sx.V rfl (wg rfl rfl) rfl rfl (ldI rfl na3) ?_
      refine Go.Sx.V rfl (wg rfl rfl) rfl rfl (eqlI rfl rfl) ?_
      refine Go.Sx.V rfl wu rfl rfl (pk rfl rfl) ?_
      exact join rfl) (by
      intro _
      refine SK rfl rfl rfl rfl rfl ?_
      refine SK rfl rfl rfl rfl rfl ?_
      refine SK rfl rfl rfl rfl rfl ?_
      refine SK rfl rfl rfl rfl rfl ?_
      refine SK rfl rfl rfl rfl rfl ?_
      refine SK rfl rfl rfl rfl rfl ?_
      refine SK rfl rfl rfl rfl rfl ?_
      refine Go.Sx.V rfl wu rfl rfl (pk rfl rfl) ?_
      exact join rfl) ?_
  refine wr_nil (post_thenN ?_)
  refine wc_cond rfl ?_ ?_
  · intro h
    simp at h
    obtain ⟨h0, h1⟩ := h
    refine wc_skip (post_thenN (wc_block ?_))
    refine wc_region [0,1,2,3,4,5] rfl ?_
    refine Go.Sx.V rfl wu rfl rfl (mv rfl) ?_
    refine Go.Sx.V rfl wu rfl rfl (mv rfl) ?_
    refine Go.Sx.V rfl wu rfl rfl (lenI rfl ty22) ?_
    refine Go.Sx.V rfl wu rfl rfl (subI rfl rfl) ?_
    refine Go.Sx.V rfl wu rfl rfl (slH rfl rfl ty22 hk (by omega) (by rw [List.length_map]; omega)) ?_
    refine Go.Sx.V rfl wu rfl rfl (asg rfl) ?_
    refine wr_nil (post_blockN ?_)
    rw [hkl, show ((k : Int) - 1) = ((k - 1 : Nat) : Int) by omega, hcc]
    rw [hkl, hgi (by omega)] at h1
    have h2 := trimL_take0 (l := zs) (k := k - 1) (by omega) h1
    rw [show k - 1 + 1 = k by omega] at h2
    exact post_loopN (k - 1) ⟨rfl, trivial⟩ ⟨by omega, by rw [ht, h2], rfl⟩ (by omega)
  · intro h
    simp at h
    refine wc_exit (post_thenE (post_loopE (post_blockX (post_thenN (wc_seq ?_)))))
    refine wc_region [0,1] rfl ?_
    refine Go.Sx.V rfl wu rfl rfl (mv rfl) ?_
    refine Go.Sx.V rfl wu rfl rfl (asg rfl) ?_
    refine wr_nil (post_thenN (wc_ret ?_))
    refine post_ret1 rfl rfl ?_
    refine ⟨Ext.refl _, ?_⟩
    have : (trimL zs).length = k := by
      rw [ht]
      rcases Nat.eq_zero_or_pos k with h0 | h0
      · subst h0; rfl
      · have h1 := h (by omega)
        rw [hkl, hgi (by omega)] at h1
        have h2 := trimL_takeN (l := zs) (k := k - 1) (by omega) h1
        rw [show k - 1 + 1 = k by omega] at h2
        rw [h2, ← hzk, hkl]
    rw [this]
theorem cut_trim {B : Nat} {w : World} {v : Value} {E : TypeId} {zs : List Int} (h : OwnI B w v E zs) : OwnI B w (cutTo v (trimL zs).length) E (trimL zs) := by
  have := h.cut (trimL_len zs)
  rwa [trimL_take] at this
set_option maxRecDepth 10000 in
theorem pCanon (P : FP) (g u : Value) (z : List Int) (w : World) (hG : GFV w P g) (hu : Ints w u z) (hn : z.length ≤ 17592186044416) :
    Calls Tryz.prog 88 #[g, u] w (RetX w fun r w' => OwnI w.heap.size w' r 3 (cl (pz P z))) := by
  refine calls2 Tryz.func88 rfl rfl ?_
  refine wc_seq ?_
  refine wc_region [0] rfl ?_
  refine Go.Sx.V rfl wu rfl rfl (asg rfl) ?_
  refine wr_nil (post_thenN (wc_seq ?_))
  refine wc_region [0,1,2,3] rfl ?_
  refine Go.Sx.V rfl wu rfl rfl (mv rfl) ?_
  refine Go.Sx.V rfl wu rfl rfl (lenI rfl ty22) ?_
  refine MKI (n := z.length) rfl wu rfl rfl ty22 ?_
  intro out w2 hE ho hi hob
  refine Go.Sx.V rfl wu rfl rfl (asg rfl) ?_
  refine wr_nil (post_thenN (wc_seq (wc_seq ?_)))
  refine wc_region [0,1,2] rfl ?_
  refine Go.Sx.V rfl wu rfl rfl (mv rfl) ?_
  refine Go.Sx.V rfl wu rfl rfl (lenI rfl ty22) ?_
  refine Go.Sx.V rfl wu rfl rfl (mv rfl) ?_
  refine wr_nil (post_thenN (wc_block ?_))
  rw [← upd_zero' z.length (fun t => ((pz P z).co t).1) (fun _ => 0)] at ho
  refine wc_loop (fun i : Int => [(0, g), (5, out), (11, u), (12, .int .i64 z.length), (13, .int .i64 i)])
    (fun i w' => 0 ≤ i ∧ i ≤ z.length ∧ Ext w w' ∧ OwnI w.heap.size w' out 3 (upd z.length (fun t => ((pz P z).co t).1) (fun _ => 0) i)) (fun i => (z.length - i).toNat) 0 ⟨rfl, rfl, rfl, rfl, rfl, trivial⟩ ⟨by omega, by omega, hE, ho⟩ ?_
  clear hE ho hi
  rintro i w4 ⟨i0, i1, hE, ho⟩
  have hul := upd_length z.length (fun t => ((pz P z).co t).1) (fun _ => 0) i
  have hui := hu.ext hE
  try dsimp only
  refine wc_seq ?_
  refine wc_region [0] rfl ?_
  refine Go.Sx.V rfl wu rfl rfl (lssI rfl rfl) ?_
  refine wr_nil (post_thenN (wc_seq ?_))
  refine wc_cond rfl ?_ ?_
  · intro hc
    simp at hc
    refine wc_skip (post_thenN (wc_seq (wc_block (wc_seq ?_))))
    refine wc_region [0,1,2,3,4] rfl ?_
    refine Go.Sx.V rfl wu rfl rfl (mv rfl) ?_
    refine Go.Sx.V rfl wu rfl rfl (iadI rfl rfl ty22) ?_
    refine Go.Sx.V rfl wu rfl rfl (ldI rfl na3) ?_
    refine Go.Sx.V rfl wu rfl rfl (asg rfl) ?_
    refine Go.Sx.V rfl wu rfl rfl (asg rfl) ?_
    refine wr_nil (post_thenN (wc_seq ?_))
    refine wc_region [0,1,2] rfl ?_
    refine Go.Sx.V rfl wu rfl rfl (mv rfl) ?_
    refine Go.Sx.V rfl wu rfl rfl (mv rfl) ?_
    refine C rfl wu rfl rfl Tryz.call55 (gIs P g _ _ (hG.ext hE)) ?_
    rintro _ w5 hE5 rfl
    replace hE := hE.trans hE5
    replace ho := Own.ext ho hE5
    refine wr_nil (post_thenN ?_)
    have hoi := OwnI.ints ho
    refine wc_cond rfl ?_ ?_
    · intro hs
      simp at hs
      have e : gi z i = ((pz P z).co i.toNat).1 := by rw [← co_gi z i0, inK_in hs]
      refine wc_region [0,1,2,3,4] rfl ?_
      refine Go.Sx.V rfl wu rfl rfl (mv rfl) ?_
      refine Go.Sx.V rfl wu rfl rfl (mv rfl) ?_
      refine Go.Sx.V rfl wu rfl rfl (mv rfl) ?_
      refine Go.Sx.V rfl wu rfl rfl (iadI rfl rfl ty22) ?_
      refine STI rfl wu rfl rfl sz3 (by intro h; cases h) ?_
      intro w6 hg6 hX6 ho6 hi6
      refine wr_nil (post_blockN (post_thenN ?_))
      rw [e, upd_step (f := fun t => ((pz P z).co t).1) i0] at ho6
      refine wc_region [0,1] rfl ?_
      refine Go.Sx.V rfl wu rfl rfl (addI rfl rfl) ?_
      refine Go.Sx.V rfl wu rfl rfl (mv rfl) ?_
      refine wr_nil ?_
      exact post_loopN (i + 1) ⟨rfl, rfl, rfl, rfl, rfl, trivial⟩ ⟨by omega, by omega, hX6 _ (Nat.le_refl _) hE, ho6⟩ (by omega)
    · intro hs
      simp at hs
      refine wc_skip (post_blockN (post_thenN ?_))
      have e : ((pz P z).co i.toNat).1 = 0 := by rw [← co_gi z i0, inK_out (by omega)]; rfl
      rw [upd_skip' i0 e] at ho
      refine wc_region [0,1] rfl ?_
      refine Go.Sx.V rfl wu rfl rfl (addI rfl rfl) ?_
      refine Go.Sx.V rfl wu rfl rfl (mv rfl) ?_
      refine wr_nil ?_
      exact post_loopN (i + 1) ⟨rfl, rfl, rfl, rfl, rfl, trivial⟩ ⟨by omega, by omega, hE, ho⟩ (by omega)
  · intro hc
    simp at hc
    refine wc_exit (post_thenE (post_loopE (post_blockX (post_thenN (wc_seq ?_)))))
    rw [upd_last _ _ _ (by omega)] at ho
    refine wc_region [0,1,2] rfl ?_
    refine Go.Sx.V rfl wu rfl rfl (mv rfl) ?_
    refine C rfl wu rfl rfl Tryz.call127 (pTrim out _ _ (OwnI.ints ho)) ?_
    rintro _ w5 hE5 rfl
    replace ho := Own.ext ho hE5
    refine Go.Sx.V rfl wu rfl rfl (asg rfl) ?_
    refine wr_nil (post_thenN (wc_ret ?_))
    refine post_ret1 rfl rfl ?_
    have := cut_trim ho
    rw [cl_tab (fun i hi => co_pz_over hi)] at this ⊢
    exact ⟨hE.trans hE5, this⟩
set_option maxRecDepth 10000 in
theorem pCombine (P : FP) (g u v : Value) (x : Int) (a b : List Int) (w : World) (hG : GFV w P g) (hu : Ints w u a) (hv : Ints w v b) (hn : a.length ≤ 17592186044416) (hm : b.length ≤ 17592186044416) :
    Calls Tryz.prog 157 #[g, u, .int .i64 x, v] w (RetX w fun r w' => OwnI w.heap.size w' r 3 (cl (pz P a + pC (inK P x) * pz P b))) := by
  obtain ⟨m, hmm⟩ : ∃ m : Nat, m = max a.length b.length := ⟨_, rfl⟩
  have hco : ∀ t, (pz P a + pC (inK P x) * pz P b).co t = (pz P a).co t + inK P x * (pz P b).co t := fun t => by rw [co_add, co_pC_mul]
  generalize hF : pz P a + pC (inK P x) * pz P b = F at hco ⊢
  have hover : ∀ t, m ≤ t → F.co t = 0 := fun t ht => by rw [hco, co_pz_over (by omega), co_pz_over (by omega), mul_zero, zero_add]
  refine calls4 Tryz.func157 rfl rfl ?_
  refine wc_seq ?_
  refine wc_region [0] rfl ?_
  refine Go.Sx.V rfl wu rfl rfl (asg rfl) ?_
  refine wr_nil (post_thenN (wc_seq ?_))
  refine wc_region [0,1,2,3,4,5,6] rfl ?_
  refine Go.Sx.V rfl wu rfl rfl (mv rfl) ?_
  refine Go.Sx.V rfl wu rfl rfl (lenI rfl ty22) ?_
  refine Go.Sx.V rfl wu rfl rfl (mv rfl) ?_
  refine Go.Sx.V rfl wu rfl rfl (lenI rfl ty22) ?_
  refine Go.Sx.V rfl wu rfl rfl (maxI rfl rfl) ?_
  refine MKI (n := m) rfl wu rfl rfl ty22 ?_
  intro out w2 hE ho hi hob
  refine Go.Sx.V rfl wu rfl rfl (asg rfl) ?_
  refine wr_nil (post_thenN (wc_seq (wc_seq ?_)))
  refine wc_region [0,1,2] rfl ?_
  refine Go.Sx.V rfl wu rfl rfl (mv rfl) ?_
  refine Go.Sx.V rfl wu rfl rfl (lenI rfl ty22) ?_
  refine Go.Sx.V rfl wu rfl rfl (mv rfl) ?_
  refine wr_nil (post_thenN (wc_block ?_))
  rw [← upd_zero' m (fun t => ((pz P a).co t).1) (fun _ => 0)] at ho
  refine wc_loop (fun i : Int => [(0, g), (2, .int .i64 x), (3, v), (9, out), (20, u), (21, .int .i64 a.length), (22, .int .i64 i)])
    (fun i w' => 0 ≤ i ∧ i ≤ a.length ∧ Ext w w' ∧ OwnI w.heap.size w' out 3 (upd m (fun t => ((pz P a).co t).1) (fun _ => 0) i)) (fun i => (a.length - i).toNat) 0 ⟨rfl, rfl, rfl, rfl, rfl, rfl, rfl, trivial⟩ ⟨by omega, by omega, hE, ho⟩ ?_
  clear hE ho hi
  rintro i w4 ⟨i0, i1, hE, ho⟩
  have hul := upd_length m (fun t => ((pz P a).co t).1) (fun _ => 0) i
  have hui := hu.ext hE
  try dsimp only
  refine wc_seq ?_
  refine wc_region [0] rfl ?_
  refine Go.Sx.V rfl wu rfl rfl (lssI rfl rfl) ?_
  refine wr_nil (post_thenN (wc_seq ?_))
  refine wc_cond rfl ?_ ?_
  · intro hc
    simp at hc
    refine wc_skip (post_thenN (wc_seq (wc_block (wc_seq ?_))))
    refine wc_region [0,1,2,3,4] rfl ?_
    refine Go.Sx.V rfl wu rfl rfl (mv rfl) ?_
    refine Go.Sx.V rfl wu rfl rfl (iadI rfl rfl ty22) ?_
    refine Go.Sx.V rfl wu rfl rfl (ldI rfl na3) ?_
    refine Go.Sx.V rfl wu rfl rfl (asg rfl) ?_
    refine Go.Sx.V rfl wu rfl rfl (asg rfl) ?_
    refine wr_nil (post_thenN ?_)
    refine wc_region [0,1,2,3,4,5,6] rfl ?_
    refine Go.Sx.V rfl wu rfl rfl (mv rfl) ?_
    refine Go.Sx.V rfl wu rfl rfl (mv rfl) ?_
    refine Go.Sx.V rfl wu rfl rfl (mv rfl) ?_
    refine Go.Sx.V rfl wu rfl rfl (mv rfl) ?_
    refine C rfl wu rfl rfl Tryz.call124 (gAdd P g _ _ _ (hG.ext hE)) ?_
    rintro _ w5 hE5 rfl
    replace hE := hE.trans hE5
    replace ho := Own.ext ho hE5
    have hoi := OwnI.ints ho
    refine Go.Sx.V rfl wu rfl rfl (iadI rfl rfl ty22) ?_
    refine STI rfl wu rfl rfl sz3 (by intro h; cases h) ?_
    intro w6 hg6 hX6 ho6 hi6
    refine wr_nil (post_blockN (post_thenN ?_))
    rw [inK0, add_zero, co_gi a i0, upd_step (f := fun t => ((pz P a).co t).1) i0] at ho6
    refine wc_region [0,1] rfl ?_
    refine Go.Sx.V rfl wu rfl rfl (addI rfl rfl) ?_
    refine Go.Sx.V rfl wu rfl rfl (mv rfl) ?_
    refine wr_nil ?_
    exact post_loopN (i + 1) ⟨rfl, rfl, rfl, rfl, rfl, rfl, rfl, trivial⟩ ⟨by omega, by omega, hX6 _ (Nat.le_refl _) hE, ho6⟩ (by omega)
  · intro hc
    simp at hc
    refine wc_exit (post_thenE (post_loopE (post_blockX (post_thenN (wc_seq (wc_seq ?_))))))
    have e0 : upd m (fun t => ((pz P a).co t).1) (fun _ => 0) i = upd m (fun t => (F.co t).1) (fun t => ((pz P a).co t).1) 0 := by
      rw [upd_zero']
      refine tab_congr fun t ht => ?_
      by_cases h : (t : Int) < i
      · rw [if_pos h]
      · rw [if_neg h, co_pz_over (by omega)]; rfl
    rw [e0] at ho
    refine wc_region [0,1,2] rfl ?_
    refine Go.Sx.V rfl wu rfl rfl (mv rfl) ?_
    refine Go.Sx.V rfl wu rfl rfl (lenI rfl ty22) ?_
    refine Go.Sx.V rfl wu rfl rfl (mv rfl) ?_
    refine wr_nil (post_thenN (wc_block ?_))
    refine wc_loop (fun i : Int => [(0, g), (2, .int .i64 x), (9, out), (34, v), (35, .int .i64 b.length), (36, .int .i64 i)])
      (fun i w' => 0 ≤ i ∧ i ≤ b.length ∧ Ext w w' ∧ OwnI w.heap.size w' out 3 (upd m (fun t => (F.co t).1) (fun t => ((pz P a).co t).1) i)) (fun i => (b.length - i).toNat) 0 ⟨rfl, rfl, rfl, rfl, rfl, rfl, trivial⟩ ⟨by omega, by omega, hE, ho⟩ ?_
    clear hE ho hui i0 i1 hc e0 hul
    clear i w4
    rintro i w4 ⟨i0, i1, hE, ho⟩
    have hul := upd_length m (fun t => (F.co t).1) (fun t => ((pz P a).co t).1) i
    have hvi := hv.ext hE
    have hoi := OwnI.ints ho
    try dsimp only
    refine wc_seq ?_
    refine wc_region [0] rfl ?_
    refine Go.Sx.V rfl wu rfl rfl (lssI rfl rfl) ?_
    refine wr_nil (post_thenN (wc_seq ?_))
    refine wc_cond rfl ?_ ?_
    · intro hc
      simp at hc
      refine wc_skip (post_thenN (wc_seq (wc_block (wc_seq ?_))))
      have g1 := upd_get (m := m) (f := fun t => (F.co t).1) (g := fun t => ((pz P a).co t).1) (i := i) i0 (by omega)
      refine wc_region [0,1,2,3,4] rfl ?_
      refine Go.Sx.V rfl wu rfl rfl (mv rfl) ?_
      refine Go.Sx.V rfl wu rfl rfl (iadI rfl rfl ty22) ?_
      refine Go.Sx.V rfl wu rfl rfl (ldI rfl na3) ?_
      refine Go.Sx.V rfl wu rfl rfl (asg rfl) ?_
      refine Go.Sx.V rfl wu rfl rfl (asg rfl) ?_
      refine wr_nil (post_thenN ?_)
      refine wc_draw mixed [0,1,2,3,4,5,6,7,8,9,10,11,12,13] (by kernel_rfl) ?_
      intro w5 hd _
      replace hE := hE.trans hd
      replace hvi := hvi.ext hd
      replace hoi := hoi.ext hd
      replace ho := ho.ext hd
      refine Go.Sx.V rfl wu rfl rfl (mv rfl) ?_
      refine Go.Sx.V rfl wu rfl rfl (mv rfl) ?_
      refine Go.Sx.V rfl wu rfl rfl (mv rfl) ?_
      refine Go.Sx.V rfl wu rfl rfl (mv rfl) ?_
      refine Go.Sx.V rfl wu rfl rfl (mv rfl) ?_
      refine Go.Sx.V rfl wu rfl rfl (iadI rfl rfl ty22) ?_
      refine Go.Sx.V rfl wu rfl rfl (ldI rfl na3) ?_
      refine Go.Sx.V rfl wu rfl rfl (mv rfl) ?_
      refine Go.Sx.V rfl wu rfl rfl (mv rfl) ?_
      refine Go.Sx.V rfl wu rfl rfl (mv rfl) ?_
      refine C rfl wu rfl rfl Tryz.call87 (gMul P g _ _ _ (hG.ext hE)) ?_
      rintro _ w6 hE6 rfl
      replace hE := hE.trans hE6
      refine C rfl wu rfl rfl Tryz.call124 (gAdd P g _ _ _ (hG.ext hE)) ?_
      rintro _ w7 hE7 rfl
      replace hE := hE.trans hE7
      replace ho := Own.ext ho (hE6.trans hE7)
      replace hoi := OwnI.ints ho
      refine Go.Sx.V rfl wu rfl rfl (iadI rfl rfl ty22) ?_
      refine STI rfl wu rfl rfl sz3 (by intro h; kernel_rfl) ?_
      intro w8 hg8 hX8 ho8 hi8
      refine wr_nil (post_blockN (post_thenN ?_))
      rw [g1, inK_val, inK_val, co_gi b i0, ← hco, upd_step (f := fun t => (F.co t).1) i0] at ho8
      refine wc_region [0,1] rfl ?_
      refine Go.Sx.V rfl wu rfl rfl (addI rfl rfl) ?_
      refine Go.Sx.V rfl wu rfl rfl (mv rfl) ?_
      refine wr_nil ?_
      exact post_loopN (i + 1) ⟨rfl, rfl, rfl, rfl, rfl, rfl, trivial⟩ ⟨by omega, by omega, hX8 _ (Nat.le_refl _) hE, ho8⟩ (by omega)
    · intro hc
      simp at hc
      refine wc_exit (post_thenE (post_loopE (post_blockX (post_thenN (wc_seq ?_)))))
      have e1 : upd m (fun t => (F.co t).1) (fun t => ((pz P a).co t).1) i = tab m fun t => (F.co t).1 := tab_congr fun t ht => by
        by_cases h : (t : Int) < i
        · rw [if_pos h]
        · rw [if_neg h, hco, co_pz_over (z := b) (by omega), mul_zero, add_zero]
      rw [e1] at ho
      refine wc_region [0,1,2] rfl ?_
      refine Go.Sx.V rfl wu rfl rfl (mv rfl) ?_
      refine C rfl wu rfl rfl Tryz.call127 (pTrim out _ _ (OwnI.ints ho)) ?_
      rintro _ w5 hE5 rfl
      replace ho := Own.ext ho hE5
      refine Go.Sx.V rfl wu rfl rfl (asg rfl) ?_
      refine wr_nil (post_thenN (wc_ret ?_))
      refine post_ret1 rfl rfl ?_
      have := cut_trim ho
      rw [cl_tab hover] at this ⊢
      exact ⟨hE.trans hE5, this⟩
theorem pAdd (P : FP) (g u v : Value) (a b : List Int) (w : World) (hG : GFV w P g) (hu : Ints w u a) (hv : Ints w v b) (hn : a.length ≤ 17592186044416) (hm : b.length ≤ 17592186044416) :
    Calls Tryz.prog 172 #[g, u, v] w (RetX w fun r w' => OwnI w.heap.size w' r 3 (cl (pz P a + pz P b))) := by
  refine calls3 Tryz.func172 rfl rfl ?_
  refine wc_seq ?_
  refine wc_region [0] rfl ?_
  refine Go.Sx.V rfl wu rfl rfl (asg rfl) ?_
  refine wr_nil (post_thenN (wc_seq ?_))
  refine wc_region [0,1,2,3,4] rfl ?_
  refine Go.Sx.V rfl wu rfl rfl (mv rfl) ?_
  refine Go.Sx.V rfl wu rfl rfl (mv rfl) ?_
  refine Go.Sx.V rfl wu rfl rfl (mv rfl) ?_
  refine C rfl wu rfl rfl Tryz.call157 (pCombine P g u v 1 a b _ hG hu hv hn hm) ?_
  intro r w1 hE hr
  refine Go.Sx.V rfl wu rfl rfl (asg rfl) ?_
  refine wr_nil (post_thenN (wc_ret ?_))
  refine post_ret1 rfl rfl ?_
  rw [inK1, pC_hom.one, one_mul] at hr
  exact ⟨hE, hr⟩
set_option maxRecDepth 10000 in
theorem pProduct (P : FP) (g u v : Value) (a b : List Int) (w : World) (hG : GFV w P g) (hu : Ints w u a) (hv : Ints w v b) (hn : a.length ≤ 8796093022208) (hm : b.length ≤ 8796093022208) :
    Calls Tryz.prog 158 #[g, u, v] w (RetX w fun r w' => OwnI w.heap.size w' r 3 (cl (pz P a * pz P b))) := by
  have hK := hG.nzd
  have hla := cl_pz_len (P := P) a
  have hlb := cl_pz_len (P := P) b
  refine calls3 Tryz.func158 rfl rfl ?_
  refine wc_seq ?_
  refine wc_region [0] rfl ?_
  refine Go.Sx.V rfl wu rfl rfl (asg rfl) ?_
  refine wr_nil (post_thenN (wc_seq ?_))
  refine wc_region [0,1,2,3,4,5,6,7] rfl ?_
  refine Go.Sx.V rfl wu rfl rfl (mv rfl) ?_
  refine Go.Sx.V rfl wu rfl rfl (mv rfl) ?_
  refine C rfl wu rfl rfl Tryz.call88 (pCanon P g u a _ hG hu (by omega)) ?_
  intro p w1 hE1 hp
  refine Go.Sx.V rfl wu rfl rfl (mv rfl) ?_
  refine Go.Sx.V rfl wu rfl rfl (mv rfl) ?_
  refine C rfl wu rfl rfl Tryz.call88 (pCanon P g v b _ (hG.ext hE1) (hv.ext hE1) (by omega)) ?_
  intro q w2 hE2 hq
  refine Go.Sx.V rfl wu rfl rfl (asg rfl) ?_
  refine Go.Sx.V rfl wu rfl rfl (asg rfl) ?_
  refine wr_nil (post_thenN (wc_seq (wc_seq ?_)))
  replace hp := (OwnI.ints hp).ext hE2
  replace hq := OwnI.ints hq
  replace hE1 := hE1.trans hE2
  clear hE2
  generalize pz P a = f at *
  generalize pz P b = h at *
  obtain ⟨p0, hp0⟩ : ∃ l, l = cl f := ⟨_, rfl⟩
  obtain ⟨q0, hq0⟩ : ∃ l, l = cl h := ⟨_, rfl⟩
  rw [← hp0] at hp hla
  rw [← hq0] at hq hlb
  refine wc_region [0,1,2,3,4,5,6,7] rfl ?_
  refine Go.Sx.V rfl wu rfl rfl (mv rfl) ?_
  refine Go.Sx.V rfl wu rfl rfl (lenI rfl ty22) ?_
  refine Go.Sx.V rfl wu rfl rfl (eqlI rfl rfl) ?_
  refine Go.Sx.V rfl wu rfl rfl (mv rfl) ?_
  refine OR (π1 := [4,5,6,7]) (π2 := []) (tc := 21) (tp := 25) rfl rfl rfl (by
      intro _
      refine SK rfl rfl rfl rfl rfl ?_
      refine SK rfl rfl rfl rfl rfl ?_
      refine SK rfl rfl rfl rfl rfl ?_
      refine Go.Sx.V rfl wu rfl rfl (pk rfl rfl) ?_
      exact join rfl) (by
      intro hg
      simp at hg
      refine Go.Sx.V rfl (wg rfl rfl) rfl rfl (mv rfl) ?_
      refine Go.Sx.V rfl (wg rfl rfl) rfl rfl (lenI rfl ty22) ?_
      refine Go.Sx.V rfl (wg rfl rfl) rfl rfl (eqlI rfl rfl) ?_
      refine Go.Sx.V rfl wu rfl rfl (pk rfl rfl) ?_
      exact join rfl) ?_
  refine wr_nil (post_thenN ?_)
  refine wc_cond rfl ?_ ?_
  · intro hc
    simp at hc
    refine wc_seq ?_
    refine wc_region [0] rfl ?_
    refine Go.Sx.V rfl wu rfl rfl (asg rfl) ?_
    refine wr_nil (post_thenN (wc_ret (post_thenR ?_)))
    refine post_ret1 rfl rfl ?_
    refine ⟨hE1, ?_⟩
    have : cl (f * h) = [] := cl_nil.2 (by
      rcases hc with e | e
      · rw [cl_nil.1 (hp0.symm.trans e), zero_mul]
      · rw [cl_nil.1 (hq0.symm.trans e), mul_zero])
    rw [this]
    exact OwnI.nil _ _ _
  · intro hc
    simp at hc
    have l0 : 0 < p0.length := List.length_pos_iff.2 hc.1
    have l1 : 0 < q0.length := List.length_pos_iff.2 hc.2
    have hfin := cl_mul_tab hK (f := f) (g := h) (fun e => hc.1 (hp0.trans (cl_nil.2 e))) (fun e => hc.2 (hq0.trans (cl_nil.2 e)))
    rw [← hp0, ← hq0] at hfin
    obtain ⟨N, hN⟩ : ∃ N, N = p0.length + q0.length - 1 := ⟨_, rfl⟩
    rw [← hN] at hfin
    refine wc_skip (post_thenN (wc_seq ?_))
    refine wc_region [0,1,2,3,4,5,6,7] rfl ?_
    refine Go.Sx.V rfl wu rfl rfl (mv rfl) ?_
    refine Go.Sx.V rfl wu rfl rfl (lenI rfl ty22) ?_
    refine Go.Sx.V rfl wu rfl rfl (mv rfl) ?_
    refine Go.Sx.V rfl wu rfl rfl (lenI rfl ty22) ?_
    refine Go.Sx.V rfl wu rfl rfl (addI rfl rfl) ?_
    refine Go.Sx.V rfl wu rfl rfl (subI rfl rfl) ?_
    refine MKI (n := N) rfl wu rfl rfl ty22 ?_
    intro out w3 hE ho hi hob
    refine Go.Sx.V rfl wu rfl rfl (asg rfl) ?_
    refine wr_nil (post_thenN (wc_seq (wc_seq ?_)))
    rw [← mstL_zero f h N] at ho
    refine wc_region [0,1,2] rfl ?_
    refine Go.Sx.V rfl wu rfl rfl (mv rfl) ?_
    refine Go.Sx.V rfl wu rfl rfl (lenI rfl ty22) ?_
    refine Go.Sx.V rfl wu rfl rfl (mv rfl) ?_
    refine wr_nil (post_thenN (wc_block ?_))
    refine wc_loop (fun i : Nat => [(0, g), (2, q), (7, out), (33, p), (34, .int .i64 p0.length), (35, .int .i64 i)])
      (fun i w' => i ≤ p0.length ∧ Ext w w' ∧ Ext w2 w' ∧ OwnI w2.heap.size w' out 3 (mstL f h N i 0)) (fun i => p0.length - i) 0 ⟨rfl, rfl, rfl, rfl, rfl, rfl, trivial⟩ ⟨by omega, hE1.trans hE, hE, ho⟩ ?_
    clear hE ho hi
    rintro i w4 ⟨i1, hE, hE2, ho⟩
    have hpi := hp.ext hE2
    try dsimp only
    refine wc_seq ?_
    refine wc_region [0] rfl ?_
    refine Go.Sx.V rfl wu rfl rfl (lssI rfl rfl) ?_
    refine wr_nil (post_thenN (wc_seq ?_))
    refine wc_cond rfl ?_ ?_
    · intro hc
      simp at hc
      refine wc_skip (post_thenN (wc_seq (wc_block (wc_seq ?_))))
      refine wc_region [0,1,2,3,4] rfl ?_
      refine Go.Sx.V rfl wu rfl rfl (mv rfl) ?_
      refine Go.Sx.V rfl wu rfl rfl (iadI rfl rfl ty22) ?_
      refine Go.Sx.V rfl wu rfl rfl (ldI rfl na3) ?_
      refine Go.Sx.V rfl wu rfl rfl (asg rfl) ?_
      refine Go.Sx.V rfl wu rfl rfl (asg rfl) ?_
      refine wr_nil (post_thenN (wc_seq ?_))
      refine wc_region [0,1,2] rfl ?_
      refine Go.Sx.V rfl wu rfl rfl (mv rfl) ?_
      refine Go.Sx.V rfl wu rfl rfl (lenI rfl ty22) ?_
      refine Go.Sx.V rfl wu rfl rfl (mv rfl) ?_
      refine wr_nil (post_thenN (wc_block ?_))
      have ha : inK P (gi p0 i) = f.co i := by rw [hp0]; exact cl_at f i
      refine wc_loop (fun j : Nat => [(0, g), (2, q), (7, out), (8, .int .i64 i), (9, .int .i64 (gi p0 i)), (33, p), (34, .int .i64 p0.length), (35, .int .i64 i), (40, q), (41, .int .i64 q0.length), (42, .int .i64 j)])
        (fun j w' => j ≤ q0.length ∧ Ext w w' ∧ Ext w2 w' ∧ OwnI w2.heap.size w' out 3 (mstL f h N i j)) (fun j => q0.length - j) 0 ⟨rfl, rfl, rfl, rfl, rfl, rfl, rfl, rfl, rfl, rfl, rfl, trivial⟩ ⟨by omega, hE, hE2, ho⟩ ?_
      clear hE hE2 ho hpi
      clear w4
      rintro j w4 ⟨j1, hE, hE2, ho⟩
      have hqi := hq.ext hE2
      have hoi := OwnI.ints ho
      have hl := mstL_length f h N i j
      try dsimp only
      refine wc_seq ?_
      refine wc_region [0] rfl ?_
      refine Go.Sx.V rfl wu rfl rfl (lssI rfl rfl) ?_
      refine wr_nil (post_thenN (wc_seq ?_))
      refine wc_cond rfl ?_ ?_
      · intro hc2
        simp at hc2
        have hb : inK P (gi q0 j) = h.co j := by rw [hq0]; exact cl_at h j
        have g1 := mstL_get (f := f) (h := h) (N := N) (i := i) (j := j) (by omega)
        refine wc_skip (post_thenN (wc_seq (wc_block (wc_seq ?_))))
        refine wc_region [0,1,2,3,4] rfl ?_
        refine Go.Sx.V rfl wu rfl rfl (mv rfl) ?_
        refine Go.Sx.V rfl wu rfl rfl (iadI rfl rfl ty22) ?_
        refine Go.Sx.V rfl wu rfl rfl (ldI rfl na3) ?_
        refine Go.Sx.V rfl wu rfl rfl (asg rfl) ?_
        refine Go.Sx.V rfl wu rfl rfl (asg rfl) ?_
        refine wr_nil (post_thenN ?_)
        refine wc_draw mixed [0,1,2,3,4,5,6,7,8,9,10,11,12,13,14,15,16,17] (by kernel_rfl) ?_
        intro w5 hd _
        replace hE := hE.trans hd
        replace hE2 := hE2.trans hd
        replace hqi := hqi.ext hd
        replace hoi := hoi.ext hd
        replace ho := ho.ext hd
        refine Go.Sx.V rfl wu rfl rfl (mv rfl) ?_
        refine Go.Sx.V rfl wu rfl rfl (mv rfl) ?_
        refine Go.Sx.V rfl wu rfl rfl (mv rfl) ?_
        refine Go.Sx.V rfl wu rfl rfl (addI rfl rfl) ?_
        refine Go.Sx.V rfl wu rfl rfl (mv rfl) ?_
        refine Go.Sx.V rfl wu rfl rfl (mv rfl) ?_
        refine Go.Sx.V rfl wu rfl rfl (mv rfl) ?_
        refine Go.Sx.V rfl wu rfl rfl (mv rfl) ?_
        refine Go.Sx.V rfl wu rfl rfl (addI rfl rfl) ?_
        refine Go.Sx.V rfl wu rfl rfl (iadI rfl rfl ty22) ?_
        refine Go.Sx.V rfl wu rfl rfl (ldI rfl na3) ?_
        refine Go.Sx.V rfl wu rfl rfl (mv rfl) ?_
        refine Go.Sx.V rfl wu rfl rfl (mv rfl) ?_
        refine Go.Sx.V rfl wu rfl rfl (mv rfl) ?_
        refine C rfl wu rfl rfl Tryz.call87 (gMul P g _ _ _ (hG.ext hE)) ?_
        rintro _ w6 hE6 rfl
        replace hE := hE.trans hE6
        replace hE2 := hE2.trans hE6
        refine C rfl wu rfl rfl Tryz.call124 (gAdd P g _ _ _ (hG.ext hE)) ?_
        rintro _ w7 hE7 rfl
        replace hE := hE.trans hE7
        replace hE2 := hE2.trans hE7
        replace ho := Own.ext ho (hE6.trans hE7)
        replace hoi := OwnI.ints ho
        refine Go.Sx.V rfl wu rfl rfl (iadI rfl rfl ty22) ?_
        refine STI rfl wu rfl rfl sz3 (by intro h; kernel_rfl) ?_
        intro w8 hg8 hX8 ho8 hi8
        refine wr_nil (post_blockN (post_thenN ?_))
        rw [g1, inK_val, inK_val, mstL_step ha hb] at ho8
        refine wc_region [0,1] rfl ?_
        refine Go.Sx.V rfl wu rfl rfl (addI rfl rfl) ?_
        refine Go.Sx.V rfl wu rfl rfl (mv rfl) ?_
        refine wr_nil ?_
        exact post_loopN (j + 1) ⟨rfl, rfl, rfl, rfl, rfl, rfl, rfl, rfl, rfl, rfl, rfl, trivial⟩ ⟨by omega, hX8 _ hE1.size hE, hX8 _ (Nat.le_refl _) hE2, ho8⟩ (by omega)
      · intro hc2
        simp at hc2
        refine wc_exit (post_thenE (post_loopE (post_blockX (post_blockN (post_thenN ?_)))))
        rw [show j = q0.length by omega, mstL_row (fun t ht => cl_over h (by rw [← hq0]; exact ht))] at ho
        refine wc_region [0,1] rfl ?_
        refine Go.Sx.V rfl wu rfl rfl (addI rfl rfl) ?_
        refine Go.Sx.V rfl wu rfl rfl (mv rfl) ?_
        refine wr_nil ?_
        exact post_loopN (i + 1) ⟨rfl, rfl, rfl, rfl, rfl, rfl, trivial⟩ ⟨by omega, hE, hE2, ho⟩ (by omega)
    · intro hc
      simp at hc
      refine wc_exit (post_thenE (post_loopE (post_blockX (post_thenN (wc_seq ?_)))))
      rw [show i = p0.length by omega, mstL_all (fun t ht => cl_over f (by rw [← hp0]; exact ht)), hfin] at ho
      refine wc_region [0,1] rfl ?_
      refine Go.Sx.V rfl wu rfl rfl (mv rfl) ?_
      refine Go.Sx.V rfl wu rfl rfl (asg rfl) ?_
      refine wr_nil (post_thenN (wc_ret ?_))
      refine post_ret1 rfl rfl ?_
      exact ⟨hE, ho.mono hE1.size⟩
theorem take_getD {L : List (List Int)} {i : Nat} (h : i < L.length) : L.take (i + 1) = L.take i ++ [L.getD i []] := by
  rw [take_snoc h, List.getD_eq_getElem?_getD, List.getElem?_eq_getElem h]; rfl
theorem prod_len {P : FP} {L : List (List Int)} (hn : ∀ (i : Nat) z, L[i]? = some z → z.length ≤ 1048576) : ∀ i, i ≤ L.length → (cl (prodP P (L.take i))).length ≤ 1 + i * 1048576
  | 0, _ => by rw [List.take_zero, show prodP P [] = 1 from rfl, cl_one]; simp
  | i + 1, h => by
    have ih := prod_len (P := P) hn i (by omega)
    have hz := hn i _ (List.getElem?_eq_getElem (by omega))
    rw [take_snoc (by omega), prodP_snoc]
    have h1 := cl_mul_len (prodP P (L.take i)) (pz P (L[i]'(by omega)))
    have h2 := cl_pz_len (P := P) (L[i]'(by omega))
    omega
theorem lenP {P : FP} {L : List (List Int)} (hn : ∀ (i : Nat) z, L[i]? = some z → z.length ≤ 1048576) (hl : L.length ≤ 1048576) {i : Nat} (h : i ≤ L.length) : (cl (prodP P (L.take i))).length ≤ 8796093022208 := by
  have := prod_len (P := P) hn i h
  have : i * 1048576 ≤ 1048576 * 1048576 := Nat.mul_le_mul_right _ (by omega)
  omega
set_option maxRecDepth 10000 in
theorem pMul (P : FP) (g u : Value) (L : List (List Int)) (w : World) (hG : GFV w P g) (hu : LL w u L) (hn : ∀ (i : Nat) z, L[i]? = some z → z.length ≤ 1048576) (hl : L.length ≤ 1048576) :
    Calls Tryz.prog 161 #[g, u] w (RetX w fun r w' => OwnI w.heap.size w' r 3 (cl (prodP P L))) := by
  obtain ⟨rows, hs, hrl, hrr⟩ := hu.row
  refine calls2 Tryz.func161 rfl rfl ?_
  refine wc_seq ?_
  refine wc_region [0] rfl ?_
  refine Go.Sx.V rfl wu rfl rfl (asg rfl) ?_
  refine wr_nil (post_thenN (wc_seq ?_))
  refine wc_region [0,1] rfl ?_
  refine BSI (zs := [1]) rfl wu rfl rfl rfl rfl ty22 ?_
  intro v0 w1 hE1 ho hi hb
  refine Go.Sx.V rfl wu rfl rfl (asg rfl) ?_
  refine wr_nil (post_thenN (wc_seq (wc_seq ?_)))
  refine wc_region [0,1,2] rfl ?_
  refine Go.Sx.V rfl wu rfl rfl (mv rfl) ?_
  refine Go.Sx.V rfl wu rfl rfl (lenS rfl ty29 hs) ?_
  refine Go.Sx.V rfl wu rfl rfl (mv rfl) ?_
  refine wr_nil (post_thenN (wc_block ?_))
  rw [hrl]
  have h0 : OwnI w.heap.size w1 v0 3 (cl (prodP P (L.take 0))) := by
    rw [List.take_zero, show prodP P [] = 1 from rfl, cl_one]
    exact ho
  refine wc_loop (fun s : Nat × Value => [(0, g), (5, s.2), (9, u), (10, .int .i64 L.length), (11, .int .i64 s.1)])
    (fun s w' => s.1 ≤ L.length ∧ Ext w w' ∧ OwnI w.heap.size w' s.2 3 (cl (prodP P (L.take s.1)))) (fun s => L.length - s.1) (0, v0) ⟨rfl, rfl, rfl, rfl, rfl, trivial⟩ ⟨Nat.zero_le _, hE1, h0⟩ ?_
  clear hE1 h0 ho hi hb
  rintro ⟨i, out⟩ w4 ⟨i1, hE, ho⟩
  dsimp only at i1 ho
  have hsi := hs.ext hE
  try dsimp only
  refine wc_seq ?_
  refine wc_region [0] rfl ?_
  refine Go.Sx.V rfl wu rfl rfl (lssI rfl rfl) ?_
  refine wr_nil (post_thenN (wc_seq ?_))
  refine wc_cond rfl ?_ ?_
  · intro hc
    simp at hc
    obtain ⟨r, hr, hri⟩ := hrr i hc
    have hz : L[i]? = some (L.getD i []) := by simp [List.getD_eq_getElem?_getD, hc]
    refine wc_skip (post_thenN (wc_seq (wc_block (wc_seq ?_))))
    refine wc_region [0,1,2] rfl ?_
    refine Go.Sx.V rfl wu rfl rfl (iad rfl rfl ty29 hs (by omega) (by omega)) ?_
    refine Go.Sx.V rfl wu rfl rfl (ldE rfl na22 hs hr hE) ?_
    refine Go.Sx.V rfl wu rfl rfl (asg rfl) ?_
    refine wr_nil (post_thenN ?_)
    refine wc_region [0,1,2,3,4] rfl ?_
    refine Go.Sx.V rfl wu rfl rfl (mv rfl) ?_
    refine Go.Sx.V rfl wu rfl rfl (mv rfl) ?_
    refine Go.Sx.V rfl wu rfl rfl (mv rfl) ?_
    refine C rfl wu rfl rfl Tryz.call158 (pProduct P g out r _ _ _ (hG.ext hE) (OwnI.ints ho) (hri.ext hE) (lenP hn hl i1) (by have := hn _ _ hz; omega)) ?_
    intro r2 w5 hE5 ho5
    refine Go.Sx.V rfl wu rfl rfl (asg rfl) ?_
    refine wr_nil (post_blockN (post_thenN ?_))
    refine wc_region [0,1] rfl ?_
    refine Go.Sx.V rfl wu rfl rfl (addI rfl rfl) ?_
    refine Go.Sx.V rfl wu rfl rfl (mv rfl) ?_
    refine wr_nil ?_
    refine post_loopN (i + 1, r2) ⟨rfl, rfl, rfl, rfl, rfl, trivial⟩ ⟨by show i + 1 ≤ _; omega, hE.trans hE5, ?_⟩ (by show L.length - (i + 1) < L.length - i; omega)
    show OwnI _ _ _ _ (cl (prodP P (L.take (i + 1))))
    rw [take_getD hc, prodP_snoc, ← pz_cl (prodP P (L.take i))]
    exact ho5.mono hE.size
  · intro hc
    simp at hc
    refine wc_exit (post_thenE (post_loopE (post_blockX (post_thenN (wc_seq ?_)))))
    refine wc_region [0,1] rfl ?_
    refine Go.Sx.V rfl wu rfl rfl (mv rfl) ?_
    refine Go.Sx.V rfl wu rfl rfl (asg rfl) ?_
    refine wr_nil (post_thenN (wc_ret ?_))
    refine post_ret1 rfl rfl ?_
    rw [show i = L.length by omega, List.take_length] at ho
    exact ⟨hE, ho⟩
set_option maxRecDepth 10000 in
theorem pEval (P : FP) (g u : Value) (z : List Int) (x : Int) (w : World) (hG : GFV w P g) (hu : Ints w u z) (hn : z.length ≤ 17592186044416) :
    Calls Tryz.prog 123 #[g, u, .int .i64 x] w (RetX w fun r _ => r = .int .i64 (val1 (pz P z) (inK P x)).1) := by
  refine calls3 Tryz.func123 rfl rfl ?_
  refine wc_seq ?_
  refine wc_region [0] rfl ?_
  refine Go.Sx.V rfl wu rfl rfl (asg rfl) ?_
  refine wr_nil (post_thenN (wc_seq ?_))
  refine wc_region [0] rfl ?_
  refine Go.Sx.V rfl wu rfl rfl (asg rfl) ?_
  refine wr_nil (post_thenN (wc_seq (wc_seq ?_)))
  refine wc_region [0,1,2,3] rfl ?_
  refine Go.Sx.V rfl wu rfl rfl (mv rfl) ?_
  refine Go.Sx.V rfl wu rfl rfl (lenI rfl ty22) ?_
  refine Go.Sx.V rfl wu rfl rfl (subI rfl rfl) ?_
  refine Go.Sx.V rfl wu rfl rfl (asg rfl) ?_
  refine wr_nil (post_thenN (wc_block ?_))
  have h0 : (0 : Int) = (val1 (dropP z.length (pz P z)) (inK P x)).1 := by rw [val1_last]; rfl
  refine wc_loop (fun i : Nat => [(0, g), (1, u), (2, .int .i64 x), (7, .int .i64 (val1 (dropP i (pz P z)) (inK P x)).1), (8, .int .i64 ((i : Int) - 1))])
    (fun i w' => i ≤ z.length ∧ Ext w w') (fun i => i) z.length ⟨rfl, rfl, rfl, by rw [← h0]; rfl, rfl, trivial⟩ ⟨Nat.le_refl _, Ext.refl _⟩ ?_
  rintro i w4 ⟨i1, hE⟩
  have hui := hu.ext hE
  try dsimp only
  refine wc_seq (wc_seq ?_)
  refine wc_region [0,1] rfl ?_
  refine Go.Sx.V rfl wu rfl rfl (mv rfl) ?_
  refine Go.Sx.V rfl wu rfl rfl (geqI rfl rfl) ?_
  refine wr_nil (post_thenN ?_)
  refine wc_cond rfl ?_ ?_
  · intro hc
    simp at hc
    refine wc_skip (post_thenN (wc_seq (wc_block ?_)))
    refine wc_draw mixed [0,1,2,3,5,6,7,8,4,9,10] (by kernel_rfl) ?_
    intro w5 hd _
    replace hE := hE.trans hd
    replace hui := hui.ext hd
    refine Go.Sx.V rfl wu rfl rfl (mv rfl) ?_
    refine Go.Sx.V rfl wu rfl rfl (mv rfl) ?_
    refine Go.Sx.V rfl wu rfl rfl (mv rfl) ?_
    refine Go.Sx.V rfl wu rfl rfl (mv rfl) ?_
    refine Go.Sx.V rfl wu rfl rfl (mv rfl) ?_
    refine Go.Sx.V rfl wu rfl rfl (mv rfl) ?_
    refine Go.Sx.V rfl wu rfl rfl (iadI rfl rfl ty22) ?_
    refine Go.Sx.V rfl wu rfl rfl (ldI rfl na3) ?_
    refine C rfl wu rfl rfl Tryz.call87 (gMul P g _ _ _ (hG.ext hE)) ?_
    rintro _ w6 hE6 rfl
    replace hE := hE.trans hE6
    refine C rfl wu rfl rfl Tryz.call124 (gAdd P g _ _ _ (hG.ext hE)) ?_
    rintro _ w7 hE7 rfl
    replace hE := hE.trans hE7
    refine Go.Sx.V rfl wu rfl rfl (asg rfl) ?_
    refine wr_nil (post_blockN (post_thenN ?_))
    refine wc_region [0,1,2] rfl ?_
    refine Go.Sx.V rfl wu rfl rfl (mv rfl) ?_
    refine Go.Sx.V rfl wu rfl rfl (subI rfl rfl) ?_
    refine Go.Sx.V rfl wu rfl rfl (asg rfl) ?_
    refine wr_nil ?_
    have e := val1_horner (P := P) z (inK P x) (i - 1)
    rw [show i - 1 + 1 = i by omega] at e
    rw [inK_val, inK_val, show ((i : Int) - 1) = ((i - 1 : Nat) : Int) by omega, ← e]
    exact post_loopN (i - 1) ⟨rfl, rfl, rfl, rfl, rfl, trivial⟩ ⟨by omega, hE⟩ (by omega)
  · intro hc
    simp at hc
    refine wc_exit (post_thenE (post_loopE (post_blockX (post_thenN (wc_seq ?_)))))
    refine wc_region [0,1] rfl ?_
    refine Go.Sx.V rfl wu rfl rfl (mv rfl) ?_
    refine Go.Sx.V rfl wu rfl rfl (asg rfl) ?_
    refine wr_nil (post_thenN (wc_ret ?_))
    refine post_ret1 rfl rfl ?_
    rw [show i = 0 by omega, dropP_none]
    exact ⟨hE, rfl⟩
end Go.Proofs.YtmnojknfjbimdaaGreat

