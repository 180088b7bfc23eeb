/-
  Bounded decoding, part 1: quotients of elements and polynomials, products of roots, interpolation, by contract.
-/
import Derived.Test.YtmnojknfjbimdaaGreatUMPa
import Derived.Test.YtmnojknfjbimdaaGreatUKoe2
import Derived.Test.YtmnojknfjbimdaaGreatURLin2
namespace Go.Proofs.YtmnojknfjbimdaaGreat
open Go Go.Sx Go.Pl Go.RowKit Go.Fd Go.Alg Go.Ld
theorem pDegree (P : FP) (g u : Value) (z : List Int) (w : World) (hG : GFV w P g) (hu : Ints w u z) (hn : z.length ≤ 17592186044416) :
    Calls Tryz.prog 159 #[g, u] w (RetX w fun r _ => r = .int .i64 ((cl (pz P z)).length - 1)) := by
  have hcl := cl_pz_len (P := P) z
  refine calls2 Tryz.func159 rfl rfl ?_
  refine wc_seq ?_
  refine wc_region [0] rfl ?_
  refine Go.Sx.V rfl wu rfl rfl (asg rfl) ?_
  refine wr_nil (post_thenN (wc_seq ?_))
  refine wc_region [0,1,2,3,4,5] rfl ?_
  refine Go.Sx.V rfl wu rfl rfl (mv rfl) ?_
  refine Go.Sx.V rfl wu rfl rfl (mv rfl) ?_
  refine C rfl wu rfl rfl Tryz.call88 (pCanon P g u z _ hG hu hn) ?_
  intro c w2 hE hc
  have hci := OwnI.ints hc
  refine Go.Sx.V rfl wu rfl rfl (lenI rfl ty22) ?_
  refine Go.Sx.V rfl wu rfl rfl (subI rfl rfl) ?_
  refine Go.Sx.V rfl wu rfl rfl (asg rfl) ?_
  refine wr_nil (post_thenN (wc_ret ?_))
  refine post_ret1 rfl rfl ?_
  exact ⟨hE, rfl⟩
theorem pSub (P : FP) (g u v : Value) (a b : List Int) (w : World) (hG : GFV w P g) (hu : Ints w u a) (hv : Ints w v b) (hn : a.length ≤ 17592186044416) (hm : b.length ≤ 17592186044416) :
    Calls Tryz.prog 160 #[g, u, v] w (RetX w fun r w' => OwnI w.heap.size w' r 3 (cl (pz P a + -(pz P b)))) := by
  have e : pC (inK P (-inK P 1).1) * pz P b = -(pz P b) := Pol.ext fun i => by
    rw [co_pC_mul, inK_val, inK1, neg_mul, one_mul]; rfl
  refine calls3 Tryz.func160 rfl rfl ?_
  refine wc_seq ?_
  refine wc_region [0] rfl ?_
  refine Go.Sx.V rfl wu rfl rfl (asg rfl) ?_
  refine wr_nil (post_thenN (wc_seq ?_))
  refine wc_region [0,1,2,3,4,5,6] rfl ?_
  refine Go.Sx.V rfl wu rfl rfl (mv rfl) ?_
  refine Go.Sx.V rfl wu rfl rfl (mv rfl) ?_
  refine Go.Sx.V rfl wu rfl rfl (mv rfl) ?_
  refine C rfl wu rfl rfl Tryz.call151 (gNeg P g 1 _ hG) ?_
  rintro _ w2 hE2 rfl
  refine Go.Sx.V rfl wu rfl rfl (mv rfl) ?_
  refine C rfl wu rfl rfl Tryz.call157 (pCombine P g u v _ a b _ (hG.ext hE2) (hu.ext hE2) (hv.ext hE2) hn hm) ?_
  intro c w3 hE3 hc
  refine Go.Sx.V rfl wu rfl rfl (asg rfl) ?_
  refine wr_nil (post_thenN (wc_ret ?_))
  refine post_ret1 rfl rfl ?_
  have hsz := hE2.size
  rw [e] at hc
  exact ⟨hE2.trans hE3, Own.mono hc hsz⟩
theorem pz_lin {P : FP} (x : K P) : pz P [x.1, 1] = pX + pC x := Pol.ext fun j => by
  rw [co_pz, co_add, co_pC]
  show _ = psX j + _
  rw [psX]
  match j with
  | 0 => simp [inK_val, zero_add]
  | 1 => simp [inK1, add_zero]
  | j + 2 => simp [inK0, add_zero]
theorem lcP_all_succ {P : FP} (X : Nat → K P) (i : Nat) : lcP X (fun _ => true) (i + 1) = lcP X (fun _ => true) i * (pX + pC (-X i)) := by
  show lcP X (fun _ => true) i * (if true = true then pX + pC (-X i) else 1) = _
  rw [if_pos rfl]
theorem lcP_all_dg {P : FP} (hK : NZD (K P)) (X : Nat → K P) (n : Nat) : Go.Fd.Dg n (lcP X (fun _ => true) n) := by
  have h := lcP_dg hK X (fun _ => true) n
  have e : (ns n fun i => if (fun _ => true) i = true then 1 else 0) = n := by
    show (ns n fun _ => if true = true then 1 else 0) = n
    rw [if_pos rfl]
    exact ns_const n
  rwa [e] at h
set_option maxRecDepth 10000 in
theorem pFromRoots (P : FP) (g u : Value) (xs : List Int) (w : World) (hG : GFV w P g) (hu : Ints w u xs) (hn : xs.length ≤ 64) :
    Calls Tryz.prog 121 #[g, u] w (RetX w fun r w' => Ints w' r (cl (lcP (fun i : Nat => inK P (gi xs i)) (fun _ => true) xs.length))) := by
  have hK := hG.nzd
  refine calls2 Tryz.func121 rfl rfl ?_
  refine wc_seq ?_
  refine wc_region [0] rfl ?_
  refine Go.Sx.V rfl wu rfl rfl (asg rfl) ?_
  refine wr_nil (post_thenN (wc_seq ?_))
  refine wc_region [0,1] rfl ?_
  refine BSI (zs := [1]) rfl wu rfl rfl rfl rfl ty22 ?_
  intro out w2 hE ho hi hob
  refine Go.Sx.V rfl wu rfl rfl (asg rfl) ?_
  refine wr_nil (post_thenN (wc_seq (wc_seq ?_)))
  have h0 : Ints w2 out (cl (lcP (fun i : Nat => inK P (gi xs i)) (fun _ => true) 0)) := by
    show Ints w2 out (cl 1)
    rw [cl_one]; exact hi
  refine wc_region [0,1,2] rfl ?_
  refine Go.Sx.V rfl wu rfl rfl (mv rfl) ?_
  refine Go.Sx.V rfl wu rfl rfl (lenI rfl ty22) ?_
  refine Go.Sx.V rfl wu rfl rfl (mv rfl) ?_
  refine wr_nil (post_thenN (wc_block ?_))
  refine wc_loop (fun p : Nat × Value => [(0, g), (5, p.2), (9, u), (10, .int .i64 xs.length), (11, .int .i64 p.1)]) (fun p w' => p.1 ≤ xs.length ∧ Ext w w' ∧ Ints w' p.2 (cl (lcP (fun i : Nat => inK P (gi xs i)) (fun _ => true) p.1))) (fun p => xs.length - p.1) (0, out) ⟨rfl, rfl, rfl, rfl, rfl, trivial⟩ ⟨by simp, hE, h0⟩ ?_
  clear hE ho hi hob h0
  clear w2
  rintro ⟨i, out⟩ w2 ⟨i1, hE, ho⟩
  dsimp only at i1 ho
  have hui := hu.ext hE
  have hlen := (lcP_all_dg hK (fun i : Nat => inK P (gi xs i)) i).len
  try dsimp only
  refine wc_seq ?_
  refine wc_region [0] rfl ?_
  refine Go.Sx.V rfl wu rfl rfl (lssI rfl rfl) ?_
  refine wr_nil (post_thenN (wc_seq ?_))
  refine wc_cond rfl ?_ ?_
  · intro hc
    simp at hc
    refine wc_skip (post_thenN (wc_seq (wc_block (wc_seq ?_))))
    refine wc_region [0,1,2] rfl ?_
    refine Go.Sx.V rfl wu rfl rfl (iadI rfl rfl ty22 hui (by omega) (by omega)) ?_
    refine Go.Sx.V rfl wu rfl rfl (ldI rfl na3 hui) ?_
    refine Go.Sx.V rfl wu rfl rfl (asg rfl) ?_
    refine wr_nil (post_thenN ?_)
    refine wc_region [0,1,2,3,4,5,6,7] rfl ?_
    refine Go.Sx.V rfl wu rfl rfl (mv rfl) ?_
    refine Go.Sx.V rfl wu rfl rfl (mv rfl) ?_
    refine Go.Sx.V rfl wu rfl rfl (mv rfl) ?_
    refine Go.Sx.V rfl wu rfl rfl (mv rfl) ?_
    refine C rfl wu rfl rfl Tryz.call151 (gNeg P g _ _ (hG.ext hE)) ?_
    rintro _ w3 hE3 rfl
    replace hE := hE.trans hE3
    replace ho := ho.ext hE3
    refine BSI (zs := [(-inK P (gi xs i)).1, 1]) rfl wu rfl rfl rfl rfl ty22 ?_
    intro l w4 hE4 _ hl _
    replace hE := hE.trans hE4
    replace ho := ho.ext hE4
    refine C rfl wu rfl rfl Tryz.call158 (pProduct P g out l _ _ _ (hG.ext hE) ho hl (by omega) (by simp)) ?_
    intro out2 w5 hE5 ho5
    replace hE := hE.trans hE5
    have ho2 := OwnI.ints ho5
    refine Go.Sx.V rfl wu rfl rfl (asg rfl) ?_
    refine wr_nil (post_blockN (post_thenN ?_))
    rw [pz_cl, pz_lin, ← lcP_all_succ (fun i : Nat => inK P (gi xs i))] at ho2
    refine wc_region [0,1] rfl ?_
    refine Go.Sx.V rfl wu rfl rfl (addI rfl rfl) ?_
    refine Go.Sx.V rfl wu rfl rfl (mv rfl) ?_
    refine wr_nil ?_
    exact post_loopN (i + 1, out2) ⟨rfl, rfl, rfl, rfl, rfl, trivial⟩ ⟨by (try dsimp only); omega, hE, ho2⟩ (by (try dsimp only); omega)
  · intro hc
    simp at hc
    obtain rfl : i = xs.length := by omega
    refine wc_exit (post_thenE (post_loopE (post_blockX (post_thenN (wc_seq ?_)))))
    refine wc_region [0,1] rfl ?_
    refine Go.Sx.V rfl wu rfl rfl (mv rfl) ?_
    refine Go.Sx.V rfl wu rfl rfl (asg rfl) ?_
    refine wr_nil (post_thenN (wc_ret ?_))
    refine post_ret1 rfl rfl ?_
    exact ⟨hE, ho⟩
set_option maxRecDepth 10000 in
theorem pInterpolate (P : FP) (g u v : Value) (xs ys : List Int) (w : World) (hG : GFV w P g) (hu : Ints w u xs) (hv : Ints w v ys) (hn : xs.length ≤ 64) (hl : ys.length = xs.length)
    (hd : ∀ i j : Nat, i < xs.length → j < xs.length → i ≠ j → inK P (gi xs i) ≠ inK P (gi xs j)) :
    Calls Tryz.prog 119 #[g, u, v] w (RetX w fun r w' => ∃ rv F, r = .tuple #[rv, .int .i64 0] ∧ Ints w' rv (cl F) ∧ YB xs.length F ∧ ∀ i : Nat, i < xs.length → val1 F (inK P (gi xs i)) = inK P (gi ys i)) := by
  have hK := hG.nzd
  have hq := hG.q
  have hq2 := P.q_two
  obtain ⟨gen, hgen⟩ := hG.gen
  refine calls3 Tryz.func119 rfl rfl ?_
  refine wc_seq ?_
  refine wc_region [0,1] rfl ?_
  refine Go.Sx.V rfl wu rfl rfl (asg rfl) ?_
  refine Go.Sx.V rfl wu rfl rfl (asg rfl) ?_
  refine wr_nil (post_thenN (wc_seq (wc_seq ?_)))
  refine wc_region [0,1,2,3,4] rfl ?_
  refine Go.Sx.V rfl wu rfl rfl (mv rfl) ?_
  refine Go.Sx.V rfl wu rfl rfl (lenI rfl ty22) ?_
  refine Go.Sx.V rfl wu rfl rfl (mv rfl) ?_
  refine Go.Sx.V rfl wu rfl rfl (lenI rfl ty22) ?_
  refine Go.Sx.V rfl wu rfl rfl (neqI rfl rfl) ?_
  refine wr_nil (post_thenN ?_)
  refine wc_condF rfl (by rw [hl]; simp) ?_
  refine wc_skip (post_thenN (wc_seq ?_))
  refine wc_region [0,1,2,3] rfl ?_
  refine Go.Sx.V rfl wu rfl rfl (mv rfl) ?_
  refine C rfl wu rfl rfl Tryz.call149 (gOrder P g _ hG) ?_
  rintro _ w1 hE1 rfl
  refine MK (n := P.q.toNat) rfl wu rfl rfl ty90 rfl ?_
  intro seen w3 hE3 hs hsb
  rw [seenB_zero P xs] at hs
  refine Go.Sx.V rfl wu rfl rfl (asg rfl) ?_
  refine wr_nil (post_thenN (wc_seq (wc_seq ?_)))
  have hE := hE1.trans hE3
  replace hs := hs.mono (B' := w.heap.size) hE1.size
  refine wc_region [0,1,2] rfl ?_
  refine Go.Sx.V rfl wu rfl rfl (mv rfl) ?_
  refine Go.Sx.V rfl wu rfl rfl (lenI rfl ty22) ?_
  refine Go.Sx.V rfl wu rfl rfl (mv rfl) ?_
  refine wr_nil (post_thenN (wc_block ?_))
  refine wc_loop (fun i : Nat => [(0, g), (1, u), (2, v), (8, seen), (26, u), (27, .int .i64 xs.length), (28, .int .i64 i)])
    (fun i w' => i ≤ xs.length ∧ Ext w w' ∧ Sx.Own w.heap.size w' seen 4 (seenB P xs i)) (fun i => xs.length - i) 0 ⟨rfl, rfl, rfl, rfl, rfl, rfl, rfl, trivial⟩ ⟨by omega, hE, hs⟩ ?_
  clear hE hs hE1 hE3
  rintro i w4 ⟨i1, hE, hs⟩
  have hui := hu.ext hE
  have hsl := seenB_length P xs i
  try dsimp only
  refine wc_seq ?_
  refine wc_region [0] rfl ?_
  refine Go.Sx.V rfl wu rfl rfl (lssI rfl rfl) ?_
  refine wr_nil (post_thenN (wc_seq ?_))
  refine wc_cond rfl ?_ ?_
  · intro hc
    simp at hc
    have hz : (inK P (gi xs i) + inK P 0).1 = (inK P (gi xs i)).1 := by rw [inK0, add_zero]
    have hr := (inK P (gi xs i)).2
    refine wc_skip (post_thenN (wc_seq (wc_block (wc_seq ?_))))
    refine wc_region [0,1,2] rfl ?_
    refine Go.Sx.V rfl wu rfl rfl (iadI rfl rfl ty22 hui (by omega) (by omega)) ?_
    refine Go.Sx.V rfl wu rfl rfl (ldI rfl na3 hui) ?_
    refine Go.Sx.V rfl wu rfl rfl (asg rfl) ?_
    refine wr_nil (post_thenN (wc_seq ?_))
    refine wc_region [0,1,2,3] rfl ?_
    refine Go.Sx.V rfl wu rfl rfl (mv rfl) ?_
    refine Go.Sx.V rfl wu rfl rfl (mv rfl) ?_
    refine C rfl wu rfl rfl Tryz.call124 (gAdd P g _ _ _ (hG.ext hE)) ?_
    rintro _ w5 hE5 rfl
    replace hE := hE.trans hE5
    replace hs := hs.ext hE5
    rw [hz]
    refine Go.Sx.V rfl wu rfl rfl (asg rfl) ?_
    refine wr_nil (post_thenN (wc_seq (wc_seq ?_)))
    refine wc_region [0,1,2,3] rfl ?_
    refine Go.Sx.V rfl wu rfl rfl (mv rfl) ?_
    refine Go.Sx.V rfl wu rfl rfl (mv rfl) ?_
    refine Go.Sx.V rfl wu rfl rfl (iad rfl rfl ty90 hs.sl (by omega) (by omega)) ?_
    refine Go.Sx.V rfl wu rfl rfl (ldE rfl na4 hs.sl (seenB_get (inK P (gi xs i)))) ?_
    refine wr_nil (post_thenN ?_)
    have hno : sn P xs i (inK P (gi xs i)).1 = false := sn_false i1 fun j hj e => hd j i (by omega) hc (by omega) (Subtype.ext e)
    refine wc_condF rfl (hno) ?_
    refine wc_skip (post_thenN ?_)
    refine wc_region [0,1,2,3] rfl ?_
    refine Go.Sx.V rfl wu rfl rfl (mv rfl) ?_
    refine Go.Sx.V rfl wu rfl rfl (mv rfl) ?_
    refine Go.Sx.V rfl wu rfl rfl (iad rfl rfl ty90 hs.sl (by omega) (by omega)) ?_
    refine ST rfl wu rfl rfl sz4 rfl (by intro h; cases h) ?_ hs (by omega) (by omega)
    intro w6 hg6 hs6
    rw [seenB_step hc] at hs6
    replace hE := hE.grown hg6 hs (Nat.le_refl _)
    refine wr_nil (post_blockN (post_thenN ?_))
    refine wc_region [0,1] rfl ?_
    refine Go.Sx.V rfl wu rfl rfl (addI rfl rfl) ?_
    refine Go.Sx.V rfl wu rfl rfl (mv rfl) ?_
    refine wr_nil ?_
    exact post_loopN (i + 1) ⟨rfl, rfl, rfl, rfl, rfl, rfl, rfl, trivial⟩ ⟨by omega, hE, hs6⟩ (by omega)
  · intro hc
    refine wc_exit (post_thenE (post_loopE (post_blockX (post_thenN (wc_seq ?_)))))
    clear hs hsl hui hc i1
    refine wc_region [0] rfl ?_
    refine Go.Sx.V rfl wu rfl rfl (asg rfl) ?_
    refine wr_nil (post_thenN (wc_seq ?_))
    refine wc_region [0,1] rfl ?_
    refine BSI (zs := [1]) rfl wu rfl rfl rfl rfl ty22 ?_
    intro zr w5 hE5 _ hi5 _
    replace hE := hE.trans hE5
    refine Go.Sx.V rfl wu rfl rfl (asg rfl) ?_
    refine wr_nil (post_thenN (wc_seq (wc_seq ?_)))
    have h0 : Ints w5 zr (cl (lcP (fun i : Nat => inK P (gi xs i)) (fun _ => true) 0)) := by
      show Ints w5 zr (cl 1)
      rw [cl_one]; exact hi5
    have h1 : Ints w5 (.slice none 0 0) (cl (0 : Pol (K P))) := by rw [cl_nil.2 rfl]; exact Ints.nil _
    refine wc_region [0,1,2] rfl ?_
    refine Go.Sx.V rfl wu rfl rfl (mv rfl) ?_
    refine Go.Sx.V rfl wu rfl rfl (lenI rfl ty22) ?_
    refine Go.Sx.V rfl wu rfl rfl (mv rfl) ?_
    refine wr_nil (post_thenN (wc_block ?_))
    refine wc_loop (fun p : Nat × Value × Value => [(0, g), (2, v), (11, p.2.1), (12, p.2.2), (44, u), (45, .int .i64 xs.length), (46, .int .i64 p.1)])
      (fun p w' => p.1 ≤ xs.length ∧ Ext w w' ∧ Ints w' p.2.2 (cl (lcP (fun i : Nat => inK P (gi xs i)) (fun _ => true) p.1)) ∧ ∃ F, Ints w' p.2.1 (cl F) ∧ YB p.1 F ∧ ∀ j : Nat, j < p.1 → val1 F (inK P (gi xs j)) = inK P (gi ys j)) (fun p => xs.length - p.1) (0, .slice none 0 0, zr) ⟨rfl, rfl, rfl, rfl, rfl, rfl, rfl, trivial⟩ ⟨by simp, hE, h0, 0, h1, fun _ _ => rfl, fun j hj => absurd hj (by simp)⟩ ?_
    clear hE h0 h1 hi5 hE5
    rintro ⟨i, out, zr⟩ w4 ⟨i1, hE, hz, F, ho, hy, hF⟩
    dsimp only at i1 hz ho hy hF
    have hui := hu.ext hE
    have hvi := hv.ext hE
    have hzl := (lcP_all_dg hK (fun i : Nat => inK P (gi xs i)) i).len
    have hol : (cl F).length ≤ i := cl_len hy
    try dsimp only
    refine wc_seq ?_
    refine wc_region [0] rfl ?_
    refine Go.Sx.V rfl wu rfl rfl (lssI rfl rfl) ?_
    refine wr_nil (post_thenN (wc_seq ?_))
    refine wc_cond rfl ?_ ?_
    · intro hc
      simp at hc
      have hne : val1 (lcP (fun i : Nat => inK P (gi xs i)) (fun _ => true) i) (inK P (gi xs i)) ≠ 0 := lcP_ne hK _ fun j hj => hd i j hc (by omega) (by omega)
      have hmul := mul_invK hgen hne
      refine wc_skip (post_thenN (wc_seq (wc_block (wc_seq ?_))))
      refine wc_region [0,1,2,3,4] rfl ?_
      refine Go.Sx.V rfl wu rfl rfl (mv rfl) ?_
      refine Go.Sx.V rfl wu rfl rfl (iadI rfl rfl ty22 hui (by omega) (by omega)) ?_
      refine Go.Sx.V rfl wu rfl rfl (ldI rfl na3 hui) ?_
      refine Go.Sx.V rfl wu rfl rfl (asg rfl) ?_
      refine Go.Sx.V rfl wu rfl rfl (asg rfl) ?_
      refine wr_nil (post_thenN (wc_seq ?_))
      refine wc_draw mixed [0,1,2,3,4,5,6,7,8,9,10] (by kernel_rfl) ?_
      intro w5 hd5 _
      replace hE := hE.trans hd5
      replace hz := hz.ext hd5
      replace ho := ho.ext hd5
      replace hvi := hvi.ext hd5
      refine Go.Sx.V rfl wu rfl rfl (mv rfl) ?_
      refine Go.Sx.V rfl wu rfl rfl (mv rfl) ?_
      refine Go.Sx.V rfl wu rfl rfl (mv rfl) ?_
      refine Go.Sx.V rfl wu rfl rfl (iadI rfl rfl ty22 hvi (by omega) (by omega)) ?_
      refine Go.Sx.V rfl wu rfl rfl (ldI rfl na3 hvi) ?_
      refine Go.Sx.V rfl wu rfl rfl (mv rfl) ?_
      refine Go.Sx.V rfl wu rfl rfl (mv rfl) ?_
      refine Go.Sx.V rfl wu rfl rfl (mv rfl) ?_
      refine C rfl wu rfl rfl Tryz.call123 (pEval P g out _ _ _ (hG.ext hE) ho (by omega)) ?_
      rintro _ w6 hE6 rfl
      replace hE := hE.trans hE6
      replace hz := hz.ext hE6
      replace ho := ho.ext hE6
      refine C rfl wu rfl rfl Tryz.call156 (gSub P g _ _ _ (hG.ext hE)) ?_
      rintro _ w7 hE7 rfl
      replace hE := hE.trans hE7
      replace hz := hz.ext hE7
      replace ho := ho.ext hE7
      refine Go.Sx.V rfl wu rfl rfl (asg rfl) ?_
      refine wr_nil (post_thenN (wc_seq ?_))
      rw [pz_cl, inK_val]
      refine wc_region [0,1,2,3,4,5,6,7,8,9,10,11] rfl ?_
      refine Go.Sx.V rfl wu rfl rfl (mv rfl) ?_
      refine Go.Sx.V rfl wu rfl rfl (mv rfl) ?_
      refine Go.Sx.V rfl wu rfl rfl (mv rfl) ?_
      refine Go.Sx.V rfl wu rfl rfl (mv rfl) ?_
      refine Go.Sx.V rfl wu rfl rfl (mv rfl) ?_
      refine C rfl wu rfl rfl Tryz.call123 (pEval P g zr _ _ _ (hG.ext hE) hz (by omega)) ?_
      rintro _ w8 hE8 rfl
      replace hE := hE.trans hE8
      replace hz := hz.ext hE8
      replace ho := ho.ext hE8
      rw [pz_cl]
      refine C rfl wu rfl rfl Tryz.call56 (gDiv P g _ _ _ (hG.ext hE) (by rw [inK_val]; exact hne)) ?_
      rintro _ w9 hE9 rfl
      replace hE := hE.trans hE9
      replace hz := hz.ext hE9
      replace ho := ho.ext hE9
      rw [inK_val, inK_val]
      refine Go.Sx.V rfl wu rfl rfl (mv rfl) ?_
      refine Go.Sx.V rfl wu rfl rfl (ext rfl rfl) ?_
      refine Go.Sx.V rfl wu rfl rfl (ext rfl rfl) ?_
      refine Go.Sx.V rfl wu rfl rfl (asg rfl) ?_
      refine Go.Sx.V rfl wu rfl rfl (asg rfl) ?_
      refine wr_nil (post_thenN (wc_seq ?_))
      refine wc_region [0,1,2,3,4,5] rfl ?_
      refine Go.Sx.V rfl wu rfl rfl (mv rfl) ?_
      refine Go.Sx.V rfl wu rfl rfl (mv rfl) ?_
      refine Go.Sx.V rfl wu rfl rfl (mv rfl) ?_
      refine Go.Sx.V rfl wu rfl rfl (mv rfl) ?_
      refine C rfl wu rfl rfl Tryz.call157 (pCombine P g out zr _ _ _ _ (hG.ext hE) ho hz (by omega) (by omega)) ?_
      intro out2 wa hEa hoa
      replace hE := hE.trans hEa
      replace hz := hz.ext hEa
      have ho2 := OwnI.ints hoa
      refine Go.Sx.V rfl wu rfl rfl (asg rfl) ?_
      refine wr_nil (post_thenN ?_)
      refine wc_region [0,1,2,3,4,5,6,7] rfl ?_
      refine Go.Sx.V rfl wu rfl rfl (mv rfl) ?_
      refine Go.Sx.V rfl wu rfl rfl (mv rfl) ?_
      refine Go.Sx.V rfl wu rfl rfl (mv rfl) ?_
      refine Go.Sx.V rfl wu rfl rfl (mv rfl) ?_
      refine C rfl wu rfl rfl Tryz.call151 (gNeg P g _ _ (hG.ext hE)) ?_
      rintro _ wb hEb rfl
      replace hE := hE.trans hEb
      replace hz := hz.ext hEb
      replace ho2 := ho2.ext hEb
      refine BSI (zs := [(-inK P (gi xs i)).1, 1]) rfl wu rfl rfl rfl rfl ty22 ?_
      intro l wc hEc _ hl2 _
      replace hE := hE.trans hEc
      replace hz := hz.ext hEc
      replace ho2 := ho2.ext hEc
      refine C rfl wu rfl rfl Tryz.call158 (pProduct P g zr l _ _ _ (hG.ext hE) hz hl2 (by omega) (by simp)) ?_
      intro zr2 wd hEd hzd
      replace hE := hE.trans hEd
      replace ho2 := ho2.ext hEd
      have hz2 := OwnI.ints hzd
      refine Go.Sx.V rfl wu rfl rfl (asg rfl) ?_
      refine wr_nil (post_blockN (post_thenN ?_))
      rw [pz_cl, pz_lin, ← lcP_all_succ (fun i : Nat => inK P (gi xs i))] at hz2
      rw [pz_cl, pz_cl, inK_val] at ho2
      have hst := newton_step (X := fun i : Nat => inK P (gi xs i)) (Y := fun i : Nat => inK P (gi ys i)) hF (fun j hj => lcP_zero (fun i : Nat => inK P (gi xs i)) (fun _ => true) hj rfl) hmul
      refine wc_region [0,1] rfl ?_
      refine Go.Sx.V rfl wu rfl rfl (addI rfl rfl) ?_
      refine Go.Sx.V rfl wu rfl rfl (mv rfl) ?_
      refine wr_nil ?_
      exact post_loopN (i + 1, out2, zr2) ⟨rfl, rfl, rfl, rfl, rfl, rfl, rfl, trivial⟩ ⟨by (try dsimp only); omega, hE, hz2, _, ho2, yb_add (yb_mono hy (by omega)) (fun t ht => by rw [co_pC_mul, (lcP_all_dg hK (fun i : Nat => inK P (gi xs i)) i).1 t ht, mul_zero]), hst⟩ (by (try dsimp only); omega)
    · intro hc
      simp at hc
      obtain rfl : i = xs.length := by omega
      refine wc_exit (post_thenE (post_loopE (post_blockX (post_thenN (wc_seq ?_)))))
      refine wc_region [0,1,2] rfl ?_
      refine Go.Sx.V rfl wu rfl rfl (mv rfl) ?_
      refine Go.Sx.V rfl wu rfl rfl (asg rfl) ?_
      refine Go.Sx.V rfl wu rfl rfl (asg rfl) ?_
      refine wr_nil (post_thenN (wc_ret ?_))
      refine post_ret2 rfl rfl rfl ?_
      exact ⟨hE, _, F, rfl, ho, hy, hF⟩
end Go.Proofs.YtmnojknfjbimdaaGreat

