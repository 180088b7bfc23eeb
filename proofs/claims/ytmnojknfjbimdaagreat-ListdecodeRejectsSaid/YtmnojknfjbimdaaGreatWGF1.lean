/-
  The program's methods of a field, by contract: Order, Is, in, Add, Neg, Sub, Mul, Sum. They answer as the ring of residues does.
-/
import Derived.Test.YtmnojknfjbimdaaGreatWField5
import Derived.Test.YtmnojknfjbimdaaGreatWMGa
import Derived.Test.YtmnojknfjbimdaaGreatWMSxa
namespace Go.Proofs.YtmnojknfjbimdaaGreat
open Go Go.Sx Go.Pl Go.RowKit Go.Fd Go.Alg
theorem gIs (P : FP) (g : Value) (x : Int) (w : World) (hG : GFV w P g) :
    Calls Tryz.prog 55 #[g, .int .i64 x] w (RetX w fun v _ => v = .bool (decide (0 ≤ x) && decide (x < P.q))) := by
  obtain ⟨b, mc, exp, log, md, lg, x0, rfl, hB, hF, hx, hei, hli, hL⟩ := hG.ex
  refine calls2 Tryz.func55 rfl rfl ?_
  refine wc_seq ?_
  refine wc_region [0] rfl ?_
  refine Go.Sx.V rfl wu rfl rfl (asg rfl) ?_
  refine wr_nil (post_thenN (wc_seq ?_))
  refine wc_region [0,1,2,3,4,5,6,7,8,9,10] rfl ?_
  refine Go.Sx.V rfl wu rfl rfl (mv rfl) ?_
  refine Go.Sx.V rfl wu rfl rfl (geqI rfl rfl) ?_
  refine Go.Sx.V rfl wu rfl rfl (mv rfl) ?_
  refine AND (π1 := [3,4,5,6,7,8,9]) (π2 := [10]) (tc := 7) (tp := 14) rfl rfl rfl (by
      intro hg
      simp at hg
      refine Go.Sx.V rfl (wg rfl rfl) rfl rfl (mv rfl) ?_
      refine Go.Sx.V rfl (wg rfl rfl) rfl rfl (mv rfl) ?_
      refine Go.Sx.V rfl (wg rfl rfl) rfl rfl (nchk rfl) ?_
      refine Go.Sx.V rfl (wg rfl rfl) rfl rfl (fad rfl fa120_1) ?_
      refine Go.Sx.V rfl (wg rfl rfl) rfl rfl (ldB rfl na3) ?_
      refine Go.Sx.V rfl (wg rfl rfl) rfl rfl (lssI rfl rfl) ?_
      refine Go.Sx.V rfl wu rfl rfl (pk rfl rfl) ?_
      exact join rfl) (by
      intro _
      refine SK rfl rfl rfl rfl rfl ?_
      refine SK rfl rfl rfl rfl rfl ?_
      refine SK rfl rfl rfl rfl rfl ?_
      refine SK rfl rfl rfl rfl rfl ?_
      refine SK rfl rfl rfl rfl rfl ?_
      refine SK rfl rfl rfl rfl rfl ?_
      refine Go.Sx.V rfl wu rfl rfl (pk rfl rfl) ?_
      exact join rfl) ?_
  refine Go.Sx.V rfl wu rfl rfl (asg rfl) ?_
  refine wr_nil (post_thenN (wc_ret ?_))
  refine post_ret1 rfl rfl ?_
  exact ⟨Ext.refl _, rfl⟩
theorem gIn (P : FP) (g : Value) (x : Int) (w : World) (hG : GFV w P g) :
    Calls Tryz.prog 126 #[g, .int .i64 x] w (RetX w fun v _ => v = .int .i64 (inK P x).1) := by
  refine calls2 Tryz.func126 rfl rfl ?_
  refine wc_seq ?_
  refine wc_region [0] rfl ?_
  refine Go.Sx.V rfl wu rfl rfl (asg rfl) ?_
  refine wr_nil (post_thenN (wc_seq (wc_seq ?_)))
  refine wc_region [0,1,2] rfl ?_
  refine Go.Sx.V rfl wu rfl rfl (mv rfl) ?_
  refine Go.Sx.V rfl wu rfl rfl (mv rfl) ?_
  refine C rfl wu rfl rfl Tryz.call55 (gIs P g x _ hG) ?_
  rintro _ w2 hE2 rfl
  refine wr_nil (post_thenN ?_)
  refine wc_cond rfl ?_ ?_
  · intro h
    simp at h
    refine wc_seq ?_
    refine wc_region [0,1] rfl ?_
    refine Go.Sx.V rfl wu rfl rfl (mv rfl) ?_
    refine Go.Sx.V rfl wu rfl rfl (asg rfl) ?_
    refine wr_nil (post_thenN (wc_ret (post_thenR ?_)))
    refine post_ret1 rfl rfl ?_
    exact ⟨hE2, by rw [inK_in h]⟩
  · intro h
    simp at h
    refine wc_skip (post_thenN (wc_seq ?_))
    refine wc_region [0] rfl ?_
    refine Go.Sx.V rfl wu rfl rfl (asg rfl) ?_
    refine wr_nil (post_thenN (wc_ret ?_))
    refine post_ret1 rfl rfl ?_
    exact ⟨hE2, by rw [inK_out (by omega)]; rfl⟩
theorem div_zero_pow {p : Int} {x : Int} {k m : Nat} (hp : 2 ≤ p) (h0 : 0 ≤ x) (h1 : x < p ^ m) (hk : m ≤ k) : x / p ^ k = 0 := by
  have := pow_mono hp hk
  exact Int.ediv_eq_zero_of_lt h0 (by omega)
theorem div_next {p x : Int} (hp : 2 ≤ p) (k : Nat) : x / p ^ k / p = x / p ^ (k + 1) := by
  have := pow_pos' hp k
  rw [Int.pow_succ, Int.ediv_ediv, if_neg (by omega), Int.sub_zero]
theorem div_stays {p x : Int} (hp : 2 ≤ p) {k j : Nat} (hkj : k ≤ j) (h : x / p ^ k = 0) : x / p ^ j = 0 := by
  obtain ⟨m, rfl⟩ : ∃ m, j = k + m := ⟨j - k, by omega⟩
  have := pow_pos' hp k
  rw [Int.pow_add, ← Int.ediv_ediv_of_nonneg (by omega), h, Int.zero_ediv]
set_option maxRecDepth 10000 in
theorem gAdd (P : FP) (g : Value) (x y : Int) (w : World) (hG : GFV w P g) :
    Calls Tryz.prog 124 #[g, .int .i64 x, .int .i64 y] w (RetX w fun v _ => v = .int .i64 (inK P x + inK P y).1) := by
  refine calls3 Tryz.func124 rfl rfl ?_
  refine wc_seq ?_
  refine wc_region [0] rfl ?_
  refine Go.Sx.V rfl wu rfl rfl (asg rfl) ?_
  refine wr_nil (post_thenN (wc_seq ?_))
  refine wc_region [0,1,2,3,4,5,6,7] rfl ?_
  refine Go.Sx.V rfl wu rfl rfl (mv rfl) ?_
  refine Go.Sx.V rfl wu rfl rfl (mv rfl) ?_
  refine C rfl wu rfl rfl Tryz.call126 (gIn P g x _ hG) ?_
  rintro _ w2 hE2 rfl
  refine Go.Sx.V rfl wu rfl rfl (mv rfl) ?_
  refine Go.Sx.V rfl wu rfl rfl (mv rfl) ?_
  refine C rfl wu rfl rfl Tryz.call126 (gIn P g y _ (hG.ext hE2)) ?_
  rintro _ w3 hE3 rfl
  refine Go.Sx.V rfl wu rfl rfl (asg rfl) ?_
  refine Go.Sx.V rfl wu rfl rfl (asg rfl) ?_
  refine wr_nil (post_thenN (wc_seq (wc_seq ?_)))
  have hE := hE2.trans hE3
  have hE0 := hE
  replace hG := hG.ext hE
  clear hE2 hE3
  obtain ⟨b, mc, exp, log, md, lg, x0, rfl, hB, hF, hx, hei, hli, hL⟩ := hG.ex
  generalize inK P x = X
  generalize inK P y = Y
  have hX := X.2
  have hY := Y.2
  have hq := hF.q
  have hp := P.hp
  have hp2 := hF.p
  refine wc_region [0,1,2,3,4,5] rfl ?_
  refine Go.Sx.V rfl wu rfl rfl (mv rfl) ?_
  refine Go.Sx.V rfl wu rfl rfl (nchk rfl) ?_
  refine Go.Sx.V rfl wu rfl rfl (fad rfl fa120_0) ?_
  refine Go.Sx.V rfl wu rfl rfl (fad rfl fa24_0) ?_
  refine Go.Sx.V rfl wu rfl rfl (ldB rfl na3) ?_
  refine Go.Sx.V rfl wu rfl rfl (eqlI rfl rfl) ?_
  refine wr_nil (post_thenN ?_)
  refine wc_cond rfl ?_ ?_
  · intro h
    simp at h
    refine wc_seq ?_
    refine wc_region [0,1,2,3] rfl ?_
    refine Go.Sx.V rfl wu rfl rfl (mv rfl) ?_
    refine Go.Sx.V rfl wu rfl rfl (mv rfl) ?_
    refine Go.Sx.V rfl wu rfl rfl (xorI rfl rfl) ?_
    refine Go.Sx.V rfl wu rfl rfl (asg rfl) ?_
    refine wr_nil (post_thenN (wc_ret (post_thenR ?_)))
    refine post_ret1 rfl rfl ?_
    refine ⟨hE, ?_⟩
    have h1 : X.1 < 2 ^ P.M := by have : X.1 < P.p ^ P.M := X.2.2; rw [h] at this; exact this
    have h2 : Y.1 < 2 ^ P.M := by have : Y.1 < P.p ^ P.M := Y.2.2; rw [h] at this; exact this
    have hc : ((2 ^ P.M : Nat) : Int) = 2 ^ P.M := by rw [Int.natCast_pow]; rfl
    rw [add_ps, h, xor_ps P.M X.1.toNat Y.1.toNat (by omega) (by omega)]
    congr 2
    rw [Int.toNat_of_nonneg hX.1, Int.toNat_of_nonneg hY.1]
  · intro h
    simp at h
    refine wc_skip (post_thenN (wc_seq ?_))
    refine wc_region [0,1] rfl ?_
    refine Go.Sx.V rfl wu rfl rfl (asg rfl) ?_
    refine Go.Sx.V rfl wu rfl rfl (asg rfl) ?_
    refine wr_nil (post_thenN (wc_seq (wc_block ?_)))
    refine wc_loop (fun k : Nat => [(0, .pointer (some ⟨b, 0, none⟩)), (1, .int .i64 (X.1 / P.p ^ k)), (2, .int .i64 (Y.1 / P.p ^ k)), (7, .int .i64 (ps P.p (da P.p X.1 Y.1) k)), (8, .int .i64 (P.p ^ k))])
      (fun k w' => k ≤ P.M ∧ Ext w3 w') (fun k => P.M - k) 0 ⟨rfl, by rw [Int.pow_zero, Int.ediv_one]; rfl, by rw [Int.pow_zero, Int.ediv_one]; rfl, rfl, by rw [Int.pow_zero]; rfl, trivial⟩ ⟨by omega, Ext.refl _⟩ ?_
    clear hE
    rintro k w4 ⟨hk, hE⟩
    have hpk := pow_pos' hp k
    have hx0 : 0 ≤ X.1 / P.p ^ k := Int.ediv_nonneg hX.1 (by omega)
    have hy0 : 0 ≤ Y.1 / P.p ^ k := Int.ediv_nonneg hY.1 (by omega)
    have hx1 : X.1 / P.p ^ k ≤ X.1 := Int.ediv_le_self _ hX.1
    have hy1 : Y.1 / P.p ^ k ≤ Y.1 := Int.ediv_le_self _ hY.1
    try dsimp only
    refine wc_seq (wc_seq ?_)
    refine wc_region [0,1,2,3,4,5] rfl ?_
    refine Go.Sx.V rfl wu rfl rfl (mv rfl) ?_
    refine Go.Sx.V rfl wu rfl rfl (gtrI rfl rfl) ?_
    refine Go.Sx.V rfl wu rfl rfl (mv rfl) ?_
    refine OR (π1 := [3,4,5]) (π2 := []) (tc := 26) (tp := 29) rfl rfl rfl (by
        intro _
        refine SK rfl rfl rfl rfl rfl ?_
        refine SK rfl rfl rfl rfl rfl ?_
        refine Go.Sx.V rfl wu rfl rfl (pk rfl rfl) ?_
        exact join rfl) (by
        intro hg
        simp at hg
        refine Go.Sx.V rfl (wg rfl rfl) rfl rfl (mv rfl) ?_
        refine Go.Sx.V rfl (wg rfl rfl) rfl rfl (gtrI rfl rfl) ?_
        refine Go.Sx.V rfl wu rfl rfl (pk rfl rfl) ?_
        exact join rfl) ?_
    refine wr_nil (post_thenN ?_)
    refine wc_cond rfl ?_ ?_
    · intro hc
      simp at hc
      refine wc_skip (post_thenN (wc_block (wc_seq ?_)))
      have hkM : k < P.M := by
        apply Classical.byContradiction
        intro hn
        have e1 := div_zero_pow hp hX.1 hX.2 (k := k) (by omega)
        have e2 := div_zero_pow hp hY.1 hY.2 (k := k) (by omega)
        omega
      have hpq : P.p ^ k ≤ P.q := pow_mono hp hk
      have hd : ∀ j, 0 ≤ da P.p X.1 Y.1 j ∧ da P.p X.1 Y.1 j < P.p := fun j => ⟨Int.emod_nonneg _ (by omega), Int.emod_lt_of_pos _ (by omega)⟩
      have hs := ps_range hp hd k
      have hdk := hd k
      have hm := mul_le' (a := da P.p X.1 Y.1 k) (b := P.p ^ k) (c := 256) (d := 256) hdk.1 (by omega) (by omega) (by omega)
      have hm2 := mul_le' (a := P.p ^ k) (b := P.p) (c := 256) (d := 256) (by omega) (by omega) (by omega) (by omega)
      unfold da at hm hdk
      have r1 : 0 ≤ X.1 / P.p ^ k % P.p := Int.emod_nonneg _ (by omega)
      have r2 : 0 ≤ Y.1 / P.p ^ k % P.p := Int.emod_nonneg _ (by omega)
      have r3 : X.1 / P.p ^ k % P.p < P.p := Int.emod_lt_of_pos _ (by omega)
      have r4 : Y.1 / P.p ^ k % P.p < P.p := Int.emod_lt_of_pos _ (by omega)
      refine wc_draw mixed [0,1,2,3,4,5,6,7,8,9,10,11,12,13,14,15,16,17,18,19,20,21,22,23,24,25] (by kernel_rfl) ?_
      intro w5 hd _
      replace hE := hE.trans hd
      refine Go.Sx.V rfl wu rfl rfl (mv rfl) ?_
      refine Go.Sx.V rfl wu rfl rfl (mv rfl) ?_
      refine Go.Sx.V rfl wu rfl rfl (mv rfl) ?_
      refine Go.Sx.V rfl wu rfl rfl (nchk rfl) ?_
      refine Go.Sx.V rfl wu rfl rfl (fad rfl fa120_0) ?_
      refine Go.Sx.V rfl wu rfl rfl (fad rfl fa24_0) ?_
      refine Go.Sx.V rfl wu rfl rfl (ldB rfl na3) ?_
      refine Go.Sx.V rfl wu rfl rfl (remI rfl rfl) ?_
      refine Go.Sx.V rfl wu rfl rfl (mv rfl) ?_
      refine Go.Sx.V rfl wu rfl rfl (mv rfl) ?_
      refine Go.Sx.V rfl wu rfl rfl (nchk rfl) ?_
      refine Go.Sx.V rfl wu rfl rfl (fad rfl fa120_0) ?_
      refine Go.Sx.V rfl wu rfl rfl (fad rfl fa24_0) ?_
      refine Go.Sx.V rfl wu rfl rfl (ldB rfl na3) ?_
      refine Go.Sx.V rfl wu rfl rfl (remI rfl rfl) ?_
      refine Go.Sx.V rfl wu rfl rfl (addI rfl rfl) ?_
      refine Go.Sx.V rfl wu rfl rfl (mv rfl) ?_
      refine Go.Sx.V rfl wu rfl rfl (nchk rfl) ?_
      refine Go.Sx.V rfl wu rfl rfl (fad rfl fa120_0) ?_
      refine Go.Sx.V rfl wu rfl rfl (fad rfl fa24_0) ?_
      refine Go.Sx.V rfl wu rfl rfl (ldB rfl na3) ?_
      refine Go.Sx.V rfl wu rfl rfl (remI rfl rfl) ?_
      refine Go.Sx.V rfl wu rfl rfl (mv rfl) ?_
      refine Go.Sx.V rfl wu rfl rfl (mulI rfl rfl) ?_
      refine Go.Sx.V rfl wu rfl rfl (addI rfl rfl) ?_
      refine Go.Sx.V rfl wu rfl rfl (asg rfl) ?_
      refine wr_nil (post_thenN (wc_seq ?_))
      refine wc_region [0,1,2,3,4,5,6,7] rfl ?_
      refine Go.Sx.V rfl wu rfl rfl (mv rfl) ?_
      refine Go.Sx.V rfl wu rfl rfl (mv rfl) ?_
      refine Go.Sx.V rfl wu rfl rfl (nchk rfl) ?_
      refine Go.Sx.V rfl wu rfl rfl (fad rfl fa120_0) ?_
      refine Go.Sx.V rfl wu rfl rfl (fad rfl fa24_0) ?_
      refine Go.Sx.V rfl wu rfl rfl (ldB rfl na3) ?_
      refine Go.Sx.V rfl wu rfl rfl (mulI rfl rfl) ?_
      refine Go.Sx.V rfl wu rfl rfl (asg rfl) ?_
      refine wr_nil (post_thenN (wc_seq ?_))
      refine wc_region [0,1,2,3,4,5,6,7] rfl ?_
      refine Go.Sx.V rfl wu rfl rfl (mv rfl) ?_
      refine Go.Sx.V rfl wu rfl rfl (mv rfl) ?_
      refine Go.Sx.V rfl wu rfl rfl (nchk rfl) ?_
      refine Go.Sx.V rfl wu rfl rfl (fad rfl fa120_0) ?_
      refine Go.Sx.V rfl wu rfl rfl (fad rfl fa24_0) ?_
      refine Go.Sx.V rfl wu rfl rfl (ldB rfl na3) ?_
      refine Go.Sx.V rfl wu rfl rfl (quoI rfl rfl) ?_
      refine Go.Sx.V rfl wu rfl rfl (asg rfl) ?_
      refine wr_nil (post_thenN ?_)
      rw [div_next hp k]
      refine wc_region [0,1,2,3,4,5,6,7] rfl ?_
      refine Go.Sx.V rfl wu rfl rfl (mv rfl) ?_
      refine Go.Sx.V rfl wu rfl rfl (mv rfl) ?_
      refine Go.Sx.V rfl wu rfl rfl (nchk rfl) ?_
      refine Go.Sx.V rfl wu rfl rfl (fad rfl fa120_0) ?_
      refine Go.Sx.V rfl wu rfl rfl (fad rfl fa24_0) ?_
      refine Go.Sx.V rfl wu rfl rfl (ldB rfl na3) ?_
      refine Go.Sx.V rfl wu rfl rfl (quoI rfl rfl) ?_
      refine Go.Sx.V rfl wu rfl rfl (asg rfl) ?_
      refine wr_nil (post_blockN ?_)
      rw [div_next hp k]
      exact post_loopN (k + 1) ⟨rfl, rfl, rfl, rfl, by rw [Int.pow_succ]; rfl, trivial⟩ ⟨hkM, hE⟩ (by omega)
    · intro hc
      simp at hc
      refine wc_exit (post_thenE (post_loopE (post_blockX (post_thenN (wc_seq ?_)))))
      refine wc_region [0,1] rfl ?_
      refine Go.Sx.V rfl wu rfl rfl (mv rfl) ?_
      refine Go.Sx.V rfl wu rfl rfl (asg rfl) ?_
      refine wr_nil (post_thenN (wc_ret ?_))
      refine post_ret1 rfl rfl ?_
      refine ⟨hE0.trans hE, ?_⟩
      have e1 : X.1 / P.p ^ k = 0 := by omega
      have e2 : Y.1 / P.p ^ k = 0 := by omega
      rw [add_ps, ps_more (f := da P.p X.1 Y.1) (k := k) (fun j hj => ?_) P.M hk]
      rw [da, div_stays hp hj e1, div_stays hp hj e2]
      simp
set_option maxRecDepth 10000 in
theorem gMul (P : FP) (g : Value) (x y : Int) (w : World) (hG : GFV w P g) :
    Calls Tryz.prog 87 #[g, .int .i64 x, .int .i64 y] w (RetX w fun v _ => v = .int .i64 (inK P x * inK P y).1) := by
  refine calls3 Tryz.func87 rfl rfl ?_
  refine wc_seq ?_
  refine wc_region [0] rfl ?_
  refine Go.Sx.V rfl wu rfl rfl (asg rfl) ?_
  refine wr_nil (post_thenN (wc_seq ?_))
  refine wc_region [0,1,2,3,4,5,6,7] rfl ?_
  refine Go.Sx.V rfl wu rfl rfl (mv rfl) ?_
  refine Go.Sx.V rfl wu rfl rfl (mv rfl) ?_
  refine C rfl wu rfl rfl Tryz.call126 (gIn P g x _ hG) ?_
  rintro _ w2 hE2 rfl
  refine Go.Sx.V rfl wu rfl rfl (mv rfl) ?_
  refine Go.Sx.V rfl wu rfl rfl (mv rfl) ?_
  refine C rfl wu rfl rfl Tryz.call126 (gIn P g y _ (hG.ext hE2)) ?_
  rintro _ w3 hE3 rfl
  refine Go.Sx.V rfl wu rfl rfl (asg rfl) ?_
  refine Go.Sx.V rfl wu rfl rfl (asg rfl) ?_
  refine wr_nil (post_thenN (wc_seq (wc_seq ?_)))
  have hE := hE2.trans hE3
  replace hG := hG.ext hE
  clear hE2 hE3
  obtain ⟨b, mc, exp, log, md, lg, x0, rfl, hB, hF, hx, hei, hli, hL⟩ := hG.ex
  generalize inK P x = X
  generalize inK P y = Y
  have hX := X.2
  have hY := Y.2
  have hq := hF.q
  refine wc_region [0,1,2,3,4,5] rfl ?_
  refine Go.Sx.V rfl wu rfl rfl (mv rfl) ?_
  refine Go.Sx.V rfl wu rfl rfl (eqlI rfl rfl) ?_
  refine Go.Sx.V rfl wu rfl rfl (mv rfl) ?_
  refine OR (π1 := [3,4,5]) (π2 := []) (tc := 15) (tp := 18) rfl rfl rfl (by
      intro _
      refine SK rfl rfl rfl rfl rfl ?_
      refine SK rfl rfl rfl rfl rfl ?_
      refine Go.Sx.V rfl wu rfl rfl (pk rfl rfl) ?_
      exact join rfl) (by
      intro hg
      simp at hg
      refine Go.Sx.V rfl (wg rfl rfl) rfl rfl (mv rfl) ?_
      refine Go.Sx.V rfl (wg rfl rfl) rfl rfl (eqlI rfl rfl) ?_
      refine Go.Sx.V rfl wu rfl rfl (pk rfl rfl) ?_
      exact join rfl) ?_
  refine wr_nil (post_thenN ?_)
  refine wc_cond rfl ?_ ?_
  · intro h
    simp at h
    refine wc_seq ?_
    refine wc_region [0] rfl ?_
    refine Go.Sx.V rfl wu rfl rfl (asg rfl) ?_
    refine wr_nil (post_thenN (wc_ret (post_thenR ?_)))
    refine post_ret1 rfl rfl ?_
    refine ⟨hE, ?_⟩
    rcases h with h | h
    · rw [show X = 0 from Subtype.ext h, zero_mul]; rfl
    · rw [show Y = 0 from Subtype.ext h, mul_zero]; rfl
  · intro h
    simp at h
    refine wc_skip (post_thenN (wc_seq ?_))
    obtain ⟨i, hi, eX⟩ := gen_all hx X (fun e => h.1 (by rw [e]; rfl))
    obtain ⟨j, hj, eY⟩ := gen_all hx Y (fun e => h.2 (by rw [e]; rfl))
    have gX := hL.2 i hi
    have gY := hL.2 j hj
    rw [eX] at gX
    rw [eY] at gY
    have hl := hL.1
    have hpl := pows_length x0 (n1 P)
    have hn1 := n1_eq (P := P)
    have hq2 := P.q_two
    have m0 : 0 ≤ (gi lg X.1 + gi lg Y.1) % (P.q - 1) := Int.emod_nonneg _ (by omega)
    have m1 : (gi lg X.1 + gi lg Y.1) % (P.q - 1) < P.q - 1 := Int.emod_lt_of_pos _ (by omega)
    refine wc_draw mixed [0,1,2,3,4,5,6,7,8,9,10,11,12,13,14,15,16,17,18,19,20,21,22,23,24,25,26,27] (by kernel_rfl) ?_
    intro w4 hd _
    replace hE := hE.trans hd
    replace hB := hB.ext hd
    replace hei := hei.ext hd
    replace hli := hli.ext hd
    refine Go.Sx.V rfl wu rfl rfl (mv rfl) ?_
    refine Go.Sx.V rfl wu rfl rfl (nchk rfl) ?_
    refine Go.Sx.V rfl wu rfl rfl (fad rfl fa120_2) ?_
    refine Go.Sx.V rfl wu rfl rfl (ldB rfl na22) ?_
    refine Go.Sx.V rfl wu rfl rfl (mv rfl) ?_
    refine Go.Sx.V rfl wu rfl rfl (nchk rfl) ?_
    refine Go.Sx.V rfl wu rfl rfl (fad rfl fa120_3) ?_
    refine Go.Sx.V rfl wu rfl rfl (ldB rfl na22) ?_
    refine Go.Sx.V rfl wu rfl rfl (mv rfl) ?_
    refine Go.Sx.V rfl wu rfl rfl (iadI rfl rfl ty22) ?_
    refine Go.Sx.V rfl wu rfl rfl (ldI rfl na3) ?_
    refine Go.Sx.V rfl wu rfl rfl (mv rfl) ?_
    refine Go.Sx.V rfl wu rfl rfl (nchk rfl) ?_
    refine Go.Sx.V rfl wu rfl rfl (fad rfl fa120_3) ?_
    refine Go.Sx.V rfl wu rfl rfl (ldB rfl na22) ?_
    refine Go.Sx.V rfl wu rfl rfl (mv rfl) ?_
    refine Go.Sx.V rfl wu rfl rfl (iadI rfl rfl ty22) ?_
    refine Go.Sx.V rfl wu rfl rfl (ldI rfl na3) ?_
    refine Go.Sx.V rfl wu rfl rfl (addI rfl rfl) ?_
    refine Go.Sx.V rfl wu rfl rfl (mv rfl) ?_
    refine Go.Sx.V rfl wu rfl rfl (nchk rfl) ?_
    refine Go.Sx.V rfl wu rfl rfl (fad rfl fa120_1) ?_
    refine Go.Sx.V rfl wu rfl rfl (ldB rfl na3) ?_
    refine Go.Sx.V rfl wu rfl rfl (subI rfl rfl) ?_
    refine Go.Sx.V rfl wu rfl rfl (remI rfl rfl) ?_
    refine Go.Sx.V rfl wu rfl rfl (iadI rfl rfl ty22) ?_
    refine Go.Sx.V rfl wu rfl rfl (ldI rfl na3) ?_
    refine Go.Sx.V rfl wu rfl rfl (asg rfl) ?_
    refine wr_nil (post_thenN (wc_ret ?_))
    refine post_ret1 rfl rfl ?_
    refine ⟨hE, ?_⟩
    rw [pows_get x0 m0 (by omega), gX, gY, ← eX, ← eY, ← npow_add, npow_mod hx.2.1 (i + j)]
    congr 3
    rw [← hn1, ← Int.natCast_add, ← Int.natCast_emod, Int.toNat_natCast]
def sumK (P : FP) : List Int → K P
  | [] => 0
  | x :: l => inK P x + sumK P l
end Go.Proofs.YtmnojknfjbimdaaGreat

