/-
  Words as numbers, by contract: Count, Index, FromIndex of the program and of the reference.
-/
import Derived.Test.YtlcokneidokfnaaWord1
import Derived.Test.YtlcokneidokfnaaRWord1
import Derived.Test.YtlcokneidokfnaaWordN
namespace Go.Proofs.Ytlcokneidokfnaa
open Go Go.Sx Go.Pl Go.RowKit Go.Fd Go.Alg

theorem GFV.q11 {w : World} {P : FP} {v : Value} (h : GFV w P v) : P.q ≤ 256 := by
  obtain ⟨b, mc, exp, log, md, lg, x0, _, _, hF, hx, _⟩ := h.ex
  exact hF.q
theorem pow_nx {q : Int} {k : Int} (h : 0 ≤ k) : q ^ (k + 1).toNat = q ^ k.toNat * q := by
  rw [show (k + 1).toNat = k.toNat + 1 by omega, Int.pow_succ]
theorem pow_over {q n k : Int} (hq : 2 ≤ q) (h0 : 0 ≤ k) (h1 : k < n) (h : 65536 / q < q ^ k.toNat) : ¬ q ^ n.toNat ≤ 65536 := by
  have h2 : ¬ q ^ k.toNat ≤ 65536 / q := by omega
  have h3 : ¬ q ^ k.toNat * q ≤ 65536 := fun hc => h2 ((Int.le_ediv_iff_mul_le (by omega)).2 hc)
  rw [← pow_nx h0] at h3
  have := pw_mono hq (m := (k + 1).toNat) (n := n.toNat) (by omega)
  omega
theorem pow_under {q k : Int} (hq : 2 ≤ q) (h0 : 0 ≤ k) (h : q ^ k.toNat ≤ 65536 / q) : q ^ k.toNat * q ≤ 65536 := (Int.le_ediv_iff_mul_le (by omega)).1 h
theorem cntA_out {q n : Int} (h : n < 0 ∨ 64 < n) : cntA q n = (0, 6) := if_pos h
theorem cntA_ok {q n : Int} (h : ¬ (n < 0 ∨ 64 < n)) (h2 : q ^ n.toNat ≤ 65536) : cntA q n = (q ^ n.toNat, 0) := by rw [cntA, if_neg h, if_pos h2]
theorem cntA_big {q n : Int} (h : ¬ (n < 0 ∨ 64 < n)) (h2 : ¬ q ^ n.toNat ≤ 65536) : cntA q n = (0, 8) := by rw [cntA, if_neg h, if_neg h2]

set_option maxRecDepth 10000 in
theorem nExp (q n : Int) (w : World) (hq : 2 ≤ q) (hn : ¬ (n < 0 ∨ 64 < n)) :
    Calls Try.prog 72 #[.int .i64 q, .int .i64 n, .int .i64 65536] w (RetX w fun v _ => v = .tuple #[.int .i64 (cntA q n).1, .int .i64 (cntA q n).2]) := by
  refine calls3 Try.func72 rfl rfl ?_
  refine wc_seq ?_
  refine wc_region [0,1] rfl ?_
  refine Go.Sx.V rfl wu rfl rfl (asg rfl) ?_
  refine Go.Sx.V rfl wu rfl rfl (asg rfl) ?_
  refine wr_nil (post_thenN (wc_seq (wc_seq ?_)))
  refine wc_region [0,1,2,3,4,5,6,7,8,9] rfl ?_
  refine Go.Sx.V rfl wu rfl rfl (mv rfl) ?_
  refine Go.Sx.V rfl wu rfl rfl (lssI rfl rfl) ?_
  refine Go.Sx.V rfl wu rfl rfl (mv rfl) ?_
  refine OR (π1 := [3,4,5]) (π2 := [6,7,8,9]) (tc := 11) (tp := 14) rfl rfl rfl (by
      intro _
      refine SK rfl rfl rfl rfl rfl ?_
      refine SK rfl rfl rfl rfl rfl ?_
      refine Go.Sx.V rfl wu rfl rfl (pk rfl rfl) ?_
      exact join rfl) (by
      intro hg
      simp at hg
      refine Go.Sx.V rfl (wg rfl rfl) rfl rfl (mv rfl) ?_
      refine Go.Sx.V rfl (wg rfl rfl) rfl rfl (lssI rfl rfl) ?_
      refine Go.Sx.V rfl wu rfl rfl (pk rfl rfl) ?_
      exact join rfl) ?_
  refine Go.Sx.V rfl wu rfl rfl (mv rfl) ?_
  refine OR (π1 := [7,8,9]) (π2 := []) (tc := 15) (tp := 18) rfl rfl rfl (by
      intro _
      refine SK rfl rfl rfl rfl rfl ?_
      refine SK rfl rfl rfl rfl rfl ?_
      refine Go.Sx.V rfl wu rfl rfl (pk rfl rfl) ?_
      exact join rfl) (by
      intro hg
      simp at hg
      refine Go.Sx.V rfl (wg rfl rfl) rfl rfl (mv rfl) ?_
      refine Go.Sx.V rfl (wg rfl rfl) rfl rfl (lssI rfl rfl) ?_
      refine Go.Sx.V rfl wu rfl rfl (pk rfl rfl) ?_
      exact join rfl) ?_
  refine wr_nil (post_thenN ?_)
  refine wc_condF rfl (by simp <;> omega) ?_
  refine wc_skip (post_thenN (wc_seq (wc_seq ?_)))
  refine wc_region [0,1,2,3,4,5] rfl ?_
  refine Go.Sx.V rfl wu rfl rfl (mv rfl) ?_
  refine Go.Sx.V rfl wu rfl rfl (eqlI rfl rfl) ?_
  refine Go.Sx.V rfl wu rfl rfl (mv rfl) ?_
  refine AND (π1 := [3,4,5]) (π2 := []) (tc := 21) (tp := 24) rfl rfl rfl (by
      intro hg
      simp at hg
      refine Go.Sx.V rfl (wg rfl rfl) rfl rfl (mv rfl) ?_
      refine Go.Sx.V rfl (wg rfl rfl) rfl rfl (gtrI rfl rfl) ?_
      refine Go.Sx.V rfl wu rfl rfl (pk rfl rfl) ?_
      exact join rfl) (by
      intro _
      refine SK rfl rfl rfl rfl rfl ?_
      refine SK rfl rfl rfl rfl rfl ?_
      refine Go.Sx.V rfl wu rfl rfl (pk rfl rfl) ?_
      exact join rfl) ?_
  refine wr_nil (post_thenN ?_)
  refine wc_condF rfl (by simp <;> omega) ?_
  refine wc_skip (post_thenN (wc_seq (wc_seq ?_)))
  refine wc_region [0,1] rfl ?_
  refine Go.Sx.V rfl wu rfl rfl (mv rfl) ?_
  refine Go.Sx.V rfl wu rfl rfl (eqlI rfl rfl) ?_
  refine wr_nil (post_thenN ?_)
  refine wc_condF rfl (by simp) ?_
  refine wc_skip (post_thenN (wc_seq ?_))
  refine wc_region [0] rfl ?_
  refine Go.Sx.V rfl wu rfl rfl (asg rfl) ?_
  refine wr_nil (post_thenN (wc_seq (wc_block ?_)))
  refine wc_loop (fun k : Int => [(0, .int .i64 q), (1, .int .i64 (n - k)), (2, .int .i64 65536), (8, .int .i64 (q ^ k.toNat))])
    (fun k w' => 0 ≤ k ∧ k ≤ n ∧ q ^ k.toNat ≤ 65536 ∧ w' = w) (fun k => (n - k).toNat) 0 ⟨rfl, by rw [Int.sub_zero]; rfl, rfl, by rw [show (0 : Int).toNat = 0 from rfl, Int.pow_zero]; rfl, trivial⟩ ⟨by omega, by omega, by simp, rfl⟩ ?_
  rintro k _ ⟨k0, k1, hp, rfl⟩
  have hp0 := pw_pos hq k.toNat
  try dsimp only
  refine wc_seq (wc_seq ?_)
  refine wc_region [0,1,2,3,4,5] rfl ?_
  refine Go.Sx.V rfl wu rfl rfl (mv rfl) ?_
  refine Go.Sx.V rfl wu rfl rfl (gtrI rfl rfl) ?_
  refine Go.Sx.V rfl wu rfl rfl (mv rfl) ?_
  refine AND (π1 := [3,4,5]) (π2 := []) (tc := 29) (tp := 32) rfl rfl rfl (by
      intro hg
      simp at hg
      refine Go.Sx.V rfl (wg rfl rfl) rfl rfl (mv rfl) ?_
      refine Go.Sx.V rfl (wg rfl rfl) rfl rfl (gtrI rfl rfl) ?_
      refine Go.Sx.V rfl wu rfl rfl (pk rfl rfl) ?_
      exact join rfl) (by
      intro _
      refine SK rfl rfl rfl rfl rfl ?_
      refine SK rfl rfl rfl rfl rfl ?_
      refine Go.Sx.V rfl wu rfl rfl (pk rfl rfl) ?_
      exact join rfl) ?_
  refine wr_nil (post_thenN ?_)
  refine wc_cond rfl ?_ ?_
  · intro hc
    simp at hc
    refine wc_skip (post_thenN (wc_seq (wc_block (wc_seq (wc_seq ?_)))))
    refine wc_region [0,1,2,3,4] rfl ?_
    refine Go.Sx.V rfl wu rfl rfl (mv rfl) ?_
    refine Go.Sx.V rfl wu rfl rfl (mv rfl) ?_
    refine Go.Sx.V rfl wu rfl rfl (mv rfl) ?_
    refine Go.Sx.V rfl wu rfl rfl (quoI rfl rfl) ?_
    refine Go.Sx.V rfl wu rfl rfl (gtrI rfl rfl) ?_
    refine wr_nil (post_thenN ?_)
    refine wc_cond rfl ?_ ?_
    · intro hb
      simp at hb
      refine wc_seq ?_
      refine wc_region [0,1] rfl ?_
      refine Go.Sx.V rfl wu rfl rfl (asg rfl) ?_
      refine Go.Sx.V rfl wu rfl rfl (asg rfl) ?_
      refine wr_nil (post_thenN (wc_ret (post_thenR (post_blockR (post_thenR (post_loopR (post_blockR (post_thenR ?_))))))))
      refine post_ret2 rfl rfl rfl ?_
      exact ⟨Ext.refl _, by rw [cntA_big hn (pow_over hq k0 (by omega) hb)]⟩
    · intro hb
      simp at hb
      have hu := pow_under hq k0 hb
      have hu0 : 0 ≤ q ^ k.toNat * q := Int.mul_nonneg (by omega) (by omega)
      refine wc_skip (post_thenN ?_)
      refine wc_region [0,1,2,3] rfl ?_
      refine Go.Sx.V rfl wu rfl rfl (mv rfl) ?_
      refine Go.Sx.V rfl wu rfl rfl (mv rfl) ?_
      refine Go.Sx.V rfl wu rfl rfl (mulI rfl rfl) ?_
      refine Go.Sx.V rfl wu rfl rfl (asg rfl) ?_
      refine wr_nil (post_blockN (post_thenN ?_))
      rw [← pow_nx k0] at hu ⊢
      refine wc_region [0,1,2] rfl ?_
      refine Go.Sx.V rfl wu rfl rfl (mv rfl) ?_
      refine Go.Sx.V rfl wu rfl rfl (subI rfl rfl) ?_
      refine Go.Sx.V rfl wu rfl rfl (asg rfl) ?_
      refine wr_nil ?_
      exact post_loopN (k + 1) ⟨rfl, by rw [show n - (k + 1) = n - k - 1 by omega]; rfl, rfl, rfl, trivial⟩ ⟨by omega, by omega, hu, rfl⟩ (by omega)
  · intro hc
    simp at hc
    refine wc_exit (post_thenE (post_loopE (post_blockX (post_thenN (wc_seq ?_)))))
    refine wc_region [0,1,2] rfl ?_
    refine Go.Sx.V rfl wu rfl rfl (mv rfl) ?_
    refine Go.Sx.V rfl wu rfl rfl (asg rfl) ?_
    refine Go.Sx.V rfl wu rfl rfl (asg rfl) ?_
    refine wr_nil (post_thenN (wc_ret ?_))
    refine post_ret2 rfl rfl rfl ?_
    have : k = n := by omega
    subst this
    exact ⟨Ext.refl _, by rw [cntA_ok hn hp]⟩

theorem wCount (P : FP) (g : Value) (n : Int) (w : World) (hG : GFV w P g) :
    Calls Try.prog 46 #[g, .int .i64 n] w (RetX w fun v _ => v = .tuple #[.int .i64 (cntA P.q n).1, .int .i64 (cntA P.q n).2]) := by
  refine calls2 Try.func46 rfl rfl ?_
  refine wc_seq ?_
  refine wc_region [0,1] rfl ?_
  refine Go.Sx.V rfl wu rfl rfl (asg rfl) ?_
  refine Go.Sx.V rfl wu rfl rfl (asg rfl) ?_
  refine wr_nil (post_thenN (wc_seq (wc_seq ?_)))
  refine wc_region [0,1,2,3,4,5] rfl ?_
  refine Go.Sx.V rfl wu rfl rfl (mv rfl) ?_
  refine Go.Sx.V rfl wu rfl rfl (lssI rfl rfl) ?_
  refine Go.Sx.V rfl wu rfl rfl (mv rfl) ?_
  refine OR (π1 := [3,4,5]) (π2 := []) (tc := 8) (tp := 11) rfl rfl rfl (by
      intro _
      refine SK rfl rfl rfl rfl rfl ?_
      refine SK rfl rfl rfl rfl rfl ?_
      refine Go.Sx.V rfl wu rfl rfl (pk rfl rfl) ?_
      exact join rfl) (by
      intro hg
      simp at hg
      refine Go.Sx.V rfl (wg rfl rfl) rfl rfl (mv rfl) ?_
      refine Go.Sx.V rfl (wg rfl rfl) rfl rfl (gtrI rfl rfl) ?_
      refine Go.Sx.V rfl wu rfl rfl (pk rfl rfl) ?_
      exact join rfl) ?_
  refine wr_nil (post_thenN ?_)
  refine wc_cond rfl ?_ ?_
  · intro h
    simp at h
    refine wc_seq ?_
    refine wc_region [0,1] rfl ?_
    refine Go.Sx.V rfl wu rfl rfl (asg rfl) ?_
    refine Go.Sx.V rfl wu rfl rfl (asg rfl) ?_
    refine wr_nil (post_thenN (wc_ret (post_thenR ?_)))
    refine post_ret2 rfl rfl rfl ?_
    exact ⟨Ext.refl _, by rw [cntA_out h]⟩
  · intro h
    simp at h
    refine wc_skip (post_thenN (wc_seq ?_))
    refine wc_region [0,1,2,3,4,5,6,7] rfl ?_
    refine Go.Sx.V rfl wu rfl rfl (mv rfl) ?_
    refine C rfl wu rfl rfl Try.call73 (gOrder P g _ hG) ?_
    rintro _ w1 hE rfl
    refine Go.Sx.V rfl wu rfl rfl (mv rfl) ?_
    refine C rfl wu rfl rfl Try.call72 (nExp P.q n _ P.q_two (by omega)) ?_
    rintro _ w2 hE2 rfl
    refine Go.Sx.V rfl wu rfl rfl (ext rfl rfl) ?_
    refine Go.Sx.V rfl wu rfl rfl (ext rfl rfl) ?_
    refine Go.Sx.V rfl wu rfl rfl (asg rfl) ?_
    refine Go.Sx.V rfl wu rfl rfl (asg rfl) ?_
    refine wr_nil (post_thenN (wc_ret ?_))
    refine post_ret2 rfl rfl rfl ?_
    exact ⟨hE.trans hE2, rfl⟩

set_option maxRecDepth 10000 in
theorem rCount (P : FP) (mo : Value) (md : List Int) (n : Int) (w : World) (hF : FV w P mo md) :
    Calls Try.prog 40 #[fv P mo, .int .i64 n] w (RetX w fun v _ => v = .tuple #[.int .i64 (cntA P.q n).1, .int .i64 (cntA P.q n).2]) := by
  have hord := hF.ord
  have hq2 := P.q_two
  refine calls2 Try.func40 rfl rfl ?_
  refine wc_seq ?_
  refine wc_region [0,1,2] rfl ?_
  refine BXA rfl wu rfl rfl ?_
  intro fb w1 hE hB hg
  refine Go.Sx.V rfl wu rfl rfl (asg rfl) ?_
  refine Go.Sx.V rfl wu rfl rfl (asg rfl) ?_
  refine wr_nil (post_thenN (wc_seq (wc_seq ?_)))
  refine wc_region [0,1,2,3,4,5] rfl ?_
  refine Go.Sx.V rfl wu rfl rfl (mv rfl) ?_
  refine Go.Sx.V rfl wu rfl rfl (lssI rfl rfl) ?_
  refine Go.Sx.V rfl wu rfl rfl (mv rfl) ?_
  refine OR (π1 := [3,4,5]) (π2 := []) (tc := 11) (tp := 14) rfl rfl rfl (by
      intro _
      refine SK rfl rfl rfl rfl rfl ?_
      refine SK rfl rfl rfl rfl rfl ?_
      refine Go.Sx.V rfl wu rfl rfl (pk rfl rfl) ?_
      exact join rfl) (by
      intro hg
      simp at hg
      refine Go.Sx.V rfl (wg rfl rfl) rfl rfl (mv rfl) ?_
      refine Go.Sx.V rfl (wg rfl rfl) rfl rfl (gtrI rfl rfl) ?_
      refine Go.Sx.V rfl wu rfl rfl (pk rfl rfl) ?_
      exact join rfl) ?_
  refine wr_nil (post_thenN ?_)
  refine wc_cond rfl ?_ ?_
  · intro h
    simp at h
    refine wc_seq ?_
    refine wc_region [0,1] rfl ?_
    refine Go.Sx.V rfl wu rfl rfl (asg rfl) ?_
    refine Go.Sx.V rfl wu rfl rfl (asg rfl) ?_
    refine wr_nil (post_thenN (wc_ret (post_thenR ?_)))
    refine post_ret2 rfl rfl rfl ?_
    exact ⟨hE, by rw [cntA_out h]⟩
  · intro h
    simp at h
    have hn : ¬ (n < 0 ∨ 64 < n) := by omega
    refine wc_skip (post_thenN (wc_seq ?_))
    refine wc_region [0,1,2] rfl ?_
    refine Go.Sx.V rfl wu rfl rfl (ldA rfl ag40) ?_
    refine C rfl wu rfl rfl Try.call41 (rOrder P.p P.M mo _) ?_
    rintro _ w2 hE2 rfl
    replace hE := hE.trans hE2
    rw [hord]
    refine Go.Sx.V rfl wu rfl rfl (asg rfl) ?_
    refine wr_nil (post_thenN (wc_seq ?_))
    refine wc_region [0] rfl ?_
    refine Go.Sx.V rfl wu rfl rfl (asg rfl) ?_
    refine wr_nil (post_thenN (wc_seq (wc_seq ?_)))
    refine wc_region [0] rfl ?_
    refine Go.Sx.V rfl wu rfl rfl (asg rfl) ?_
    refine wr_nil (post_thenN (wc_block ?_))
    refine wc_loop (fun k : Int => [(1, .int .i64 n), (6, .int .i64 P.q), (7, .int .i64 (P.q ^ k.toNat)), (8, .int .i64 k)])
      (fun k w' => 0 ≤ k ∧ k ≤ n ∧ P.q ^ k.toNat ≤ 65536 ∧ w' = w2) (fun k => (n - k).toNat) 0 ⟨rfl, rfl, by rw [show (0 : Int).toNat = 0 from rfl, Int.pow_zero]; rfl, rfl, trivial⟩ ⟨by omega, by omega, by simp, rfl⟩ ?_
    rintro k _ ⟨k0, k1, hp, rfl⟩
    have hp0 := pw_pos hq2 k.toNat
    try dsimp only
    refine wc_seq (wc_seq ?_)
    refine wc_region [0,1,2] rfl ?_
    refine Go.Sx.V rfl wu rfl rfl (mv rfl) ?_
    refine Go.Sx.V rfl wu rfl rfl (mv rfl) ?_
    refine Go.Sx.V rfl wu rfl rfl (lssI rfl rfl) ?_
    refine wr_nil (post_thenN ?_)
    refine wc_cond rfl ?_ ?_
    · intro hc
      simp at hc
      refine wc_skip (post_thenN (wc_seq (wc_block (wc_seq (wc_seq ?_)))))
      refine wc_region [0,1,2,3] rfl ?_
      refine Go.Sx.V rfl wu rfl rfl (mv rfl) ?_
      refine Go.Sx.V rfl wu rfl rfl (mv rfl) ?_
      refine Go.Sx.V rfl wu rfl rfl (quoI rfl rfl) ?_
      refine Go.Sx.V rfl wu rfl rfl (gtrI rfl rfl) ?_
      refine wr_nil (post_thenN ?_)
      refine wc_cond rfl ?_ ?_
      · intro hb
        simp at hb
        refine wc_seq ?_
        refine wc_region [0,1] rfl ?_
        refine Go.Sx.V rfl wu rfl rfl (asg rfl) ?_
        refine Go.Sx.V rfl wu rfl rfl (asg rfl) ?_
        refine wr_nil (post_thenN (wc_ret (post_thenR (post_blockR (post_thenR (post_loopR (post_blockR (post_thenR ?_))))))))
        refine post_ret2 rfl rfl rfl ?_
        exact ⟨hE, by rw [cntA_big hn (pow_over hq2 k0 (by omega) hb)]⟩
      · intro hb
        simp at hb
        have hu := pow_under hq2 k0 hb
        have hu0 : 0 ≤ P.q ^ k.toNat * P.q := Int.mul_nonneg (by omega) (by omega)
        refine wc_skip (post_thenN ?_)
        refine wc_region [0,1,2,3] rfl ?_
        refine Go.Sx.V rfl wu rfl rfl (mv rfl) ?_
        refine Go.Sx.V rfl wu rfl rfl (mv rfl) ?_
        refine Go.Sx.V rfl wu rfl rfl (mulI rfl rfl) ?_
        refine Go.Sx.V rfl wu rfl rfl (asg rfl) ?_
        refine wr_nil (post_blockN (post_thenN ?_))
        rw [← pow_nx k0] at hu ⊢
        refine wc_region [0,1,2] rfl ?_
        refine Go.Sx.V rfl wu rfl rfl (mv rfl) ?_
        refine Go.Sx.V rfl wu rfl rfl (addI rfl rfl) ?_
        refine Go.Sx.V rfl wu rfl rfl (asg rfl) ?_
        refine wr_nil ?_
        exact post_loopN (k + 1) ⟨rfl, rfl, rfl, rfl, trivial⟩ ⟨by omega, by omega, hu, rfl⟩ (by omega)
    · intro hc
      simp at hc
      refine wc_exit (post_thenE (post_loopE (post_blockX (post_thenN (wc_seq ?_)))))
      refine wc_region [0,1,2] rfl ?_
      refine Go.Sx.V rfl wu rfl rfl (mv rfl) ?_
      refine Go.Sx.V rfl wu rfl rfl (asg rfl) ?_
      refine Go.Sx.V rfl wu rfl rfl (asg rfl) ?_
      refine wr_nil (post_thenN (wc_ret ?_))
      refine post_ret2 rfl rfl rfl ?_
      have : k = n := by omega
      subst this
      exact ⟨hE, by rw [cntA_ok hn hp]⟩

theorem cnt_len {q : Int} {n : Int} (h : (cntA q n).2 = 0) : 0 ≤ n ∧ n ≤ 64 ∧ q ^ n.toNat ≤ 65536 ∧ (cntA q n).1 = q ^ n.toNat := by
  by_cases h1 : n < 0 ∨ 64 < n
  · rw [cntA_out h1] at h; simp at h
  · by_cases h2 : q ^ n.toNat ≤ 65536
    · exact ⟨by omega, by omega, h2, by rw [cntA_ok h1 h2]⟩
    · rw [cntA_big h1 h2] at h; simp at h
theorem nv_next {q : Int} {c : List Int} {i : Int} (h : 0 ≤ i) : nvN q c (i + 1).toNat = nvN q c i.toNat * q + gi c i := by
  rw [show (i + 1).toNat = i.toNat + 1 by omega]
  rfl

set_option maxRecDepth 10000 in
theorem wIndex (P : FP) (g u : Value) (l : List Int) (w : World) (hG : GFV w P g) (hu : Ints w u l) (hn : l.length ≤ 17592186044416) :
    Calls Try.prog 49 #[g, u] w (RetX w fun v _ => v = .tuple #[.int .i64 (idxA P l).1, .int .i64 (idxA P l).2]) := by
  have hq2 := P.q_two
  have hq := hG.q11
  refine calls2 Try.func49 rfl rfl ?_
  refine wc_seq ?_
  refine wc_region [0,1] rfl ?_
  refine Go.Sx.V rfl wu rfl rfl (asg rfl) ?_
  refine Go.Sx.V rfl wu rfl rfl (asg rfl) ?_
  refine wr_nil (post_thenN (wc_seq (wc_seq ?_)))
  refine wc_region [0,1,2,3,4,5,6,7,8] rfl ?_
  refine Go.Sx.V rfl wu rfl rfl (mv rfl) ?_
  refine Go.Sx.V rfl wu rfl rfl (mv rfl) ?_
  refine Go.Sx.V rfl wu rfl rfl (lenI rfl ty26) ?_
  refine C rfl wu rfl rfl Try.call46 (wCount P g l.length _ hG) ?_
  rintro _ w1 hE rfl
  refine Go.Sx.V rfl wu rfl rfl (mv rfl) ?_
  refine Go.Sx.V rfl wu rfl rfl (ext rfl rfl) ?_
  refine Go.Sx.V rfl wu rfl rfl (ext rfl rfl) ?_
  refine Go.Sx.V rfl wu rfl rfl (asg rfl) ?_
  refine Go.Sx.V rfl wu rfl rfl (asg rfl) ?_
  refine wr_nil (post_thenN (wc_seq ?_))
  refine wc_region [0,1] rfl ?_
  refine Go.Sx.V rfl wu rfl rfl (mv rfl) ?_
  refine Go.Sx.V rfl wu rfl rfl (neqI rfl rfl) ?_
  refine wr_nil (post_thenN ?_)
  refine wc_cond rfl ?_ ?_
  · intro h
    simp at h
    refine wc_seq ?_
    refine wc_region [0,1,2] rfl ?_
    refine Go.Sx.V rfl wu rfl rfl (mv rfl) ?_
    refine Go.Sx.V rfl wu rfl rfl (asg rfl) ?_
    refine Go.Sx.V rfl wu rfl rfl (asg rfl) ?_
    refine wr_nil (post_thenN (wc_ret (post_thenR ?_)))
    refine post_ret2 rfl rfl rfl ?_
    exact ⟨hE, by rw [idxA, if_pos h]; rfl⟩
  · intro h
    simp at h
    obtain ⟨_, hl64, hpw, _⟩ := cnt_len h
    rw [Int.toNat_natCast] at hpw
    refine wc_skip (post_thenN (wc_seq ?_))
    refine wc_region [0] rfl ?_
    refine Go.Sx.V rfl wu rfl rfl (asg rfl) ?_
    refine wr_nil (post_thenN (wc_seq (wc_seq ?_)))
    refine wc_region [0,1,2,3,4] rfl ?_
    refine Go.Sx.V rfl wu rfl rfl (mv rfl) ?_
    refine Go.Sx.V rfl wu rfl rfl (mv rfl) ?_
    refine C rfl wu rfl rfl Try.call30 (wClean P g u l _ (hG.ext hE) (hu.ext hE) hn) ?_
    rintro c w2 hE2 ⟨hc, _⟩
    have hci := OwnI.ints hc
    replace hE := hE.trans hE2
    refine Go.Sx.V rfl wu rfl rfl (lenI rfl ty26) ?_
    refine Go.Sx.V rfl wu rfl rfl (mv rfl) ?_
    refine wr_nil (post_thenN (wc_block ?_))
    rw [clean_length]
    have hcl := clean_length (P := P) l
    refine wc_loop (fun i : Int => [(0, g), (8, .int .i64 (nvN P.q (clean P l) i.toNat)), (23, c), (24, .int .i64 l.length), (25, .int .i64 i)])
      (fun i w' => 0 ≤ i ∧ i ≤ l.length ∧ Ext w w' ∧ Ext w2 w') (fun i => (l.length - i).toNat) 0 ⟨rfl, rfl, rfl, rfl, rfl, trivial⟩ ⟨by omega, by omega, hE, Ext.refl _⟩ ?_
    clear hE
    rintro i w3 ⟨i0, i1, hE, hE2⟩
    have hcj := hci.ext hE2
    have hr := nvN_range hq2 (clean_lo (P := P) l) i.toNat (by omega)
    have hm := pw_mono hq2 (m := i.toNat) (n := l.length) (by omega)
    try dsimp only
    refine wc_seq ?_
    refine wc_region [0] rfl ?_
    refine Go.Sx.V rfl wu rfl rfl (lssI rfl rfl) ?_
    refine wr_nil (post_thenN (wc_seq ?_))
    refine wc_cond rfl ?_ ?_
    · intro hi
      simp at hi
      have hx := gi_lo (clean_lo (P := P) l) i0 (by omega)
      have hmm := mul_le' (a := nvN P.q (clean P l) i.toNat) (b := P.q) (c := 65536) (d := 256) hr.1 (by omega) (by omega) hq
      refine wc_skip (post_thenN (wc_seq (wc_block (wc_seq ?_))))
      refine wc_region [0,1,2] rfl ?_
      refine Go.Sx.V rfl wu rfl rfl (iadI rfl rfl ty26) ?_
      refine Go.Sx.V rfl wu rfl rfl (ldI rfl na3) ?_
      refine Go.Sx.V rfl wu rfl rfl (asg rfl) ?_
      refine wr_nil (post_thenN ?_)
      refine wc_region [0,1,2,3,4,5,6] rfl ?_
      refine Go.Sx.V rfl wu rfl rfl (mv rfl) ?_
      refine Go.Sx.V rfl wu rfl rfl (mv rfl) ?_
      refine C rfl wu rfl rfl Try.call73 (gOrder P g _ (hG.ext hE)) ?_
      rintro _ w4 hE4 rfl
      refine Go.Sx.V rfl wu rfl rfl (mulI rfl rfl) ?_
      refine Go.Sx.V rfl wu rfl rfl (mv rfl) ?_
      refine Go.Sx.V rfl wu rfl rfl (addI rfl rfl) ?_
      refine Go.Sx.V rfl wu rfl rfl (asg rfl) ?_
      refine wr_nil (post_blockN (post_thenN ?_))
      rw [← nv_next i0]
      refine wc_region [0,1] rfl ?_
      refine Go.Sx.V rfl wu rfl rfl (addI rfl rfl) ?_
      refine Go.Sx.V rfl wu rfl rfl (mv rfl) ?_
      refine wr_nil ?_
      exact post_loopN (i + 1) ⟨rfl, rfl, rfl, rfl, rfl, trivial⟩ ⟨by omega, by omega, hE.trans hE4, hE2.trans hE4⟩ (by omega)
    · intro hi
      simp at hi
      refine wc_exit (post_thenE (post_loopE (post_blockX (post_thenN (wc_seq ?_)))))
      refine wc_region [0,1,2] rfl ?_
      refine Go.Sx.V rfl wu rfl rfl (mv rfl) ?_
      refine Go.Sx.V rfl wu rfl rfl (asg rfl) ?_
      refine Go.Sx.V rfl wu rfl rfl (asg rfl) ?_
      refine wr_nil (post_thenN (wc_ret ?_))
      refine post_ret2 rfl rfl rfl ?_
      exact ⟨hE, by rw [idxA, if_neg (by rw [h]; simp), show i.toNat = l.length by omega]⟩

set_option maxRecDepth 10000 in
theorem rIndex (P : FP) (mo : Value) (md : List Int) (u : Value) (l : List Int) (w : World) (hF : FV w P mo md) (hu : Ints w u l) (hn : l.length ≤ 17592186044416) :
    Calls Try.prog 53 #[fv P mo, u] w (RetX w fun v _ => v = .tuple #[.int .i64 (idxA P l).1, .int .i64 (idxA P l).2]) := by
  have hq2 := P.q_two
  have hq := hF.q
  have hord := hF.ord
  refine calls2 Try.func53 rfl rfl ?_
  refine wc_seq ?_
  refine wc_region [0,1,2] rfl ?_
  refine BXA rfl wu rfl rfl ?_
  intro fb w0 hE0 hB hg
  refine Go.Sx.V rfl wu rfl rfl (asg rfl) ?_
  refine Go.Sx.V rfl wu rfl rfl (asg rfl) ?_
  refine wr_nil (post_thenN (wc_seq ?_))
  have hu0 := hu.ext hE0
  refine wc_region [0,1,2,3,4,5,6,7,8] rfl ?_
  refine Go.Sx.V rfl wu rfl rfl (ldA rfl ag40) ?_
  refine Go.Sx.V rfl wu rfl rfl (mv rfl) ?_
  refine Go.Sx.V rfl wu rfl rfl (lenI rfl ty26) ?_
  refine C rfl wu rfl rfl Try.call40 (rCount P mo md l.length _ (hF.ext hE0)) ?_
  rintro _ w1 hE1 rfl
  have hE := hE0.trans hE1
  replace hB := hB.ext hE1
  refine Go.Sx.V rfl wu rfl rfl (mv rfl) ?_
  refine Go.Sx.V rfl wu rfl rfl (ext rfl rfl) ?_
  refine Go.Sx.V rfl wu rfl rfl (ext rfl rfl) ?_
  refine Go.Sx.V rfl wu rfl rfl (asg rfl) ?_
  refine Go.Sx.V rfl wu rfl rfl (asg rfl) ?_
  refine wr_nil (post_thenN (wc_seq (wc_seq ?_)))
  refine wc_region [0,1] rfl ?_
  refine Go.Sx.V rfl wu rfl rfl (mv rfl) ?_
  refine Go.Sx.V rfl wu rfl rfl (neqI rfl rfl) ?_
  refine wr_nil (post_thenN ?_)
  refine wc_cond rfl ?_ ?_
  · intro h
    simp at h
    refine wc_seq ?_
    refine wc_region [0,1,2] rfl ?_
    refine Go.Sx.V rfl wu rfl rfl (mv rfl) ?_
    refine Go.Sx.V rfl wu rfl rfl (asg rfl) ?_
    refine Go.Sx.V rfl wu rfl rfl (asg rfl) ?_
    refine wr_nil (post_thenN (wc_ret (post_thenR ?_)))
    refine post_ret2 rfl rfl rfl ?_
    exact ⟨hE, by rw [idxA, if_pos h]; rfl⟩
  · intro h
    simp at h
    obtain ⟨_, hl64, hpw, _⟩ := cnt_len h
    rw [Int.toNat_natCast] at hpw
    refine wc_skip (post_thenN (wc_seq ?_))
    refine wc_region [0,1,2] rfl ?_
    refine Go.Sx.V rfl wu rfl rfl (ldA rfl ag40) ?_
    refine C rfl wu rfl rfl Try.call41 (rOrder P.p P.M mo _) ?_
    rintro _ w2 hE2 rfl
    replace hE := hE.trans hE2
    replace hB := hB.ext hE2
    rw [hord]
    refine Go.Sx.V rfl wu rfl rfl (asg rfl) ?_
    refine wr_nil (post_thenN (wc_seq ?_))
    refine wc_region [0,1,2,3] rfl ?_
    refine Go.Sx.V rfl wu rfl rfl (ldA rfl ag40) ?_
    refine Go.Sx.V rfl wu rfl rfl (mv rfl) ?_
    refine C rfl wu rfl rfl Try.call31 (rClean P mo md u l _ (hF.ext hE) (hu.ext hE) hn) ?_
    rintro c w3 hE3 hci
    replace hE := hE.trans hE3
    refine Go.Sx.V rfl wu rfl rfl (asg rfl) ?_
    refine wr_nil (post_thenN (wc_seq ?_))
    refine wc_region [0] rfl ?_
    refine Go.Sx.V rfl wu rfl rfl (asg rfl) ?_
    refine wr_nil (post_thenN (wc_seq (wc_seq ?_)))
    refine wc_region [0] rfl ?_
    refine Go.Sx.V rfl wu rfl rfl (asg rfl) ?_
    refine wr_nil (post_thenN (wc_block ?_))
    have hcl := clean_length (P := P) l
    refine wc_loop (fun i : Int => [(8, .int .i64 P.q), (9, c), (10, .int .i64 (nvN P.q (clean P l) i.toNat)), (11, .int .i64 i)])
      (fun i w' => 0 ≤ i ∧ i ≤ l.length ∧ w' = w3) (fun i => (l.length - i).toNat) 0 ⟨rfl, rfl, rfl, rfl, trivial⟩ ⟨by omega, by omega, rfl⟩ ?_
    rintro i _ ⟨i0, i1, rfl⟩
    have hr := nvN_range hq2 (clean_lo (P := P) l) i.toNat (by omega)
    have hm := pw_mono hq2 (m := i.toNat) (n := l.length) (by omega)
    try dsimp only
    refine wc_seq (wc_seq ?_)
    refine wc_region [0,1,2,3] rfl ?_
    refine Go.Sx.V rfl wu rfl rfl (mv rfl) ?_
    refine Go.Sx.V rfl wu rfl rfl (mv rfl) ?_
    refine Go.Sx.V rfl wu rfl rfl (lenI rfl ty26) ?_
    refine Go.Sx.V rfl wu rfl rfl (lssI rfl rfl) ?_
    refine wr_nil (post_thenN ?_)
    rw [hcl]
    refine wc_cond rfl ?_ ?_
    · intro hi
      simp at hi
      have hx := gi_lo (clean_lo (P := P) l) i0 (by omega)
      have hmm := mul_le' (a := nvN P.q (clean P l) i.toNat) (b := P.q) (c := 65536) (d := 256) hr.1 (by omega) (by omega) hq
      refine wc_skip (post_thenN (wc_seq (wc_block ?_)))
      refine wc_region [0,1,2,3,4,5,6,7,8] rfl ?_
      refine Go.Sx.V rfl wu rfl rfl (mv rfl) ?_
      refine Go.Sx.V rfl wu rfl rfl (mv rfl) ?_
      refine Go.Sx.V rfl wu rfl rfl (mulI rfl rfl) ?_
      refine Go.Sx.V rfl wu rfl rfl (mv rfl) ?_
      refine Go.Sx.V rfl wu rfl rfl (mv rfl) ?_
      refine Go.Sx.V rfl wu rfl rfl (iadI rfl rfl ty26) ?_
      refine Go.Sx.V rfl wu rfl rfl (ldI rfl na3) ?_
      refine Go.Sx.V rfl wu rfl rfl (addI rfl rfl) ?_
      refine Go.Sx.V rfl wu rfl rfl (asg rfl) ?_
      refine wr_nil (post_blockN (post_thenN ?_))
      rw [← nv_next i0]
      refine wc_region [0,1,2] rfl ?_
      refine Go.Sx.V rfl wu rfl rfl (mv rfl) ?_
      refine Go.Sx.V rfl wu rfl rfl (addI rfl rfl) ?_
      refine Go.Sx.V rfl wu rfl rfl (asg rfl) ?_
      refine wr_nil ?_
      exact post_loopN (i + 1) ⟨rfl, rfl, rfl, rfl, trivial⟩ ⟨by omega, by omega, rfl⟩ (by omega)
    · intro hi
      simp at hi
      refine wc_exit (post_thenE (post_loopE (post_blockX (post_thenN (wc_seq ?_)))))
      refine wc_region [0,1,2] rfl ?_
      refine Go.Sx.V rfl wu rfl rfl (mv rfl) ?_
      refine Go.Sx.V rfl wu rfl rfl (asg rfl) ?_
      refine Go.Sx.V rfl wu rfl rfl (asg rfl) ?_
      refine wr_nil (post_thenN (wc_ret ?_))
      refine post_ret2 rfl rfl rfl ?_
      exact ⟨hE, by rw [idxA, if_neg (by rw [h]; simp), show i.toNat = l.length by omega]⟩

theorem fiA_err {q n i : Int} (h : (cntA q n).2 ≠ 0) : fiA q n i = ([], (cntA q n).2) := if_pos h
theorem fiA_rng {q n i : Int} (h : (cntA q n).2 = 0) (h2 : i < 0 ∨ (cntA q n).1 ≤ i) : fiA q n i = ([], 6) := by rw [fiA, if_neg (by rw [h]; simp), if_pos h2]
theorem fiA_ok {q n i : Int} (h : (cntA q n).2 = 0) (h2 : ¬ (i < 0 ∨ (cntA q n).1 ≤ i)) : fiA q n i = (fiw q n.toNat i, 0) := by rw [fiA, if_neg (by rw [h]; simp), if_neg h2]
/-- The list when the places above k are filled. -/
def fst' (q : Int) (n : Nat) (i k : Int) : List Int := tab n fun t => if k < (t : Int) then i / q ^ (n - 1 - t) % q else 0
theorem fst'_first (q : Int) (n : Nat) (i : Int) : tab n (fun _ => 0) = fst' q n i ((n : Int) - 1) := tab_congr fun t ht => by rw [if_neg (by omega)]
theorem fst'_last (q : Int) (n : Nat) (i : Int) : fst' q n i (-1) = fiw q n i := tab_congr fun t ht => if_pos (by omega)
theorem fst'_step {q : Int} {n : Nat} {i k : Int} (h0 : 0 ≤ k) (h1 : k < n) : si (fst' q n i k) k (i / q ^ ((n : Int) - 1 - k).toNat % q) = fst' q n i (k - 1) := by
  rw [fst', si_tab]
  refine tab_congr fun t ht => ?_
  by_cases e : t = k.toNat
  · rw [if_pos e, if_pos (by omega), show ((n : Int) - 1 - k).toNat = n - 1 - t by omega]
  · rw [if_neg e]
    by_cases h : k < (t : Int)
    · rw [if_pos h, if_pos (by omega)]
    · rw [if_neg h, if_neg (by omega)]
theorem fq_next {q i k : Int} {n : Nat} (hq : 2 ≤ q) (h1 : k < n) : i / q ^ ((n : Int) - 1 - k).toNat / q = i / q ^ ((n : Int) - 1 - (k - 1)).toNat := by
  have := pw_pos hq ((n : Int) - 1 - k).toNat
  rw [show ((n : Int) - 1 - (k - 1)).toNat = ((n : Int) - 1 - k).toNat + 1 by omega, Int.pow_succ, Int.ediv_ediv_of_nonneg (by omega)]

set_option maxRecDepth 10000 in
theorem wFromIndex (P : FP) (g : Value) (n i : Int) (w : World) (hG : GFV w P g) :
    Calls Try.prog 47 #[g, .int .i64 n, .int .i64 i] w (RetX w fun v w' => ∃ s, v = .tuple #[s, .int .i64 (fiA P.q n i).2] ∧ Ints w' s (fiA P.q n i).1) := by
  have hq2 := P.q_two
  refine calls3 Try.func47 rfl rfl ?_
  refine wc_seq ?_
  refine wc_region [0,1] rfl ?_
  refine Go.Sx.V rfl wu rfl rfl (asg rfl) ?_
  refine Go.Sx.V rfl wu rfl rfl (asg rfl) ?_
  refine wr_nil (post_thenN (wc_seq ?_))
  refine wc_region [0,1,2,3,4,5,6,7] rfl ?_
  refine Go.Sx.V rfl wu rfl rfl (mv rfl) ?_
  refine Go.Sx.V rfl wu rfl rfl (mv rfl) ?_
  refine C rfl wu rfl rfl Try.call46 (wCount P g n _ hG) ?_
  rintro _ w1 hE rfl
  refine Go.Sx.V rfl wu rfl rfl (mv rfl) ?_
  refine Go.Sx.V rfl wu rfl rfl (ext rfl rfl) ?_
  refine Go.Sx.V rfl wu rfl rfl (ext rfl rfl) ?_
  refine Go.Sx.V rfl wu rfl rfl (asg rfl) ?_
  refine Go.Sx.V rfl wu rfl rfl (asg rfl) ?_
  refine wr_nil (post_thenN (wc_seq (wc_seq ?_)))
  refine wc_region [0,1] rfl ?_
  refine Go.Sx.V rfl wu rfl rfl (mv rfl) ?_
  refine Go.Sx.V rfl wu rfl rfl (neqI rfl rfl) ?_
  refine wr_nil (post_thenN ?_)
  refine wc_cond rfl ?_ ?_
  · intro h
    simp at h
    refine wc_seq ?_
    refine wc_region [0,1,2] rfl ?_
    refine Go.Sx.V rfl wu rfl rfl (mv rfl) ?_
    refine Go.Sx.V rfl wu rfl rfl (asg rfl) ?_
    refine Go.Sx.V rfl wu rfl rfl (asg rfl) ?_
    refine wr_nil (post_thenN (wc_ret (post_thenR ?_)))
    refine post_ret2 rfl rfl rfl ?_
    exact ⟨hE, _, by rw [fiA_err h]; rfl, by rw [fiA_err h]; exact Ints.nil _⟩
  · intro h
    simp at h
    obtain ⟨hn0, hn64, hpw, htot⟩ := cnt_len h
    refine wc_skip (post_thenN (wc_seq (wc_seq ?_)))
    refine wc_region [0,1,2,3,4,5,6] rfl ?_
    refine Go.Sx.V rfl wu rfl rfl (mv rfl) ?_
    refine Go.Sx.V rfl wu rfl rfl (lssI rfl rfl) ?_
    refine Go.Sx.V rfl wu rfl rfl (mv rfl) ?_
    refine OR (π1 := [3,4,5,6]) (π2 := []) (tc := 23) (tp := 27) rfl rfl rfl (by
        intro _
        refine SK rfl rfl rfl rfl rfl ?_
        refine SK rfl rfl rfl rfl rfl ?_
        refine SK rfl rfl rfl rfl rfl ?_
        refine Go.Sx.V rfl wu rfl rfl (pk rfl rfl) ?_
        exact join rfl) (by
        intro hg
        simp at hg
        refine Go.Sx.V rfl (wg rfl rfl) rfl rfl (mv rfl) ?_
        refine Go.Sx.V rfl (wg rfl rfl) rfl rfl (mv rfl) ?_
        refine Go.Sx.V rfl (wg rfl rfl) rfl rfl (geqI rfl rfl) ?_
        refine Go.Sx.V rfl wu rfl rfl (pk rfl rfl) ?_
        exact join rfl) ?_
    refine wr_nil (post_thenN ?_)
    refine wc_cond rfl ?_ ?_
    · intro hi
      simp at hi
      refine wc_seq ?_
      refine wc_region [0,1] rfl ?_
      refine Go.Sx.V rfl wu rfl rfl (asg rfl) ?_
      refine Go.Sx.V rfl wu rfl rfl (asg rfl) ?_
      refine wr_nil (post_thenN (wc_ret (post_thenR ?_)))
      refine post_ret2 rfl rfl rfl ?_
      exact ⟨hE, _, by rw [fiA_rng h hi], by rw [fiA_rng h hi]; exact Ints.nil _⟩
    · intro hi
      simp at hi
      obtain ⟨hi0, hi1⟩ := hi
      refine wc_skip (post_thenN (wc_seq ?_))
      refine wc_region [0,1,2] rfl ?_
      refine Go.Sx.V rfl wu rfl rfl (mv rfl) ?_
      refine MKI (n := n.toNat) rfl wu rfl rfl ty26 ?_
      intro out w2 hE2 ho hoi hob
      refine Go.Sx.V rfl wu rfl rfl (asg rfl) ?_
      refine wr_nil (post_thenN (wc_seq (wc_seq ?_)))
      rw [fst'_first P.q n.toNat i, show ((n.toNat : Nat) : Int) - 1 = n - 1 by omega] at ho
      have hsz := hE.size
      refine wc_region [0,1,2] rfl ?_
      refine Go.Sx.V rfl wu rfl rfl (mv rfl) ?_
      refine Go.Sx.V rfl wu rfl rfl (subI rfl rfl) ?_
      refine Go.Sx.V rfl wu rfl rfl (asg rfl) ?_
      refine wr_nil (post_thenN (wc_block ?_))
      refine wc_loop (fun k : Int => [(0, g), (2, .int .i64 (i / P.q ^ (n - 1 - k).toNat)), (10, out), (11, .int .i64 k)])
        (fun k w' => -1 ≤ k ∧ k ≤ n - 1 ∧ Ext w w' ∧ Ext w1 w' ∧ OwnI w1.heap.size w' out 3 (fst' P.q n.toNat i k)) (fun k => (k + 1).toNat) (n - 1) ⟨rfl, by rw [show (n - 1 - (n - 1)).toNat = 0 by omega, Int.pow_zero, Int.ediv_one]; rfl, rfl, rfl, trivial⟩
        ⟨by omega, by omega, hE.trans hE2, hE2, ho⟩ ?_
      clear hE hE2 ho hoi
      rintro k w3 ⟨k0, k1, hE, hE1, ho⟩
      have hp0 := pw_pos hq2 (n - 1 - k).toNat
      have hc0 : 0 ≤ i / P.q ^ (n - 1 - k).toNat := Int.ediv_nonneg hi0 (by omega)
      have hc1 : i / P.q ^ (n - 1 - k).toNat ≤ i := Int.ediv_le_self _ hi0
      have hfl : (fst' P.q n.toNat i k).length = n.toNat := tab_length _ _
      try dsimp only
      refine wc_seq (wc_seq ?_)
      refine wc_region [0,1] rfl ?_
      refine Go.Sx.V rfl wu rfl rfl (mv rfl) ?_
      refine Go.Sx.V rfl wu rfl rfl (geqI rfl rfl) ?_
      refine wr_nil (post_thenN ?_)
      refine wc_cond rfl ?_ ?_
      · intro hk
        simp at hk
        have hst := fst'_step (q := P.q) (n := n.toNat) (i := i) hk (by omega)
        have hnx := fq_next (q := P.q) (i := i) (k := k) (n := n.toNat) hq2 (by omega)
        rw [show ((n.toNat : Nat) : Int) = n by omega] at hst hnx
        refine wc_skip (post_thenN (wc_seq (wc_block (wc_seq ?_))))
        refine wc_region [0,1,2,3,4,5,6,7] rfl ?_
        refine Go.Sx.V rfl wu rfl rfl (mv rfl) ?_
        refine Go.Sx.V rfl wu rfl rfl (mv rfl) ?_
        refine Go.Sx.V rfl wu rfl rfl (mv rfl) ?_
        refine Go.Sx.V rfl wu rfl rfl (mv rfl) ?_
        refine C rfl wu rfl rfl Try.call73 (gOrder P g _ (hG.ext hE)) ?_
        rintro _ w4 hE4 rfl
        replace hE := hE.trans hE4
        replace hE1 := hE1.trans hE4
        replace ho := Own.ext ho hE4
        have hoi := OwnI.ints ho
        refine Go.Sx.V rfl wu rfl rfl (remI rfl rfl) ?_
        refine Go.Sx.V rfl wu rfl rfl (iadI rfl rfl ty26) ?_
        refine STI rfl wu rfl rfl sz3 (by intro h; cases h) ?_
        intro w5 hg5 hX5 ho5 hi5
        refine wr_nil (post_thenN ?_)
        rw [hst] at ho5
        replace hE := hX5 _ hsz hE
        replace hE1 := hX5 _ (Nat.le_refl _) hE1
        refine wc_region [0,1,2,3,4] rfl ?_
        refine Go.Sx.V rfl wu rfl rfl (mv rfl) ?_
        refine Go.Sx.V rfl wu rfl rfl (mv rfl) ?_
        refine C rfl wu rfl rfl Try.call73 (gOrder P g _ (hG.ext hE)) ?_
        rintro _ w6 hE6 rfl
        replace hE := hE.trans hE6
        replace hE1 := hE1.trans hE6
        refine Go.Sx.V rfl wu rfl rfl (quoI rfl rfl) ?_
        refine Go.Sx.V rfl wu rfl rfl (asg rfl) ?_
        refine wr_nil (post_blockN (post_thenN ?_))
        rw [hnx]
        refine wc_region [0,1,2] rfl ?_
        refine Go.Sx.V rfl wu rfl rfl (mv rfl) ?_
        refine Go.Sx.V rfl wu rfl rfl (subI rfl rfl) ?_
        refine Go.Sx.V rfl wu rfl rfl (asg rfl) ?_
        refine wr_nil ?_
        exact post_loopN (k - 1) ⟨rfl, rfl, rfl, rfl, trivial⟩ ⟨by omega, by omega, hE, hE1, Own.ext ho5 hE6⟩ (by omega)
      · intro hk
        simp at hk
        refine wc_exit (post_thenE (post_loopE (post_blockX (post_thenN (wc_seq ?_)))))
        refine wc_region [0,1,2] rfl ?_
        refine Go.Sx.V rfl wu rfl rfl (mv rfl) ?_
        refine Go.Sx.V rfl wu rfl rfl (asg rfl) ?_
        refine Go.Sx.V rfl wu rfl rfl (asg rfl) ?_
        refine wr_nil (post_thenN (wc_ret ?_))
        refine post_ret2 rfl rfl rfl ?_
        have : k = -1 := by omega
        subst this
        rw [fst'_last] at ho
        have hf := fiA_ok h (i := i) (by omega)
        exact ⟨hE, out, by rw [hf], by rw [hf]; exact OwnI.ints ho⟩

set_option maxRecDepth 10000 in
theorem rFromIndex (P : FP) (mo : Value) (md : List Int) (n i : Int) (w : World) (hF : FV w P mo md) :
    Calls Try.prog 48 #[fv P mo, .int .i64 n, .int .i64 i] w (RetX w fun v w' => ∃ s, v = .tuple #[s, .int .i64 (fiA P.q n i).2] ∧ Ints w' s (fiA P.q n i).1) := by
  have hq2 := P.q_two
  have hord := hF.ord
  refine calls3 Try.func48 rfl rfl ?_
  refine wc_seq ?_
  refine wc_region [0,1,2] rfl ?_
  refine BXA rfl wu rfl rfl ?_
  intro fb w0 hE0 hB hg
  refine Go.Sx.V rfl wu rfl rfl (asg rfl) ?_
  refine Go.Sx.V rfl wu rfl rfl (asg rfl) ?_
  refine wr_nil (post_thenN (wc_seq ?_))
  refine wc_region [0,1,2,3,4,5,6,7] rfl ?_
  refine Go.Sx.V rfl wu rfl rfl (ldA rfl ag40) ?_
  refine Go.Sx.V rfl wu rfl rfl (mv rfl) ?_
  refine C rfl wu rfl rfl Try.call40 (rCount P mo md n _ (hF.ext hE0)) ?_
  rintro _ w1 hE1 rfl
  have hE := hE0.trans hE1
  replace hB := hB.ext hE1
  refine Go.Sx.V rfl wu rfl rfl (mv rfl) ?_
  refine Go.Sx.V rfl wu rfl rfl (ext rfl rfl) ?_
  refine Go.Sx.V rfl wu rfl rfl (ext rfl rfl) ?_
  refine Go.Sx.V rfl wu rfl rfl (asg rfl) ?_
  refine Go.Sx.V rfl wu rfl rfl (asg rfl) ?_
  refine wr_nil (post_thenN (wc_seq (wc_seq ?_)))
  refine wc_region [0,1] rfl ?_
  refine Go.Sx.V rfl wu rfl rfl (mv rfl) ?_
  refine Go.Sx.V rfl wu rfl rfl (neqI rfl rfl) ?_
  refine wr_nil (post_thenN ?_)
  refine wc_cond rfl ?_ ?_
  · intro h
    simp at h
    refine wc_seq ?_
    refine wc_region [0,1,2] rfl ?_
    refine Go.Sx.V rfl wu rfl rfl (mv rfl) ?_
    refine Go.Sx.V rfl wu rfl rfl (asg rfl) ?_
    refine Go.Sx.V rfl wu rfl rfl (asg rfl) ?_
    refine wr_nil (post_thenN (wc_ret (post_thenR ?_)))
    refine post_ret2 rfl rfl rfl ?_
    exact ⟨hE, _, by rw [fiA_err h]; rfl, by rw [fiA_err h]; exact Ints.nil _⟩
  · intro h
    simp at h
    obtain ⟨hn0, hn64, hpw, htot⟩ := cnt_len h
    refine wc_skip (post_thenN (wc_seq (wc_seq ?_)))
    refine wc_region [0,1,2,3,4,5,6] rfl ?_
    refine Go.Sx.V rfl wu rfl rfl (mv rfl) ?_
    refine Go.Sx.V rfl wu rfl rfl (lssI rfl rfl) ?_
    refine Go.Sx.V rfl wu rfl rfl (mv rfl) ?_
    refine OR (π1 := [3,4,5,6]) (π2 := []) (tc := 24) (tp := 28) rfl rfl rfl (by
        intro _
        refine SK rfl rfl rfl rfl rfl ?_
        refine SK rfl rfl rfl rfl rfl ?_
        refine SK rfl rfl rfl rfl rfl ?_
        refine Go.Sx.V rfl wu rfl rfl (pk rfl rfl) ?_
        exact join rfl) (by
        intro hg
        simp at hg
        refine Go.Sx.V rfl (wg rfl rfl) rfl rfl (mv rfl) ?_
        refine Go.Sx.V rfl (wg rfl rfl) rfl rfl (mv rfl) ?_
        refine Go.Sx.V rfl (wg rfl rfl) rfl rfl (geqI rfl rfl) ?_
        refine Go.Sx.V rfl wu rfl rfl (pk rfl rfl) ?_
        exact join rfl) ?_
    refine wr_nil (post_thenN ?_)
    refine wc_cond rfl ?_ ?_
    · intro hi
      simp at hi
      refine wc_seq ?_
      refine wc_region [0,1] rfl ?_
      refine Go.Sx.V rfl wu rfl rfl (asg rfl) ?_
      refine Go.Sx.V rfl wu rfl rfl (asg rfl) ?_
      refine wr_nil (post_thenN (wc_ret (post_thenR ?_)))
      refine post_ret2 rfl rfl rfl ?_
      exact ⟨hE, _, by rw [fiA_rng h hi], by rw [fiA_rng h hi]; exact Ints.nil _⟩
    · intro hi
      simp at hi
      obtain ⟨hi0, hi1⟩ := hi
      refine wc_skip (post_thenN (wc_seq ?_))
      refine wc_region [0,1,2] rfl ?_
      refine Go.Sx.V rfl wu rfl rfl (ldA rfl ag40) ?_
      refine C rfl wu rfl rfl Try.call41 (rOrder P.p P.M mo _) ?_
      rintro _ w2 hE2 rfl
      replace hE := hE.trans hE2
      rw [hord]
      refine Go.Sx.V rfl wu rfl rfl (asg rfl) ?_
      refine wr_nil (post_thenN (wc_seq ?_))
      have hsz := hE.size
      refine wc_region [0,1,2] rfl ?_
      refine Go.Sx.V rfl wu rfl rfl (mv rfl) ?_
      refine MKI (n := n.toNat) rfl wu rfl rfl ty26 ?_
      intro out w3 hE3 ho hoi hob
      refine Go.Sx.V rfl wu rfl rfl (asg rfl) ?_
      refine wr_nil (post_thenN (wc_seq (wc_seq ?_)))
      rw [fst'_first P.q n.toNat i, show ((n.toNat : Nat) : Int) - 1 = n - 1 by omega] at ho
      refine wc_region [0,1,2] rfl ?_
      refine Go.Sx.V rfl wu rfl rfl (mv rfl) ?_
      refine Go.Sx.V rfl wu rfl rfl (subI rfl rfl) ?_
      refine Go.Sx.V rfl wu rfl rfl (asg rfl) ?_
      refine wr_nil (post_thenN (wc_block ?_))
      refine wc_loop (fun k : Int => [(2, .int .i64 (i / P.q ^ (n - 1 - k).toNat)), (10, .int .i64 P.q), (11, out), (12, .int .i64 k)])
        (fun k w' => -1 ≤ k ∧ k ≤ n - 1 ∧ Ext w w' ∧ Ext w2 w' ∧ OwnI w2.heap.size w' out 3 (fst' P.q n.toNat i k)) (fun k => (k + 1).toNat) (n - 1) ⟨by rw [show (n - 1 - (n - 1)).toNat = 0 by omega, Int.pow_zero, Int.ediv_one]; rfl, rfl, rfl, rfl, trivial⟩
        ⟨by omega, by omega, hE.trans hE3, hE3, ho⟩ ?_
      clear hE hE3 ho hoi
      rintro k w4 ⟨k0, k1, hE, hE1, ho⟩
      have hp0 := pw_pos hq2 (n - 1 - k).toNat
      have hc0 : 0 ≤ i / P.q ^ (n - 1 - k).toNat := Int.ediv_nonneg hi0 (by omega)
      have hc1 : i / P.q ^ (n - 1 - k).toNat ≤ i := Int.ediv_le_self _ hi0
      have hfl : (fst' P.q n.toNat i k).length = n.toNat := tab_length _ _
      have hoi := OwnI.ints ho
      try dsimp only
      refine wc_seq (wc_seq ?_)
      refine wc_region [0,1] rfl ?_
      refine Go.Sx.V rfl wu rfl rfl (mv rfl) ?_
      refine Go.Sx.V rfl wu rfl rfl (geqI rfl rfl) ?_
      refine wr_nil (post_thenN ?_)
      refine wc_cond rfl ?_ ?_
      · intro hk
        simp at hk
        have hst := fst'_step (q := P.q) (n := n.toNat) (i := i) hk (by omega)
        have hnx := fq_next (q := P.q) (i := i) (k := k) (n := n.toNat) hq2 (by omega)
        rw [show ((n.toNat : Nat) : Int) = n by omega] at hst hnx
        refine wc_skip (post_thenN (wc_seq (wc_block (wc_seq ?_))))
        refine wc_region [0,1,2,3,4,5,6] rfl ?_
        refine Go.Sx.V rfl wu rfl rfl (mv rfl) ?_
        refine Go.Sx.V rfl wu rfl rfl (mv rfl) ?_
        refine Go.Sx.V rfl wu rfl rfl (mv rfl) ?_
        refine Go.Sx.V rfl wu rfl rfl (mv rfl) ?_
        refine Go.Sx.V rfl wu rfl rfl (remI rfl rfl) ?_
        refine Go.Sx.V rfl wu rfl rfl (iadI rfl rfl ty26) ?_
        refine STI rfl wu rfl rfl sz3 (by intro h; cases h) ?_
        intro w5 hg5 hX5 ho5 hi5
        refine wr_nil (post_thenN ?_)
        rw [hst] at ho5
        refine wc_region [0,1,2,3] rfl ?_
        refine Go.Sx.V rfl wu rfl rfl (mv rfl) ?_
        refine Go.Sx.V rfl wu rfl rfl (mv rfl) ?_
        refine Go.Sx.V rfl wu rfl rfl (quoI rfl rfl) ?_
        refine Go.Sx.V rfl wu rfl rfl (asg rfl) ?_
        refine wr_nil (post_blockN (post_thenN ?_))
        rw [hnx]
        refine wc_region [0,1,2] rfl ?_
        refine Go.Sx.V rfl wu rfl rfl (mv rfl) ?_
        refine Go.Sx.V rfl wu rfl rfl (subI rfl rfl) ?_
        refine Go.Sx.V rfl wu rfl rfl (asg rfl) ?_
        refine wr_nil ?_
        exact post_loopN (k - 1) ⟨rfl, rfl, rfl, rfl, trivial⟩ ⟨by omega, by omega, hX5 _ hsz hE, hX5 _ (Nat.le_refl _) hE1, ho5⟩ (by omega)
      · intro hk
        simp at hk
        refine wc_exit (post_thenE (post_loopE (post_blockX (post_thenN (wc_seq ?_)))))
        refine wc_region [0,1,2] rfl ?_
        refine Go.Sx.V rfl wu rfl rfl (mv rfl) ?_
        refine Go.Sx.V rfl wu rfl rfl (asg rfl) ?_
        refine Go.Sx.V rfl wu rfl rfl (asg rfl) ?_
        refine wr_nil (post_thenN (wc_ret ?_))
        refine post_ret2 rfl rfl rfl ?_
        have : k = -1 := by omega
        subst this
        rw [fst'_last] at ho
        have hf := fiA_ok h (i := i) (by omega)
        exact ⟨hE, out, by rw [hf], by rw [hf]; exact OwnI.ints ho⟩
end Go.Proofs.Ytlcokneidokfnaa
