/-
  The reference's small functions of fields, by contract: Order, prime, digits.
-/
import Derived.Test.YtmnojknfjbimdaaGreatYField4
namespace Go.Proofs.YtmnojknfjbimdaaGreat
open Go Go.Sx Go.Pl Go.RowKit Go.Fd Go.Alg
theorem rOrder (p M : Int) (mo : Value) (w : World) :
    Calls Tryz.prog 67 #[fv0 p M mo] w (RetX w fun v _ => v = .int .i64 (ordZ p M)) := by
  refine calls1 Tryz.func67 rfl rfl ?_
  refine wc_seq ?_
  refine wc_region [0,1] rfl ?_
  refine BXA rfl wu rfl rfl ?_
  intro g w1 hE hB hg
  refine Go.Sx.V rfl wu rfl rfl (asg rfl) ?_
  refine wr_nil (post_thenN (wc_seq (wc_seq ?_)))
  refine wc_region [0,1,2,3,4,5,6,7,8,9,10,11,12] rfl ?_
  refine Go.Sx.V rfl wu rfl rfl (fad rfl fa24_0) ?_
  refine Go.Sx.V rfl wu rfl rfl (ldB rfl na3) ?_
  refine Go.Sx.V rfl wu rfl rfl (lssI rfl rfl) ?_
  refine Go.Sx.V rfl wu rfl rfl (mv rfl) ?_
  refine OR (π1 := [4,5,6,7]) (π2 := [8,9,10,11,12]) (tc := 8) (tp := 12) rfl rfl rfl (by
      intro _
      refine SK rfl rfl rfl rfl rfl ?_
      refine SK rfl rfl rfl rfl rfl ?_
      refine SK rfl rfl rfl rfl rfl ?_
      refine Go.Sx.V rfl wu rfl rfl (pk rfl rfl) ?_
      exact join rfl) (by
      intro hg
      simp at hg
      refine Go.Sx.V rfl (wg rfl rfl) rfl rfl (fad rfl fa24_1) ?_
      refine Go.Sx.V rfl (wg rfl rfl) rfl rfl (ldB rfl na3) ?_
      refine Go.Sx.V rfl (wg rfl rfl) rfl rfl (lssI rfl rfl) ?_
      refine Go.Sx.V rfl wu rfl rfl (pk rfl rfl) ?_
      exact join rfl) ?_
  refine Go.Sx.V rfl wu rfl rfl (mv rfl) ?_
  refine OR (π1 := [9,10,11,12]) (π2 := []) (tc := 13) (tp := 17) rfl rfl rfl (by
      intro _
      refine SK rfl rfl rfl rfl rfl ?_
      refine SK rfl rfl rfl rfl rfl ?_
      refine SK rfl rfl rfl rfl rfl ?_
      refine Go.Sx.V rfl wu rfl rfl (pk rfl rfl) ?_
      exact join rfl) (by
      intro hg
      simp at hg
      refine Go.Sx.V rfl (wg rfl rfl) rfl rfl (fad rfl fa24_1) ?_
      refine Go.Sx.V rfl (wg rfl rfl) rfl rfl (ldB rfl na3) ?_
      refine Go.Sx.V rfl (wg rfl rfl) rfl rfl (gtrI rfl rfl) ?_
      refine Go.Sx.V rfl wu rfl rfl (pk rfl rfl) ?_
      exact join rfl) ?_
  refine wr_nil (post_thenN ?_)
  refine wc_cond rfl ?_ ?_
  · intro h
    simp at h
    refine wc_seq ?_
    refine wc_region [0] rfl ?_
    refine Go.Sx.V rfl wu rfl rfl (asg rfl) ?_
    refine wr_nil (post_thenN (wc_ret (post_thenR ?_)))
    refine post_ret1 rfl rfl ?_
    exact ⟨hE, by rw [ordZ, if_pos (by omega)]⟩
  · intro h
    simp at h
    refine wc_skip (post_thenN (wc_seq ?_))
    refine wc_region [0] rfl ?_
    refine Go.Sx.V rfl wu rfl rfl (asg rfl) ?_
    refine wr_nil (post_thenN (wc_seq (wc_seq ?_)))
    refine wc_region [0] rfl ?_
    refine Go.Sx.V rfl wu rfl rfl (asg rfl) ?_
    refine wr_nil (post_thenN (wc_block ?_))
    refine wc_loop (fun i : Int => [(1, .pointer (some ⟨g, 0, none⟩)), (3, .int .i64 (p ^ i.toNat)), (4, .int .i64 i)])
      (fun i w' => 0 ≤ i ∧ i ≤ M ∧ p ^ i.toNat ≤ 256 ∧ w' = w1) (fun i => (M - i).toNat) 0 ⟨rfl, by rw [show (0 : Int).toNat = 0 from rfl, Int.pow_zero]; rfl, rfl, trivial⟩ ⟨by omega, by omega, by simp, rfl⟩ ?_
    rintro i w' ⟨h0, h1, hq, rfl⟩
    have hq0 := pow_pos' (p := p) (by omega) i.toNat
    try dsimp only
    refine wc_seq (wc_seq ?_)
    refine wc_region [0,1,2,3] rfl ?_
    refine Go.Sx.V rfl wu rfl rfl (mv rfl) ?_
    refine Go.Sx.V rfl wu rfl rfl (fad rfl fa24_1) ?_
    refine Go.Sx.V rfl wu rfl rfl (ldB rfl na3) ?_
    refine Go.Sx.V rfl wu rfl rfl (lssI rfl rfl) ?_
    refine wr_nil (post_thenN ?_)
    refine wc_cond rfl ?_ ?_
    · intro hi
      simp at hi
      refine wc_skip (post_thenN (wc_seq (wc_block (wc_seq (wc_seq ?_)))))
      have hd : p ^ i.toNat ≤ 256 / p ↔ p ^ i.toNat * p ≤ 256 := Int.le_ediv_iff_mul_le (by omega)
      have hnx := pow_next (p := p) i h0
      refine wc_region [0,1,2,3,4] rfl ?_
      refine Go.Sx.V rfl wu rfl rfl (mv rfl) ?_
      refine Go.Sx.V rfl wu rfl rfl (fad rfl fa24_0) ?_
      refine Go.Sx.V rfl wu rfl rfl (ldB rfl na3) ?_
      refine Go.Sx.V rfl wu rfl rfl (quoI rfl rfl) ?_
      refine Go.Sx.V rfl wu rfl rfl (gtrI rfl rfl) ?_
      refine wr_nil (post_thenN ?_)
      refine wc_cond rfl ?_ ?_
      · intro hb
        simp at hb
        refine wc_seq ?_
        refine wc_region [0] rfl ?_
        refine Go.Sx.V rfl wu rfl rfl (asg rfl) ?_
        refine wr_nil (post_thenN (wc_ret (post_thenR (post_blockR (post_thenR (post_loopR (post_blockR (post_thenR ?_))))))))
        refine post_ret1 rfl rfl ?_
        have := pow_mono (p := p) (by omega) (m := (i + 1).toNat) (n := M.toNat) (by omega)
        have hn : ¬ p ^ i.toNat ≤ 256 / p := by omega
        have hn' : ¬ p ^ i.toNat * p ≤ 256 := fun hc => hn (hd.2 hc)
        exact ⟨hE, by rw [ordZ, if_pos (by omega)]⟩
      · intro hb
        simp at hb
        have hb' := hd.1 hb
        have hm0 : 0 ≤ p ^ i.toNat * p := Int.mul_nonneg (by omega) (by omega)
        refine wc_skip (post_thenN ?_)
        refine wc_region [0,1,2,3,4] rfl ?_
        refine Go.Sx.V rfl wu rfl rfl (mv rfl) ?_
        refine Go.Sx.V rfl wu rfl rfl (fad rfl fa24_0) ?_
        refine Go.Sx.V rfl wu rfl rfl (ldB rfl na3) ?_
        refine Go.Sx.V rfl wu rfl rfl (mulI rfl rfl) ?_
        refine Go.Sx.V rfl wu rfl rfl (asg rfl) ?_
        refine wr_nil (post_blockN (post_thenN ?_))
        rw [← hnx]
        refine wc_region [0,1,2] rfl ?_
        refine Go.Sx.V rfl wu rfl rfl (mv rfl) ?_
        refine Go.Sx.V rfl wu rfl rfl (addI rfl rfl) ?_
        refine Go.Sx.V rfl wu rfl rfl (asg rfl) ?_
        refine wr_nil ?_
        exact post_loopN (i + 1) ⟨rfl, rfl, rfl, trivial⟩ ⟨by omega, by omega, by omega, rfl⟩ (by omega)
    · intro hi
      simp at hi
      refine wc_exit (post_thenE (post_loopE (post_blockX (post_thenN (wc_seq ?_)))))
      have e : i = M := by omega
      subst e
      refine wc_region [0,1] rfl ?_
      refine Go.Sx.V rfl wu rfl rfl (mv rfl) ?_
      refine Go.Sx.V rfl wu rfl rfl (asg rfl) ?_
      refine wr_nil (post_thenN (wc_ret ?_))
      refine post_ret1 rfl rfl ?_
      have hp : p ≤ 256 := by
        have := pow_mono (p := p) (by omega) (m := 1) (n := i.toNat) (by omega)
        rw [Int.pow_succ, Int.pow_zero, Int.one_mul] at this
        omega
      exact ⟨hE, by rw [ordZ, if_neg (by omega)]⟩
theorem rPrime (n : Int) (w : World) (hn : 2 ≤ n ∧ n ≤ 256) :
    Calls Tryz.prog 99 #[.int .i64 n] w (RetX w fun v _ => v = .bool (primeN n.toNat)) := by
  refine calls1 Tryz.func99 rfl rfl ?_
  refine wc_seq ?_
  refine wc_region [0] rfl ?_
  refine Go.Sx.V rfl wu rfl rfl (asg rfl) ?_
  refine wr_nil (post_thenN (wc_seq (wc_seq ?_)))
  refine wc_region [0] rfl ?_
  refine Go.Sx.V rfl wu rfl rfl (asg rfl) ?_
  refine wr_nil (post_thenN (wc_block ?_))
  refine wc_loop (fun d : Int => [(0, .int .i64 n), (3, .int .i64 d)])
    (fun d w' => 2 ≤ d ∧ d ≤ n ∧ (∀ e : Int, 2 ≤ e → e < d → n % e ≠ 0) ∧ w' = w) (fun d => (n - d).toNat) 2 ⟨rfl, rfl, trivial⟩ ⟨by omega, by omega, fun e _ _ => by omega, rfl⟩ ?_
  rintro d w' ⟨h0, h1, h2, rfl⟩
  try dsimp only
  refine wc_seq (wc_seq ?_)
  refine wc_region [0,1,2] rfl ?_
  refine Go.Sx.V rfl wu rfl rfl (mv rfl) ?_
  refine Go.Sx.V rfl wu rfl rfl (mv rfl) ?_
  refine Go.Sx.V rfl wu rfl rfl (lssI rfl rfl) ?_
  refine wr_nil (post_thenN ?_)
  refine wc_cond rfl ?_ ?_
  · intro hd
    simp at hd
    refine wc_skip (post_thenN (wc_seq (wc_block (wc_seq ?_))))
    refine wc_region [0,1,2,3] rfl ?_
    refine Go.Sx.V rfl wu rfl rfl (mv rfl) ?_
    refine Go.Sx.V rfl wu rfl rfl (mv rfl) ?_
    refine Go.Sx.V rfl wu rfl rfl (remI rfl rfl) ?_
    refine Go.Sx.V rfl wu rfl rfl (eqlI rfl rfl) ?_
    refine wr_nil (post_thenN ?_)
    refine wc_cond rfl ?_ ?_
    · intro he
      simp at he
      refine wc_seq ?_
      refine wc_region [0] rfl ?_
      refine Go.Sx.V rfl wu rfl rfl (asg rfl) ?_
      refine wr_nil (post_thenN (wc_ret (post_blockR (post_thenR (post_loopR (post_blockR (post_thenR ?_)))))))
      refine post_ret1 rfl rfl ?_
      exact ⟨Ext.refl _, by rw [primeN_false h0 hd he]⟩
    · intro he
      simp at he
      refine wc_skip (post_blockN (post_thenN ?_))
      refine wc_region [0,1,2] rfl ?_
      refine Go.Sx.V rfl wu rfl rfl (mv rfl) ?_
      refine Go.Sx.V rfl wu rfl rfl (addI rfl rfl) ?_
      refine Go.Sx.V rfl wu rfl rfl (asg rfl) ?_
      refine wr_nil ?_
      exact post_loopN (d + 1) ⟨rfl, rfl, trivial⟩ ⟨by omega, by omega, fun e he1 he2 => (by
        by_cases e' : e = d
        · rw [e']; exact he
        · exact h2 e he1 (by omega)), rfl⟩ (by omega)
  · intro hd
    simp at hd
    refine wc_exit (post_thenE (post_loopE (post_blockX (post_thenN (wc_seq ?_)))))
    refine wc_region [0] rfl ?_
    refine Go.Sx.V rfl wu rfl rfl (asg rfl) ?_
    refine wr_nil (post_thenN (wc_ret ?_))
    refine post_ret1 rfl rfl ?_
    refine ⟨Ext.refl _, ?_⟩
    have e : d = n := by omega
    subst e
    have hm : 2 * d ≤ d * d := Int.mul_le_mul_of_nonneg_right hn.1 (by omega)
    rw [primeN_true hn.1 h0 h2 (by omega)]
theorem rDigits (x p : Int) (m : Nat) (w : World) (hx : 0 ≤ x ∧ x ≤ 65536) (hp : 2 ≤ p ∧ p ≤ 256) (hm : m ≤ 64) :
    Calls Tryz.prog 101 #[.int .i64 x, .int .i64 p, .int .i64 m] w (RetX w fun v w' => OwnI w.heap.size w' v 3 (dig p m x) ∧ v.ownBlock = some w.heap.size) := by
  refine calls3 Tryz.func101 rfl rfl ?_
  refine wc_seq ?_
  refine wc_region [0] rfl ?_
  refine Go.Sx.V rfl wu rfl rfl (asg rfl) ?_
  refine wr_nil (post_thenN (wc_seq ?_))
  refine wc_region [0,1,2] rfl ?_
  refine Go.Sx.V rfl wu rfl rfl (mv rfl) ?_
  refine MKI (n := m) rfl wu rfl rfl ty22 ?_
  intro s w1 hE hs hsi hsb
  refine Go.Sx.V rfl wu rfl rfl (asg rfl) ?_
  refine wr_nil (post_thenN (wc_seq (wc_seq ?_)))
  refine wc_region [0] rfl ?_
  refine Go.Sx.V rfl wu rfl rfl (asg rfl) ?_
  refine wr_nil (post_thenN (wc_block ?_))
  refine wc_loop (fun q : Int × Int × List Int => [(0, .int .i64 q.2.1), (1, .int .i64 p), (2, .int .i64 m), (7, s), (8, .int .i64 q.1)])
    (fun q w' => 0 ≤ q.1 ∧ q.1 ≤ m ∧ 0 ≤ q.2.1 ∧ q.2.1 ≤ 65536 ∧ Dg p m x q.1.toNat q.2.1 q.2.2 ∧ Ext w w' ∧ OwnI w.heap.size w' s 3 q.2.2) (fun q => (m - q.1).toNat) (0, x, tab m fun _ => 0) ⟨rfl, rfl, rfl, rfl, rfl, trivial⟩ ⟨by omega, by omega, hx.1, hx.2, Dg.first p m x, hE, hs⟩ ?_
  clear hE hs hsi
  rintro ⟨i, y, l⟩ w2 ⟨h0, h1, hy0, hy1, hD, hE, hs⟩
  simp only at h0 h1 hy0 hy1 hD hE hs
  have hsi := hs.ints
  have hl := hD.len (by omega)
  have hy2 : y / p ≤ y := Int.ediv_le_self _ hy0
  have hy3 : 0 ≤ y / p := Int.ediv_nonneg hy0 (by omega)
  try dsimp only
  refine wc_seq (wc_seq ?_)
  refine wc_region [0,1,2] rfl ?_
  refine Go.Sx.V rfl wu rfl rfl (mv rfl) ?_
  refine Go.Sx.V rfl wu rfl rfl (mv rfl) ?_
  refine Go.Sx.V rfl wu rfl rfl (lssI rfl rfl) ?_
  refine wr_nil (post_thenN ?_)
  refine wc_cond rfl ?_ ?_
  · intro hi
    simp at hi
    refine wc_skip (post_thenN (wc_seq (wc_block (wc_seq ?_))))
    refine wc_region [0,1,2,3,4,5,6] rfl ?_
    refine Go.Sx.V rfl wu rfl rfl (mv rfl) ?_
    refine Go.Sx.V rfl wu rfl rfl (mv rfl) ?_
    refine Go.Sx.V rfl wu rfl rfl (mv rfl) ?_
    refine Go.Sx.V rfl wu rfl rfl (mv rfl) ?_
    refine Go.Sx.V rfl wu rfl rfl (remI rfl rfl) ?_
    refine Go.Sx.V rfl wu rfl rfl (iadI rfl rfl ty22) ?_
    refine STI rfl wu rfl rfl sz3 (by intro h; cases h) ?_
    intro w3 hg hX hs3 hsi3
    refine wr_nil (post_thenN ?_)
    have hD' := hD.step (by omega)
    rw [show ((i.toNat : Nat) : Int) = i by omega] at hD'
    refine wc_region [0,1,2,3] rfl ?_
    refine Go.Sx.V rfl wu rfl rfl (mv rfl) ?_
    refine Go.Sx.V rfl wu rfl rfl (mv rfl) ?_
    refine Go.Sx.V rfl wu rfl rfl (quoI rfl rfl) ?_
    refine Go.Sx.V rfl wu rfl rfl (asg rfl) ?_
    refine wr_nil (post_blockN (post_thenN ?_))
    refine wc_region [0,1,2] rfl ?_
    refine Go.Sx.V rfl wu rfl rfl (mv rfl) ?_
    refine Go.Sx.V rfl wu rfl rfl (addI rfl rfl) ?_
    refine Go.Sx.V rfl wu rfl rfl (asg rfl) ?_
    refine wr_nil ?_
    exact post_loopN (i + 1, y / p, si l i (y % p)) ⟨rfl, rfl, rfl, rfl, rfl, trivial⟩ ⟨by show 0 ≤ i + 1; omega, by show i + 1 ≤ _; omega, hy3, by show y / p ≤ _; omega, by show Dg p m x (i + 1).toNat _ _; rw [show (i + 1).toNat = i.toNat + 1 by omega]; exact hD', hX _ (Nat.le_refl _) hE, hs3⟩ (by show (m - (i + 1)).toNat < (m - i).toNat; omega)
  · intro hi
    simp at hi
    refine wc_exit (post_thenE (post_loopE (post_blockX (post_thenN (wc_seq ?_)))))
    refine wc_region [0,1] rfl ?_
    refine Go.Sx.V rfl wu rfl rfl (mv rfl) ?_
    refine Go.Sx.V rfl wu rfl rfl (asg rfl) ?_
    refine wr_nil (post_thenN (wc_ret ?_))
    refine post_ret1 rfl rfl ?_
    have e : i.toNat = m := by omega
    rw [e] at hD
    rw [hD.last] at hs
    exact ⟨hE, hs, hsb⟩
end Go.Proofs.YtmnojknfjbimdaaGreat

