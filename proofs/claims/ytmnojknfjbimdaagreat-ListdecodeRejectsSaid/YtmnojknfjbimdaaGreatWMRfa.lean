/-
  The reference's small functions of fields, by contract: Order, prime, digits. The reference's trial division and its check of a field, by contract. The reference's irreducible and Check, by contract. The reference's check of a field, by contract.
-/
import Derived.Test.YtmnojknfjbimdaaGreatWField4
namespace Go.Proofs.YtmnojknfjbimdaaGreat
open Go Go.Sx Go.Pl Go.RowKit Go.Fd Go.Alg
theorem rOrder (p M : Int) (mo : Value) (w : World) :
    Calls Tryz.prog 67 #[fv0 p M mo] w (RetX w fun v _ => v = .int .i64 (ordZ p M)) := by
  refine calls1 Tryz.func67 rfl rfl ?_
  refine wc_seq ?_
  refine wc_region [0,1] rfl ?_
  refine BXA rfl wu rfl rfl ?_
  intro g w1 hE hB hg
  refine Go.Sx.V rfl wu rfl rfl (asg rfl) ?_
  refine wr_nil (post_thenN (wc_seq (wc_seq ?_)))
  refine wc_region [0,1,2,3,4,5,6,7,8,9,10,11,12] rfl ?_
  refine Go.Sx.V rfl wu rfl rfl (fad rfl fa24_0) ?_
  refine Go.Sx.V rfl wu rfl rfl (ldB rfl na3) ?_
  refine Go.Sx.V rfl wu rfl rfl (lssI rfl rfl) ?_
  refine Go.Sx.V rfl wu rfl rfl (mv rfl) ?_
  refine OR (π1 := [4,5,6,7]) (π2 := [8,9,10,11,12]) (tc := 8) (tp := 12) rfl rfl rfl (by
      intro _
      refine SK rfl rfl rfl rfl rfl ?_
      refine SK rfl rfl rfl rfl rfl ?_
      refine SK rfl rfl rfl rfl rfl ?_
      refine Go.Sx.V rfl wu rfl rfl (pk rfl rfl) ?_
      exact join rfl) (by
      intro hg
      simp at hg
      refine Go.Sx.V rfl (wg rfl rfl) rfl rfl (fad rfl fa24_1) ?_
      refine Go.Sx.V rfl (wg rfl rfl) rfl rfl (ldB rfl na3) ?_
      refine Go.Sx.V rfl (wg rfl rfl) rfl rfl (lssI rfl rfl) ?_
      refine Go.Sx.V rfl wu rfl rfl (pk rfl rfl) ?_
      exact join rfl) ?_
  refine Go.Sx.V rfl wu rfl rfl (mv rfl) ?_
  refine OR (π1 := [9,10,11,12]) (π2 := []) (tc := 13) (tp := 17) rfl rfl rfl (by
      intro _
      refine SK rfl rfl rfl rfl rfl ?_
      refine SK rfl rfl rfl rfl rfl ?_
      refine SK rfl rfl rfl rfl rfl ?_
      refine Go.Sx.V rfl wu rfl rfl (pk rfl rfl) ?_
      exact join rfl) (by
      intro hg
      simp at hg
      refine Go.Sx.V rfl (wg rfl rfl) rfl rfl (fad rfl fa24_1) ?_
      refine Go.Sx.V rfl (wg rfl rfl) rfl rfl (ldB rfl na3) ?_
      refine Go.Sx.V rfl (wg rfl rfl) rfl rfl (gtrI rfl rfl) ?_
      refine Go.Sx.V rfl wu rfl rfl (pk rfl rfl) ?_
      exact join rfl) ?_
  refine wr_nil (post_thenN ?_)
  refine wc_cond rfl ?_ ?_
  · intro h
    simp at h
    refine wc_seq ?_
    refine wc_region [0] rfl ?_
    refine Go.Sx.V rfl wu rfl rfl (asg rfl) ?_
    refine wr_nil (post_thenN (wc_ret (post_thenR ?_)))
    refine post_ret1 rfl rfl ?_
    exact ⟨hE, by rw [ordZ, if_pos (by omega)]⟩
  · intro h
    simp at h
    refine wc_skip (post_thenN (wc_seq ?_))
    refine wc_region [0] rfl ?_
    refine Go.Sx.V rfl wu rfl rfl (asg rfl) ?_
    refine wr_nil (post_thenN (wc_seq (wc_seq ?_)))
    refine wc_region [0] rfl ?_
    refine Go.Sx.V rfl wu rfl rfl (asg rfl) ?_
    refine wr_nil (post_thenN (wc_block ?_))
    refine wc_loop (fun i : Int => [(1, .pointer (some ⟨g, 0, none⟩)), (3, .int .i64 (p ^ i.toNat)), (4, .int .i64 i)])
      (fun i w' => 0 ≤ i ∧ i ≤ M ∧ p ^ i.toNat ≤ 256 ∧ w' = w1) (fun i => (M - i).toNat) 0 ⟨rfl, by rw [show (0 : Int).toNat = 0 from rfl, Int.pow_zero]; rfl, rfl, trivial⟩ ⟨by omega, by omega, by simp, rfl⟩ ?_
    rintro i w' ⟨h0, h1, hq, rfl⟩
    have hq0 := pow_pos' (p := p) (by omega) i.toNat
    try dsimp only
    refine wc_seq (wc_seq ?_)
    refine wc_region [0,1,2,3] rfl ?_
    refine Go.Sx.V rfl wu rfl rfl (mv rfl) ?_
    refine Go.Sx.V rfl wu rfl rfl (fad rfl fa24_1) ?_
    refine Go.Sx.V rfl wu rfl rfl (ldB rfl na3) ?_
    refine Go.Sx.V rfl wu rfl rfl (lssI rfl rfl) ?_
    refine wr_nil (post_thenN ?_)
    refine wc_cond rfl ?_ ?_
    · intro hi
      simp at hi
      refine wc_skip (post_thenN (wc_seq (wc_block (wc_seq (wc_seq ?_)))))
      have hd : p ^ i.toNat ≤ 256 / p ↔ p ^ i.toNat * p ≤ 256 := Int.le_ediv_iff_mul_le (by omega)
      have hnx := pow_next (p := p) i h0
      refine wc_region [0,1,2,3,4] rfl ?_
      refine Go.Sx.V rfl wu rfl rfl (mv rfl) ?_
      refine Go.Sx.V rfl wu rfl rfl (fad rfl fa24_0) ?_
      refine Go.Sx.V rfl wu rfl rfl (ldB rfl na3) ?_
      refine Go.Sx.V rfl wu rfl rfl (quoI rfl rfl) ?_
      refine Go.Sx.V rfl wu rfl rfl (gtrI rfl rfl) ?_
      refine wr_nil (post_thenN ?_)
      refine wc_cond rfl ?_ ?_
      · intro hb
        simp at hb
        refine wc_seq ?_
        refine wc_region [0] rfl ?_
        refine Go.Sx.V rfl wu rfl rfl (asg rfl) ?_
        refine wr_nil (post_thenN (wc_ret (post_thenR (post_blockR (post_thenR (post_loopR (post_blockR (post_thenR ?_))))))))
        refine post_ret1 rfl rfl ?_
        have := pow_mono (p := p) (by omega) (m := (i + 1).toNat) (n := M.toNat) (by omega)
        have hn : ¬ p ^ i.toNat ≤ 256 / p := by omega
        have hn' : ¬ p ^ i.toNat * p ≤ 256 := fun hc => hn (hd.2 hc)
        exact ⟨hE, by rw [ordZ, if_pos (by omega)]⟩
      · intro hb
        simp at hb
        have hb' := hd.1 hb
        have hm0 : 0 ≤ p ^ i.toNat * p := Int.mul_nonneg (by omega) (by omega)
        refine wc_skip (post_thenN ?_)
        refine wc_region [0,1,2,3,4] rfl ?_
        refine Go.Sx.V rfl wu rfl rfl (mv rfl) ?_
        refine Go.Sx.V rfl wu rfl rfl (fad rfl fa24_0) ?_
        refine Go.Sx.V rfl wu rfl rfl (ldB rfl na3) ?_
        refine Go.Sx.V rfl wu rfl rfl (mulI rfl rfl) ?_
        refine Go.Sx.V rfl wu rfl rfl (asg rfl) ?_
        refine wr_nil (post_blockN (post_thenN ?_))
        rw [← hnx]
        refine wc_region [0,1,2] rfl ?_
        refine Go.Sx.V rfl wu rfl rfl (mv rfl) ?_
        refine Go.Sx.V rfl wu rfl rfl (addI rfl rfl) ?_
        refine Go.Sx.V rfl wu rfl rfl (asg rfl) ?_
        refine wr_nil ?_
        exact post_loopN (i + 1) ⟨rfl, rfl, rfl, trivial⟩ ⟨by omega, by omega, by omega, rfl⟩ (by omega)
    · intro hi
      simp at hi
      refine wc_exit (post_thenE (post_loopE (post_blockX (post_thenN (wc_seq ?_)))))
      have e : i = M := by omega
      subst e
      refine wc_region [0,1] rfl ?_
      refine Go.Sx.V rfl wu rfl rfl (mv rfl) ?_
      refine Go.Sx.V rfl wu rfl rfl (asg rfl) ?_
      refine wr_nil (post_thenN (wc_ret ?_))
      refine post_ret1 rfl rfl ?_
      have hp : p ≤ 256 := by
        have := pow_mono (p := p) (by omega) (m := 1) (n := i.toNat) (by omega)
        rw [Int.pow_succ, Int.pow_zero, Int.one_mul] at this
        omega
      exact ⟨hE, by rw [ordZ, if_neg (by omega)]⟩
theorem rPrime (n : Int) (w : World) (hn : 2 ≤ n ∧ n ≤ 256) :
    Calls Tryz.prog 99 #[.int .i64 n] w (RetX w fun v _ => v = .bool (primeN n.toNat)) := by
  refine calls1 Tryz.func99 rfl rfl ?_
  refine wc_seq ?_
  refine wc_region [0] rfl ?_
  refine Go.Sx.V rfl wu rfl rfl (asg rfl) ?_
  refine wr_nil (post_thenN (wc_seq (wc_seq ?_)))
  refine wc_region [0] rfl ?_
  refine Go.Sx.V rfl wu rfl rfl (asg rfl) ?_
  refine wr_nil (post_thenN (wc_block ?_))
  refine wc_loop (fun d : Int => [(0, .int .i64 n), (3, .int .i64 d)])
    (fun d w' => 2 ≤ d ∧ d ≤ n ∧ (∀ e : Int, 2 ≤ e → e < d → n % e ≠ 0) ∧ w' = w) (fun d => (n - d).toNat) 2 ⟨rfl, rfl, trivial⟩ ⟨by omega, by omega, fun e _ _ => by omega, rfl⟩ ?_
  rintro d w' ⟨h0, h1, h2, rfl⟩
  try dsimp only
  refine wc_seq (wc_seq ?_)
  refine wc_region [0,1,2] rfl ?_
  refine Go.Sx.V rfl wu rfl rfl (mv rfl) ?_
  refine Go.Sx.V rfl wu rfl rfl (mv rfl) ?_
  refine Go.Sx.V rfl wu rfl rfl (lssI rfl rfl) ?_
  refine wr_nil (post_thenN ?_)
  refine wc_cond rfl ?_ ?_
  · intro hd
    simp at hd
    refine wc_skip (post_thenN (wc_seq (wc_block (wc_seq ?_))))
    refine wc_region [0,1,2,3] rfl ?_
    refine Go.Sx.V rfl wu rfl rfl (mv rfl) ?_
    refine Go.Sx.V rfl wu rfl rfl (mv rfl) ?_
    refine Go.Sx.V rfl wu rfl rfl (remI rfl rfl) ?_
    refine Go.Sx.V rfl wu rfl rfl (eqlI rfl rfl) ?_
    refine wr_nil (post_thenN ?_)
    refine wc_cond rfl ?_ ?_
    · intro he
      simp at he
      refine wc_seq ?_
      refine wc_region [0] rfl ?_
      refine Go.Sx.V rfl wu rfl rfl (asg rfl) ?_
      refine wr_nil (post_thenN (wc_ret (post_blockR (post_thenR (post_loopR (post_blockR (post_thenR ?_)))))))
      refine post_ret1 rfl rfl ?_
      exact ⟨Ext.refl _, by rw [primeN_false h0 hd he]⟩
    · intro he
      simp at he
      refine wc_skip (post_blockN (post_thenN ?_))
      refine wc_region [0,1,2] rfl ?_
      refine Go.Sx.V rfl wu rfl rfl (mv rfl) ?_
      refine Go.Sx.V rfl wu rfl rfl (addI rfl rfl) ?_
      refine Go.Sx.V rfl wu rfl rfl (asg rfl) ?_
      refine wr_nil ?_
      exact post_loopN (d + 1) ⟨rfl, rfl, trivial⟩ ⟨by omega, by omega, fun e he1 he2 => (by
        by_cases e' : e = d
        · rw [e']; exact he
        · exact h2 e he1 (by omega)), rfl⟩ (by omega)
  · intro hd
    simp at hd
    refine wc_exit (post_thenE (post_loopE (post_blockX (post_thenN (wc_seq ?_)))))
    refine wc_region [0] rfl ?_
    refine Go.Sx.V rfl wu rfl rfl (asg rfl) ?_
    refine wr_nil (post_thenN (wc_ret ?_))
    refine post_ret1 rfl rfl ?_
    refine ⟨Ext.refl _, ?_⟩
    have e : d = n := by omega
    subst e
    have hm : 2 * d ≤ d * d := Int.mul_le_mul_of_nonneg_right hn.1 (by omega)
    rw [primeN_true hn.1 h0 h2 (by omega)]
theorem rDigits (x p : Int) (m : Nat) (w : World) (hx : 0 ≤ x ∧ x ≤ 65536) (hp : 2 ≤ p ∧ p ≤ 256) (hm : m ≤ 64) :
    Calls Tryz.prog 101 #[.int .i64 x, .int .i64 p, .int .i64 m] w (RetX w fun v w' => OwnI w.heap.size w' v 3 (dig p m x) ∧ v.ownBlock = some w.heap.size) := by
  refine calls3 Tryz.func101 rfl rfl ?_
  refine wc_seq ?_
  refine wc_region [0] rfl ?_
  refine Go.Sx.V rfl wu rfl rfl (asg rfl) ?_
  refine wr_nil (post_thenN (wc_seq ?_))
  refine wc_region [0,1,2] rfl ?_
  refine Go.Sx.V rfl wu rfl rfl (mv rfl) ?_
  refine MKI (n := m) rfl wu rfl rfl ty22 ?_
  intro s w1 hE hs hsi hsb
  refine Go.Sx.V rfl wu rfl rfl (asg rfl) ?_
  refine wr_nil (post_thenN (wc_seq (wc_seq ?_)))
  refine wc_region [0] rfl ?_
  refine Go.Sx.V rfl wu rfl rfl (asg rfl) ?_
  refine wr_nil (post_thenN (wc_block ?_))
  refine wc_loop (fun q : Int × Int × List Int => [(0, .int .i64 q.2.1), (1, .int .i64 p), (2, .int .i64 m), (7, s), (8, .int .i64 q.1)])
    (fun q w' => 0 ≤ q.1 ∧ q.1 ≤ m ∧ 0 ≤ q.2.1 ∧ q.2.1 ≤ 65536 ∧ Dg p m x q.1.toNat q.2.1 q.2.2 ∧ Ext w w' ∧ OwnI w.heap.size w' s 3 q.2.2) (fun q => (m - q.1).toNat) (0, x, tab m fun _ => 0) ⟨rfl, rfl, rfl, rfl, rfl, trivial⟩ ⟨by omega, by omega, hx.1, hx.2, Dg.first p m x, hE, hs⟩ ?_
  clear hE hs hsi
  rintro ⟨i, y, l⟩ w2 ⟨h0, h1, hy0, hy1, hD, hE, hs⟩
  simp only at h0 h1 hy0 hy1 hD hE hs
  have hsi := hs.ints
  have hl := hD.len (by omega)
  have hy2 : y / p ≤ y := Int.ediv_le_self _ hy0
  have hy3 : 0 ≤ y / p := Int.ediv_nonneg hy0 (by omega)
  try dsimp only
  refine wc_seq (wc_seq ?_)
  refine wc_region [0,1,2] rfl ?_
  refine Go.Sx.V rfl wu rfl rfl (mv rfl) ?_
  refine Go.Sx.V rfl wu rfl rfl (mv rfl) ?_
  refine Go.Sx.V rfl wu rfl rfl (lssI rfl rfl) ?_
  refine wr_nil (post_thenN ?_)
  refine wc_cond rfl ?_ ?_
  · intro hi
    simp at hi
    refine wc_skip (post_thenN (wc_seq (wc_block (wc_seq ?_))))
    refine wc_region [0,1,2,3,4,5,6] rfl ?_
    refine Go.Sx.V rfl wu rfl rfl (mv rfl) ?_
    refine Go.Sx.V rfl wu rfl rfl (mv rfl) ?_
    refine Go.Sx.V rfl wu rfl rfl (mv rfl) ?_
    refine Go.Sx.V rfl wu rfl rfl (mv rfl) ?_
    refine Go.Sx.V rfl wu rfl rfl (remI rfl rfl) ?_
    refine Go.Sx.V rfl wu rfl rfl (iadI rfl rfl ty22) ?_
    refine STI rfl wu rfl rfl sz3 (by intro h; cases h) ?_
    intro w3 hg hX hs3 hsi3
    refine wr_nil (post_thenN ?_)
    have hD' := hD.step (by omega)
    rw [show ((i.toNat : Nat) : Int) = i by omega] at hD'
    refine wc_region [0,1,2,3] rfl ?_
    refine Go.Sx.V rfl wu rfl rfl (mv rfl) ?_
    refine Go.Sx.V rfl wu rfl rfl (mv rfl) ?_
    refine Go.Sx.V rfl wu rfl rfl (quoI rfl rfl) ?_
    refine Go.Sx.V rfl wu rfl rfl (asg rfl) ?_
    refine wr_nil (post_blockN (post_thenN ?_))
    refine wc_region [0,1,2] rfl ?_
    refine Go.Sx.V rfl wu rfl rfl (mv rfl) ?_
    refine Go.Sx.V rfl wu rfl rfl (addI rfl rfl) ?_
    refine Go.Sx.V rfl wu rfl rfl (asg rfl) ?_
    refine wr_nil ?_
    exact post_loopN (i + 1, y / p, si l i (y % p)) ⟨rfl, rfl, rfl, rfl, rfl, trivial⟩ ⟨by show 0 ≤ i + 1; omega, by show i + 1 ≤ _; omega, hy3, by show y / p ≤ _; omega, by show Dg p m x (i + 1).toNat _ _; rw [show (i + 1).toNat = i.toNat + 1 by omega]; exact hD', hX _ (Nat.le_refl _) hE, hs3⟩ (by show (m - (i + 1)).toNat < (m - i).toNat; omega)
  · intro hi
    simp at hi
    refine wc_exit (post_thenE (post_loopE (post_blockX (post_thenN (wc_seq ?_)))))
    refine wc_region [0,1] rfl ?_
    refine Go.Sx.V rfl wu rfl rfl (mv rfl) ?_
    refine Go.Sx.V rfl wu rfl rfl (asg rfl) ?_
    refine wr_nil (post_thenN (wc_ret ?_))
    refine post_ret1 rfl rfl ?_
    have e : i.toNat = m := by omega
    rw [e] at hD
    rw [hD.last] at hs
    exact ⟨hE, hs, hsb⟩
end Go.Proofs.YtmnojknfjbimdaaGreat


namespace Go.Proofs.YtmnojknfjbimdaaGreat
open Go Go.Sx Go.Pl Go.RowKit Go.Fd Go.Alg
theorem lo_si {p : Int} {l : List Int} (h : Lo p l) (k z : Int) (h0 : 0 ≤ z) (h1 : z < p) : Lo p (si l k z) := fun u hu => by
  rcases List.mem_or_eq_of_mem_set hu with hu | rfl
  · exact h u hu
  · exact ⟨h0, h1⟩
theorem dvJ_length (p c o : Int) (low r : List Int) : ∀ j, (dvJ p c o low r j).length = r.length
  | 0 => rfl
  | j + 1 => by rw [dvJ, si_length, dvJ_length p c o low r j]
theorem dvJ_lo {p : Int} (hp : 2 ≤ p) (c o : Int) (low : List Int) {r : List Int} (h : Lo p r) : ∀ j, Lo p (dvJ p c o low r j)
  | 0 => h
  | j + 1 => lo_si (dvJ_lo hp c o low h j) _ _ (Int.emod_nonneg _ (by omega)) (Int.emod_lt_of_pos _ (by omega))
theorem dvI_length (p : Int) (low r : List Int) (top : Int) : ∀ k, (dvI p low r top k).length = r.length
  | 0 => rfl
  | k + 1 => by rw [dvI, si_length, dvJ_length, dvI_length p low r top k]
theorem dvI_lo {p : Int} (hp : 2 ≤ p) (low : List Int) {r : List Int} (top : Int) (h : Lo p r) : ∀ k, Lo p (dvI p low r top k)
  | 0 => h
  | k + 1 => lo_si (dvJ_lo hp _ _ low (dvI_lo hp low top h k) _) _ _ (by omega) (by omega)
theorem zeros_iff : ∀ (l : List Int), zeros l = true ↔ ∀ z ∈ l, z = 0
  | [] => by simp [zeros]
  | z :: l => by simp [zeros, zeros_iff l]
set_option maxRecDepth 10000 in
theorem rDivides (a b : Value) (low md : List Int) (p : Int) (w : World) (ha : Ints w a low) (hb : Ints w b md) (hp : 2 ≤ p ∧ p ≤ 256) (hl : Lo p low) (hm : Lo p md) (hlm : low.length ≤ md.length) (hm8 : md.length ≤ 8) :
    Calls Tryz.prog 142 #[a, b, .int .i64 p] w (RetX w fun v _ => v = .bool (dv low md p)) := by
  have hr0 : Lo p (md ++ [1]) := fun z hz => by
    rcases List.mem_append.1 hz with h | h
    · exact hm z h
    · have : z = 1 := by simpa using h
      omega
  have hrl : (md ++ [1]).length = md.length + 1 := by simp
  refine calls3 Tryz.func142 rfl rfl ?_
  refine wc_seq ?_
  refine wc_region [0] rfl ?_
  refine Go.Sx.V rfl wu rfl rfl (asg rfl) ?_
  refine wr_nil (post_thenN (wc_seq ?_))
  refine wc_region [0,1,2] rfl ?_
  refine Go.Sx.V rfl wu rfl rfl (mv rfl) ?_
  refine Go.Sx.V rfl wu rfl rfl (lenI rfl ty22) ?_
  refine Go.Sx.V rfl wu rfl rfl (asg rfl) ?_
  refine wr_nil (post_thenN (wc_seq ?_))
  refine wc_region [0,1,2,3] rfl ?_
  refine BSI (zs := []) rfl wu rfl rfl rfl rfl ty22 ?_
  intro v0 w1 hE ho hi hob
  refine Go.Sx.V rfl wu rfl rfl (mv rfl) ?_
  refine API rfl wu rfl rfl rfl ty22 (by intro h h2; cases h) ?_
  intro r0 w2 hg hX ho2 hi2 hb2
  refine Go.Sx.V rfl wu rfl rfl (asg rfl) ?_
  refine wr_nil (post_thenN (wc_seq ?_))
  replace hE := hX _ (Nat.le_refl _) hE
  rw [List.nil_append] at ho2 hi2
  clear ho hi hob hg hX hb2
  refine wc_region [0,1,2,3] rfl ?_
  refine Go.Sx.V rfl wu rfl rfl (mv rfl) ?_
  refine BSI (zs := [1]) rfl wu rfl rfl rfl rfl ty22 ?_
  intro v1 w3 hE3 ho3 hi3 hob3
  replace ho2 := ho2.ext hE3
  replace hE := hE.trans hE3
  clear ho3 hi2
  refine API rfl wu rfl rfl rfl ty22 (by intro h h2; cases h) ?_
  intro r w4 hg4 hX4 hr hri hb4
  refine Go.Sx.V rfl wu rfl rfl (asg rfl) ?_
  refine wr_nil (post_thenN (wc_seq (wc_seq ?_)))
  replace hE := hX4 _ (Nat.le_refl _) hE
  clear hi3 ho2 hg4 hX4 hb4 hob3
  refine wc_region [0,1,2,3] rfl ?_
  refine Go.Sx.V rfl wu rfl rfl (mv rfl) ?_
  refine Go.Sx.V rfl wu rfl rfl (lenI rfl ty22) ?_
  refine Go.Sx.V rfl wu rfl rfl (subI rfl rfl) ?_
  refine Go.Sx.V rfl wu rfl rfl (asg rfl) ?_
  refine wr_nil (post_thenN (wc_block ?_))
  rw [hrl, show ((md.length + 1 : Nat) : Int) - 1 = md.length by omega]
  refine wc_loop (fun i : Int => [(0, a), (2, .int .i64 p), (7, .int .i64 low.length), (8, r), (9, .int .i64 i)])
    (fun i w' => (low.length : Int) - 1 ≤ i ∧ i ≤ md.length ∧ Ext w w' ∧ OwnI w.heap.size w' r 3 (dvI p low (md ++ [1]) md.length (md.length - i).toNat)) (fun i => (i + 1).toNat) (md.length : Int)
    ⟨rfl, rfl, rfl, rfl, rfl, trivial⟩ ⟨by omega, by omega, hE, by rw [show ((md.length : Int) - md.length).toNat = 0 by omega]; exact hr⟩ ?_
  clear hE hr hri
  rintro i w5 ⟨i0, i1, hE, hr⟩
  obtain ⟨L, hL⟩ : ∃ L, L = dvI p low (md ++ [1]) md.length (md.length - i).toNat := ⟨_, rfl⟩
  rw [← hL] at hr
  have hri := hr.ints
  have hLl : L.length = md.length + 1 := by rw [hL, dvI_length, hrl]
  have hLo : Lo p L := by rw [hL]; exact dvI_lo hp.1 _ _ hr0 _
  try dsimp only
  refine wc_seq (wc_seq ?_)
  refine wc_region [0,1,2] rfl ?_
  refine Go.Sx.V rfl wu rfl rfl (mv rfl) ?_
  refine Go.Sx.V rfl wu rfl rfl (mv rfl) ?_
  refine Go.Sx.V rfl wu rfl rfl (geqI rfl rfl) ?_
  refine wr_nil (post_thenN ?_)
  refine wc_cond rfl ?_ ?_
  · intro hi
    simp at hi
    refine wc_skip (post_thenN (wc_seq (wc_block (wc_seq ?_))))
    have hc := gi_lo hLo (i := i) (by omega) (by omega)
    refine wc_region [0,1,2,3,4] rfl ?_
    refine Go.Sx.V rfl wu rfl rfl (mv rfl) ?_
    refine Go.Sx.V rfl wu rfl rfl (mv rfl) ?_
    refine Go.Sx.V rfl wu rfl rfl (iadI rfl rfl ty22) ?_
    refine Go.Sx.V rfl wu rfl rfl (ldI rfl na3) ?_
    refine Go.Sx.V rfl wu rfl rfl (asg rfl) ?_
    refine wr_nil (post_thenN (wc_seq (wc_seq ?_)))
    refine wc_region [0] rfl ?_
    refine Go.Sx.V rfl wu rfl rfl (asg rfl) ?_
    refine wr_nil (post_thenN (wc_block ?_))
    refine wc_loop (fun j : Int => [(0, a), (2, .int .i64 p), (7, .int .i64 low.length), (8, r), (9, .int .i64 i), (10, .int .i64 (gi L i)), (11, .int .i64 j)])
      (fun j w' => 0 ≤ j ∧ j ≤ low.length ∧ Ext w w' ∧ OwnI w.heap.size w' r 3 (dvJ p (gi L i) (i - low.length) low L j.toNat)) (fun j => (low.length - j).toNat) 0
      ⟨rfl, rfl, rfl, rfl, rfl, rfl, rfl, trivial⟩ ⟨by omega, by omega, hE, hr⟩ ?_
    clear hE hr hri
    rintro j w6 ⟨j0, j1, hE, hr⟩
    have hri := hr.ints
    have hJl := dvJ_length p (gi L i) (i - low.length) low L j.toNat
    have hJo := dvJ_lo hp.1 (gi L i) (i - low.length) low hLo j.toNat
    try dsimp only
    refine wc_seq (wc_seq ?_)
    refine wc_region [0,1,2] rfl ?_
    refine Go.Sx.V rfl wu rfl rfl (mv rfl) ?_
    refine Go.Sx.V rfl wu rfl rfl (mv rfl) ?_
    refine Go.Sx.V rfl wu rfl rfl (lssI rfl rfl) ?_
    refine wr_nil (post_thenN ?_)
    refine wc_cond rfl ?_ ?_
    · intro hj
      simp at hj
      refine wc_skip (post_thenN (wc_seq (wc_block ?_)))
      have g1 := gi_lo hJo (i := i - low.length + j) (by omega) (by omega)
      have g2 := gi_lo hl (i := j) j0 hj
      have m1 := mul_le' (a := p - gi L i) (b := gi low j) (c := 256) (d := 256) (by omega) (by omega) g2.1 (by omega)
      have hstep : si (dvJ p (gi L i) (i - low.length) low L j.toNat) (i - low.length + j) ((gi (dvJ p (gi L i) (i - low.length) low L j.toNat) (i - low.length + j) + (p - gi L i) * gi low j) % p) = dvJ p (gi L i) (i - low.length) low L (j + 1).toNat := by
        rw [show (j + 1).toNat = j.toNat + 1 by omega, dvJ, show ((j.toNat : Nat) : Int) = j by omega]
      refine wc_draw mixed [0,1,2,3,4,5,6,7,8,9,10,11,12,13,14,15,16,17,18,19,20,21,22,23,24,25,26] (by kernel_rfl) ?_
      intro w7 hd _
      replace hE := hE.trans hd
      replace hr := hr.ext hd
      replace hri := hri.ext hd
      refine Go.Sx.V rfl wu rfl rfl (mv rfl) ?_
      refine Go.Sx.V rfl wu rfl rfl (mv rfl) ?_
      refine Go.Sx.V rfl wu rfl rfl (mv rfl) ?_
      refine Go.Sx.V rfl wu rfl rfl (subI rfl rfl) ?_
      refine Go.Sx.V rfl wu rfl rfl (mv rfl) ?_
      refine Go.Sx.V rfl wu rfl rfl (addI rfl rfl) ?_
      refine Go.Sx.V rfl wu rfl rfl (mv rfl) ?_
      refine Go.Sx.V rfl wu rfl rfl (mv rfl) ?_
      refine Go.Sx.V rfl wu rfl rfl (mv rfl) ?_
      refine Go.Sx.V rfl wu rfl rfl (subI rfl rfl) ?_
      refine Go.Sx.V rfl wu rfl rfl (mv rfl) ?_
      refine Go.Sx.V rfl wu rfl rfl (addI rfl rfl) ?_
      refine Go.Sx.V rfl wu rfl rfl (iadI rfl rfl ty22) ?_
      refine Go.Sx.V rfl wu rfl rfl (ldI rfl na3) ?_
      refine Go.Sx.V rfl wu rfl rfl (mv rfl) ?_
      refine Go.Sx.V rfl wu rfl rfl (mv rfl) ?_
      refine Go.Sx.V rfl wu rfl rfl (subI rfl rfl) ?_
      refine Go.Sx.V rfl wu rfl rfl (mv rfl) ?_
      refine Go.Sx.V rfl wu rfl rfl (mv rfl) ?_
      refine Go.Sx.V rfl wu rfl rfl (iadI rfl rfl ty22) ?_
      refine Go.Sx.V rfl wu rfl rfl (ldI rfl na3 ha) ?_
      refine Go.Sx.V rfl wu rfl rfl (mulI rfl rfl) ?_
      refine Go.Sx.V rfl wu rfl rfl (addI rfl rfl) ?_
      refine Go.Sx.V rfl wu rfl rfl (mv rfl) ?_
      refine Go.Sx.V rfl wu rfl rfl (remI rfl rfl) ?_
      refine Go.Sx.V rfl wu rfl rfl (iadI rfl rfl ty22) ?_
      refine STI rfl wu rfl rfl sz3 (by intro h; kernel_rfl) ?_
      intro w8 hg8 hX8 hr8 hri8
      refine wr_nil (post_blockN (post_thenN ?_))
      rw [hstep] at hr8
      refine wc_region [0,1,2] rfl ?_
      refine Go.Sx.V rfl wu rfl rfl (mv rfl) ?_
      refine Go.Sx.V rfl wu rfl rfl (addI rfl rfl) ?_
      refine Go.Sx.V rfl wu rfl rfl (asg rfl) ?_
      refine wr_nil ?_
      exact post_loopN (j + 1) ⟨rfl, rfl, rfl, rfl, rfl, rfl, rfl, trivial⟩ ⟨by omega, by omega, hX8 _ (Nat.le_refl _) hE, hr8⟩ (by omega)
    · intro hj
      simp at hj
      refine wc_exit (post_thenE (post_loopE (post_blockX (post_thenN ?_))))
      have ej : j.toNat = low.length := by omega
      rw [ej] at hr hri hJl
      refine wc_region [0,1,2,3] rfl ?_
      refine Go.Sx.V rfl wu rfl rfl (mv rfl) ?_
      refine Go.Sx.V rfl wu rfl rfl (mv rfl) ?_
      refine Go.Sx.V rfl wu rfl rfl (iadI rfl rfl ty22) ?_
      refine STI rfl wu rfl rfl sz3 (by intro h; cases h) ?_
      intro w8 hg8 hX8 hr8 hri8
      refine wr_nil (post_blockN (post_thenN ?_))
      refine wc_region [0,1,2] rfl ?_
      refine Go.Sx.V rfl wu rfl rfl (mv rfl) ?_
      refine Go.Sx.V rfl wu rfl rfl (subI rfl rfl) ?_
      refine Go.Sx.V rfl wu rfl rfl (asg rfl) ?_
      refine wr_nil ?_
      refine post_loopN (i - 1) ⟨rfl, rfl, rfl, rfl, rfl, trivial⟩ ⟨by omega, by omega, hX8 _ (Nat.le_refl _) hE, ?_⟩ (by omega)
      rw [show ((md.length : Int) - (i - 1)).toNat = (md.length - i).toNat + 1 by omega, dvI, show ((md.length : Int) - ((md.length - i).toNat : Nat)) = i by omega, ← hL]
      exact hr8
  · intro hi
    simp at hi
    refine wc_exit (post_thenE (post_loopE (post_blockX (post_thenN (wc_seq (wc_seq ?_))))))
    have hdv : dv low md p = zeros L := by
      rw [dv, hL, show ((md.length : Int) - i).toNat = md.length + 1 - low.length by omega]
    refine wc_region [0] rfl ?_
    refine Go.Sx.V rfl wu rfl rfl (asg rfl) ?_
    refine wr_nil (post_thenN (wc_block ?_))
    refine wc_loop (fun j : Int => [(8, r), (12, .int .i64 j)])
      (fun j w' => 0 ≤ j ∧ j ≤ L.length ∧ w' = w5 ∧ ∀ k : Int, 0 ≤ k → k < j → gi L k = 0) (fun j => (L.length - j).toNat) 0 ⟨rfl, rfl, trivial⟩ ⟨by omega, by omega, rfl, fun k _ _ => by omega⟩ ?_
    rintro j _ ⟨j0, j1, rfl, hz⟩
    try dsimp only
    refine wc_seq (wc_seq ?_)
    refine wc_region [0,1,2,3] rfl ?_
    refine Go.Sx.V rfl wu rfl rfl (mv rfl) ?_
    refine Go.Sx.V rfl wu rfl rfl (mv rfl) ?_
    refine Go.Sx.V rfl wu rfl rfl (lenI rfl ty22) ?_
    refine Go.Sx.V rfl wu rfl rfl (lssI rfl rfl) ?_
    refine wr_nil (post_thenN ?_)
    refine wc_cond rfl ?_ ?_
    · intro hj
      simp at hj
      refine wc_skip (post_thenN (wc_seq (wc_block (wc_seq ?_))))
      refine wc_region [0,1,2,3,4] rfl ?_
      refine Go.Sx.V rfl wu rfl rfl (mv rfl) ?_
      refine Go.Sx.V rfl wu rfl rfl (mv rfl) ?_
      refine Go.Sx.V rfl wu rfl rfl (iadI rfl rfl ty22) ?_
      refine Go.Sx.V rfl wu rfl rfl (ldI rfl na3) ?_
      refine Go.Sx.V rfl wu rfl rfl (neqI rfl rfl) ?_
      refine wr_nil (post_thenN ?_)
      refine wc_cond rfl ?_ ?_
      · intro hne
        simp at hne
        refine wc_seq ?_
        refine wc_region [0] rfl ?_
        refine Go.Sx.V rfl wu rfl rfl (asg rfl) ?_
        refine wr_nil (post_thenN (wc_ret (post_blockR (post_thenR (post_loopR (post_blockR (post_thenR ?_)))))))
        refine post_ret1 rfl rfl ?_
        refine ⟨hE, ?_⟩
        rw [hdv]
        cases hzz : zeros L
        · rfl
        · exfalso
          have hk : j.toNat < L.length := by omega
          have := (zeros_iff L).1 hzz _ (List.getElem_mem hk)
          apply hne
          simpa [gi, hk] using this
      · intro he
        simp at he
        refine wc_skip (post_blockN (post_thenN ?_))
        refine wc_region [0,1,2] rfl ?_
        refine Go.Sx.V rfl wu rfl rfl (mv rfl) ?_
        refine Go.Sx.V rfl wu rfl rfl (addI rfl rfl) ?_
        refine Go.Sx.V rfl wu rfl rfl (asg rfl) ?_
        refine wr_nil ?_
        exact post_loopN (j + 1) ⟨rfl, rfl, trivial⟩ ⟨by omega, by omega, rfl, fun k hk0 hk1 => (by
          by_cases e : k = j
          · rw [e]; exact he
          · exact hz k hk0 (by omega))⟩ (by omega)
    · intro hj
      simp at hj
      refine wc_exit (post_thenE (post_loopE (post_blockX (post_thenN (wc_seq ?_)))))
      refine wc_region [0] rfl ?_
      refine Go.Sx.V rfl wu rfl rfl (asg rfl) ?_
      refine wr_nil (post_thenN (wc_ret ?_))
      refine post_ret1 rfl rfl ?_
      refine ⟨hE, ?_⟩
      have : zeros L = true := (zeros_iff L).2 fun z hz' => by
        obtain ⟨k, hk, rfl⟩ := List.mem_iff_getElem.1 hz'
        have := hz k (by omega) (by omega)
        simpa [gi, hk] using this
      rw [hdv, this]
end Go.Proofs.YtmnojknfjbimdaaGreat


namespace Go.Proofs.YtmnojknfjbimdaaGreat
open Go Go.Sx Go.Pl Go.RowKit Go.Fd Go.Alg
set_option maxRecDepth 10000 in
theorem rIrr (b : Value) (md : List Int) (p : Int) (w : World) (hb : Ints w b md) (hp : 2 ≤ p ∧ p ≤ 256) (hm : Lo p md) (hm8 : md.length ≤ 8) (hq : p ^ md.length ≤ 256) :
    Calls Tryz.prog 100 #[b, .int .i64 p] w (RetX w fun v _ => v = .bool (irr md p)) := by
  refine calls2 Tryz.func100 rfl rfl ?_
  refine wc_seq ?_
  refine wc_region [0] rfl ?_
  refine Go.Sx.V rfl wu rfl rfl (asg rfl) ?_
  refine wr_nil (post_thenN (wc_seq ?_))
  refine wc_region [0] rfl ?_
  refine Go.Sx.V rfl wu rfl rfl (asg rfl) ?_
  refine wr_nil (post_thenN (wc_seq (wc_seq ?_)))
  refine wc_region [0] rfl ?_
  refine Go.Sx.V rfl wu rfl rfl (asg rfl) ?_
  refine wr_nil (post_thenN (wc_block ?_))
  refine wc_loop (fun d : Int => [(0, b), (1, .int .i64 p), (5, .int .i64 (p ^ (d - 1).toNat)), (6, .int .i64 d)])
    (fun d w' => 1 ≤ d ∧ 2 * d ≤ md.length + 2 ∧ Ext w w' ∧ irrB md p (d - 1).toNat = true) (fun d => (md.length + 2 - d).toNat) 1 ⟨rfl, rfl, by rw [show ((1 : Int) - 1).toNat = 0 from rfl, Int.pow_zero]; rfl, rfl, trivial⟩ ⟨by omega, by omega, Ext.refl _, rfl⟩ ?_
  rintro d w1 ⟨d0, d1, hE, hI⟩
  have hpd := pow_pos' hp.1 (d - 1).toNat
  have hpd2 := pow_mono hp.1 (m := (d - 1).toNat) (n := md.length) (by omega)
  try dsimp only
  refine wc_seq (wc_seq ?_)
  refine wc_region [0,1,2,3,4] rfl ?_
  refine Go.Sx.V rfl wu rfl rfl (mv rfl) ?_
  refine Go.Sx.V rfl wu rfl rfl (mulI rfl rfl) ?_
  refine Go.Sx.V rfl wu rfl rfl (mv rfl) ?_
  refine Go.Sx.V rfl wu rfl rfl (lenI rfl ty22) ?_
  refine Go.Sx.V rfl wu rfl rfl (leqI rfl rfl) ?_
  refine wr_nil (post_thenN ?_)
  refine wc_cond rfl ?_ ?_
  · intro hd
    simp at hd
    refine wc_skip (post_thenN (wc_seq (wc_block (wc_seq ?_))))
    have hm1 := mul_le' (a := p ^ (d - 1).toNat) (b := p) (c := 256) (d := 256) (by omega) (by omega) (by omega) (by omega)
    have hnx := pow_next (p := p) (d - 1) (by omega)
    rw [show d - 1 + 1 = d by omega] at hnx
    have hpd3 := pow_mono hp.1 (m := d.toNat) (n := md.length) (by omega)
    refine wc_region [0,1,2,3] rfl ?_
    refine Go.Sx.V rfl wu rfl rfl (mv rfl) ?_
    refine Go.Sx.V rfl wu rfl rfl (mv rfl) ?_
    refine Go.Sx.V rfl wu rfl rfl (mulI rfl rfl) ?_
    refine Go.Sx.V rfl wu rfl rfl (asg rfl) ?_
    refine wr_nil (post_thenN (wc_seq ?_))
    rw [← hnx]
    refine wc_region [0] rfl ?_
    refine Go.Sx.V rfl wu rfl rfl (asg rfl) ?_
    refine wr_nil (post_thenN (wc_block ?_))
    refine wc_loop (fun v : Int => [(0, b), (1, .int .i64 p), (5, .int .i64 (p ^ d.toNat)), (6, .int .i64 d), (7, .int .i64 v)])
      (fun v w' => 0 ≤ v ∧ v ≤ p ^ d.toNat ∧ Ext w w' ∧ noDv md p d.toNat v.toNat = true) (fun v => (p ^ d.toNat - v).toNat) 0 ⟨rfl, rfl, rfl, rfl, rfl, trivial⟩ ⟨by omega, by omega, hE, rfl⟩ ?_
    clear hE
    rintro v w2 ⟨v0, v1, hE, hN⟩
    try dsimp only
    refine wc_seq (wc_seq ?_)
    refine wc_region [0,1,2] rfl ?_
    refine Go.Sx.V rfl wu rfl rfl (mv rfl) ?_
    refine Go.Sx.V rfl wu rfl rfl (mv rfl) ?_
    refine Go.Sx.V rfl wu rfl rfl (lssI rfl rfl) ?_
    refine wr_nil (post_thenN ?_)
    refine wc_cond rfl ?_ ?_
    · intro hv
      simp at hv
      refine wc_skip (post_thenN (wc_seq (wc_block (wc_seq ?_))))
      have hdl := dig_length p d.toNat v
      refine wc_region [0,1,2,3,4,5,6] rfl ?_
      refine Go.Sx.V rfl wu rfl rfl (mv rfl) ?_
      refine Go.Sx.V rfl wu rfl rfl (mv rfl) ?_
      refine Go.Sx.V rfl wu rfl rfl (mv rfl) ?_
      have hcd := rDigits v p d.toNat w2 ⟨v0, by omega⟩ hp (by omega)
      rw [show ((d.toNat : Nat) : Int) = d by omega] at hcd
      refine C rfl wu rfl rfl Tryz.call101 hcd ?_
      rintro a w3 hE3 ⟨ha, _⟩
      replace hE := hE.trans hE3
      refine Go.Sx.V rfl wu rfl rfl (mv rfl) ?_
      refine Go.Sx.V rfl wu rfl rfl (mv rfl) ?_
      refine C rfl wu rfl rfl Tryz.call142 (rDivides a b (dig p d.toNat v) md p _ ha.ints (hb.ext hE) hp (dig_lo hp.1 _ _) hm (by omega) hm8) ?_
      rintro _ w4 hE4 rfl
      replace hE := hE.trans hE4
      refine wr_nil (post_thenN ?_)
      refine wc_cond rfl ?_ ?_
      · intro hdv
        refine wc_seq ?_
        refine wc_region [0] rfl ?_
        refine Go.Sx.V rfl wu rfl rfl (asg rfl) ?_
        refine wr_nil (post_thenN (wc_ret (post_blockR (post_thenR (post_loopR (post_blockR (post_blockR (post_thenR (post_loopR (post_blockR (post_thenR ?_)))))))))))
        refine post_ret1 rfl rfl ?_
        refine ⟨hE, ?_⟩
        have hdv' : dv (dig p ((d - 1).toNat + 1) (v.toNat : Nat)) md p = true := by
          rw [show (d - 1).toNat + 1 = d.toNat by omega, show ((v.toNat : Nat) : Int) = v by omega]
          exact hdv
        have := irr_false hdv' (by rw [show (d - 1).toNat + 1 = d.toNat by omega]; omega) (md.length / 2) (by omega)
        rw [irr, this]
      · intro hdv
        refine wc_skip (post_blockN (post_thenN ?_))
        refine wc_region [0,1,2] rfl ?_
        refine Go.Sx.V rfl wu rfl rfl (mv rfl) ?_
        refine Go.Sx.V rfl wu rfl rfl (addI rfl rfl) ?_
        refine Go.Sx.V rfl wu rfl rfl (asg rfl) ?_
        refine wr_nil ?_
        refine post_loopN (v + 1) ⟨rfl, rfl, rfl, rfl, rfl, trivial⟩ ⟨by omega, by omega, hE, ?_⟩ (by omega)
        rw [show (v + 1).toNat = v.toNat + 1 by omega, noDv, hN, show ((v.toNat : Nat) : Int) = v by omega, hdv]
        rfl
    · intro hv
      simp at hv
      refine wc_exit (post_thenE (post_loopE (post_blockX (post_blockN (post_thenN ?_)))))
      refine wc_region [0,1,2] rfl ?_
      refine Go.Sx.V rfl wu rfl rfl (mv rfl) ?_
      refine Go.Sx.V rfl wu rfl rfl (addI rfl rfl) ?_
      refine Go.Sx.V rfl wu rfl rfl (asg rfl) ?_
      refine wr_nil ?_
      refine post_loopN (d + 1) ⟨rfl, rfl, by rw [show (d + 1 - 1).toNat = d.toNat by omega]; rfl, rfl, trivial⟩ ⟨by omega, by omega, hE, ?_⟩ (by omega)
      have hvp : v.toNat = (p ^ d.toNat).toNat := by omega
      rw [hvp] at hN
      rw [show (d + 1 - 1).toNat = (d - 1).toNat + 1 by omega, irrB, hI, show (d - 1).toNat + 1 = d.toNat by omega, hN]
      rfl
  · intro hd
    simp at hd
    refine wc_exit (post_thenE (post_loopE (post_blockX (post_thenN (wc_seq ?_)))))
    refine wc_region [0] rfl ?_
    refine Go.Sx.V rfl wu rfl rfl (asg rfl) ?_
    refine wr_nil (post_thenN (wc_ret ?_))
    refine post_ret1 rfl rfl ?_
    refine ⟨hE, ?_⟩
    rw [irr, show md.length / 2 = (d - 1).toNat by omega, hI]
end Go.Proofs.YtmnojknfjbimdaaGreat


namespace Go.Proofs.YtmnojknfjbimdaaGreat
open Go Go.Sx Go.Pl Go.RowKit Go.Fd Go.Alg
set_option maxRecDepth 10000 in
theorem rCheck (p M : Int) (mo : Value) (md : List Int) (w : World) (hmd : Ints w mo md) :
    Calls Tryz.prog 66 #[fv0 p M mo] w (RetX w fun v _ => (v = .int .i64 0 ∧ OkF p M md) ∨ (v = .int .i64 1 ∧ ¬ OkF p M md)) := by
  have hml := hmd.le
  refine calls1 Tryz.func66 rfl rfl ?_
  refine wc_seq ?_
  refine wc_region [0,1] rfl ?_
  refine BXA rfl wu rfl rfl ?_
  intro g w1 hE hB hg
  refine Go.Sx.V rfl wu rfl rfl (asg rfl) ?_
  refine wr_nil (post_thenN (wc_seq (wc_seq ?_)))
  have hmi := hmd.ext hE
  refine wc_region [0,1,2,3,4,5,6,7,8] rfl ?_
  refine Go.Sx.V rfl wu rfl rfl (ldA rfl ag24) ?_
  refine C rfl wu rfl rfl Tryz.call67 (rOrder p M mo _) ?_
  rintro _ w2 hE2 rfl
  replace hB := hB.ext hE2
  replace hE := hE.trans hE2
  replace hmi := hmi.ext hE2
  refine Go.Sx.V rfl wu rfl rfl (eqlI rfl rfl) ?_
  refine Go.Sx.V rfl wu rfl rfl (mv rfl) ?_
  refine ORX (π1 := [4,5,6,7,8]) (π2 := []) (tc := 7) (tp := 12) rfl rfl rfl (by
      intro _
      refine SK rfl rfl rfl rfl rfl ?_
      refine SK rfl rfl rfl rfl rfl ?_
      refine SK rfl rfl rfl rfl rfl ?_
      refine SK rfl rfl rfl rfl rfl ?_
      refine Go.Sx.V rfl wu rfl rfl (pk rfl rfl) ?_
      exact joinX rfl) (by
      intro hg
      simp at hg
      have ho := ordZ_ne hg
      refine Go.Sx.V rfl (wg rfl rfl) rfl rfl (fad rfl fa24_0) ?_
      refine Go.Sx.V rfl (wg rfl rfl) rfl rfl (ldB rfl na3) ?_
      refine C rfl (wg rfl rfl) rfl rfl Tryz.call99 (rPrime p _ ⟨ho.1, ho.2.1⟩) ?_
      rintro _ w3 hE3 rfl
      refine Go.Sx.V rfl (wg rfl rfl) rfl rfl (notB rfl) ?_
      refine Go.Sx.V rfl wu rfl rfl (pk rfl rfl) ?_
      exact joinX rfl) ?_
  intro w4 hE4
  refine wr_nil (post_thenN ?_)
  replace hB := hB.ext hE4
  replace hmi := hmi.ext hE4
  replace hE := hE.trans hE4
  refine wc_cond rfl ?_ ?_
  · intro h
    simp only [Bool.or_eq_true, decide_eq_true_eq, Bool.not_eq_true'] at h
    refine wc_seq ?_
    refine wc_region [0] rfl ?_
    refine Go.Sx.V rfl wu rfl rfl (asg rfl) ?_
    refine wr_nil (post_thenN (wc_ret (post_thenR ?_)))
    refine post_ret1 rfl rfl ?_
    refine ⟨hE, .inr ⟨rfl, fun ⟨hs, _⟩ => ?_⟩⟩
    obtain ⟨e1, e2, _⟩ := ordZ_eq hs.1 hs.2.1 hs.2.2.1 hs.2.2.2.1
    rcases h with h | h
    · exact absurd h e2
    · rw [hs.2.2.2.2.1] at h; cases h
  · intro h
    simp only [Bool.or_eq_false_iff, decide_eq_false_iff_not, Bool.not_eq_false'] at h
    obtain ⟨hz, hpr⟩ := h
    have ho := ordZ_ne hz
    refine wc_skip (post_thenN (wc_seq (wc_seq ?_)))
    refine wc_region [0,1,2] rfl ?_
    refine Go.Sx.V rfl wu rfl rfl (fad rfl fa24_1) ?_
    refine Go.Sx.V rfl wu rfl rfl (ldB rfl na3) ?_
    refine Go.Sx.V rfl wu rfl rfl (eqlI rfl rfl) ?_
    refine wr_nil (post_thenN ?_)
    refine wc_cond rfl ?_ ?_
    · intro hM
      simp at hM
      refine wc_seq (wc_seq ?_)
      refine wc_region [0,1,2,3] rfl ?_
      refine Go.Sx.V rfl wu rfl rfl (fad rfl fa24_2) ?_
      refine Go.Sx.V rfl wu rfl rfl (ldB rfl na22) ?_
      refine Go.Sx.V rfl wu rfl rfl (lenI rfl ty22) ?_
      refine Go.Sx.V rfl wu rfl rfl (neqI rfl rfl) ?_
      refine wr_nil (post_thenN ?_)
      refine wc_cond rfl ?_ ?_
      · intro hl
        simp at hl
        refine wc_seq ?_
        refine wc_region [0] rfl ?_
        refine Go.Sx.V rfl wu rfl rfl (asg rfl) ?_
        refine wr_nil (post_thenN (wc_ret (post_thenR (post_thenR ?_))))
        refine post_ret1 rfl rfl ?_
        exact ⟨hE, .inr ⟨rfl, fun ⟨hs, _⟩ => hl (hs.2.2.2.2.2.1 hM)⟩⟩
      · intro hl
        simp at hl
        refine wc_skip (post_thenN (wc_seq ?_))
        refine wc_region [0] rfl ?_
        refine Go.Sx.V rfl wu rfl rfl (asg rfl) ?_
        refine wr_nil (post_thenN (wc_ret (post_thenR ?_)))
        refine post_ret1 rfl rfl ?_
        exact ⟨hE, .inl ⟨rfl, ⟨ho.1, ho.2.2.1, ho.2.2.2.1, ho.2.2.2.2.1, hpr, fun _ => hl, fun h => absurd hM h⟩, .inl hM⟩⟩
    · intro hM
      simp at hM
      refine wc_skip (post_thenN (wc_seq (wc_seq ?_)))
      refine wc_region [0,1,2,3,4,5] rfl ?_
      refine Go.Sx.V rfl wu rfl rfl (fad rfl fa24_2) ?_
      refine Go.Sx.V rfl wu rfl rfl (ldB rfl na22) ?_
      refine Go.Sx.V rfl wu rfl rfl (lenI rfl ty22) ?_
      refine Go.Sx.V rfl wu rfl rfl (fad rfl fa24_1) ?_
      refine Go.Sx.V rfl wu rfl rfl (ldB rfl na3) ?_
      refine Go.Sx.V rfl wu rfl rfl (neqI rfl rfl) ?_
      refine wr_nil (post_thenN ?_)
      refine wc_cond rfl ?_ ?_
      · intro hl
        simp at hl
        refine wc_seq ?_
        refine wc_region [0] rfl ?_
        refine Go.Sx.V rfl wu rfl rfl (asg rfl) ?_
        refine wr_nil (post_thenN (wc_ret (post_thenR ?_)))
        refine post_ret1 rfl rfl ?_
        exact ⟨hE, .inr ⟨rfl, fun ⟨hs, _⟩ => absurd (hs.2.2.2.2.2.2 hM).1 hl⟩⟩
      · intro hl
        simp at hl
        refine wc_skip (post_thenN (wc_seq (wc_seq ?_)))
        refine wc_region [0] rfl ?_
        refine Go.Sx.V rfl wu rfl rfl (asg rfl) ?_
        refine wr_nil (post_thenN (wc_block ?_))
        refine wc_loop (fun i : Int => [(1, .pointer (some ⟨g, 0, none⟩)), (3, .int .i64 i)])
          (fun i w' => 0 ≤ i ∧ i ≤ M ∧ Ext w4 w' ∧ ∀ j : Int, 0 ≤ j → j < i → 0 ≤ gi md j ∧ gi md j < p) (fun i => (M - i).toNat) 0 ⟨rfl, rfl, trivial⟩ ⟨by omega, by omega, Ext.refl _, fun j _ _ => by omega⟩ ?_
        rintro i w5 ⟨h0, h1, hE5, hlo⟩
        try dsimp only
        refine wc_seq (wc_seq ?_)
        refine wc_region [0,1,2,3] rfl ?_
        refine Go.Sx.V rfl wu rfl rfl (mv rfl) ?_
        refine Go.Sx.V rfl wu rfl rfl (fad rfl fa24_1) ?_
        refine Go.Sx.V rfl wu rfl rfl (ldB rfl na3) ?_
        refine Go.Sx.V rfl wu rfl rfl (lssI rfl rfl) ?_
        refine wr_nil (post_thenN ?_)
        refine wc_cond rfl ?_ ?_
        · intro hi
          simp at hi
          refine wc_skip (post_thenN (wc_seq (wc_block (wc_seq ?_))))
          refine wc_draw mixed [0,1,2,3,4,5,6,7,8,9,10,11,12,13,14,15] (by kernel_rfl) ?_
          intro w6 hd _
          replace hE5 := hE5.trans hd
          refine Go.Sx.V rfl wu rfl rfl (fad rfl fa24_2) ?_
          refine Go.Sx.V rfl wu rfl rfl (ldB rfl na22) ?_
          refine Go.Sx.V rfl wu rfl rfl (mv rfl) ?_
          refine Go.Sx.V rfl wu rfl rfl (iadI rfl rfl ty22) ?_
          refine Go.Sx.V rfl wu rfl rfl (ldI rfl na3) ?_
          refine Go.Sx.V rfl wu rfl rfl (lssI rfl rfl) ?_
          refine Go.Sx.V rfl wu rfl rfl (mv rfl) ?_
          refine OR (π1 := [7,8,9,10,11,12,13,14,15]) (π2 := []) (tc := 38) (tp := 47) rfl rfl rfl (by
              intro _
              refine SK rfl rfl rfl rfl rfl ?_
              refine SK rfl rfl rfl rfl rfl ?_
              refine SK rfl rfl rfl rfl rfl ?_
              refine SK rfl rfl rfl rfl rfl ?_
              refine SK rfl rfl rfl rfl rfl ?_
              refine SK rfl rfl rfl rfl rfl ?_
              refine SK rfl rfl rfl rfl rfl ?_
              refine SK rfl rfl rfl rfl rfl ?_
              refine Go.Sx.V rfl wu rfl rfl (pk rfl rfl) ?_
              exact join rfl) (by
              intro hg
              simp at hg
              refine Go.Sx.V rfl (wg rfl rfl) rfl rfl (fad rfl fa24_2) ?_
              refine Go.Sx.V rfl (wg rfl rfl) rfl rfl (ldB rfl na22) ?_
              refine Go.Sx.V rfl (wg rfl rfl) rfl rfl (mv rfl) ?_
              refine Go.Sx.V rfl (wg rfl rfl) rfl rfl (iadI rfl rfl ty22) ?_
              refine Go.Sx.V rfl (wg rfl rfl) rfl rfl (ldI rfl na3) ?_
              refine Go.Sx.V rfl (wg rfl rfl) rfl rfl (fad rfl fa24_0) ?_
              refine Go.Sx.V rfl (wg rfl rfl) rfl rfl (ldB rfl na3) ?_
              refine Go.Sx.V rfl (wg rfl rfl) rfl rfl (geqI rfl rfl) ?_
              refine Go.Sx.V rfl wu rfl rfl (pk rfl rfl) ?_
              exact join rfl) ?_
          refine wr_nil (post_thenN ?_)
          refine wc_cond rfl ?_ ?_
          · intro hc
            simp at hc
            refine wc_seq ?_
            refine wc_region [0] rfl ?_
            refine Go.Sx.V rfl wu rfl rfl (asg rfl) ?_
            refine wr_nil (post_thenN (wc_ret (post_blockR (post_thenR (post_loopR (post_blockR (post_thenR ?_)))))))
            refine post_ret1 rfl rfl ?_
            refine ⟨hE.trans hE5, .inr ⟨rfl, fun ⟨hs, _⟩ => ?_⟩⟩
            have := gi_lo (hs.2.2.2.2.2.2 hM).2 h0 (by omega)
            omega
          · intro hc
            simp at hc
            refine wc_skip (post_blockN (post_thenN ?_))
            refine wc_region [0,1,2] rfl ?_
            refine Go.Sx.V rfl wu rfl rfl (mv rfl) ?_
            refine Go.Sx.V rfl wu rfl rfl (addI rfl rfl) ?_
            refine Go.Sx.V rfl wu rfl rfl (asg rfl) ?_
            refine wr_nil ?_
            exact post_loopN (i + 1) ⟨rfl, rfl, trivial⟩ ⟨by omega, by omega, hE5, fun j hj0 hj1 => (by
              by_cases e : j = i
              · rw [e]; omega
              · exact hlo j hj0 (by omega))⟩ (by omega)
        · intro hi
          simp at hi
          refine wc_exit (post_thenE (post_loopE (post_blockX (post_thenN (wc_seq (wc_seq ?_))))))
          have hLo : Lo p md := fun z hz => by
            obtain ⟨j, hj, rfl⟩ := List.mem_iff_getElem.1 hz
            have := hlo j (by omega) (by omega)
            simpa [gi, hj] using this
          have hS : Shp p M md := ⟨ho.1, ho.2.2.1, ho.2.2.2.1, ho.2.2.2.2.1, hpr, fun h => absurd h hM, fun _ => ⟨hl, hLo⟩⟩
          have hMn : M.toNat = md.length := by omega
          refine wc_region [0,1,2,3,4,5] rfl ?_
          refine Go.Sx.V rfl wu rfl rfl (fad rfl fa24_2) ?_
          refine Go.Sx.V rfl wu rfl rfl (ldB rfl na22) ?_
          refine Go.Sx.V rfl wu rfl rfl (fad rfl fa24_0) ?_
          refine Go.Sx.V rfl wu rfl rfl (ldB rfl na3) ?_
          refine C rfl wu rfl rfl Tryz.call100 (rIrr mo md p _ (hmi.ext hE5) ⟨ho.1, ho.2.1⟩ hLo (by omega) (by rw [← hMn]; exact ho.2.2.2.2.1)) ?_
          rintro _ w7 hE7 rfl
          refine Go.Sx.V rfl wu rfl rfl (notB rfl) ?_
          refine wr_nil (post_thenN ?_)
          replace hE := (hE.trans hE5).trans hE7
          refine wc_cond rfl ?_ ?_
          · intro hc
            simp at hc
            refine wc_seq ?_
            refine wc_region [0] rfl ?_
            refine Go.Sx.V rfl wu rfl rfl (asg rfl) ?_
            refine wr_nil (post_thenN (wc_ret (post_thenR ?_)))
            refine post_ret1 rfl rfl ?_
            refine ⟨hE, .inr ⟨rfl, fun ⟨_, hs⟩ => ?_⟩⟩
            rcases hs with h | h
            · exact hM h
            · rw [hc] at h; cases h
          · intro hc
            simp at hc
            refine wc_skip (post_thenN (wc_seq ?_))
            refine wc_region [0] rfl ?_
            refine Go.Sx.V rfl wu rfl rfl (asg rfl) ?_
            refine wr_nil (post_thenN (wc_ret ?_))
            refine post_ret1 rfl rfl ?_
            exact ⟨hE, .inl ⟨rfl, hS, .inr hc⟩⟩
end Go.Proofs.YtmnojknfjbimdaaGreat

