/-
  Small functions of the field package, by contract: order, isPrime, digitsOf, valueOf.
-/
import Derived.Test.YtmnojknfjbimdaaGreatWMTya
import Derived.Test.YtmnojknfjbimdaaGreatWMFa
namespace Go.Proofs.YtmnojknfjbimdaaGreat
open Go Go.Sx Go.Pl Go.RowKit Go.Fd
def ordZ (p m : Int) : Int := if p < 2 ∨ 256 < p ∨ m < 1 ∨ 8 < m ∨ 256 < p ^ m.toNat then 0 else p ^ m.toNat
theorem pow_pos' {p : Int} (hp : 2 ≤ p) (n : Nat) : 1 ≤ p ^ n := by
  have := Int.pow_pos (n := p) (m := n) (by omega)
  omega
theorem pow_mono {p : Int} (hp : 2 ≤ p) {m n : Nat} (h : m ≤ n) : p ^ m ≤ p ^ n := by
  obtain ⟨k, rfl⟩ : ∃ k, n = m + k := ⟨n - m, by omega⟩
  rw [Int.pow_add]
  have h1 := pow_pos' hp m
  have h2 := pow_pos' hp k
  have := Int.mul_le_mul_of_nonneg_left (c := p ^ m) h2 (by omega)
  rw [Int.mul_one] at this
  exact this
theorem pow_next {p : Int} (n : Int) (h : 0 ≤ n) : p ^ (n + 1).toNat = p ^ n.toNat * p := by
  rw [show (n + 1).toNat = n.toNat + 1 by omega, Int.pow_succ]
theorem fOrder (p m : Int) (w : World) :
    Calls Tryz.prog 82 #[.int .i64 p, .int .i64 m] w (RetX w fun v _ => v = .int .i64 (ordZ p m)) := by
  refine calls2 Tryz.func82 rfl rfl ?_
  refine wc_seq ?_
  refine wc_region [0] rfl ?_
  refine Go.Sx.V rfl wu rfl rfl (asg rfl) ?_
  refine wr_nil (post_thenN (wc_seq (wc_seq ?_)))
  refine wc_region [0,1,2,3,4,5,6,7,8,9,10,11,12,13] rfl ?_
  refine Go.Sx.V rfl wu rfl rfl (mv rfl) ?_
  refine Go.Sx.V rfl wu rfl rfl (lssI rfl rfl) ?_
  refine Go.Sx.V rfl wu rfl rfl (mv rfl) ?_
  refine OR (π1 := [3,4,5]) (π2 := [6,7,8,9,10,11,12,13]) (tc := 8) (tp := 11) rfl rfl rfl (by
      intro _
      refine SK rfl rfl rfl rfl rfl ?_
      refine SK rfl rfl rfl rfl rfl ?_
      refine Go.Sx.V rfl wu rfl rfl (pk rfl rfl) ?_
      exact join rfl) (by
      intro hg
      simp at hg
      refine Go.Sx.V rfl (wg rfl rfl) rfl rfl (mv rfl) ?_
      refine Go.Sx.V rfl (wg rfl rfl) rfl rfl (gtrI rfl rfl) ?_
      refine Go.Sx.V rfl wu rfl rfl (pk rfl rfl) ?_
      exact join rfl) ?_
  refine Go.Sx.V rfl wu rfl rfl (mv rfl) ?_
  refine OR (π1 := [7,8,9]) (π2 := [10,11,12,13]) (tc := 12) (tp := 15) rfl rfl rfl (by
      intro _
      refine SK rfl rfl rfl rfl rfl ?_
      refine SK rfl rfl rfl rfl rfl ?_
      refine Go.Sx.V rfl wu rfl rfl (pk rfl rfl) ?_
      exact join rfl) (by
      intro hg
      simp at hg
      refine Go.Sx.V rfl (wg rfl rfl) rfl rfl (mv rfl) ?_
      refine Go.Sx.V rfl (wg rfl rfl) rfl rfl (lssI rfl rfl) ?_
      refine Go.Sx.V rfl wu rfl rfl (pk rfl rfl) ?_
      exact join rfl) ?_
  refine Go.Sx.V rfl wu rfl rfl (mv rfl) ?_
  refine OR (π1 := [11,12,13]) (π2 := []) (tc := 16) (tp := 19) rfl rfl rfl (by
      intro _
      refine SK rfl rfl rfl rfl rfl ?_
      refine SK rfl rfl rfl rfl rfl ?_
      refine Go.Sx.V rfl wu rfl rfl (pk rfl rfl) ?_
      exact join rfl) (by
      intro hg
      simp at hg
      refine Go.Sx.V rfl (wg rfl rfl) rfl rfl (mv rfl) ?_
      refine Go.Sx.V rfl (wg rfl rfl) rfl rfl (gtrI rfl rfl) ?_
      refine Go.Sx.V rfl wu rfl rfl (pk rfl rfl) ?_
      exact join rfl) ?_
  refine wr_nil (post_thenN ?_)
  refine wc_cond rfl ?_ ?_
  · intro h
    simp at h
    refine wc_seq ?_
    refine wc_region [0] rfl ?_
    refine Go.Sx.V rfl wu rfl rfl (asg rfl) ?_
    refine wr_nil (post_thenN (wc_ret (post_thenR ?_)))
    refine post_ret1 rfl rfl ?_
    exact ⟨Ext.refl _, by rw [ordZ, if_pos (by omega)]⟩
  · intro h
    simp at h
    refine wc_skip (post_thenN (wc_seq ?_))
    refine wc_region [0] rfl ?_
    refine Go.Sx.V rfl wu rfl rfl (asg rfl) ?_
    refine wr_nil (post_thenN (wc_seq (wc_seq ?_)))
    refine wc_region [0,1] rfl ?_
    refine Go.Sx.V rfl wu rfl rfl (mv rfl) ?_
    refine Go.Sx.V rfl wu rfl rfl (mv rfl) ?_
    refine wr_nil (post_thenN (wc_block ?_))
    refine wc_loop (fun i : Int => [(0, .int .i64 p), (5, .int .i64 (p ^ i.toNat)), (20, .int .i64 m), (21, .int .i64 i)])
      (fun i w' => 0 ≤ i ∧ i ≤ m ∧ p ^ i.toNat ≤ 256 ∧ w' = w) (fun i => (m - i).toNat) 0 ⟨rfl, by rw [show (0 : Int).toNat = 0 from rfl, Int.pow_zero]; rfl, rfl, rfl, trivial⟩ ⟨by omega, by omega, by simp, rfl⟩ ?_
    rintro i w' ⟨h0, h1, hq, rfl⟩
    have hq0 := pow_pos' (p := p) (by omega) i.toNat
    try dsimp only
    refine wc_seq ?_
    refine wc_region [0] rfl ?_
    refine Go.Sx.V rfl wu rfl rfl (lssI rfl rfl) ?_
    refine wr_nil (post_thenN (wc_seq ?_))
    refine wc_cond rfl ?_ ?_
    · intro hi
      simp at hi
      refine wc_skip (post_thenN (wc_seq (wc_block (wc_seq ?_))))
      have hm : p ^ i.toNat * p ≤ 256 * 256 := Int.mul_le_mul hq (by omega) (by omega) (by omega)
      have hm0 : 0 ≤ p ^ i.toNat * p := Int.mul_nonneg (by omega) (by omega)
      refine wc_region [0,1,2,3] rfl ?_
      refine Go.Sx.V rfl wu rfl rfl (mv rfl) ?_
      refine Go.Sx.V rfl wu rfl rfl (mv rfl) ?_
      refine Go.Sx.V rfl wu rfl rfl (mulI rfl rfl) ?_
      refine Go.Sx.V rfl wu rfl rfl (asg rfl) ?_
      refine wr_nil (post_thenN (wc_seq ?_))
      rw [← pow_next i h0]
      refine wc_region [0,1] rfl ?_
      refine Go.Sx.V rfl wu rfl rfl (mv rfl) ?_
      refine Go.Sx.V rfl wu rfl rfl (gtrI rfl rfl) ?_
      refine wr_nil (post_thenN ?_)
      refine wc_cond rfl ?_ ?_
      · intro hb
        simp at hb
        refine wc_seq ?_
        refine wc_region [0] rfl ?_
        refine Go.Sx.V rfl wu rfl rfl (asg rfl) ?_
        refine wr_nil (post_thenN (wc_ret (post_blockR (post_thenR (post_loopR (post_blockR (post_thenR ?_)))))))
        refine post_ret1 rfl rfl ?_
        have := pow_mono (p := p) (by omega) (m := (i + 1).toNat) (n := m.toNat) (by omega)
        exact ⟨Ext.refl _, by rw [ordZ, if_pos (by omega)]⟩
      · intro hb
        simp at hb
        refine wc_skip (post_blockN (post_thenN ?_))
        refine wc_region [0,1] rfl ?_
        refine Go.Sx.V rfl wu rfl rfl (addI rfl rfl) ?_
        refine Go.Sx.V rfl wu rfl rfl (mv rfl) ?_
        refine wr_nil ?_
        exact post_loopN (i + 1) ⟨rfl, rfl, rfl, rfl, trivial⟩ ⟨by omega, by omega, hb, rfl⟩ (by omega)
    · intro hi
      simp at hi
      refine wc_exit (post_thenE (post_loopE (post_blockX (post_thenN (wc_seq ?_)))))
      have e : i = m := by omega
      subst e
      refine wc_region [0,1] rfl ?_
      refine Go.Sx.V rfl wu rfl rfl (mv rfl) ?_
      refine Go.Sx.V rfl wu rfl rfl (asg rfl) ?_
      refine wr_nil (post_thenN (wc_ret ?_))
      refine post_ret1 rfl rfl ?_
      exact ⟨Ext.refl _, by rw [ordZ, if_neg (by omega)]⟩
theorem primeN_iff {n : Nat} : primeN n = true ↔ 2 ≤ n ∧ ∀ d, 2 ≤ d → d < n → n % d ≠ 0 := by
  simp only [primeN, Bool.and_eq_true, decide_eq_true_eq, List.all_eq_true, List.mem_range, Bool.not_eq_true', Bool.and_eq_false_iff, decide_eq_false_iff_not]
  constructor
  · rintro ⟨h1, h2⟩
    refine ⟨h1, fun d hd hn => ?_⟩
    rcases h2 d hn with h | h
    · exact absurd hd h
    · exact h
  · rintro ⟨h1, h2⟩
    refine ⟨h1, fun d hn => ?_⟩
    by_cases hd : 2 ≤ d
    · exact .inr (h2 d hd hn)
    · exact .inl hd
theorem primeN_false {n d : Int} (h0 : 2 ≤ d) (h1 : d < n) (h : n % d = 0) : primeN n.toNat = false := by
  cases hp : primeN n.toNat
  · rfl
  · exfalso
    refine (primeN_iff.1 hp).2 d.toNat (by omega) (by omega) ?_
    have : ((n.toNat % d.toNat : Nat) : Int) = n % d := by rw [Int.natCast_emod]; congr 1 <;> omega
    omega
theorem primeN_true {n d : Int} (hn : 2 ≤ n) (h0 : 2 ≤ d) (h : ∀ e : Int, 2 ≤ e → e < d → n % e ≠ 0) (hd : n < d * d) : primeN n.toNat = true := by
  rw [primeN_iff]
  refine ⟨by omega, fun e h2 hlt hm => ?_⟩
  have hme : n % (e : Int) = 0 := by
    have : ((n.toNat % e : Nat) : Int) = n % (e : Int) := by rw [Int.natCast_emod]; congr 1; omega
    omega
  by_cases hed : (e : Int) < d
  · exact h e (by omega) hed hme
  · have hmul := Int.mul_ediv_add_emod n (e : Int)
    have hf : n = e * (n / e) := by omega
    have hf2 : 2 ≤ n / (e : Int) := by
      apply Classical.byContradiction
      intro hc
      have h0' : 0 ≤ n / (e : Int) := Int.ediv_nonneg (by omega) (by omega)
      have : n / (e : Int) = 0 ∨ n / (e : Int) = 1 := by omega
      rcases this with h | h
      · rw [h] at hf; simp at hf; omega
      · rw [h] at hf; simp at hf; omega
    have hfd : n / (e : Int) < d := by
      apply Classical.byContradiction
      intro hc
      have h4 : d * d ≤ (e : Int) * (n / (e : Int)) := Int.mul_le_mul (by omega) (by omega) (by omega) (by omega)
      omega
    refine h (n / e) hf2 hfd ?_
    have h3 : n % (n / (e : Int)) = (e * (n / e)) % (n / (e : Int)) := by rw [← hf]
    rw [h3, Int.mul_emod_left]
theorem fIsPrime (n : Int) (w : World) (hn : 2 ≤ n ∧ n ≤ 256) :
    Calls Tryz.prog 116 #[.int .i64 n] w (RetX w fun v _ => v = .bool (primeN n.toNat)) := by
  refine calls1 Tryz.func116 rfl rfl ?_
  refine wc_seq ?_
  refine wc_region [0] rfl ?_
  refine Go.Sx.V rfl wu rfl rfl (asg rfl) ?_
  refine wr_nil (post_thenN (wc_seq (wc_seq ?_)))
  refine wc_region [0] rfl ?_
  refine Go.Sx.V rfl wu rfl rfl (asg rfl) ?_
  refine wr_nil (post_thenN (wc_block ?_))
  refine wc_loop (fun d : Int => [(0, .int .i64 n), (3, .int .i64 d)])
    (fun d w' => 2 ≤ d ∧ d ≤ n + 1 ∧ (∀ e : Int, 2 ≤ e → e < d → n % e ≠ 0) ∧ w' = w) (fun d => (n + 1 - d).toNat) 2 ⟨rfl, rfl, trivial⟩ ⟨by omega, by omega, fun e _ _ => by omega, rfl⟩ ?_
  rintro d w' ⟨h0, h1, h2, rfl⟩
  have hm : d * d ≤ 257 * 257 := Int.mul_le_mul (by omega) (by omega) (by omega) (by omega)
  have hm2 : 2 * d ≤ d * d := Int.mul_le_mul_of_nonneg_right h0 (by omega)
  try dsimp only
  refine wc_seq (wc_seq ?_)
  refine wc_region [0,1,2,3,4] rfl ?_
  refine Go.Sx.V rfl wu rfl rfl (mv rfl) ?_
  refine Go.Sx.V rfl wu rfl rfl (mv rfl) ?_
  refine Go.Sx.V rfl wu rfl rfl (mulI rfl rfl) ?_
  refine Go.Sx.V rfl wu rfl rfl (mv rfl) ?_
  refine Go.Sx.V rfl wu rfl rfl (leqI rfl rfl) ?_
  refine wr_nil (post_thenN ?_)
  refine wc_cond rfl ?_ ?_
  · intro hd
    simp at hd
    refine wc_skip (post_thenN (wc_seq (wc_block (wc_seq ?_))))
    refine wc_region [0,1,2,3] rfl ?_
    refine Go.Sx.V rfl wu rfl rfl (mv rfl) ?_
    refine Go.Sx.V rfl wu rfl rfl (mv rfl) ?_
    refine Go.Sx.V rfl wu rfl rfl (remI rfl rfl) ?_
    refine Go.Sx.V rfl wu rfl rfl (eqlI rfl rfl) ?_
    refine wr_nil (post_thenN ?_)
    refine wc_cond rfl ?_ ?_
    · intro he
      simp at he
      refine wc_seq ?_
      refine wc_region [0] rfl ?_
      refine Go.Sx.V rfl wu rfl rfl (asg rfl) ?_
      refine wr_nil (post_thenN (wc_ret (post_blockR (post_thenR (post_loopR (post_blockR (post_thenR ?_)))))))
      refine post_ret1 rfl rfl ?_
      exact ⟨Ext.refl _, by rw [primeN_false h0 (by omega) he]⟩
    · intro he
      simp at he
      refine wc_skip (post_blockN (post_thenN ?_))
      refine wc_region [0,1,2] rfl ?_
      refine Go.Sx.V rfl wu rfl rfl (mv rfl) ?_
      refine Go.Sx.V rfl wu rfl rfl (addI rfl rfl) ?_
      refine Go.Sx.V rfl wu rfl rfl (asg rfl) ?_
      refine wr_nil ?_
      exact post_loopN (d + 1) ⟨rfl, rfl, trivial⟩ ⟨by omega, by omega, fun e he1 he2 => (by
        by_cases e' : e = d
        · rw [e']; exact he
        · exact h2 e he1 (by omega)), rfl⟩ (by omega)
  · intro hd
    simp at hd
    refine wc_exit (post_thenE (post_loopE (post_blockX (post_thenN (wc_seq ?_)))))
    refine wc_region [0,1,2] rfl ?_
    refine Go.Sx.V rfl wu rfl rfl (mv rfl) ?_
    refine Go.Sx.V rfl wu rfl rfl (geqI rfl rfl) ?_
    refine Go.Sx.V rfl wu rfl rfl (asg rfl) ?_
    refine wr_nil (post_thenN (wc_ret ?_))
    refine post_ret1 rfl rfl ?_
    exact ⟨Ext.refl _, by rw [primeN_true hn.1 h0 h2 hd]; simp [hn.1]⟩
theorem si_app (pre : List Int) (k : Nat) (u : Int) : si (pre ++ List.replicate (k + 1) 0) pre.length u = (pre ++ [u]) ++ List.replicate k 0 := by
  simp [si, List.replicate_succ]
structure Dg (p : Int) (m : Nat) (x0 : Int) (i : Nat) (x : Int) (l : List Int) : Prop where
  pre : ∃ pre : List Int, pre.length = i ∧ l = pre ++ List.replicate (m - i) 0 ∧ dig p m x0 = pre ++ dig p (m - i) x
theorem Dg.first (p : Int) (m : Nat) (x0 : Int) : Dg p m x0 0 x0 (tab m fun _ => 0) := ⟨[], rfl, by rw [← replicate_tab]; simp, by simp⟩
theorem Dg.step {p : Int} {m : Nat} {x0 : Int} {i : Nat} {x : Int} {l : List Int} (h : Dg p m x0 i x l) (hi : i < m) : Dg p m x0 (i + 1) (x / p) (si l i (x % p)) := by
  obtain ⟨pre, h1, h2, h3⟩ := h
  obtain ⟨k, hk⟩ : ∃ k, m - i = k + 1 := ⟨m - i - 1, by omega⟩
  refine ⟨pre ++ [x % p], by simp [h1], ?_, ?_⟩
  · rw [h2, hk, ← h1, si_app, show m - (pre.length + 1) = k by omega]
  · rw [h3, hk, dig, show m - (i + 1) = k by omega]
    simp
theorem Dg.len {p : Int} {m : Nat} {x0 : Int} {i : Nat} {x : Int} {l : List Int} (h : Dg p m x0 i x l) (hi : i ≤ m) : l.length = m := by
  obtain ⟨pre, h1, h2, h3⟩ := h
  rw [h2]
  simp [h1]
  omega
theorem Dg.last {p : Int} {m : Nat} {x0 : Int} {x : Int} {l : List Int} (h : Dg p m x0 m x l) : l = dig p m x0 := by
  obtain ⟨pre, h1, h2, h3⟩ := h
  rw [h2, h3, Nat.sub_self]
  simp [dig]
theorem fDigits (x p : Int) (m : Nat) (w : World) (hx : 0 ≤ x ∧ x ≤ 65536) (hp : 2 ≤ p ∧ p ≤ 256) (hm : m ≤ 64) :
    Calls Tryz.prog 154 #[.int .i64 x, .int .i64 p, .int .i64 m] w (RetX w fun v w' => OwnI w.heap.size w' v 3 (dig p m x) ∧ v.ownBlock = some w.heap.size) := by
  refine calls3 Tryz.func154 rfl rfl ?_
  refine wc_seq ?_
  refine wc_region [0] rfl ?_
  refine Go.Sx.V rfl wu rfl rfl (asg rfl) ?_
  refine wr_nil (post_thenN (wc_seq ?_))
  refine wc_region [0,1,2] rfl ?_
  refine Go.Sx.V rfl wu rfl rfl (mv rfl) ?_
  refine MKI (n := m) rfl wu rfl rfl ty22 ?_
  intro s w1 hE hs hsi hsb
  refine Go.Sx.V rfl wu rfl rfl (asg rfl) ?_
  refine wr_nil (post_thenN (wc_seq (wc_seq ?_)))
  refine wc_region [0,1,2] rfl ?_
  refine Go.Sx.V rfl wu rfl rfl (mv rfl) ?_
  refine Go.Sx.V rfl wu rfl rfl (lenI rfl ty22) ?_
  refine Go.Sx.V rfl wu rfl rfl (mv rfl) ?_
  refine wr_nil (post_thenN (wc_block ?_))
  rw [tab_length]
  refine wc_loop (fun q : Int × Int × List Int => [(0, .int .i64 q.2.1), (1, .int .i64 p), (7, s), (12, .int .i64 m), (13, .int .i64 q.1)])
    (fun q w' => 0 ≤ q.1 ∧ q.1 ≤ m ∧ 0 ≤ q.2.1 ∧ q.2.1 ≤ 65536 ∧ Dg p m x q.1.toNat q.2.1 q.2.2 ∧ Ext w w' ∧ OwnI w.heap.size w' s 3 q.2.2) (fun q => (m - q.1).toNat) (0, x, tab m fun _ => 0) ⟨rfl, rfl, rfl, rfl, rfl, trivial⟩ ⟨by omega, by omega, hx.1, hx.2, Dg.first p m x, hE, hs⟩ ?_
  clear hE hs hsi
  rintro ⟨i, y, l⟩ w2 ⟨h0, h1, hy0, hy1, hD, hE, hs⟩
  simp only at h0 h1 hy0 hy1 hD hE hs
  have hsi := hs.ints
  have hl := hD.len (by omega)
  have hy2 : y / p ≤ y := Int.ediv_le_self _ hy0
  have hy3 : 0 ≤ y / p := Int.ediv_nonneg hy0 (by omega)
  try dsimp only
  refine wc_seq ?_
  refine wc_region [0] rfl ?_
  refine Go.Sx.V rfl wu rfl rfl (lssI rfl rfl) ?_
  refine wr_nil (post_thenN (wc_seq ?_))
  refine wc_cond rfl ?_ ?_
  · intro hi
    simp at hi
    refine wc_skip (post_thenN (wc_seq (wc_block (wc_seq ?_))))
    refine wc_region [0,1] rfl ?_
    refine Go.Sx.V rfl wu rfl rfl (mv rfl) ?_
    refine Go.Sx.V rfl wu rfl rfl (asg rfl) ?_
    refine wr_nil (post_thenN (wc_seq ?_))
    refine wc_region [0,1,2,3,4,5,6] rfl ?_
    refine Go.Sx.V rfl wu rfl rfl (mv rfl) ?_
    refine Go.Sx.V rfl wu rfl rfl (mv rfl) ?_
    refine Go.Sx.V rfl wu rfl rfl (mv rfl) ?_
    refine Go.Sx.V rfl wu rfl rfl (mv rfl) ?_
    refine Go.Sx.V rfl wu rfl rfl (remI rfl rfl) ?_
    refine Go.Sx.V rfl wu rfl rfl (iadI rfl rfl ty22) ?_
    refine STI rfl wu rfl rfl sz3 (by intro h; cases h) ?_
    intro w3 hg hX hs3 hsi3
    refine wr_nil (post_thenN ?_)
    have hD' := hD.step (by omega)
    rw [show ((i.toNat : Nat) : Int) = i by omega] at hD'
    refine wc_region [0,1,2,3] rfl ?_
    refine Go.Sx.V rfl wu rfl rfl (mv rfl) ?_
    refine Go.Sx.V rfl wu rfl rfl (mv rfl) ?_
    refine Go.Sx.V rfl wu rfl rfl (quoI rfl rfl) ?_
    refine Go.Sx.V rfl wu rfl rfl (asg rfl) ?_
    refine wr_nil (post_blockN (post_thenN ?_))
    refine wc_region [0,1] rfl ?_
    refine Go.Sx.V rfl wu rfl rfl (addI rfl rfl) ?_
    refine Go.Sx.V rfl wu rfl rfl (mv rfl) ?_
    refine wr_nil ?_
    exact post_loopN (i + 1, y / p, si l i (y % p)) ⟨rfl, rfl, rfl, rfl, rfl, trivial⟩ ⟨by show 0 ≤ i + 1; omega, by show i + 1 ≤ _; omega, hy3, by show y / p ≤ _; omega, by show Dg p m x (i + 1).toNat _ _; rw [show (i + 1).toNat = i.toNat + 1 by omega]; exact hD', hX _ (Nat.le_refl _) hE, hs3⟩ (by show (m - (i + 1)).toNat < (m - i).toNat; omega)
  · intro hi
    simp at hi
    refine wc_exit (post_thenE (post_loopE (post_blockX (post_thenN (wc_seq ?_)))))
    refine wc_region [0,1] rfl ?_
    refine Go.Sx.V rfl wu rfl rfl (mv rfl) ?_
    refine Go.Sx.V rfl wu rfl rfl (asg rfl) ?_
    refine wr_nil (post_thenN (wc_ret ?_))
    refine post_ret1 rfl rfl ?_
    have e : i.toNat = m := by omega
    rw [e] at hD
    rw [hD.last] at hs
    exact ⟨hE, hs, hsb⟩
theorem lo_drop {p : Int} {l : List Int} (h : Lo p l) (n : Nat) : Lo p (l.drop n) := fun z hz => h z (List.mem_of_mem_drop hz)
theorem val_le {p : Int} (hp : 2 ≤ p) {l : List Int} (h : Lo p l) (hq : p ^ l.length ≤ 65536) (n : Nat) : 0 ≤ val p (l.drop n) ∧ val p (l.drop n) < 65536 := by
  have h1 := val_range hp _ (lo_drop h n)
  have h2 := pow_mono hp (m := (l.drop n).length) (n := l.length) (by simp)
  omega
theorem val_step {p : Int} {l : List Int} {i : Int} (h0 : 0 ≤ i) (h1 : i < l.length) : val p (l.drop (i + 1).toNat) * p + gi l i = val p (l.drop i.toNat) := by
  have hk : i.toNat < l.length := by omega
  rw [List.drop_eq_getElem_cons hk, val, show (i + 1).toNat = i.toNat + 1 by omega, Int.mul_comm]
  simp [gi, hk]
  omega
theorem gi_lo {p : Int} {l : List Int} (h : Lo p l) {i : Int} (h0 : 0 ≤ i) (h1 : i < l.length) : 0 ≤ gi l i ∧ gi l i < p := by
  have hk : i.toNat < l.length := by omega
  have := h _ (List.getElem_mem hk)
  simpa [gi, hk] using this
theorem fValue (d : Value) (l : List Int) (p : Int) (w : World) (hd : Ints w d l) (hp : 2 ≤ p ∧ p ≤ 256) (hl : Lo p l) (hq : p ^ l.length ≤ 65536) (hlen : l.length ≤ 64) :
    Calls Tryz.prog 155 #[d, .int .i64 p] w (RetX w fun v _ => v = .int .i64 (val p l)) := by
  refine calls2 Tryz.func155 rfl rfl ?_
  refine wc_seq ?_
  refine wc_region [0] rfl ?_
  refine Go.Sx.V rfl wu rfl rfl (asg rfl) ?_
  refine wr_nil (post_thenN (wc_seq ?_))
  refine wc_region [0] rfl ?_
  refine Go.Sx.V rfl wu rfl rfl (asg rfl) ?_
  refine wr_nil (post_thenN (wc_seq (wc_seq ?_)))
  refine wc_region [0,1,2,3] rfl ?_
  refine Go.Sx.V rfl wu rfl rfl (mv rfl) ?_
  refine Go.Sx.V rfl wu rfl rfl (lenI rfl ty22) ?_
  refine Go.Sx.V rfl wu rfl rfl (subI rfl rfl) ?_
  refine Go.Sx.V rfl wu rfl rfl (asg rfl) ?_
  refine wr_nil (post_thenN (wc_block ?_))
  refine wc_loop (fun i : Int => [(0, d), (1, .int .i64 p), (5, .int .i64 (val p (l.drop (i + 1).toNat))), (6, .int .i64 i)])
    (fun i w' => -1 ≤ i ∧ i < l.length ∧ w' = w) (fun i => (i + 1).toNat) (l.length - 1) ⟨rfl, rfl, by
      show _ = some (Value.int .i64 (val p (l.drop ((l.length : Int) - 1 + 1).toNat)))
      rw [show ((l.length : Int) - 1 + 1).toNat = l.length by omega, List.drop_length]; rfl, rfl, trivial⟩ ⟨by omega, by omega, rfl⟩ ?_
  rintro i w' ⟨h0, h1, rfl⟩
  have hv := val_le hp.1 hl hq (i + 1).toNat
  try dsimp only
  refine wc_seq (wc_seq ?_)
  refine wc_region [0,1] rfl ?_
  refine Go.Sx.V rfl wu rfl rfl (mv rfl) ?_
  refine Go.Sx.V rfl wu rfl rfl (geqI rfl rfl) ?_
  refine wr_nil (post_thenN ?_)
  refine wc_cond rfl ?_ ?_
  · intro hi
    simp at hi
    refine wc_skip (post_thenN (wc_seq (wc_block ?_)))
    have hg := gi_lo hl hi h1
    have hm : 0 ≤ val p (l.drop (i + 1).toNat) * p ∧ val p (l.drop (i + 1).toNat) * p ≤ 65536 * 256 := ⟨Int.mul_nonneg hv.1 (by omega), Int.mul_le_mul (by omega) hp.2 (by omega) (by omega)⟩
    refine wc_region [0,1,2,3,4,5,6,7,8] rfl ?_
    refine Go.Sx.V rfl wu rfl rfl (mv rfl) ?_
    refine Go.Sx.V rfl wu rfl rfl (mv rfl) ?_
    refine Go.Sx.V rfl wu rfl rfl (mulI rfl rfl) ?_
    refine Go.Sx.V rfl wu rfl rfl (mv rfl) ?_
    refine Go.Sx.V rfl wu rfl rfl (mv rfl) ?_
    refine Go.Sx.V rfl wu rfl rfl (iadI rfl rfl ty22) ?_
    refine Go.Sx.V rfl wu rfl rfl (ldI rfl na3) ?_
    refine Go.Sx.V rfl wu rfl rfl (addI rfl rfl) ?_
    refine Go.Sx.V rfl wu rfl rfl (asg rfl) ?_
    refine wr_nil (post_blockN (post_thenN ?_))
    rw [val_step hi h1]
    refine wc_region [0,1,2] rfl ?_
    refine Go.Sx.V rfl wu rfl rfl (mv rfl) ?_
    refine Go.Sx.V rfl wu rfl rfl (subI rfl rfl) ?_
    refine Go.Sx.V rfl wu rfl rfl (asg rfl) ?_
    refine wr_nil ?_
    exact post_loopN (i - 1) ⟨rfl, rfl, by show _ = some (Value.int .i64 (val p (l.drop (i - 1 + 1).toNat))); rw [show i - 1 + 1 = i by omega]; rfl, rfl, trivial⟩ ⟨by omega, by omega, rfl⟩ (by omega)
  · intro hi
    simp at hi
    refine wc_exit (post_thenE (post_loopE (post_blockX (post_thenN (wc_seq ?_)))))
    refine wc_region [0,1] rfl ?_
    refine Go.Sx.V rfl wu rfl rfl (mv rfl) ?_
    refine Go.Sx.V rfl wu rfl rfl (asg rfl) ?_
    refine wr_nil (post_thenN (wc_ret ?_))
    refine post_ret1 rfl rfl ?_
    refine ⟨Ext.refl _, ?_⟩
    rw [show (i + 1).toNat = 0 by omega, List.drop_zero]
end Go.Proofs.YtmnojknfjbimdaaGreat

