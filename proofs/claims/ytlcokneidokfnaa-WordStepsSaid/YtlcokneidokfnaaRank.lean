/-
  Rank and Unrank, the program's and the reference's, by contract.
-/
import Derived.Test.YtlcokneidokfnaaBinom
import Derived.Test.YtlcokneidokfnaaCompare
import Derived.Test.YtlcokneidokfnaaPlainRank
namespace Go.Proofs.Ytlcokneidokfnaa
open Go Go.Sx Go.Pl Go.RowKit

theorem choose_int (a k : Int) (w : World) (h0 : 0 ≤ a) (h1 : a ≤ 64) :
    Calls Try.prog 54 #[.int .i64 a, .int .i64 k] w (RetX w fun v _ => v = .int .i64 (binZ a k)) := by
  obtain ⟨m, rfl⟩ : ∃ m : Nat, a = m := ⟨a.toNat, by omega⟩
  exact choose_any m k w (by omega)
/-- A list and an error. -/
def LE (zs : List Int) (e : Int) (v : Value) (w : World) : Prop := ∃ s, v = .tuple #[s, .int .i64 e] ∧ Ints w s zs

theorem rSame (a b : Value) (xs ys : List Int) (w : World) (ha : Ints w a xs) (hb : Ints w b ys) :
    Calls Try.prog 24 #[a, b] w (RetX w fun v _ => v = .bool (decide (xs = ys))) := by
  refine calls2 Try.func24 rfl rfl ?_
  refine wc_seq ?_
  refine wc_region [0] rfl ?_
  refine Go.Sx.V rfl wu rfl rfl (asg rfl) ?_
  refine wr_nil (post_thenN (wc_seq ?_))
  refine wc_region [0,1,2,3,4] rfl ?_
  refine Go.Sx.V rfl wu rfl rfl (mv rfl) ?_
  refine Go.Sx.V rfl wu rfl rfl (mv rfl) ?_
  refine C rfl wu rfl rfl Try.call20 (rCompare a b xs ys _ ha hb) ?_
  rintro _ w1 hE rfl
  refine Go.Sx.V rfl wu rfl rfl (eqlI rfl rfl) ?_
  refine Go.Sx.V rfl wu rfl rfl (asg rfl) ?_
  refine wr_nil (post_thenN (wc_ret ?_))
  refine post_ret1 rfl rfl ?_
  refine ⟨hE, ?_⟩
  have := cmpL_eq xs ys
  by_cases h : xs = ys
  · simp [h, cmpL_self]
  · simp [h, this]

set_option maxRecDepth 10000 in
theorem wRank (n : Int) (s : Value) (zs : List Int) (w : World) (hs : Ints w s zs) :
    Calls Try.prog 21 #[.int .i64 n, s] w (RetX w fun v _ => v = two (rankAns n zs)) := by
  have hl := hs.le
  refine calls2 Try.func21 rfl rfl ?_
  refine wc_seq ?_
  refine wc_region [0,1] rfl ?_
  refine Go.Sx.V rfl wu rfl rfl (asg rfl) ?_
  refine Go.Sx.V rfl wu rfl rfl (asg rfl) ?_
  refine wr_nil (post_thenN (wc_seq (wc_seq ?_)))
  refine wc_region [0,1,2,3,4,5] rfl ?_
  refine Go.Sx.V rfl wu rfl rfl (mv rfl) ?_
  refine Go.Sx.V rfl wu rfl rfl (lssI rfl rfl) ?_
  refine Go.Sx.V rfl wu rfl rfl (mv rfl) ?_
  refine OR (π1 := [3,4,5]) (π2 := []) (tc := 13) (tp := 16) rfl rfl rfl (by
      intro _
      refine SK rfl rfl rfl rfl rfl ?_
      refine SK rfl rfl rfl rfl rfl ?_
      refine Go.Sx.V rfl wu rfl rfl (pk rfl rfl) ?_
      exact join rfl) (by
      intro hg
      simp at hg
      refine Go.Sx.V rfl (wg rfl rfl) rfl rfl (mv rfl) ?_
      refine Go.Sx.V rfl (wg rfl rfl) rfl rfl (gtrI rfl rfl) ?_
      refine Go.Sx.V rfl wu rfl rfl (pk rfl rfl) ?_
      exact join rfl) ?_
  refine wr_nil (post_thenN ?_)
  refine wc_cond rfl ?_ ?_
  · intro h
    simp at h
    refine wc_seq ?_
    refine wc_region [0,1] rfl ?_
    refine Go.Sx.V rfl wu rfl rfl (asg rfl) ?_
    refine Go.Sx.V rfl wu rfl rfl (asg rfl) ?_
    refine wr_nil (post_thenN (wc_ret (post_thenR ?_)))
    refine post_ret2 rfl rfl rfl ?_
    exact ⟨Ext.refl _, by rw [rankAns, if_pos h]; rfl⟩
  · intro h
    simp at h
    refine wc_skip (post_thenN (wc_seq ?_))
    refine wc_region [0] rfl ?_
    refine Go.Sx.V rfl wu rfl rfl (asg rfl) ?_
    refine wr_nil (post_thenN (wc_seq ?_))
    refine wc_region [0] rfl ?_
    refine Go.Sx.V rfl wu rfl rfl (asg rfl) ?_
    refine wr_nil (post_thenN (wc_seq (wc_seq ?_)))
    refine wc_region [0,1,2] rfl ?_
    refine Go.Sx.V rfl wu rfl rfl (mv rfl) ?_
    refine Go.Sx.V rfl wu rfl rfl (lenI rfl ty26) ?_
    refine Go.Sx.V rfl wu rfl rfl (mv rfl) ?_
    refine wr_nil (post_thenN (wc_block ?_))
    have hT := rk_small n 0 zs h.2
    have hans : rankAns n zs = if asc n 0 zs then ((rk n.toNat 0 zs : Int), 0) else (0, 5) := by rw [rankAns, if_neg (by omega)]
    refine wc_loop (fun q : Int × Int × Int => [(0, .int .i64 n), (1, s), (6, .int .i64 q.2.1), (7, .int .i64 q.2.2), (17, s), (18, .int .i64 zs.length), (19, .int .i64 q.1)])
      (fun q w' => 0 ≤ q.1 ∧ q.1 ≤ zs.length ∧ 0 ≤ q.2.1 ∧ q.2.1 ≤ n ∧ 0 ≤ q.2.2 ∧ q.2.2 + rk (n - q.2.1).toNat q.2.1 (zs.drop q.1.toNat) = rk n.toNat 0 zs ∧ asc n 0 zs = asc n q.2.1 (zs.drop q.1.toNat) ∧ Ext w w')
      (fun q => (zs.length - q.1).toNat) (0, 0, 0) ⟨rfl, rfl, rfl, rfl, rfl, rfl, rfl, trivial⟩ ⟨by simp, by simp, by simp, by simpa using h.1, by simp, by simp, by simp, Ext.refl _⟩ ?_
    rintro ⟨i, at', R⟩ w1 ⟨h0, h1, h2, h3, h4, hR, hA, hE⟩
    simp only at h0 h1 h2 h3 h4 hR hA
    try dsimp only
    refine wc_seq ?_
    refine wc_region [0] rfl ?_
    refine Go.Sx.V rfl wu rfl rfl (lssI rfl rfl) ?_
    refine wr_nil (post_thenN (wc_seq ?_))
    refine wc_cond rfl ?_ ?_
    · intro hc
      simp at hc
      refine wc_skip (post_thenN (wc_seq (wc_block (wc_seq ?_))))
      rw [drop_gi h0 hc] at hR hA
      refine wc_region [0,1,2,3,4] rfl ?_
      refine Go.Sx.V rfl wu rfl rfl (mv rfl) ?_
      refine Go.Sx.V rfl wu rfl rfl (iadI rfl rfl ty26) ?_
      refine Go.Sx.V rfl wu rfl rfl (ldI rfl na3) ?_
      refine Go.Sx.V rfl wu rfl rfl (asg rfl) ?_
      refine Go.Sx.V rfl wu rfl rfl (asg rfl) ?_
      refine wr_nil (post_thenN (wc_seq (wc_seq ?_)))
      refine wc_region [0,1,2,3,4,5,6,7] rfl ?_
      refine Go.Sx.V rfl wu rfl rfl (mv rfl) ?_
      refine Go.Sx.V rfl wu rfl rfl (mv rfl) ?_
      refine Go.Sx.V rfl wu rfl rfl (lssI rfl rfl) ?_
      refine Go.Sx.V rfl wu rfl rfl (mv rfl) ?_
      refine OR (π1 := [4,5,6,7]) (π2 := []) (tc := 27) (tp := 31) rfl rfl rfl (by
          intro _
          refine SK rfl rfl rfl rfl rfl ?_
          refine SK rfl rfl rfl rfl rfl ?_
          refine SK rfl rfl rfl rfl rfl ?_
          refine Go.Sx.V rfl wu rfl rfl (pk rfl rfl) ?_
          exact join rfl) (by
          intro hg
          simp at hg
          refine Go.Sx.V rfl (wg rfl rfl) rfl rfl (mv rfl) ?_
          refine Go.Sx.V rfl (wg rfl rfl) rfl rfl (mv rfl) ?_
          refine Go.Sx.V rfl (wg rfl rfl) rfl rfl (geqI rfl rfl) ?_
          refine Go.Sx.V rfl wu rfl rfl (pk rfl rfl) ?_
          exact join rfl) ?_
      refine wr_nil (post_thenN ?_)
      refine wc_cond rfl ?_ ?_
      · intro hx
        refine wc_seq ?_
        refine wc_region [0,1] rfl ?_
        refine Go.Sx.V rfl wu rfl rfl (asg rfl) ?_
        refine Go.Sx.V rfl wu rfl rfl (asg rfl) ?_
        refine wr_nil (post_thenN (wc_ret (post_thenR (post_blockR (post_thenR (post_loopR (post_blockR (post_thenR ?_))))))))
        refine post_ret2 rfl rfl rfl ?_
        simp at hx
        refine ⟨hE, ?_⟩
        have hAf : asc n 0 zs = false := by
          rw [hA, Bool.eq_false_iff]
          intro hh
          have := asc_head.1 hh
          omega
        rw [hans, hAf]; rfl
      · intro hx
        simp at hx
        refine wc_skip (post_thenN (wc_seq (wc_seq ?_)))
        have hdl : (zs.drop (i + 1).toNat).length = zs.length - (i + 1).toNat := List.length_drop
        generalize hx0 : gi zs i = x at *
        generalize hr0 : zs.drop (i + 1).toNat = r at *
        refine wc_region [0,1] rfl ?_
        refine Go.Sx.V rfl wu rfl rfl (mv rfl) ?_
        refine Go.Sx.V rfl wu rfl rfl (asg rfl) ?_
        refine wr_nil (post_thenN (wc_block ?_))
        refine wc_loop (fun q : Int × Int => [(0, .int .i64 n), (1, s), (6, .int .i64 at'), (7, .int .i64 q.2), (8, .int .i64 i), (9, .int .i64 x), (10, .int .i64 q.1), (17, s), (18, .int .i64 zs.length), (19, .int .i64 i)])
          (fun q w' => at' ≤ q.1 ∧ q.1 ≤ x ∧ 0 ≤ q.2 ∧ q.2 + rk (n - q.1).toNat q.1 (x :: r) = rk n.toNat 0 zs ∧ Ext w w')
          (fun q => (x - q.1).toNat) (at', R) ⟨rfl, rfl, rfl, rfl, rfl, rfl, rfl, rfl, rfl, rfl, trivial⟩ ⟨by simp, by simpa using hx.1, h4, hR, hE⟩ ?_
        rintro ⟨y, R'⟩ w2 ⟨g1, g2, g3, g4, hE⟩
        simp only at g1 g2 g3 g4
        try dsimp only
        refine wc_seq (wc_seq ?_)
        refine wc_region [0,1,2] rfl ?_
        refine Go.Sx.V rfl wu rfl rfl (mv rfl) ?_
        refine Go.Sx.V rfl wu rfl rfl (mv rfl) ?_
        refine Go.Sx.V rfl wu rfl rfl (lssI rfl rfl) ?_
        refine wr_nil (post_thenN ?_)
        refine wc_cond rfl ?_ ?_
        · intro hy
          simp at hy
          refine wc_skip (post_thenN (wc_seq (wc_block ?_)))
          rw [rk_next hy (by omega)] at g4
          have hb := binZ_bounds (n - 1 - y) r.length (by omega)
          have ek : (zs.length : Int) - 1 - i = r.length := by omega
          refine wc_region [0,1,2,3,4,5,6,7,8,9,10,11,12] rfl ?_
          refine Go.Sx.V rfl wu rfl rfl (mv rfl) ?_
          refine Go.Sx.V rfl wu rfl rfl (mv rfl) ?_
          refine Go.Sx.V rfl wu rfl rfl (subI rfl rfl) ?_
          refine Go.Sx.V rfl wu rfl rfl (mv rfl) ?_
          refine Go.Sx.V rfl wu rfl rfl (subI rfl rfl) ?_
          refine Go.Sx.V rfl wu rfl rfl (mv rfl) ?_
          refine Go.Sx.V rfl wu rfl rfl (lenI rfl ty26) ?_
          refine Go.Sx.V rfl wu rfl rfl (subI rfl rfl) ?_
          refine Go.Sx.V rfl wu rfl rfl (mv rfl) ?_
          refine Go.Sx.V rfl wu rfl rfl (subI rfl rfl) ?_
          refine C rfl wu rfl rfl Try.call54 (choose_int (n - 1 - y) _ _ (by omega) (by omega)) ?_
          rintro _ w3 hE3 rfl
          rw [ek]
          refine Go.Sx.V rfl wu rfl rfl (addI rfl rfl) ?_
          refine Go.Sx.V rfl wu rfl rfl (asg rfl) ?_
          refine wr_nil (post_blockN (post_thenN ?_))
          replace hE := hE.trans hE3
          refine wc_region [0,1,2] rfl ?_
          refine Go.Sx.V rfl wu rfl rfl (mv rfl) ?_
          refine Go.Sx.V rfl wu rfl rfl (addI rfl rfl) ?_
          refine Go.Sx.V rfl wu rfl rfl (asg rfl) ?_
          refine wr_nil ?_
          exact post_loopN (y + 1, R' + binZ (n - 1 - y) r.length) ⟨rfl, rfl, rfl, rfl, rfl, rfl, rfl, rfl, rfl, rfl, trivial⟩ ⟨by simp; omega, by simp; omega, by simp; omega, by simp; omega, hE⟩ (by simp; omega)
        · intro hy
          simp at hy
          refine wc_exit (post_thenE (post_loopE (post_blockX (post_thenN ?_))))
          have : y = x := by omega
          subst this
          rw [rk_hit (by omega)] at g4
          refine wc_region [0,1,2] rfl ?_
          refine Go.Sx.V rfl wu rfl rfl (mv rfl) ?_
          refine Go.Sx.V rfl wu rfl rfl (addI rfl rfl) ?_
          refine Go.Sx.V rfl wu rfl rfl (asg rfl) ?_
          refine wr_nil (post_blockN (post_thenN ?_))
          refine wc_region [0,1] rfl ?_
          refine Go.Sx.V rfl wu rfl rfl (addI rfl rfl) ?_
          refine Go.Sx.V rfl wu rfl rfl (mv rfl) ?_
          refine wr_nil ?_
          refine post_loopN (i + 1, y + 1, R') ⟨rfl, rfl, rfl, rfl, rfl, rfl, rfl, trivial⟩ ⟨by simp; omega, by simp; omega, by simp; omega, by simp; omega, by simpa using g3, by simpa [hr0] using g4, ?_, hE⟩ (by simp; omega)
          rw [hA]
          simp only [hr0, asc]
          simp [hx]
    · intro hc
      simp at hc
      refine wc_exit (post_thenE (post_loopE (post_blockX (post_thenN (wc_seq ?_)))))
      refine wc_region [0,1,2] rfl ?_
      refine Go.Sx.V rfl wu rfl rfl (mv rfl) ?_
      refine Go.Sx.V rfl wu rfl rfl (asg rfl) ?_
      refine Go.Sx.V rfl wu rfl rfl (asg rfl) ?_
      refine wr_nil (post_thenN (wc_ret ?_))
      refine post_ret2 rfl rfl rfl ?_
      have e : zs.drop i.toNat = [] := List.drop_eq_nil_of_le (by omega)
      rw [e, rk_nil] at hR
      rw [e] at hA
      refine ⟨hE, ?_⟩
      rw [hans, hA]
      have : R = rk n.toNat 0 zs := by omega
      rw [this]; rfl

set_option maxRecDepth 10000 in
theorem rIsSubset (n : Int) (s : Value) (zs : List Int) (w : World) (hs : Ints w s zs) :
    Calls Try.prog 56 #[.int .i64 n, s] w (RetX w fun v _ => v = .bool (asc n 0 zs)) := by
  have hl := hs.le
  refine calls2 Try.func56 rfl rfl ?_
  refine wc_seq ?_
  refine wc_region [0] rfl ?_
  refine Go.Sx.V rfl wu rfl rfl (asg rfl) ?_
  refine wr_nil (post_thenN (wc_seq (wc_seq ?_)))
  refine wc_region [0] rfl ?_
  refine Go.Sx.V rfl wu rfl rfl (asg rfl) ?_
  refine wr_nil (post_thenN (wc_block ?_))
  refine wc_loop (fun i : Int => [(0, .int .i64 n), (1, s), (5, .int .i64 i)])
    (fun i w' => 0 ≤ i ∧ i ≤ zs.length ∧ (0 < i → 0 ≤ gi zs (i - 1)) ∧ asc n 0 zs = asc n (if i = 0 then 0 else gi zs (i - 1) + 1) (zs.drop i.toNat) ∧ Ext w w')
    (fun i => (zs.length - i).toNat) 0 ⟨rfl, rfl, rfl, trivial⟩ ⟨by omega, by omega, by omega, by simp, Ext.refl _⟩ ?_
  rintro i w1 ⟨h0, h1, h2, hA, hE⟩
  try dsimp only
  refine wc_seq (wc_seq ?_)
  refine wc_region [0,1,2,3] rfl ?_
  refine Go.Sx.V rfl wu rfl rfl (mv rfl) ?_
  refine Go.Sx.V rfl wu rfl rfl (mv rfl) ?_
  refine Go.Sx.V rfl wu rfl rfl (lenI rfl ty26) ?_
  refine Go.Sx.V rfl wu rfl rfl (lssI rfl rfl) ?_
  refine wr_nil (post_thenN ?_)
  refine wc_cond rfl ?_ ?_
  · intro hc
    simp at hc
    refine wc_skip (post_thenN (wc_seq (wc_block (wc_seq (wc_seq ?_)))))
    rw [drop_gi h0 hc] at hA
    refine wc_region [0,1,2,3,4,5,6,7,8,9,10,11,12] rfl ?_
    refine Go.Sx.V rfl wu rfl rfl (mv rfl) ?_
    refine Go.Sx.V rfl wu rfl rfl (mv rfl) ?_
    refine Go.Sx.V rfl wu rfl rfl (iadI rfl rfl ty26) ?_
    refine Go.Sx.V rfl wu rfl rfl (ldI rfl na3) ?_
    refine Go.Sx.V rfl wu rfl rfl (lssI rfl rfl) ?_
    refine Go.Sx.V rfl wu rfl rfl (mv rfl) ?_
    refine OR (π1 := [6,7,8,9,10,11,12]) (π2 := []) (tc := 17) (tp := 24) rfl rfl rfl (by
        intro _
        refine SK rfl rfl rfl rfl rfl ?_
        refine SK rfl rfl rfl rfl rfl ?_
        refine SK rfl rfl rfl rfl rfl ?_
        refine SK rfl rfl rfl rfl rfl ?_
        refine SK rfl rfl rfl rfl rfl ?_
        refine SK rfl rfl rfl rfl rfl ?_
        refine Go.Sx.V rfl wu rfl rfl (pk rfl rfl) ?_
        exact join rfl) (by
        intro hg
        simp at hg
        refine Go.Sx.V rfl (wg rfl rfl) rfl rfl (mv rfl) ?_
        refine Go.Sx.V rfl (wg rfl rfl) rfl rfl (mv rfl) ?_
        refine Go.Sx.V rfl (wg rfl rfl) rfl rfl (iadI rfl rfl ty26) ?_
        refine Go.Sx.V rfl (wg rfl rfl) rfl rfl (ldI rfl na3) ?_
        refine Go.Sx.V rfl (wg rfl rfl) rfl rfl (mv rfl) ?_
        refine Go.Sx.V rfl (wg rfl rfl) rfl rfl (geqI rfl rfl) ?_
        refine Go.Sx.V rfl wu rfl rfl (pk rfl rfl) ?_
        exact join rfl) ?_
    refine wr_nil (post_thenN ?_)
    refine wc_cond rfl ?_ ?_
    · intro hx
      simp at hx
      refine wc_seq ?_
      refine wc_region [0] rfl ?_
      refine Go.Sx.V rfl wu rfl rfl (asg rfl) ?_
      refine wr_nil (post_thenN (wc_ret (post_thenR (post_blockR (post_thenR (post_loopR (post_blockR (post_thenR ?_))))))))
      refine post_ret1 rfl rfl ?_
      refine ⟨hE, ?_⟩
      rw [hA]
      show _ = _
      symm
      congr 1
      rw [Bool.eq_false_iff]
      intro hh
      have := asc_head.1 hh
      split at this <;> omega
    · intro hx
      simp at hx
      refine wc_skip (post_thenN (wc_seq ?_))
      refine wc_draw mixed [0,1,2,3,4,5,6,7,8,9,10,11,12,13] (by kernel_rfl) ?_
      intro w2 hd _
      replace hE := hE.trans hd
      refine Go.Sx.V rfl wu rfl rfl (mv rfl) ?_
      refine Go.Sx.V rfl wu rfl rfl (gtrI rfl rfl) ?_
      refine Go.Sx.V rfl wu rfl rfl (mv rfl) ?_
      refine AND (π1 := [3,4,5,6,7,8,9,10,11,12,13]) (π2 := []) (tc := 27) (tp := 38) rfl rfl rfl (by
          intro hg
          simp at hg
          refine Go.Sx.V rfl (wg rfl rfl) rfl rfl (mv rfl) ?_
          refine Go.Sx.V rfl (wg rfl rfl) rfl rfl (mv rfl) ?_
          refine Go.Sx.V rfl (wg rfl rfl) rfl rfl (iadI rfl rfl ty26) ?_
          refine Go.Sx.V rfl (wg rfl rfl) rfl rfl (ldI rfl na3) ?_
          refine Go.Sx.V rfl (wg rfl rfl) rfl rfl (mv rfl) ?_
          refine Go.Sx.V rfl (wg rfl rfl) rfl rfl (mv rfl) ?_
          refine Go.Sx.V rfl (wg rfl rfl) rfl rfl (subI rfl rfl) ?_
          refine Go.Sx.V rfl (wg rfl rfl) rfl rfl (iadI rfl rfl ty26) ?_
          refine Go.Sx.V rfl (wg rfl rfl) rfl rfl (ldI rfl na3) ?_
          refine Go.Sx.V rfl (wg rfl rfl) rfl rfl (leqI rfl rfl) ?_
          refine Go.Sx.V rfl wu rfl rfl (pk rfl rfl) ?_
          exact join rfl) (by
          intro _
          refine SK rfl rfl rfl rfl rfl ?_
          refine SK rfl rfl rfl rfl rfl ?_
          refine SK rfl rfl rfl rfl rfl ?_
          refine SK rfl rfl rfl rfl rfl ?_
          refine SK rfl rfl rfl rfl rfl ?_
          refine SK rfl rfl rfl rfl rfl ?_
          refine SK rfl rfl rfl rfl rfl ?_
          refine SK rfl rfl rfl rfl rfl ?_
          refine SK rfl rfl rfl rfl rfl ?_
          refine SK rfl rfl rfl rfl rfl ?_
          refine Go.Sx.V rfl wu rfl rfl (pk rfl rfl) ?_
          exact join rfl) ?_
      refine wr_nil (post_thenN ?_)
      refine wc_cond rfl ?_ ?_
      · intro hy
        simp at hy
        refine wc_seq ?_
        refine wc_region [0] rfl ?_
        refine Go.Sx.V rfl wu rfl rfl (asg rfl) ?_
        refine wr_nil (post_thenN (wc_ret (post_blockR (post_thenR (post_loopR (post_blockR (post_thenR ?_)))))))
        refine post_ret1 rfl rfl ?_
        refine ⟨hE, ?_⟩
        rw [hA]
        show _ = _
        symm
        congr 1
        rw [Bool.eq_false_iff, if_neg (by omega)]
        intro hh
        have := asc_head.1 hh
        omega
      · intro hy
        simp at hy
        refine wc_skip (post_blockN (post_thenN ?_))
        refine wc_region [0,1,2] rfl ?_
        refine Go.Sx.V rfl wu rfl rfl (mv rfl) ?_
        refine Go.Sx.V rfl wu rfl rfl (addI rfl rfl) ?_
        refine Go.Sx.V rfl wu rfl rfl (asg rfl) ?_
        refine wr_nil ?_
        refine post_loopN (i + 1) ⟨rfl, rfl, rfl, trivial⟩ ⟨by omega, by omega, fun _ => by simpa using hx.1, ?_, hE⟩ (by omega)
        rw [hA]
        have e : i + 1 - 1 = i := by omega
        rw [if_neg (show ¬ i + 1 = 0 by omega), e]
        simp only [asc]
        by_cases hi : i = 0
        · simp [hi] at hx ⊢; omega
        · rw [if_neg hi]
          have := hy (by omega)
          simp [hx]
          omega
  · intro hc
    simp at hc
    refine wc_exit (post_thenE (post_loopE (post_blockX (post_thenN (wc_seq ?_)))))
    refine wc_region [0] rfl ?_
    refine Go.Sx.V rfl wu rfl rfl (asg rfl) ?_
    refine wr_nil (post_thenN (wc_ret ?_))
    refine post_ret1 rfl rfl ?_
    refine ⟨hE, ?_⟩
    have e : zs.drop i.toNat = [] := List.drop_eq_nil_of_le (by omega)
    rw [hA, e]
    rfl

set_option maxRecDepth 10000 in
theorem rRank (n : Int) (s : Value) (zs : List Int) (w : World) (hs : Ints w s zs) :
    Calls Try.prog 22 #[.int .i64 n, s] w (RetX w fun v _ => v = two (rankAns n zs)) := by
  have hl := hs.le
  refine calls2 Try.func22 rfl rfl ?_
  refine wc_seq ?_
  refine wc_region [0,1] rfl ?_
  refine Go.Sx.V rfl wu rfl rfl (asg rfl) ?_
  refine Go.Sx.V rfl wu rfl rfl (asg rfl) ?_
  refine wr_nil (post_thenN (wc_seq (wc_seq ?_)))
  refine wc_region [0,1,2,3,4,5] rfl ?_
  refine Go.Sx.V rfl wu rfl rfl (mv rfl) ?_
  refine Go.Sx.V rfl wu rfl rfl (lssI rfl rfl) ?_
  refine Go.Sx.V rfl wu rfl rfl (mv rfl) ?_
  refine OR (π1 := [3,4,5]) (π2 := []) (tc := 14) (tp := 17) rfl rfl rfl (by
      intro _
      refine SK rfl rfl rfl rfl rfl ?_
      refine SK rfl rfl rfl rfl rfl ?_
      refine Go.Sx.V rfl wu rfl rfl (pk rfl rfl) ?_
      exact join rfl) (by
      intro hg
      simp at hg
      refine Go.Sx.V rfl (wg rfl rfl) rfl rfl (mv rfl) ?_
      refine Go.Sx.V rfl (wg rfl rfl) rfl rfl (gtrI rfl rfl) ?_
      refine Go.Sx.V rfl wu rfl rfl (pk rfl rfl) ?_
      exact join rfl) ?_
  refine wr_nil (post_thenN ?_)
  refine wc_cond rfl ?_ ?_
  · intro h
    simp at h
    refine wc_seq ?_
    refine wc_region [0,1] rfl ?_
    refine Go.Sx.V rfl wu rfl rfl (asg rfl) ?_
    refine Go.Sx.V rfl wu rfl rfl (asg rfl) ?_
    refine wr_nil (post_thenN (wc_ret (post_thenR ?_)))
    refine post_ret2 rfl rfl rfl ?_
    exact ⟨Ext.refl _, by rw [rankAns, if_pos h]; rfl⟩
  · intro h
    simp at h
    refine wc_skip (post_thenN (wc_seq (wc_seq ?_)))
    have hans : rankAns n zs = if asc n 0 zs then ((rk n.toNat 0 zs : Int), 0) else (0, 5) := by rw [rankAns, if_neg (by omega)]
    refine wc_region [0,1,2,3] rfl ?_
    refine Go.Sx.V rfl wu rfl rfl (mv rfl) ?_
    refine Go.Sx.V rfl wu rfl rfl (mv rfl) ?_
    refine C rfl wu rfl rfl Try.call56 (rIsSubset n s zs _ hs) ?_
    rintro _ w1 hE1 rfl
    refine Go.Sx.V rfl wu rfl rfl (notB rfl) ?_
    refine wr_nil (post_thenN ?_)
    refine wc_cond rfl ?_ ?_
    · intro ha
      simp at ha
      refine wc_seq ?_
      refine wc_region [0,1] rfl ?_
      refine Go.Sx.V rfl wu rfl rfl (asg rfl) ?_
      refine Go.Sx.V rfl wu rfl rfl (asg rfl) ?_
      refine wr_nil (post_thenN (wc_ret (post_thenR ?_)))
      refine post_ret2 rfl rfl rfl ?_
      exact ⟨hE1, by rw [hans, ha]; rfl⟩
    · intro ha
      simp at ha
      refine wc_skip (post_thenN (wc_seq ?_))
      rw [hans, if_pos ha]
      refine wc_region [0] rfl ?_
      refine Go.Sx.V rfl wu rfl rfl (asg rfl) ?_
      refine wr_nil (post_thenN (wc_seq ?_))
      refine wc_region [0] rfl ?_
      refine Go.Sx.V rfl wu rfl rfl (asg rfl) ?_
      refine wr_nil (post_thenN (wc_seq (wc_seq ?_)))
      refine wc_region [0] rfl ?_
      refine Go.Sx.V rfl wu rfl rfl (asg rfl) ?_
      refine wr_nil (post_thenN (wc_block ?_))
      have hT := rk_small n 0 zs h.2
      refine wc_loop (fun q : Int × Int × Int => [(0, .int .i64 n), (1, s), (7, .int .i64 q.2.1), (6, .int .i64 q.2.2), (8, .int .i64 q.1)])
        (fun q w' => 0 ≤ q.1 ∧ q.1 ≤ zs.length ∧ 0 ≤ q.2.1 ∧ q.2.1 ≤ n ∧ 0 ≤ q.2.2 ∧ q.2.2 + rk (n - q.2.1).toNat q.2.1 (zs.drop q.1.toNat) = rk n.toNat 0 zs ∧ asc n q.2.1 (zs.drop q.1.toNat) = true ∧ Ext w w')
        (fun q => (zs.length - q.1).toNat) (0, 0, 0) ⟨rfl, rfl, rfl, rfl, rfl, trivial⟩ ⟨by simp, by simp, by simp, by simpa using h.1, by simp, by simp, by simpa using ha, hE1⟩ ?_
      rintro ⟨i, at', R⟩ w1 ⟨h0, h1, h2, h3, h4, hR, hA, hE⟩
      simp only at h0 h1 h2 h3 h4 hR hA
      try dsimp only
      refine wc_seq (wc_seq ?_)
      refine wc_region [0,1,2,3] rfl ?_
      refine Go.Sx.V rfl wu rfl rfl (mv rfl) ?_
      refine Go.Sx.V rfl wu rfl rfl (mv rfl) ?_
      refine Go.Sx.V rfl wu rfl rfl (lenI rfl ty26) ?_
      refine Go.Sx.V rfl wu rfl rfl (lssI rfl rfl) ?_
      refine wr_nil (post_thenN ?_)
      refine wc_cond rfl ?_ ?_
      · intro hc
        simp at hc
        refine wc_skip (post_thenN (wc_seq (wc_block (wc_seq (wc_seq ?_)))))
        rw [drop_gi h0 hc] at hR hA
        have hdl : (zs.drop (i + 1).toNat).length = zs.length - (i + 1).toNat := List.length_drop
        obtain ⟨hx1, hx2, hA2⟩ := asc_head.1 hA
        generalize hr0 : zs.drop (i + 1).toNat = r at *
        refine wc_region [0,1] rfl ?_
        refine Go.Sx.V rfl wu rfl rfl (mv rfl) ?_
        refine Go.Sx.V rfl wu rfl rfl (asg rfl) ?_
        refine wr_nil (post_thenN (wc_block ?_))
        refine wc_loop (fun q : Int × Int => [(0, .int .i64 n), (1, s), (6, .int .i64 q.2), (8, .int .i64 i), (9, .int .i64 q.1)])
          (fun q w' => at' ≤ q.1 ∧ q.1 ≤ gi zs i ∧ 0 ≤ q.2 ∧ q.2 + rk (n - q.1).toNat q.1 (gi zs i :: r) = rk n.toNat 0 zs ∧ Ext w w')
          (fun q => (gi zs i - q.1).toNat) (at', R) ⟨rfl, rfl, rfl, rfl, rfl, trivial⟩ ⟨by simp, by simpa using hx1, h4, hR, hE⟩ ?_
        rintro ⟨y, R'⟩ w2 ⟨g1, g2, g3, g4, hE⟩
        simp only at g1 g2 g3 g4
        try dsimp only
        refine wc_seq (wc_seq ?_)
        refine wc_region [0,1,2,3,4,5] rfl ?_
        refine Go.Sx.V rfl wu rfl rfl (mv rfl) ?_
        refine Go.Sx.V rfl wu rfl rfl (mv rfl) ?_
        refine Go.Sx.V rfl wu rfl rfl (mv rfl) ?_
        refine Go.Sx.V rfl wu rfl rfl (iadI rfl rfl ty26) ?_
        refine Go.Sx.V rfl wu rfl rfl (ldI rfl na3) ?_
        refine Go.Sx.V rfl wu rfl rfl (lssI rfl rfl) ?_
        refine wr_nil (post_thenN ?_)
        refine wc_cond rfl ?_ ?_
        · intro hy
          simp at hy
          refine wc_skip (post_thenN (wc_seq (wc_block (wc_seq ?_))))
          rw [rk_next hy (by omega)] at g4
          have hb := binZ_bounds (n - 1 - y) r.length (by omega)
          have ek : (zs.length : Int) - 1 - i = r.length := by omega
          refine wc_region [0,1,2,3,4,5,6,7,8,9,10,11,12,13,14] rfl ?_
          refine Go.Sx.V rfl wu rfl rfl (mv rfl) ?_
          refine Go.Sx.V rfl wu rfl rfl (subI rfl rfl) ?_
          refine Go.Sx.V rfl wu rfl rfl (mv rfl) ?_
          refine Go.Sx.V rfl wu rfl rfl (subI rfl rfl) ?_
          refine Go.Sx.V rfl wu rfl rfl (mv rfl) ?_
          refine Go.Sx.V rfl wu rfl rfl (lenI rfl ty26) ?_
          refine Go.Sx.V rfl wu rfl rfl (subI rfl rfl) ?_
          refine Go.Sx.V rfl wu rfl rfl (mv rfl) ?_
          refine Go.Sx.V rfl wu rfl rfl (subI rfl rfl) ?_
          refine C rfl wu rfl rfl Try.call18 (rBinomial (n - 1 - y) _ _) ?_
          rintro _ w3 hE3 rfl
          rw [ek, binAns_ok _ (by omega)]
          refine Go.Sx.V rfl wu rfl rfl (mv rfl) ?_
          refine Go.Sx.V rfl wu rfl rfl (ext rfl rfl) ?_
          refine Go.Sx.V rfl wu rfl rfl (ext rfl rfl) ?_
          refine Go.Sx.V rfl wu rfl rfl (asg rfl) ?_
          refine Go.Sx.V rfl wu rfl rfl (asg rfl) ?_
          refine wr_nil (post_thenN ?_)
          replace hE := hE.trans hE3
          refine wc_region [0,1,2,3] rfl ?_
          refine Go.Sx.V rfl wu rfl rfl (mv rfl) ?_
          refine Go.Sx.V rfl wu rfl rfl (mv rfl) ?_
          refine Go.Sx.V rfl wu rfl rfl (addI rfl rfl) ?_
          refine Go.Sx.V rfl wu rfl rfl (asg rfl) ?_
          refine wr_nil (post_blockN (post_thenN ?_))
          refine wc_region [0,1,2] rfl ?_
          refine Go.Sx.V rfl wu rfl rfl (mv rfl) ?_
          refine Go.Sx.V rfl wu rfl rfl (addI rfl rfl) ?_
          refine Go.Sx.V rfl wu rfl rfl (asg rfl) ?_
          refine wr_nil ?_
          exact post_loopN (y + 1, R' + binZ (n - 1 - y) r.length) ⟨rfl, rfl, rfl, rfl, rfl, trivial⟩ ⟨by simp; omega, by simp; omega, by simp; omega, by simp; omega, hE⟩ (by simp; omega)
        · intro hy
          simp at hy
          refine wc_exit (post_thenE (post_loopE (post_blockX (post_thenN ?_))))
          have : y = gi zs i := by omega
          subst this
          rw [rk_hit (by omega)] at g4
          refine wc_region [0,1,2,3,4,5] rfl ?_
          refine Go.Sx.V rfl wu rfl rfl (mv rfl) ?_
          refine Go.Sx.V rfl wu rfl rfl (mv rfl) ?_
          refine Go.Sx.V rfl wu rfl rfl (iadI rfl rfl ty26) ?_
          refine Go.Sx.V rfl wu rfl rfl (ldI rfl na3) ?_
          refine Go.Sx.V rfl wu rfl rfl (addI rfl rfl) ?_
          refine Go.Sx.V rfl wu rfl rfl (asg rfl) ?_
          refine wr_nil (post_blockN (post_thenN ?_))
          refine wc_region [0,1,2] rfl ?_
          refine Go.Sx.V rfl wu rfl rfl (mv rfl) ?_
          refine Go.Sx.V rfl wu rfl rfl (addI rfl rfl) ?_
          refine Go.Sx.V rfl wu rfl rfl (asg rfl) ?_
          refine wr_nil ?_
          exact post_loopN (i + 1, gi zs i + 1, R') ⟨rfl, rfl, rfl, rfl, rfl, trivial⟩ ⟨by simp; omega, by simp; omega, by simp; omega, by simp; omega, by simpa using g3, by simpa [hr0] using g4, by simpa [hr0] using hA2, hE⟩ (by simp; omega)
      · intro hc
        simp at hc
        refine wc_exit (post_thenE (post_loopE (post_blockX (post_thenN (wc_seq ?_)))))
        refine wc_region [0,1,2] rfl ?_
        refine Go.Sx.V rfl wu rfl rfl (mv rfl) ?_
        refine Go.Sx.V rfl wu rfl rfl (asg rfl) ?_
        refine Go.Sx.V rfl wu rfl rfl (asg rfl) ?_
        refine wr_nil (post_thenN (wc_ret ?_))
        refine post_ret2 rfl rfl rfl ?_
        have e : zs.drop i.toNat = [] := List.drop_eq_nil_of_le (by omega)
        rw [e, rk_nil] at hR
        refine ⟨hE, ?_⟩
        have : R = rk n.toNat 0 zs := by omega
        rw [this]; rfl
end Go.Proofs.Ytlcokneidokfnaa
