/-
  Statements WordRanks and WordUnranks: for every input the laws return true: Rank numbers the subsets of each size in lexicographic order, and Unrank undoes it. No condition.
-/
import Derived.Test.YtlcokneidokfnaaUnrank
import Derived.Test.YtlcokneidokfnaaFrame
import Derived.Test.YtlcokneidokfnaaRows
namespace Go.Proofs.Ytlcokneidokfnaa
open Go Go.Sx Go.Pl Go.RowKit Go.Fr

theorem rank_ok {n : Int} {s : List Int} (h : (rankAns n s).2 = 0) : 0 ≤ n ∧ n ≤ 64 ∧ asc n 0 s = true ∧ rankAns n s = ((rk n.toNat 0 s : Int), 0) := by
  unfold rankAns at h ⊢
  by_cases hn : n < 0 ∨ 64 < n
  · rw [if_pos hn] at h; cases h
  · rw [if_neg hn] at h ⊢
    by_cases ha : asc n 0 s
    · rw [if_pos ha]
      exact ⟨by omega, by omega, ha, rfl⟩
    · rw [if_neg ha] at h; cases h
theorem unrank_ok {n k r : Int} (h : (unrankAns n k r).2 = 0) : 0 ≤ n ∧ n ≤ 64 ∧ 0 ≤ k ∧ k ≤ n ∧ 0 ≤ r ∧ r < binZ n k ∧ unrankAns n k r = (ur n.toNat 0 k.toNat r.toNat, 0) := by
  unfold unrankAns at h ⊢
  by_cases hn : n < 0 ∨ 64 < n ∨ k < 0 ∨ n < k ∨ r < 0 ∨ binZ n k ≤ r
  · rw [if_pos hn] at h; cases h
  · rw [if_neg hn]
    exact ⟨by omega, by omega, by omega, by omega, by omega, by omega, rfl⟩
theorem asc_len {n : Int} : ∀ {lo : Int} {s : List Int}, lo ≤ n → asc n lo s = true → s.length ≤ n - lo
  | lo, [], h, _ => by simp; omega
  | lo, x :: r, h, hs => by
    obtain ⟨h1, h2, h3⟩ := asc_head.1 hs
    have := asc_len (by omega) h3
    simp only [List.length_cons]
    omega
theorem unrank_rank {n : Int} {s : List Int} (h0 : 0 ≤ n) (h1 : n ≤ 64) (ha : asc n 0 s = true) : unrankAns n s.length (rk n.toNat 0 s) = (s, 0) := by
  have e : (0 : Int) + (n.toNat : Int) = n := by omega
  have h2 := rk_lt n.toNat 0 s (by rw [e]; exact ha)
  have h3 := asc_len h0 ha
  have h4 := ur_rk n.toNat 0 s (by rw [e]; exact ha)
  have hb : binZ n s.length = bin n.toNat s.length := by rw [binZ, if_neg (by omega)]; simp
  rw [unrankAns, if_neg (by rw [hb]; omega)]
  simp [h4]
theorem rank_unrank {n k r : Int} (h0 : 0 ≤ n) (h1 : n ≤ 64) (hk : 0 ≤ k) (hr : 0 ≤ r) (hl : r < binZ n k) : rankAns n (ur n.toNat 0 k.toNat r.toNat) = (r, 0) := by
  have e : (0 : Int) + (n.toNat : Int) = n := by omega
  rw [binZ, if_neg (by omega)] at hl
  obtain ⟨_, h3, h4⟩ := ur_ok n.toNat 0 k.toNat r.toNat (by omega)
  rw [e] at h3
  rw [rankAns, if_neg (by omega), if_pos h3, h4]
  simp; omega

set_option maxRecDepth 10000 in
theorem law_WordRanks {w : World} (n : Int) (_ : Fits n) (s : Value) (zs : List Int) (hs : Ints w s zs) (_ : ∀ z ∈ zs, Fits z) :
    Calls Try.prog 5 #[.int .i64 n, s] w (RetX w fun v _ => v = .bool true) := by
  refine calls2 Try.func5 rfl rfl ?_
  refine wc_seq ?_
  refine wc_region [0] rfl ?_
  refine V rfl wu rfl rfl (asg rfl) ?_
  refine wr_nil (post_thenN (wc_seq ?_))
  refine wc_region [0,1,2,3,4,5,6,7] rfl ?_
  refine V rfl wu rfl rfl (mv rfl) ?_
  refine V rfl wu rfl rfl (mv rfl) ?_
  refine C rfl wu rfl rfl Try.call21 (wRank n s zs _ hs) ?_
  rintro _ w1 hE1 rfl
  refine V rfl wu rfl rfl (mv rfl) ?_
  refine V rfl wu rfl rfl (ext rfl rfl) ?_
  refine V rfl wu rfl rfl (ext rfl rfl) ?_
  refine V rfl wu rfl rfl (asg rfl) ?_
  refine V rfl wu rfl rfl (asg rfl) ?_
  refine wr_nil (post_thenN (wc_seq ?_))
  refine wc_region [0,1,2,3,4,5,6,7] rfl ?_
  refine V rfl wu rfl rfl (mv rfl) ?_
  refine V rfl wu rfl rfl (mv rfl) ?_
  refine C rfl wu rfl rfl Try.call22 (rRank n s zs _ (hs.ext hE1)) ?_
  rintro _ w2 hE2 rfl
  refine V rfl wu rfl rfl (mv rfl) ?_
  refine V rfl wu rfl rfl (ext rfl rfl) ?_
  refine V rfl wu rfl rfl (ext rfl rfl) ?_
  refine V rfl wu rfl rfl (asg rfl) ?_
  refine V rfl wu rfl rfl (asg rfl) ?_
  refine wr_nil (post_thenN (wc_seq (wc_seq ?_)))
  have hE := hE1.trans hE2
  clear hE1 hE2
  refine wc_region [0,1,2,3,4,5,6,7] rfl ?_
  refine V rfl wu rfl rfl (mv rfl) ?_
  refine V rfl wu rfl rfl (mv rfl) ?_
  refine V rfl wu rfl rfl (neqI rfl rfl) ?_
  refine V rfl wu rfl rfl (mv rfl) ?_
  refine OR (π1 := [4,5,6,7]) (π2 := []) (tc := 28) (tp := 32) rfl rfl rfl (by
      intro _
      refine SK rfl rfl rfl rfl rfl ?_
      refine SK rfl rfl rfl rfl rfl ?_
      refine SK rfl rfl rfl rfl rfl ?_
      refine V rfl wu rfl rfl (pk rfl rfl) ?_
      exact join rfl) (by
      intro hg
      simp at hg
      refine V rfl (wg rfl rfl) rfl rfl (mv rfl) ?_
      refine V rfl (wg rfl rfl) rfl rfl (mv rfl) ?_
      refine V rfl (wg rfl rfl) rfl rfl (neqI rfl rfl) ?_
      refine V rfl wu rfl rfl (pk rfl rfl) ?_
      exact join rfl) ?_
  refine wr_nil (post_thenN ?_)
  refine wc_condF rfl (by simp) ?_
  refine wc_skip (post_thenN (wc_seq (wc_seq ?_)))
  refine wc_region [0,1] rfl ?_
  refine V rfl wu rfl rfl (mv rfl) ?_
  refine V rfl wu rfl rfl (eqlI rfl rfl) ?_
  refine wr_nil (post_thenN ?_)
  refine wc_cond rfl ?_ ?_
  · intro h
    simp at h
    obtain ⟨h0, h1, ha, hr⟩ := rank_ok h
    rw [hr]
    have hu := unrank_rank h0 h1 ha
    refine wc_seq ?_
    refine wc_region [0,1,2,3,4,5,6,7,8,9] rfl ?_
    refine V rfl wu rfl rfl (mv rfl) ?_
    refine V rfl wu rfl rfl (mv rfl) ?_
    refine V rfl wu rfl rfl (lenI rfl ty26) ?_
    refine V rfl wu rfl rfl (mv rfl) ?_
    refine C rfl wu rfl rfl Try.call23 (wUnrank n zs.length (rk n.toNat 0 zs) _) ?_
    rintro _ w3 hE3 ⟨t, rfl, ht⟩
    replace hE := hE.trans hE3
    rw [hu] at ht
    rw [hu]
    refine V rfl wu rfl rfl (mv rfl) ?_
    refine V rfl wu rfl rfl (ext rfl rfl) ?_
    refine V rfl wu rfl rfl (ext rfl rfl) ?_
    refine V rfl wu rfl rfl (asg rfl) ?_
    refine V rfl wu rfl rfl (asg rfl) ?_
    refine wr_nil (post_thenN (wc_seq ?_))
    refine wc_region [0,1,2,3,4,5,6,7] rfl ?_
    refine V rfl wu rfl rfl (mv rfl) ?_
    refine V rfl wu rfl rfl (neqI rfl rfl) ?_
    refine V rfl wu rfl rfl (mv rfl) ?_
    refine ORX (π1 := [3,4,5,6,7]) (π2 := []) (tc := 45) (tp := 50) rfl rfl rfl (by
        intro _
        refine SK rfl rfl rfl rfl rfl ?_
        refine SK rfl rfl rfl rfl rfl ?_
        refine SK rfl rfl rfl rfl rfl ?_
        refine SK rfl rfl rfl rfl rfl ?_
        refine V rfl wu rfl rfl (pk rfl rfl) ?_
        exact joinX rfl) (by
        intro hg
        simp at hg
        refine V rfl (wg rfl rfl) rfl rfl (mv rfl) ?_
        refine V rfl (wg rfl rfl) rfl rfl (mv rfl) ?_
        refine C rfl (wg rfl rfl) rfl rfl Try.call24 (rSame t s zs zs _ ht (hs.ext hE)) ?_
        rintro _ w4 hE4 rfl
        refine V rfl (wg rfl rfl) rfl rfl (notB rfl) ?_
        refine V rfl wu rfl rfl (pk rfl rfl) ?_
        exact joinX rfl) ?_
    intro w5 hE5
    replace hE := hE.trans hE5
    refine wr_nil (post_thenN ?_)
    refine wc_condF rfl (by simp) ?_
    refine wc_skip (post_thenN (wc_seq ?_))
    refine wc_region [0,1,2,3,4,5,6] rfl ?_
    refine BSI (zs := [1, 2]) rfl wu rfl rfl rfl rfl ty26 ?_
    intro s1 w6 hE6 _ h1 _
    replace hE := hE.trans hE6
    refine C rfl wu rfl rfl Try.call21 (wRank 4 s1 [1, 2] _ h1) ?_
    rintro _ w7 hE7 rfl
    replace hE := hE.trans hE7
    refine V rfl wu rfl rfl (mv rfl) ?_
    refine V rfl wu rfl rfl (ext rfl rfl) ?_
    refine V rfl wu rfl rfl (ext rfl rfl) ?_
    refine V rfl wu rfl rfl (asg rfl) ?_
    refine V rfl wu rfl rfl (asg rfl) ?_
    refine wr_nil (post_thenN (wc_seq ?_))
    have e4 : rankAns 4 [1, 2] = (3, 0) := by decide
    rw [e4]
    refine wc_region [0,1,2,3,4,5,6] rfl ?_
    refine V rfl wu rfl rfl (mv rfl) ?_
    refine V rfl wu rfl rfl (eqlI rfl rfl) ?_
    refine V rfl wu rfl rfl (mv rfl) ?_
    refine AND (π1 := [3,4,5]) (π2 := [6]) (tc := 58) (tp := 61) rfl rfl rfl (by
        intro hg
        simp at hg
        refine V rfl (wg rfl rfl) rfl rfl (mv rfl) ?_
        refine V rfl (wg rfl rfl) rfl rfl (eqlI rfl rfl) ?_
        refine V rfl wu rfl rfl (pk rfl rfl) ?_
        exact join rfl) (by
        intro _
        refine SK rfl rfl rfl rfl rfl ?_
        refine SK rfl rfl rfl rfl rfl ?_
        refine V rfl wu rfl rfl (pk rfl rfl) ?_
        exact join rfl) ?_
    refine V rfl wu rfl rfl (asg rfl) ?_
    refine wr_nil (post_thenN (wc_ret ?_))
    refine post_ret1 rfl rfl ?_
    exact ⟨hE, rfl⟩
  · intro h
    refine wc_skip (post_thenN (wc_seq ?_))
    refine wc_region [0,1,2,3,4,5,6] rfl ?_
    refine BSI (zs := [1, 2]) rfl wu rfl rfl rfl rfl ty26 ?_
    intro s1 w6 hE6 _ h1 _
    replace hE := hE.trans hE6
    refine C rfl wu rfl rfl Try.call21 (wRank 4 s1 [1, 2] _ h1) ?_
    rintro _ w7 hE7 rfl
    replace hE := hE.trans hE7
    refine V rfl wu rfl rfl (mv rfl) ?_
    refine V rfl wu rfl rfl (ext rfl rfl) ?_
    refine V rfl wu rfl rfl (ext rfl rfl) ?_
    refine V rfl wu rfl rfl (asg rfl) ?_
    refine V rfl wu rfl rfl (asg rfl) ?_
    refine wr_nil (post_thenN (wc_seq ?_))
    have e4 : rankAns 4 [1, 2] = (3, 0) := by decide
    rw [e4]
    refine wc_region [0,1,2,3,4,5,6] rfl ?_
    refine V rfl wu rfl rfl (mv rfl) ?_
    refine V rfl wu rfl rfl (eqlI rfl rfl) ?_
    refine V rfl wu rfl rfl (mv rfl) ?_
    refine AND (π1 := [3,4,5]) (π2 := [6]) (tc := 58) (tp := 61) rfl rfl rfl (by
        intro hg
        simp at hg
        refine V rfl (wg rfl rfl) rfl rfl (mv rfl) ?_
        refine V rfl (wg rfl rfl) rfl rfl (eqlI rfl rfl) ?_
        refine V rfl wu rfl rfl (pk rfl rfl) ?_
        exact join rfl) (by
        intro _
        refine SK rfl rfl rfl rfl rfl ?_
        refine SK rfl rfl rfl rfl rfl ?_
        refine V rfl wu rfl rfl (pk rfl rfl) ?_
        exact join rfl) ?_
    refine V rfl wu rfl rfl (asg rfl) ?_
    refine wr_nil (post_thenN (wc_ret ?_))
    refine post_ret1 rfl rfl ?_
    exact ⟨hE, rfl⟩

set_option maxRecDepth 10000 in
theorem law_WordUnranks {w : World} (n : Int) (_ : Fits n) (k : Int) (_ : Fits k) (r : Int) (_ : Fits r) :
    Calls Try.prog 6 #[.int .i64 n, .int .i64 k, .int .i64 r] w (RetX w fun v _ => v = .bool true) := by
  have e5 : unrankAns 4 2 3 = ([1, 2], 0) := by decide
  refine calls3 Try.func6 rfl rfl ?_
  refine wc_seq ?_
  refine wc_region [0] rfl ?_
  refine V rfl wu rfl rfl (asg rfl) ?_
  refine wr_nil (post_thenN (wc_seq ?_))
  refine wc_region [0,1,2,3,4,5,6,7,8] rfl ?_
  refine V rfl wu rfl rfl (mv rfl) ?_
  refine V rfl wu rfl rfl (mv rfl) ?_
  refine V rfl wu rfl rfl (mv rfl) ?_
  refine C rfl wu rfl rfl Try.call23 (wUnrank n k r _) ?_
  rintro _ w1 hE1 ⟨s, rfl, hs⟩
  refine V rfl wu rfl rfl (mv rfl) ?_
  refine V rfl wu rfl rfl (ext rfl rfl) ?_
  refine V rfl wu rfl rfl (ext rfl rfl) ?_
  refine V rfl wu rfl rfl (asg rfl) ?_
  refine V rfl wu rfl rfl (asg rfl) ?_
  refine wr_nil (post_thenN (wc_seq ?_))
  refine wc_region [0,1,2,3,4,5,6,7,8] rfl ?_
  refine V rfl wu rfl rfl (mv rfl) ?_
  refine V rfl wu rfl rfl (mv rfl) ?_
  refine V rfl wu rfl rfl (mv rfl) ?_
  refine C rfl wu rfl rfl Try.call25 (rUnrank n k r _) ?_
  rintro _ w2 hE2 ⟨t, rfl, ht⟩
  refine V rfl wu rfl rfl (mv rfl) ?_
  refine V rfl wu rfl rfl (ext rfl rfl) ?_
  refine V rfl wu rfl rfl (ext rfl rfl) ?_
  refine V rfl wu rfl rfl (asg rfl) ?_
  refine V rfl wu rfl rfl (asg rfl) ?_
  refine wr_nil (post_thenN (wc_seq (wc_seq ?_)))
  replace hs := hs.ext hE2
  have hE := hE1.trans hE2
  clear hE1 hE2
  refine wc_region [0,1,2,3,4,5,6,7,8] rfl ?_
  refine V rfl wu rfl rfl (mv rfl) ?_
  refine V rfl wu rfl rfl (mv rfl) ?_
  refine V rfl wu rfl rfl (neqI rfl rfl) ?_
  refine V rfl wu rfl rfl (mv rfl) ?_
  refine ORX (π1 := [4,5,6,7,8]) (π2 := []) (tc := 32) (tp := 37) rfl rfl rfl (by
      intro _
      refine SK rfl rfl rfl rfl rfl ?_
      refine SK rfl rfl rfl rfl rfl ?_
      refine SK rfl rfl rfl rfl rfl ?_
      refine SK rfl rfl rfl rfl rfl ?_
      refine V rfl wu rfl rfl (pk rfl rfl) ?_
      exact joinX rfl) (by
      intro hg
      simp at hg
      refine V rfl (wg rfl rfl) rfl rfl (mv rfl) ?_
      refine V rfl (wg rfl rfl) rfl rfl (mv rfl) ?_
      refine C rfl (wg rfl rfl) rfl rfl Try.call24 (rSame s t _ _ _ hs ht) ?_
      rintro _ w4 hE4 rfl
      refine V rfl (wg rfl rfl) rfl rfl (notB rfl) ?_
      refine V rfl wu rfl rfl (pk rfl rfl) ?_
      exact joinX rfl) ?_
  intro w5 hE5
  replace hs := hs.ext hE5
  replace hE := hE.trans hE5
  refine wr_nil (post_thenN ?_)
  refine wc_condF rfl (by simp) ?_
  refine wc_skip (post_thenN (wc_seq (wc_seq ?_)))
  refine wc_region [0,1] rfl ?_
  refine V rfl wu rfl rfl (mv rfl) ?_
  refine V rfl wu rfl rfl (eqlI rfl rfl) ?_
  refine wr_nil (post_thenN ?_)
  refine wc_cond rfl ?_ ?_
  · intro h
    simp at h
    obtain ⟨h0, h1, h2, h3, h4, h5, hu⟩ := unrank_ok h
    have hr := rank_unrank h0 h1 h2 h4 h5
    rw [hu] at hs
    refine wc_seq ?_
    refine wc_region [0,1,2,3,4,5,6,7] rfl ?_
    refine V rfl wu rfl rfl (mv rfl) ?_
    refine V rfl wu rfl rfl (mv rfl) ?_
    refine C rfl wu rfl rfl Try.call21 (wRank n s _ _ hs) ?_
    rintro _ w6 hE6 rfl
    replace hE := hE.trans hE6
    refine V rfl wu rfl rfl (mv rfl) ?_
    refine V rfl wu rfl rfl (ext rfl rfl) ?_
    refine V rfl wu rfl rfl (ext rfl rfl) ?_
    refine V rfl wu rfl rfl (asg rfl) ?_
    refine V rfl wu rfl rfl (asg rfl) ?_
    refine wr_nil (post_thenN (wc_seq ?_))
    rw [hr]
    refine wc_region [0,1,2,3,4,5,6] rfl ?_
    refine V rfl wu rfl rfl (mv rfl) ?_
    refine V rfl wu rfl rfl (neqI rfl rfl) ?_
    refine V rfl wu rfl rfl (mv rfl) ?_
    refine OR (π1 := [3,4,5,6]) (π2 := []) (tc := 48) (tp := 52) rfl rfl rfl (by
        intro _
        refine SK rfl rfl rfl rfl rfl ?_
        refine SK rfl rfl rfl rfl rfl ?_
        refine SK rfl rfl rfl rfl rfl ?_
        refine V rfl wu rfl rfl (pk rfl rfl) ?_
        exact join rfl) (by
        intro hg
        simp at hg
        refine V rfl (wg rfl rfl) rfl rfl (mv rfl) ?_
        refine V rfl (wg rfl rfl) rfl rfl (mv rfl) ?_
        refine V rfl (wg rfl rfl) rfl rfl (neqI rfl rfl) ?_
        refine V rfl wu rfl rfl (pk rfl rfl) ?_
        exact join rfl) ?_
    refine wr_nil (post_thenN ?_)
    refine wc_condF rfl (by simp) ?_
    refine wc_skip (post_thenN (wc_seq ?_))
    refine wc_region [0,1,2,3,4,5] rfl ?_
    refine C rfl wu rfl rfl Try.call23 (wUnrank 4 2 3 _) ?_
    rintro _ w7 hE7 ⟨q, rfl, hq⟩
    replace hE := hE.trans hE7
    refine V rfl wu rfl rfl (mv rfl) ?_
    refine V rfl wu rfl rfl (ext rfl rfl) ?_
    refine V rfl wu rfl rfl (ext rfl rfl) ?_
    refine V rfl wu rfl rfl (asg rfl) ?_
    refine V rfl wu rfl rfl (asg rfl) ?_
    refine wr_nil (post_thenN (wc_seq ?_))
    rw [e5] at hq ⊢
    refine wc_region [0,1,2,3,4,5,6,7] rfl ?_
    refine V rfl wu rfl rfl (mv rfl) ?_
    refine V rfl wu rfl rfl (eqlI rfl rfl) ?_
    refine V rfl wu rfl rfl (mv rfl) ?_
    refine ANDX (π1 := [3,4,5,6]) (π2 := [7]) (tc := 59) (tp := 63) rfl rfl rfl (by
        intro hg
        simp at hg
        refine V rfl (wg rfl rfl) rfl rfl (mv rfl) ?_
        refine BSI (zs := [1, 2]) rfl (wg rfl rfl) rfl rfl rfl rfl ty26 ?_
        intro s1 w8 hE8 _ h1 _
        refine C rfl (wg rfl rfl) rfl rfl Try.call24 (rSame q s1 _ _ _ (hq.ext hE8) h1) ?_
        rintro _ w9 hE9 rfl
        replace hE8 := hE8.trans hE9
        refine V rfl wu rfl rfl (pk rfl rfl) ?_
        exact joinX rfl) (by
        intro _
        refine SK rfl rfl rfl rfl rfl ?_
        refine SK rfl rfl rfl rfl rfl ?_
        refine SK rfl rfl rfl rfl rfl ?_
        refine V rfl wu rfl rfl (pk rfl rfl) ?_
        exact joinX rfl) ?_
    intro w10 hE10
    replace hE := hE.trans hE10
    refine V rfl wu rfl rfl (asg rfl) ?_
    refine wr_nil (post_thenN (wc_ret ?_))
    refine post_ret1 rfl rfl ?_
    exact ⟨hE, by simp⟩
  · intro h
    refine wc_skip (post_thenN (wc_seq ?_))
    refine wc_region [0,1,2,3,4,5] rfl ?_
    refine C rfl wu rfl rfl Try.call23 (wUnrank 4 2 3 _) ?_
    rintro _ w7 hE7 ⟨q, rfl, hq⟩
    replace hE := hE.trans hE7
    refine V rfl wu rfl rfl (mv rfl) ?_
    refine V rfl wu rfl rfl (ext rfl rfl) ?_
    refine V rfl wu rfl rfl (ext rfl rfl) ?_
    refine V rfl wu rfl rfl (asg rfl) ?_
    refine V rfl wu rfl rfl (asg rfl) ?_
    refine wr_nil (post_thenN (wc_seq ?_))
    rw [e5] at hq ⊢
    refine wc_region [0,1,2,3,4,5,6,7] rfl ?_
    refine V rfl wu rfl rfl (mv rfl) ?_
    refine V rfl wu rfl rfl (eqlI rfl rfl) ?_
    refine V rfl wu rfl rfl (mv rfl) ?_
    refine ANDX (π1 := [3,4,5,6]) (π2 := [7]) (tc := 59) (tp := 63) rfl rfl rfl (by
        intro hg
        simp at hg
        refine V rfl (wg rfl rfl) rfl rfl (mv rfl) ?_
        refine BSI (zs := [1, 2]) rfl (wg rfl rfl) rfl rfl rfl rfl ty26 ?_
        intro s1 w8 hE8 _ h1 _
        refine C rfl (wg rfl rfl) rfl rfl Try.call24 (rSame q s1 _ _ _ (hq.ext hE8) h1) ?_
        rintro _ w9 hE9 rfl
        replace hE8 := hE8.trans hE9
        refine V rfl wu rfl rfl (pk rfl rfl) ?_
        exact joinX rfl) (by
        intro _
        refine SK rfl rfl rfl rfl rfl ?_
        refine SK rfl rfl rfl rfl rfl ?_
        refine SK rfl rfl rfl rfl rfl ?_
        refine V rfl wu rfl rfl (pk rfl rfl) ?_
        exact joinX rfl) ?_
    intro w10 hE10
    replace hE := hE.trans hE10
    refine V rfl wu rfl rfl (asg rfl) ?_
    refine wr_nil (post_thenN (wc_ret ?_))
    refine post_ret1 rfl rfl ?_
    exact ⟨hE, by simp⟩
namespace FWordRanks
open Go.ChangeShapes Go.WideShapes Go.ChangeAt Go.RowKit Go.Fr
theorem own : ownKnob Try.prog.godebug = none := by kernel_rfl
theorem laidOut : laidOutB Try.prog = true := by kernel_rfl
set_option maxRecDepth 100000 in
theorem lifted (os : Os) (started : os.Started) (H : Type) (enc : TypeId × Value → H) :
    ReturnsInHanded {} Try.checked os 5 .any (Rows.wordRanksSpec.pre6 enc Try.prog Try.f5 Rows.wordRanksRow.domain false) (Rows.wordRanksSpec.post enc Try.prog Try.f5 false true false false) := by
  refine returnsInHanded_of_change_sized (C := Try.checked) own started (by kernel_rfl) Try.func5
    (ChangeSpec.witness6 (enc := enc) (C := Try.checked) false ⟨#[], #[.int .i64 0, .slice none 0 0], []⟩ 8 (by kernel_rfl) (by kernel_rfl) (by kernel_rfl) (by kernel_rfl)) ?_
  intro W base args ds gs before hval0 hW _ hsz0 _
  have hval : ∀ (j : Nat) t v, Try.f5.params[j]? = some t → args[j]? = some v → Value.okWide Try.prog W .any base t v := hval0
  have hW' := hW
  obtain ⟨p, q, hA0, hV, rfl, hfz, hnd⟩ := hW
  have hA : DataW.TrodAll enc Try.prog W 0 (fun _ => true) true Try.f5.params.toList args.toList ds p := hA0
  have hsz : (DataW.weightsEach Try.prog (Try.f5.params.toList ++ Rows.wordRanksSpec.plain.varTypes Try.prog) (ds ++ gs)).all (· ≤ reachBytes) = true := hsz0
  rw [Try.params5] at hA hval hsz
  obtain ⟨v0, vs0, d0, ds0, p0, q0, hargs, rfl, rfl, h0, r0⟩ := trodAll_cons hA
  obtain ⟨v1, vs1, d1, ds1, p1, q1, rfl, rfl, rfl, h1, r1⟩ := trodAll_cons r0
  obtain ⟨rfl, rfl, rfl⟩ := trodAll_nil r1
  obtain rfl : args = #[v0, v1] := by cases args; simp_all
  obtain ⟨rfl, rfl⟩ := trodVars_none hV
  have k0 := h0
  have lt0 : ∀ x ∈ p0, x.block < W.heap.size := by obtain ⟨m, hm⟩ := k0; exact DataW.trod_lt m _ _ _ hm
  have w0 : WOK Try.prog 3 d0 := wok_arg hsz (j := 0) rfl rfl
  obtain ⟨n0, rfl, b0⟩ := op_int Try.underlying3 (hval 0 3 v0 rfl rfl) h0
  have k1 := h1
  have lt1 : ∀ x ∈ p1, x.block < W.heap.size := by obtain ⟨m, hm⟩ := k1; exact DataW.trod_lt m _ _ _ hm
  have w1 : WOK Try.prog 26 d1 := wok_arg hsz (j := 1) rfl rfl
  obtain ⟨z1, s1, b1⟩ := op_ints Try.underlying26 Try.underlying3 (by kernel_rfl) (by kernel_rfl) (hval 1 26 v1 rfl rfl) h1 w1
  refine (law_WordRanks (w := W) n0 b0 v1 z1 s1 b1).mono fun e W' he => ?_
  cases e with
  | panicked c => exact he.elim
  | outgrown => exact he.elim
  | returned v =>
    obtain ⟨bel, rfl⟩ := he
    exact ⟨_, rfl, _, _, _, [], _, [], hW', trodAll_mk1 (shut_bool Try.underlying4 _), (trodAll_cons_mk (Below.trod laidOut (by kernel_rfl) (of_decide_eq_true (by kernel_rfl)) k0 bel lt0) (trodAll_cons_mk (Below.trod laidOut (by kernel_rfl) (of_decide_eq_true (by kernel_rfl)) k1 bel lt1) trodAll_mk0)), rfl, bel.frame _, fun h => by cases h⟩
theorem over : Rows.wordRanksRow.holds Try.pinned (OpenSpec.ofChange Rows.wordRanksSpec) :=
  OpenClaim.holds_of_wide 5 Try.f5 rfl rfl rfl rfl rfl rfl rfl ⟨rfl, rfl, rfl, rfl, rfl⟩ rfl rfl rfl rfl rfl (by kernel_rfl) Try.func5 (by kernel_rfl)
    (of_decide_eq_true (by kernel_rfl)) (by unfold Func.isWrapper; first | (rw [if_pos (by decide +kernel)]; kernel_rfl) | (rw [if_neg (by decide +kernel)]; exact ⟨rfl, rfl⟩))
    (fun os started H enc _ => lifted os started H enc)
end FWordRanks
/-- The statement. -/
theorem wordRanks_holds : Rows.WordRanksSaid := FWordRanks.over
namespace FWordUnranks
open Go.ChangeShapes Go.WideShapes Go.ChangeAt Go.RowKit Go.Fr
theorem own : ownKnob Try.prog.godebug = none := by kernel_rfl
theorem laidOut : laidOutB Try.prog = true := by kernel_rfl
set_option maxRecDepth 100000 in
theorem lifted (os : Os) (started : os.Started) (H : Type) (enc : TypeId × Value → H) :
    ReturnsInHanded {} Try.checked os 6 .any (Rows.wordUnranksSpec.pre6 enc Try.prog Try.f6 Rows.wordUnranksRow.domain false) (Rows.wordUnranksSpec.post enc Try.prog Try.f6 false true false false) := by
  refine returnsInHanded_of_change_sized (C := Try.checked) own started (by kernel_rfl) Try.func6
    (ChangeSpec.witness6 (enc := enc) (C := Try.checked) false ⟨#[], #[.int .i64 0, .int .i64 0, .int .i64 0], []⟩ 8 (by kernel_rfl) (by kernel_rfl) (by kernel_rfl) (by kernel_rfl)) ?_
  intro W base args ds gs before hval0 hW _ hsz0 _
  have hval : ∀ (j : Nat) t v, Try.f6.params[j]? = some t → args[j]? = some v → Value.okWide Try.prog W .any base t v := hval0
  have hW' := hW
  obtain ⟨p, q, hA0, hV, rfl, hfz, hnd⟩ := hW
  have hA : DataW.TrodAll enc Try.prog W 0 (fun _ => true) true Try.f6.params.toList args.toList ds p := hA0
  have hsz : (DataW.weightsEach Try.prog (Try.f6.params.toList ++ Rows.wordUnranksSpec.plain.varTypes Try.prog) (ds ++ gs)).all (· ≤ reachBytes) = true := hsz0
  rw [Try.params6] at hA hval hsz
  obtain ⟨v0, vs0, d0, ds0, p0, q0, hargs, rfl, rfl, h0, r0⟩ := trodAll_cons hA
  obtain ⟨v1, vs1, d1, ds1, p1, q1, rfl, rfl, rfl, h1, r1⟩ := trodAll_cons r0
  obtain ⟨v2, vs2, d2, ds2, p2, q2, rfl, rfl, rfl, h2, r2⟩ := trodAll_cons r1
  obtain ⟨rfl, rfl, rfl⟩ := trodAll_nil r2
  obtain rfl : args = #[v0, v1, v2] := by cases args; simp_all
  obtain ⟨rfl, rfl⟩ := trodVars_none hV
  have k0 := h0
  have lt0 : ∀ x ∈ p0, x.block < W.heap.size := by obtain ⟨m, hm⟩ := k0; exact DataW.trod_lt m _ _ _ hm
  have w0 : WOK Try.prog 3 d0 := wok_arg hsz (j := 0) rfl rfl
  obtain ⟨n0, rfl, b0⟩ := op_int Try.underlying3 (hval 0 3 v0 rfl rfl) h0
  have k1 := h1
  have lt1 : ∀ x ∈ p1, x.block < W.heap.size := by obtain ⟨m, hm⟩ := k1; exact DataW.trod_lt m _ _ _ hm
  have w1 : WOK Try.prog 3 d1 := wok_arg hsz (j := 1) rfl rfl
  obtain ⟨n1, rfl, b1⟩ := op_int Try.underlying3 (hval 1 3 v1 rfl rfl) h1
  have k2 := h2
  have lt2 : ∀ x ∈ p2, x.block < W.heap.size := by obtain ⟨m, hm⟩ := k2; exact DataW.trod_lt m _ _ _ hm
  have w2 : WOK Try.prog 3 d2 := wok_arg hsz (j := 2) rfl rfl
  obtain ⟨n2, rfl, b2⟩ := op_int Try.underlying3 (hval 2 3 v2 rfl rfl) h2
  refine (law_WordUnranks (w := W) n0 b0 n1 b1 n2 b2).mono fun e W' he => ?_
  cases e with
  | panicked c => exact he.elim
  | outgrown => exact he.elim
  | returned v =>
    obtain ⟨bel, rfl⟩ := he
    exact ⟨_, rfl, _, _, _, [], _, [], hW', trodAll_mk1 (shut_bool Try.underlying4 _), (trodAll_cons_mk (Below.trod laidOut (by kernel_rfl) (of_decide_eq_true (by kernel_rfl)) k0 bel lt0) (trodAll_cons_mk (Below.trod laidOut (by kernel_rfl) (of_decide_eq_true (by kernel_rfl)) k1 bel lt1) (trodAll_cons_mk (Below.trod laidOut (by kernel_rfl) (of_decide_eq_true (by kernel_rfl)) k2 bel lt2) trodAll_mk0))), rfl, bel.frame _, fun h => by cases h⟩
theorem over : Rows.wordUnranksRow.holds Try.pinned (OpenSpec.ofChange Rows.wordUnranksSpec) :=
  OpenClaim.holds_of_wide 6 Try.f6 rfl rfl rfl rfl rfl rfl rfl ⟨rfl, rfl, rfl, rfl, rfl⟩ rfl rfl rfl rfl rfl (by kernel_rfl) Try.func6 (by kernel_rfl)
    (of_decide_eq_true (by kernel_rfl)) (by unfold Func.isWrapper; first | (rw [if_pos (by decide +kernel)]; kernel_rfl) | (rw [if_neg (by decide +kernel)]; exact ⟨rfl, rfl⟩))
    (fun os started H enc _ => lifted os started H enc)
end FWordUnranks
/-- The statement. -/
theorem wordUnranks_holds : Rows.WordUnranksSaid := FWordUnranks.over
end Go.Proofs.Ytlcokneidokfnaa
