/-
  Params and Limit of the list decoder, the program's and the reference's, by contract.
-/
import Derived.Test.YtmnojknfjbimdaaGreatWListd
namespace Go.Proofs.YtmnojknfjbimdaaGreat
open Go Go.Sx Go.Pl Go.RowKit Go.Ld
theorem not_bad {n k t : Int} (h : bad n k t = false) : (1 ≤ n ∧ n ≤ 64) ∧ (0 ≤ k ∧ k ≤ n) ∧ (0 ≤ t ∧ t ≤ n) := by
  simp only [bad, Bool.or_eq_false_iff, decide_eq_false_iff_not] at h
  omega
theorem parF_none {n k t m : Int} {f : Nat} (h : okB n k t m = false) (hf : f = (17 - m).toNat) (hm : m ≤ 16) : parF n k t f m = parF n k t (17 - (m + 1)).toNat (m + 1) := by
  obtain ⟨g, hg⟩ : ∃ g, f = g + 1 := ⟨f - 1, by omega⟩
  rw [hg, parF, if_neg (by simp [h])]
  congr 1
  omega
theorem parF_some {n k t m : Int} {f : Nat} (h : okB n k t m = true) (hf : f = (17 - m).toNat) (hm : m ≤ 16) : parF n k t f m = ([m, deg (cost n m) (wt k), deg (cost n m) (wt k) / wt k], 0) := by
  obtain ⟨g, hg⟩ : ∃ g, f = g + 1 := ⟨f - 1, by omega⟩
  rw [hg, parF, if_pos h]
set_option maxRecDepth 10000 in
theorem lParams (n k t : Int) (w : World) :
    Calls Tryz.prog 28 #[.int .i64 n, .int .i64 k, .int .i64 t] w (RetX w fun v _ => v = PV (par n k t)) := by
  refine calls3 Tryz.func28 rfl rfl ?_
  refine wc_seq ?_
  refine wc_region [0,1] rfl ?_
  refine AL rfl wu rfl zv43 ?_
  intro b w1 hE hB hb
  refine Go.Sx.V rfl wu rfl rfl (asg rfl) ?_
  refine wr_nil (post_thenN (wc_seq (wc_seq ?_)))
  refine wc_region [0,1,2,3,4,5,6,7,8,9,10,11,12,13,14,15,16,17,18,19,20,21,22,23] rfl ?_
  refine Go.Sx.V rfl wu rfl rfl (mv rfl) ?_
  refine Go.Sx.V rfl wu rfl rfl (lssI rfl rfl) ?_
  refine Go.Sx.V rfl wu rfl rfl (mv rfl) ?_
  refine OR (π1 := [3,4,5]) (π2 := [6,7,8,9,10,11,12,13,14,15,16,17,18,19,20,21,22,23]) (tc := 13) (tp := 16) rfl rfl rfl (by
      intro _
      refine SK rfl rfl rfl rfl rfl ?_
      refine SK rfl rfl rfl rfl rfl ?_
      refine Go.Sx.V rfl wu rfl rfl (pk rfl rfl) ?_
      exact join rfl) (by
      intro hg
      simp at hg
      refine Go.Sx.V rfl (wg rfl rfl) rfl rfl (mv rfl) ?_
      refine Go.Sx.V rfl (wg rfl rfl) rfl rfl (gtrI rfl rfl) ?_
      refine Go.Sx.V rfl wu rfl rfl (pk rfl rfl) ?_
      exact join rfl) ?_
  refine Go.Sx.V rfl wu rfl rfl (mv rfl) ?_
  refine OR (π1 := [7,8,9]) (π2 := [10,11,12,13,14,15,16,17,18,19,20,21,22,23]) (tc := 17) (tp := 20) rfl rfl rfl (by
      intro _
      refine SK rfl rfl rfl rfl rfl ?_
      refine SK rfl rfl rfl rfl rfl ?_
      refine Go.Sx.V rfl wu rfl rfl (pk rfl rfl) ?_
      exact join rfl) (by
      intro hg
      simp at hg
      refine Go.Sx.V rfl (wg rfl rfl) rfl rfl (mv rfl) ?_
      refine Go.Sx.V rfl (wg rfl rfl) rfl rfl (lssI rfl rfl) ?_
      refine Go.Sx.V rfl wu rfl rfl (pk rfl rfl) ?_
      exact join rfl) ?_
  refine Go.Sx.V rfl wu rfl rfl (mv rfl) ?_
  refine OR (π1 := [11,12,13,14]) (π2 := [15,16,17,18,19,20,21,22,23]) (tc := 21) (tp := 25) rfl rfl rfl (by
      intro _
      refine SK rfl rfl rfl rfl rfl ?_
      refine SK rfl rfl rfl rfl rfl ?_
      refine SK rfl rfl rfl rfl rfl ?_
      refine Go.Sx.V rfl wu rfl rfl (pk rfl rfl) ?_
      exact join rfl) (by
      intro hg
      simp at hg
      refine Go.Sx.V rfl (wg rfl rfl) rfl rfl (mv rfl) ?_
      refine Go.Sx.V rfl (wg rfl rfl) rfl rfl (mv rfl) ?_
      refine Go.Sx.V rfl (wg rfl rfl) rfl rfl (gtrI rfl rfl) ?_
      refine Go.Sx.V rfl wu rfl rfl (pk rfl rfl) ?_
      exact join rfl) ?_
  refine Go.Sx.V rfl wu rfl rfl (mv rfl) ?_
  refine OR (π1 := [16,17,18]) (π2 := [19,20,21,22,23]) (tc := 26) (tp := 29) rfl rfl rfl (by
      intro _
      refine SK rfl rfl rfl rfl rfl ?_
      refine SK rfl rfl rfl rfl rfl ?_
      refine Go.Sx.V rfl wu rfl rfl (pk rfl rfl) ?_
      exact join rfl) (by
      intro hg
      simp at hg
      refine Go.Sx.V rfl (wg rfl rfl) rfl rfl (mv rfl) ?_
      refine Go.Sx.V rfl (wg rfl rfl) rfl rfl (lssI rfl rfl) ?_
      refine Go.Sx.V rfl wu rfl rfl (pk rfl rfl) ?_
      exact join rfl) ?_
  refine Go.Sx.V rfl wu rfl rfl (mv rfl) ?_
  refine OR (π1 := [20,21,22,23]) (π2 := []) (tc := 30) (tp := 34) rfl rfl rfl (by
      intro _
      refine SK rfl rfl rfl rfl rfl ?_
      refine SK rfl rfl rfl rfl rfl ?_
      refine SK rfl rfl rfl rfl rfl ?_
      refine Go.Sx.V rfl wu rfl rfl (pk rfl rfl) ?_
      exact join rfl) (by
      intro hg
      simp at hg
      refine Go.Sx.V rfl (wg rfl rfl) rfl rfl (mv rfl) ?_
      refine Go.Sx.V rfl (wg rfl rfl) rfl rfl (mv rfl) ?_
      refine Go.Sx.V rfl (wg rfl rfl) rfl rfl (gtrI rfl rfl) ?_
      refine Go.Sx.V rfl wu rfl rfl (pk rfl rfl) ?_
      exact join rfl) ?_
  refine wr_nil (post_thenN ?_)
  refine wc_cond rfl ?_ ?_
  · intro h
    have h : bad n k t = true := h
    refine wc_seq ?_
    refine wc_region [0,1,2] rfl ?_
    refine Go.Sx.V rfl wu rfl rfl (bld (us := []) (r := [.int .i64 0, .int .i64 0, .int .i64 0]) rfl bz43) ?_
    refine STB (vs := [.int .i64 0, .int .i64 0, .int .i64 0]) (cs' := [.int .i64 0, .int .i64 0, .int .i64 0]) rfl wu rfl rfl rfl sv43 (by intro h; cases h) (by assumption) (by first | (simp [Value.oneCell']; done) | (intro v hv; simp only [List.mem_cons, List.not_mem_nil, or_false] at hv; rcases hv with rfl | rfl | rfl | rfl | rfl <;> first | rfl | assumption) | (intro v hv; simp only [List.mem_cons, List.not_mem_nil, or_false] at hv; rcases hv with rfl | rfl | rfl <;> first | rfl | assumption) | (intro v hv; simp only [List.mem_cons, List.not_mem_nil, or_false] at hv; rcases hv with rfl | rfl <;> first | rfl | assumption)) rfl rfl rfl ?_
    intro w2 hg hX hB
    refine Go.Sx.V rfl wu rfl rfl (asg rfl) ?_
    refine wr_nil (post_thenN (wc_ret (post_thenR ?_)))
    refine post_retC2 rfl rfl rfl ag43 (by assumption) rfl ?_
    exact ⟨hX _ hb hE, by rw [par, if_pos h]; rfl⟩
  · intro h
    refine wc_skip (post_thenN (wc_seq (wc_seq ?_)))
    obtain ⟨hn, hk, ht⟩ := not_bad h
    have hp : par n k t = parF n k t 16 1 := by rw [par, if_neg (by rw [show bad n k t = false from h]; simp)]
    refine wc_region [0] rfl ?_
    refine Go.Sx.V rfl wu rfl rfl (asg rfl) ?_
    refine wr_nil (post_thenN (wc_block ?_))
    refine wc_loop (fun m : Int => [(0, .int .i64 n), (1, .int .i64 k), (2, .int .i64 t), (6, .pointer (some ⟨b, 0, none⟩)), (8, .int .i64 m)])
      (fun m w' => 1 ≤ m ∧ m ≤ 17 ∧ Blk w' b 43 [Value.int .i64 0, .int .i64 0, .int .i64 0].toArray ∧ Ext w w' ∧ par n k t = parF n k t (17 - m).toNat m) (fun m => (17 - m).toNat) 1 ⟨rfl, rfl, rfl, rfl, rfl, trivial⟩ ⟨by omega, by omega, hB, hE, hp⟩ ?_
    rintro m w2 ⟨h0, h1, hB, hE, hp⟩
    try dsimp only
    refine wc_seq (wc_seq ?_)
    refine wc_region [0,1] rfl ?_
    refine Go.Sx.V rfl wu rfl rfl (mv rfl) ?_
    refine Go.Sx.V rfl wu rfl rfl (leqI rfl rfl) ?_
    refine wr_nil (post_thenN ?_)
    refine wc_cond rfl ?_ ?_
    · intro hm
      simp at hm
      refine wc_skip (post_thenN (wc_seq (wc_block (wc_seq ?_))))
      refine wc_region [0,1,2,3,4,5,6,7,8,9,10] rfl ?_
      refine Go.Sx.V rfl wu rfl rfl (mv rfl) ?_
      refine Go.Sx.V rfl wu rfl rfl (mv rfl) ?_
      refine Go.Sx.V rfl wu rfl rfl (mv rfl) ?_
      refine Go.Sx.V rfl wu rfl rfl (mv rfl) ?_
      refine C rfl wu rfl rfl Tryz.call54 (lSuff n k t m _ ⟨by omega, by omega⟩ ⟨by omega, by omega⟩ ht ⟨by omega, by omega⟩) ?_
      rintro _ w3 hE3 rfl
      replace hB := hB.ext hE3
      replace hE := hE.trans hE3
      refine Go.Sx.V rfl wu rfl rfl (mv rfl) ?_
      refine Go.Sx.V rfl wu rfl rfl (ext rfl rfl) ?_
      refine Go.Sx.V rfl wu rfl rfl (ext rfl rfl) ?_
      refine AL rfl wu rfl zv43 ?_
      intro b2 w4 hE4 hB4 hb4
      have hlt := hB.lt
      replace hB := hB.ext hE4
      generalize hcs : (if cost n m ≤ 4096 then [Value.int .i64 m, .int .i64 (deg (cost n m) (wt k)), .int .i64 (deg (cost n m) (wt k) / wt k)] else [.int .i64 0, .int .i64 0, .int .i64 0]) = cs
      have hcl : ∃ x y z, cs = [.int .i64 x, .int .i64 y, .int .i64 z] := by subst hcs; split <;> exact ⟨_, _, _, rfl⟩
      obtain ⟨x, y, z, hxyz⟩ := hcl
      subst hxyz
      refine STB (vs := [.int .i64 x, .int .i64 y, .int .i64 z]) (cs' := [.int .i64 x, .int .i64 y, .int .i64 z]) rfl wu rfl rfl rfl sv43 (by intro h; cases h) (by assumption) (by simp [Value.oneCell']) rfl rfl rfl ?_
      intro w5 hg5 hX5 hB5
      refine Go.Sx.V rfl wu rfl rfl (asg rfl) ?_
      refine wr_nil (post_thenN (wc_seq ?_))
      replace hB := hB.grown hg5 (by intro hh; cases hh; omega)
      replace hE := hX5 _ (by have := hE.size; omega) (hE.trans hE4)
      refine wc_region [0] rfl ?_
      refine Go.Sx.V rfl wu rfl rfl (mv rfl) ?_
      refine wr_nil (post_thenN ?_)
      refine wc_cond rfl ?_ ?_
      · intro ho
        refine wc_seq ?_
        have hcm : cost n m ≤ 4096 := by simp only [okB, Bool.and_eq_true, decide_eq_true_eq] at ho; omega
        rw [if_pos hcm] at hcs
        refine wc_region [0,1,2] rfl ?_
        refine Go.Sx.V rfl wu rfl rfl (ldA rfl ag43) ?_
        refine STB (vs := [.int .i64 x, .int .i64 y, .int .i64 z]) (cs' := [.int .i64 x, .int .i64 y, .int .i64 z]) rfl wu rfl rfl rfl sv43 (by intro h; cases h) (by assumption) (by first | (simp [Value.oneCell']; done) | (intro v hv; simp only [List.mem_cons, List.not_mem_nil, or_false] at hv; rcases hv with rfl | rfl | rfl | rfl | rfl <;> first | rfl | assumption) | (intro v hv; simp only [List.mem_cons, List.not_mem_nil, or_false] at hv; rcases hv with rfl | rfl | rfl <;> first | rfl | assumption) | (intro v hv; simp only [List.mem_cons, List.not_mem_nil, or_false] at hv; rcases hv with rfl | rfl <;> first | rfl | assumption)) rfl rfl rfl ?_
        intro w6 hg6 hX6 hB6
        refine Go.Sx.V rfl wu rfl rfl (asg rfl) ?_
        refine wr_nil (post_thenN (wc_ret (post_blockR (post_thenR (post_loopR (post_blockR (post_thenR ?_)))))))
        refine post_retC2 rfl rfl rfl ag43 (by assumption) rfl ?_
        refine ⟨hX6 _ hb hE, ?_⟩
        rw [hp, parF_some ho rfl hm]
        simp only [PV, List.map]
        rw [hcs]
      · intro ho
        refine wc_skip (post_blockN (post_thenN ?_))
        refine wc_region [0,1,2] rfl ?_
        refine Go.Sx.V rfl wu rfl rfl (mv rfl) ?_
        refine Go.Sx.V rfl wu rfl rfl (addI rfl rfl) ?_
        refine Go.Sx.V rfl wu rfl rfl (asg rfl) ?_
        refine wr_nil ?_
        exact post_loopN (m + 1) ⟨rfl, rfl, rfl, rfl, rfl, trivial⟩ ⟨by omega, by omega, hB, hE, by rw [hp]; exact parF_none ho rfl hm⟩ (by omega)
    · intro hm
      simp at hm
      refine wc_exit (post_thenE (post_loopE (post_blockX (post_thenN (wc_seq ?_)))))
      refine wc_region [0,1,2] rfl ?_
      refine Go.Sx.V rfl wu rfl rfl (bld (us := []) (r := [.int .i64 0, .int .i64 0, .int .i64 0]) rfl bz43) ?_
      refine STB (vs := [.int .i64 0, .int .i64 0, .int .i64 0]) (cs' := [.int .i64 0, .int .i64 0, .int .i64 0]) rfl wu rfl rfl rfl sv43 (by intro h; cases h) (by assumption) (by first | (simp [Value.oneCell']; done) | (intro v hv; simp only [List.mem_cons, List.not_mem_nil, or_false] at hv; rcases hv with rfl | rfl | rfl | rfl | rfl <;> first | rfl | assumption) | (intro v hv; simp only [List.mem_cons, List.not_mem_nil, or_false] at hv; rcases hv with rfl | rfl | rfl <;> first | rfl | assumption) | (intro v hv; simp only [List.mem_cons, List.not_mem_nil, or_false] at hv; rcases hv with rfl | rfl <;> first | rfl | assumption)) rfl rfl rfl ?_
      intro w6 hg6 hX6 hB6
      refine Go.Sx.V rfl wu rfl rfl (asg rfl) ?_
      refine wr_nil (post_thenN (wc_ret ?_))
      refine post_retC2 rfl rfl rfl ag43 (by assumption) rfl ?_
      refine ⟨hX6 _ hb hE, ?_⟩
      rw [hp, show (17 - m).toNat = 0 by omega]
      rfl
set_option maxRecDepth 10000 in
theorem rParams (n k t : Int) (w : World) :
    Calls Tryz.prog 17 #[.int .i64 n, .int .i64 k, .int .i64 t] w (RetX w fun v _ => v = PV (par n k t)) := by
  refine calls3 Tryz.func17 rfl rfl ?_
  refine wc_seq ?_
  refine wc_region [0,1] rfl ?_
  refine AL rfl wu rfl zv43 ?_
  intro b w1 hE hB hb
  refine Go.Sx.V rfl wu rfl rfl (asg rfl) ?_
  refine wr_nil (post_thenN (wc_seq (wc_seq ?_)))
  refine wc_region [0,1,2,3,4,5,6,7,8,9,10,11,12,13,14,15,16,17,18,19,20,21,22,23] rfl ?_
  refine Go.Sx.V rfl wu rfl rfl (mv rfl) ?_
  refine Go.Sx.V rfl wu rfl rfl (lssI rfl rfl) ?_
  refine Go.Sx.V rfl wu rfl rfl (mv rfl) ?_
  refine OR (π1 := [3,4,5]) (π2 := [6,7,8,9,10,11,12,13,14,15,16,17,18,19,20,21,22,23]) (tc := 14) (tp := 17) rfl rfl rfl (by
      intro _
      refine SK rfl rfl rfl rfl rfl ?_
      refine SK rfl rfl rfl rfl rfl ?_
      refine Go.Sx.V rfl wu rfl rfl (pk rfl rfl) ?_
      exact join rfl) (by
      intro hg
      simp at hg
      refine Go.Sx.V rfl (wg rfl rfl) rfl rfl (mv rfl) ?_
      refine Go.Sx.V rfl (wg rfl rfl) rfl rfl (gtrI rfl rfl) ?_
      refine Go.Sx.V rfl wu rfl rfl (pk rfl rfl) ?_
      exact join rfl) ?_
  refine Go.Sx.V rfl wu rfl rfl (mv rfl) ?_
  refine OR (π1 := [7,8,9]) (π2 := [10,11,12,13,14,15,16,17,18,19,20,21,22,23]) (tc := 18) (tp := 21) rfl rfl rfl (by
      intro _
      refine SK rfl rfl rfl rfl rfl ?_
      refine SK rfl rfl rfl rfl rfl ?_
      refine Go.Sx.V rfl wu rfl rfl (pk rfl rfl) ?_
      exact join rfl) (by
      intro hg
      simp at hg
      refine Go.Sx.V rfl (wg rfl rfl) rfl rfl (mv rfl) ?_
      refine Go.Sx.V rfl (wg rfl rfl) rfl rfl (lssI rfl rfl) ?_
      refine Go.Sx.V rfl wu rfl rfl (pk rfl rfl) ?_
      exact join rfl) ?_
  refine Go.Sx.V rfl wu rfl rfl (mv rfl) ?_
  refine OR (π1 := [11,12,13,14]) (π2 := [15,16,17,18,19,20,21,22,23]) (tc := 22) (tp := 26) rfl rfl rfl (by
      intro _
      refine SK rfl rfl rfl rfl rfl ?_
      refine SK rfl rfl rfl rfl rfl ?_
      refine SK rfl rfl rfl rfl rfl ?_
      refine Go.Sx.V rfl wu rfl rfl (pk rfl rfl) ?_
      exact join rfl) (by
      intro hg
      simp at hg
      refine Go.Sx.V rfl (wg rfl rfl) rfl rfl (mv rfl) ?_
      refine Go.Sx.V rfl (wg rfl rfl) rfl rfl (mv rfl) ?_
      refine Go.Sx.V rfl (wg rfl rfl) rfl rfl (gtrI rfl rfl) ?_
      refine Go.Sx.V rfl wu rfl rfl (pk rfl rfl) ?_
      exact join rfl) ?_
  refine Go.Sx.V rfl wu rfl rfl (mv rfl) ?_
  refine OR (π1 := [16,17,18]) (π2 := [19,20,21,22,23]) (tc := 27) (tp := 30) rfl rfl rfl (by
      intro _
      refine SK rfl rfl rfl rfl rfl ?_
      refine SK rfl rfl rfl rfl rfl ?_
      refine Go.Sx.V rfl wu rfl rfl (pk rfl rfl) ?_
      exact join rfl) (by
      intro hg
      simp at hg
      refine Go.Sx.V rfl (wg rfl rfl) rfl rfl (mv rfl) ?_
      refine Go.Sx.V rfl (wg rfl rfl) rfl rfl (lssI rfl rfl) ?_
      refine Go.Sx.V rfl wu rfl rfl (pk rfl rfl) ?_
      exact join rfl) ?_
  refine Go.Sx.V rfl wu rfl rfl (mv rfl) ?_
  refine OR (π1 := [20,21,22,23]) (π2 := []) (tc := 31) (tp := 35) rfl rfl rfl (by
      intro _
      refine SK rfl rfl rfl rfl rfl ?_
      refine SK rfl rfl rfl rfl rfl ?_
      refine SK rfl rfl rfl rfl rfl ?_
      refine Go.Sx.V rfl wu rfl rfl (pk rfl rfl) ?_
      exact join rfl) (by
      intro hg
      simp at hg
      refine Go.Sx.V rfl (wg rfl rfl) rfl rfl (mv rfl) ?_
      refine Go.Sx.V rfl (wg rfl rfl) rfl rfl (mv rfl) ?_
      refine Go.Sx.V rfl (wg rfl rfl) rfl rfl (gtrI rfl rfl) ?_
      refine Go.Sx.V rfl wu rfl rfl (pk rfl rfl) ?_
      exact join rfl) ?_
  refine wr_nil (post_thenN ?_)
  refine wc_cond rfl ?_ ?_
  · intro h
    have h : bad n k t = true := h
    refine wc_seq ?_
    refine wc_region [0,1,2] rfl ?_
    refine Go.Sx.V rfl wu rfl rfl (bld (us := []) (r := [.int .i64 0, .int .i64 0, .int .i64 0]) rfl bz43) ?_
    refine STB (vs := [.int .i64 0, .int .i64 0, .int .i64 0]) (cs' := [.int .i64 0, .int .i64 0, .int .i64 0]) rfl wu rfl rfl rfl sv43 (by intro h; cases h) (by assumption) (by first | (simp [Value.oneCell']; done) | (intro v hv; simp only [List.mem_cons, List.not_mem_nil, or_false] at hv; rcases hv with rfl | rfl | rfl | rfl | rfl <;> first | rfl | assumption) | (intro v hv; simp only [List.mem_cons, List.not_mem_nil, or_false] at hv; rcases hv with rfl | rfl | rfl <;> first | rfl | assumption) | (intro v hv; simp only [List.mem_cons, List.not_mem_nil, or_false] at hv; rcases hv with rfl | rfl <;> first | rfl | assumption)) rfl rfl rfl ?_
    intro w2 hg hX hB
    refine Go.Sx.V rfl wu rfl rfl (asg rfl) ?_
    refine wr_nil (post_thenN (wc_ret (post_thenR ?_)))
    refine post_retC2 rfl rfl rfl ag43 (by assumption) rfl ?_
    exact ⟨hX _ hb hE, by rw [par, if_pos h]; rfl⟩
  · intro h
    refine wc_skip (post_thenN (wc_seq ?_))
    obtain ⟨hn, hk, ht⟩ := not_bad h
    have hp : par n k t = parF n k t 16 1 := by rw [par, if_neg (by rw [show bad n k t = false from h]; simp)]
    have hw := wt_le (k := k) ⟨by omega, by omega⟩
    refine wc_region [0,1,2] rfl ?_
    refine Go.Sx.V rfl wu rfl rfl (mv rfl) ?_
    refine C rfl wu rfl rfl Tryz.call21 (rWeight k _ ⟨by omega, by omega⟩) ?_
    rintro _ w2 hE2 rfl
    replace hB := hB.ext hE2
    replace hE := hE.trans hE2
    refine Go.Sx.V rfl wu rfl rfl (asg rfl) ?_
    refine wr_nil (post_thenN (wc_seq (wc_seq ?_)))
    refine wc_region [0] rfl ?_
    refine Go.Sx.V rfl wu rfl rfl (asg rfl) ?_
    refine wr_nil (post_thenN (wc_block ?_))
    refine wc_loop (fun m : Int => [(0, .int .i64 n), (1, .int .i64 k), (2, .int .i64 t), (6, .pointer (some ⟨b, 0, none⟩)), (8, .int .i64 (wt k)), (9, .int .i64 m)])
      (fun m w' => 1 ≤ m ∧ m ≤ 17 ∧ Blk w' b 43 [Value.int .i64 0, .int .i64 0, .int .i64 0].toArray ∧ Ext w w' ∧ par n k t = parF n k t (17 - m).toNat m) (fun m => (17 - m).toNat) 1 ⟨rfl, rfl, rfl, rfl, rfl, rfl, trivial⟩ ⟨by omega, by omega, hB, hE, hp⟩ ?_
    rintro m w2 ⟨h0, h1, hB, hE, hp⟩
    obtain ⟨c1, c2⟩ := cost_le (n := n) (m := m) ⟨by omega, by omega⟩ ⟨by omega, by omega⟩
    have hcost : n * m * (m + 1) / 2 = cost n m := rfl
    have hc0 : 0 ≤ cost n m := by unfold cost; omega
    have hmt : 0 ≤ m * (n - t) ∧ m * (n - t) ≤ 17 * 64 := ⟨Int.mul_nonneg (by omega) (by omega), Int.mul_le_mul h1 (by omega) (by omega) (by omega)⟩
    try dsimp only
    refine wc_seq (wc_seq ?_)
    refine wc_region [0,1] rfl ?_
    refine Go.Sx.V rfl wu rfl rfl (mv rfl) ?_
    refine Go.Sx.V rfl wu rfl rfl (leqI rfl rfl) ?_
    refine wr_nil (post_thenN ?_)
    refine wc_cond rfl ?_ ?_
    · intro hm
      simp at hm
      refine wc_skip (post_thenN (wc_seq (wc_block (wc_seq ?_))))
      refine wc_region [0,1,2,3,4,5,6,7] rfl ?_
      refine Go.Sx.V rfl wu rfl rfl (mv rfl) ?_
      refine Go.Sx.V rfl wu rfl rfl (mv rfl) ?_
      refine Go.Sx.V rfl wu rfl rfl (mulI rfl rfl) ?_
      refine Go.Sx.V rfl wu rfl rfl (mv rfl) ?_
      refine Go.Sx.V rfl wu rfl rfl (addI rfl rfl) ?_
      refine Go.Sx.V rfl wu rfl rfl (mulI rfl rfl) ?_
      refine Go.Sx.V rfl wu rfl rfl (quoI rfl rfl) ?_
      refine Go.Sx.V rfl wu rfl rfl (asg rfl) ?_
      refine wr_nil (post_thenN (wc_seq (wc_seq ?_)))
      rw [hcost]
      refine wc_region [0,1] rfl ?_
      refine Go.Sx.V rfl wu rfl rfl (mv rfl) ?_
      refine Go.Sx.V rfl wu rfl rfl (gtrI rfl rfl) ?_
      refine wr_nil (post_thenN ?_)
      refine wc_cond rfl ?_ ?_
      · intro hc
        simp at hc
        refine wc_exit (post_thenE (post_blockE rfl (post_thenE (post_loopE (post_blockX (post_thenN (wc_seq ?_)))))))
        refine wc_region [0,1,2] rfl ?_
        refine Go.Sx.V rfl wu rfl rfl (bld (us := []) (r := [.int .i64 0, .int .i64 0, .int .i64 0]) rfl bz43) ?_
        refine STB (vs := [.int .i64 0, .int .i64 0, .int .i64 0]) (cs' := [.int .i64 0, .int .i64 0, .int .i64 0]) rfl wu rfl rfl rfl sv43 (by intro h; cases h) (by assumption) (by first | (simp [Value.oneCell']; done) | (intro v hv; simp only [List.mem_cons, List.not_mem_nil, or_false] at hv; rcases hv with rfl | rfl | rfl | rfl | rfl <;> first | rfl | assumption) | (intro v hv; simp only [List.mem_cons, List.not_mem_nil, or_false] at hv; rcases hv with rfl | rfl | rfl <;> first | rfl | assumption) | (intro v hv; simp only [List.mem_cons, List.not_mem_nil, or_false] at hv; rcases hv with rfl | rfl <;> first | rfl | assumption)) rfl rfl rfl ?_
        intro w6 hg6 hX6 hB6
        refine Go.Sx.V rfl wu rfl rfl (asg rfl) ?_
        refine wr_nil (post_thenN (wc_ret ?_))
        refine post_retC2 rfl rfl rfl ag43 (by assumption) rfl ?_
        exact ⟨hX6 _ hb hE, by rw [hp, parF_big (by omega) _ m (by omega) hc]; rfl⟩
      · intro hc
        simp at hc
        refine wc_skip (post_thenN (wc_seq ?_))
        have hd := deg_bound (c := cost n m) hw.1 9000 0 (by omega) (by omega)
        have hd : 0 ≤ deg (cost n m) (wt k) ∧ deg (cost n m) (wt k) ≤ 4097 := ⟨hd.1, by have := hd.2; unfold deg; omega⟩
        refine wc_region [0] rfl ?_
        refine Go.Sx.V rfl wu rfl rfl (asg rfl) ?_
        refine wr_nil (post_thenN (wc_seq (wc_block ?_)))
        refine wc_loop (fun d : Int => [(0, .int .i64 n), (1, .int .i64 k), (2, .int .i64 t), (6, .pointer (some ⟨b, 0, none⟩)), (8, .int .i64 (wt k)), (9, .int .i64 m), (10, .int .i64 (cost n m)), (11, .int .i64 d)])
          (fun d w' => 0 ≤ d ∧ d ≤ cost n m + 1 ∧ deg (cost n m) (wt k) = degF (cost n m) (wt k) (9000 - d).toNat d ∧ Blk w' b 43 [Value.int .i64 0, .int .i64 0, .int .i64 0].toArray ∧ Ext w w') (fun d => (cost n m + 1 - d).toNat) 0 ⟨rfl, rfl, rfl, rfl, rfl, rfl, rfl, rfl, trivial⟩ ⟨by omega, by omega, rfl, hB, hE⟩ ?_
        rintro d w3 ⟨g0, g1, g2, hB, hE⟩
        have hge := tm_ge d (wt k) g0 hw.1
        try dsimp only
        refine wc_seq (wc_seq ?_)
        refine wc_region [0,1,2,3,4,5,6,7] rfl ?_
        refine Go.Sx.V rfl wu rfl rfl (mv rfl) ?_
        refine Go.Sx.V rfl wu rfl rfl (mv rfl) ?_
        refine Go.Sx.V rfl wu rfl rfl (mv rfl) ?_
        refine Go.Sx.V rfl wu rfl rfl (quoI rfl rfl) ?_
        refine Go.Sx.V rfl wu rfl rfl (mv rfl) ?_
        refine C rfl wu rfl rfl Tryz.call39 (rTerms d (wt k) _ ⟨g0, by omega⟩ hw) ?_
        rintro _ w4 hE4 rfl
        replace hB := hB.ext hE4
        replace hE := hE.trans hE4
        refine Go.Sx.V rfl wu rfl rfl (mv rfl) ?_
        refine Go.Sx.V rfl wu rfl rfl (leqI rfl rfl) ?_
        refine wr_nil (post_thenN ?_)
        refine wc_cond rfl ?_ ?_
        · intro h3
          simp at h3
          refine wc_skip (post_thenN (wc_block ?_))
          refine wc_region [0,1,2] rfl ?_
          refine Go.Sx.V rfl wu rfl rfl (mv rfl) ?_
          refine Go.Sx.V rfl wu rfl rfl (addI rfl rfl) ?_
          refine Go.Sx.V rfl wu rfl rfl (asg rfl) ?_
          refine wr_nil (post_blockN ?_)
          exact post_loopN (d + 1) ⟨rfl, rfl, rfl, rfl, rfl, rfl, rfl, rfl, trivial⟩ ⟨by omega, by omega, by rw [g2]; exact degF_step g0 hw.1 (by omega) rfl h3, hB, hE⟩ (by omega)
        · intro h3
          simp at h3
          refine wc_exit (post_thenE (post_loopE (post_blockX (post_thenN (wc_seq ?_)))))
          have hdd : d = deg (cost n m) (wt k) := by rw [g2, degF_stop (by omega)]
          subst hdd
          refine wc_region [0,1,2,3,4,5,6,7,8,9,10,11,12] rfl ?_
          refine Go.Sx.V rfl wu rfl rfl (mv rfl) ?_
          refine Go.Sx.V rfl wu rfl rfl (mv rfl) ?_
          refine Go.Sx.V rfl wu rfl rfl (quoI rfl rfl) ?_
          refine Go.Sx.V rfl wu rfl rfl (leqI rfl rfl) ?_
          refine Go.Sx.V rfl wu rfl rfl (mv rfl) ?_
          refine AND (π1 := [5,6,7,8,9,10,11,12]) (π2 := []) (tc := 66) (tp := 74) rfl rfl rfl (by
              intro hg
              simp at hg
              refine Go.Sx.V rfl (wg rfl rfl) rfl rfl (mv rfl) ?_
              refine Go.Sx.V rfl (wg rfl rfl) rfl rfl (mv rfl) ?_
              refine Go.Sx.V rfl (wg rfl rfl) rfl rfl (mv rfl) ?_
              refine Go.Sx.V rfl (wg rfl rfl) rfl rfl (subI rfl rfl) ?_
              refine Go.Sx.V rfl (wg rfl rfl) rfl rfl (mulI rfl rfl) ?_
              refine Go.Sx.V rfl (wg rfl rfl) rfl rfl (mv rfl) ?_
              refine Go.Sx.V rfl (wg rfl rfl) rfl rfl (gtrI rfl rfl) ?_
              refine Go.Sx.V rfl wu rfl rfl (pk rfl rfl) ?_
              exact join rfl) (by
              intro _
              refine SK rfl rfl rfl rfl rfl ?_
              refine SK rfl rfl rfl rfl rfl ?_
              refine SK rfl rfl rfl rfl rfl ?_
              refine SK rfl rfl rfl rfl rfl ?_
              refine SK rfl rfl rfl rfl rfl ?_
              refine SK rfl rfl rfl rfl rfl ?_
              refine SK rfl rfl rfl rfl rfl ?_
              refine Go.Sx.V rfl wu rfl rfl (pk rfl rfl) ?_
              exact join rfl) ?_
          refine wr_nil (post_thenN ?_)
          refine wc_cond rfl ?_ ?_
          · intro h4
            refine wc_seq ?_
            have ho : okB n k t m = true := by
              simp only [okB, Bool.and_eq_true, decide_eq_true_eq] at h4 ⊢
              exact ⟨hc, h4⟩
            refine wc_region [0,1,2,3,4,5,6,7] rfl ?_
            refine Go.Sx.V rfl wu rfl rfl (mv rfl) ?_
            refine Go.Sx.V rfl wu rfl rfl (mv rfl) ?_
            refine Go.Sx.V rfl wu rfl rfl (mv rfl) ?_
            refine Go.Sx.V rfl wu rfl rfl (mv rfl) ?_
            refine Go.Sx.V rfl wu rfl rfl (quoI rfl rfl) ?_
            refine Go.Sx.V rfl wu rfl rfl (bld (us := [.int .i64 m, .int .i64 (deg (cost n m) (wt k)), .int .i64 (deg (cost n m) (wt k) / wt k)]) (r := [.int .i64 m, .int .i64 (deg (cost n m) (wt k)), .int .i64 (deg (cost n m) (wt k) / wt k)]) rfl (bd43 _ _ _)) ?_
            refine STB (vs := [.int .i64 m, .int .i64 (deg (cost n m) (wt k)), .int .i64 (deg (cost n m) (wt k) / wt k)]) (cs' := [.int .i64 m, .int .i64 (deg (cost n m) (wt k)), .int .i64 (deg (cost n m) (wt k) / wt k)]) rfl wu rfl rfl rfl sv43 (by intro h; cases h) (by assumption) (by first | (simp [Value.oneCell']; done) | (intro v hv; simp only [List.mem_cons, List.not_mem_nil, or_false] at hv; rcases hv with rfl | rfl | rfl | rfl | rfl <;> first | rfl | assumption) | (intro v hv; simp only [List.mem_cons, List.not_mem_nil, or_false] at hv; rcases hv with rfl | rfl | rfl <;> first | rfl | assumption) | (intro v hv; simp only [List.mem_cons, List.not_mem_nil, or_false] at hv; rcases hv with rfl | rfl <;> first | rfl | assumption)) rfl rfl rfl ?_
            intro w5 hg5 hX5 hB5
            refine Go.Sx.V rfl wu rfl rfl (asg rfl) ?_
            refine wr_nil (post_thenN (wc_ret (post_blockR (post_thenR (post_loopR (post_blockR (post_thenR ?_)))))))
            refine post_retC2 rfl rfl rfl ag43 (by assumption) rfl ?_
            exact ⟨hX5 _ hb hE, by rw [hp, parF_some ho rfl hm]; rfl⟩
          · intro h4
            refine wc_skip (post_blockN (post_thenN ?_))
            have ho : okB n k t m = false := by
              cases hx : okB n k t m
              · rfl
              · exfalso
                simp only [okB, Bool.and_eq_true, decide_eq_true_eq] at hx
                simp only [Bool.and_eq_false_iff, decide_eq_false_iff_not] at h4
                omega
            refine wc_region [0,1,2] rfl ?_
            refine Go.Sx.V rfl wu rfl rfl (mv rfl) ?_
            refine Go.Sx.V rfl wu rfl rfl (addI rfl rfl) ?_
            refine Go.Sx.V rfl wu rfl rfl (asg rfl) ?_
            refine wr_nil ?_
            exact post_loopN (m + 1) ⟨rfl, rfl, rfl, rfl, rfl, rfl, trivial⟩ ⟨by omega, by omega, hB, hE, by rw [hp]; exact parF_none ho rfl hm⟩ (by omega)
    · intro hm
      simp at hm
      refine wc_exit (post_thenE (post_loopE (post_blockX (post_thenN (wc_seq ?_)))))
      refine wc_region [0,1,2] rfl ?_
      refine Go.Sx.V rfl wu rfl rfl (bld (us := []) (r := [.int .i64 0, .int .i64 0, .int .i64 0]) rfl bz43) ?_
      refine STB (vs := [.int .i64 0, .int .i64 0, .int .i64 0]) (cs' := [.int .i64 0, .int .i64 0, .int .i64 0]) rfl wu rfl rfl rfl sv43 (by intro h; cases h) (by assumption) (by first | (simp [Value.oneCell']; done) | (intro v hv; simp only [List.mem_cons, List.not_mem_nil, or_false] at hv; rcases hv with rfl | rfl | rfl | rfl | rfl <;> first | rfl | assumption) | (intro v hv; simp only [List.mem_cons, List.not_mem_nil, or_false] at hv; rcases hv with rfl | rfl | rfl <;> first | rfl | assumption) | (intro v hv; simp only [List.mem_cons, List.not_mem_nil, or_false] at hv; rcases hv with rfl | rfl <;> first | rfl | assumption)) rfl rfl rfl ?_
      intro w6 hg6 hX6 hB6
      refine Go.Sx.V rfl wu rfl rfl (asg rfl) ?_
      refine wr_nil (post_thenN (wc_ret ?_))
      refine post_retC2 rfl rfl rfl ag43 (by assumption) rfl ?_
      refine ⟨hX6 _ hb hE, ?_⟩
      rw [hp, show (17 - m).toNat = 0 by omega]
      rfl
end Go.Proofs.YtmnojknfjbimdaaGreat

