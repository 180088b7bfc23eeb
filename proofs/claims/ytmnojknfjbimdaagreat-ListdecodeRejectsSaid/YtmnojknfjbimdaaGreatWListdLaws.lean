/-
  Statements ListdecodeParams and ListdecodeLimit: for all n, k, t the laws return true: the parameters are the least multiplicity that suffices, by counting terms, and just up to the limit some multiplicity suffices. No condition.
-/
import Derived.Test.YtmnojknfjbimdaaGreatWListd2
import Derived.Test.YtmnojknfjbimdaaGreatWMSxa
import Derived.Test.YtmnojknfjbimdaaGreatRows
namespace Go.Proofs.YtmnojknfjbimdaaGreat
open Go Go.Sx Go.Pl Go.RowKit Go.Ld Go.Fr
def two (p : Int × Int) : Value := .tuple #[.int .i64 p.1, .int .i64 p.2]
set_option maxRecDepth 10000 in
theorem lLimit (n k : Int) (w : World) :
    Calls Tryz.prog 29 #[.int .i64 n, .int .i64 k] w (RetX w fun v _ => v = two (lim n k)) := by
  refine calls2 Tryz.func29 rfl rfl ?_
  refine wc_seq ?_
  refine wc_region [0,1] rfl ?_
  refine Go.Sx.V rfl wu rfl rfl (asg rfl) ?_
  refine Go.Sx.V rfl wu rfl rfl (asg rfl) ?_
  refine wr_nil (post_thenN (wc_seq (wc_seq ?_)))
  refine wc_region [0,1,2,3,4,5,6,7,8,9,10,11,12,13,14] rfl ?_
  refine Go.Sx.V rfl wu rfl rfl (mv rfl) ?_
  refine Go.Sx.V rfl wu rfl rfl (lssI rfl rfl) ?_
  refine Go.Sx.V rfl wu rfl rfl (mv rfl) ?_
  refine OR (π1 := [3,4,5]) (π2 := [6,7,8,9,10,11,12,13,14]) (tc := 11) (tp := 14) rfl rfl rfl (by
      intro _
      refine SK rfl rfl rfl rfl rfl ?_
      refine SK rfl rfl rfl rfl rfl ?_
      refine Go.Sx.V rfl wu rfl rfl (pk rfl rfl) ?_
      exact join rfl) (by
      intro hg
      simp at hg
      refine Go.Sx.V rfl (wg rfl rfl) rfl rfl (mv rfl) ?_
      refine Go.Sx.V rfl (wg rfl rfl) rfl rfl (gtrI rfl rfl) ?_
      refine Go.Sx.V rfl wu rfl rfl (pk rfl rfl) ?_
      exact join rfl) ?_
  refine Go.Sx.V rfl wu rfl rfl (mv rfl) ?_
  refine OR (π1 := [7,8,9]) (π2 := [10,11,12,13,14]) (tc := 15) (tp := 18) rfl rfl rfl (by
      intro _
      refine SK rfl rfl rfl rfl rfl ?_
      refine SK rfl rfl rfl rfl rfl ?_
      refine Go.Sx.V rfl wu rfl rfl (pk rfl rfl) ?_
      exact join rfl) (by
      intro hg
      simp at hg
      refine Go.Sx.V rfl (wg rfl rfl) rfl rfl (mv rfl) ?_
      refine Go.Sx.V rfl (wg rfl rfl) rfl rfl (lssI rfl rfl) ?_
      refine Go.Sx.V rfl wu rfl rfl (pk rfl rfl) ?_
      exact join rfl) ?_
  refine Go.Sx.V rfl wu rfl rfl (mv rfl) ?_
  refine OR (π1 := [11,12,13,14]) (π2 := []) (tc := 19) (tp := 23) rfl rfl rfl (by
      intro _
      refine SK rfl rfl rfl rfl rfl ?_
      refine SK rfl rfl rfl rfl rfl ?_
      refine SK rfl rfl rfl rfl rfl ?_
      refine Go.Sx.V rfl wu rfl rfl (pk rfl rfl) ?_
      exact join rfl) (by
      intro hg
      simp at hg
      refine Go.Sx.V rfl (wg rfl rfl) rfl rfl (mv rfl) ?_
      refine Go.Sx.V rfl (wg rfl rfl) rfl rfl (mv rfl) ?_
      refine Go.Sx.V rfl (wg rfl rfl) rfl rfl (gtrI rfl rfl) ?_
      refine Go.Sx.V rfl wu rfl rfl (pk rfl rfl) ?_
      exact join rfl) ?_
  refine wr_nil (post_thenN ?_)
  refine wc_cond rfl ?_ ?_
  · intro h
    simp at h
    refine wc_seq ?_
    refine wc_region [0,1] rfl ?_
    refine Go.Sx.V rfl wu rfl rfl (asg rfl) ?_
    refine Go.Sx.V rfl wu rfl rfl (asg rfl) ?_
    refine wr_nil (post_thenN (wc_ret (post_thenR ?_)))
    refine post_ret2 rfl rfl rfl ?_
    exact ⟨Ext.refl _, by rw [lim, if_pos (by omega)]; rfl⟩
  · intro h
    simp at h
    refine wc_skip (post_thenN (wc_seq (wc_seq ?_)))
    refine wc_region [0,1] rfl ?_
    refine Go.Sx.V rfl wu rfl rfl (mv rfl) ?_
    refine Go.Sx.V rfl wu rfl rfl (asg rfl) ?_
    refine wr_nil (post_thenN (wc_block ?_))
    refine wc_loop (fun t : Int => [(0, .int .i64 n), (1, .int .i64 k), (6, .int .i64 t)])
      (fun t w' => -1 ≤ t ∧ t ≤ n ∧ limF n k (n + 1).toNat = limF n k (t + 1).toNat ∧ Ext w w') (fun t => (t + 1).toNat) n ⟨rfl, rfl, rfl, trivial⟩ ⟨by omega, by omega, rfl, Ext.refl _⟩ ?_
    rintro t w1 ⟨h0, h1, hl, hE⟩
    try dsimp only
    refine wc_seq (wc_seq ?_)
    refine wc_region [0,1] rfl ?_
    refine Go.Sx.V rfl wu rfl rfl (mv rfl) ?_
    refine Go.Sx.V rfl wu rfl rfl (geqI rfl rfl) ?_
    refine wr_nil (post_thenN ?_)
    refine wc_cond rfl ?_ ?_
    · intro ht
      simp at ht
      refine wc_skip (post_thenN (wc_seq (wc_block (wc_seq ?_))))
      have hs : (t + 1).toNat = t.toNat + 1 := by omega
      have ht' : ((t.toNat : Nat) : Int) = t := by omega
      rw [hs, limF, ht'] at hl
      obtain ⟨x, y, z, hp⟩ : ∃ x y z, (par n k t).1 = [x, y, z] := by
        have := par_len n k t
        match (par n k t).1, this with
        | [x, y, z], _ => exact ⟨x, y, z, rfl⟩
      have hpv : PV (par n k t) = .tuple #[.agg [Value.int .i64 x, .int .i64 y, .int .i64 z].toArray, .int .i64 (par n k t).2] := by rw [PV, hp]; rfl
      refine wc_region [0,1,2,3,4,5,6,7,8,9] rfl ?_
      refine Go.Sx.V rfl wu rfl rfl (mv rfl) ?_
      refine Go.Sx.V rfl wu rfl rfl (mv rfl) ?_
      refine Go.Sx.V rfl wu rfl rfl (mv rfl) ?_
      refine C rfl wu rfl rfl Tryz.call28 (lParams n k t _) ?_
      rintro _ w2 hE2 rfl
      replace hE := hE.trans hE2
      rw [hpv]
      refine Go.Sx.V rfl wu rfl rfl (mv rfl) ?_
      refine Go.Sx.V rfl wu rfl rfl (ext rfl rfl) ?_
      refine Go.Sx.V rfl wu rfl rfl (ext rfl rfl) ?_
      refine AL rfl wu rfl zv43 ?_
      intro b w3 hE3 hB hb
      have hsz := hE.size
      replace hE := hE.trans hE3
      refine STB (vs := [.int .i64 x, .int .i64 y, .int .i64 z]) (cs' := [.int .i64 x, .int .i64 y, .int .i64 z]) rfl wu rfl rfl rfl sv43 (by intro h; cases h) (by assumption) (by first | (simp [Value.oneCell']; done) | (intro v hv; simp only [List.mem_cons, List.not_mem_nil, or_false] at hv; rcases hv with rfl | rfl | rfl | rfl | rfl <;> first | rfl | assumption) | (intro v hv; simp only [List.mem_cons, List.not_mem_nil, or_false] at hv; rcases hv with rfl | rfl | rfl <;> first | rfl | assumption) | (intro v hv; simp only [List.mem_cons, List.not_mem_nil, or_false] at hv; rcases hv with rfl | rfl <;> first | rfl | assumption)) rfl rfl rfl ?_
      intro w4 hg hX hB
      replace hE := hX _ (by omega) hE
      refine Go.Sx.V rfl wu rfl rfl (asg rfl) ?_
      refine wr_nil (post_thenN (wc_seq ?_))
      refine wc_region [0,1] rfl ?_
      refine Go.Sx.V rfl wu rfl rfl (mv rfl) ?_
      refine Go.Sx.V rfl wu rfl rfl (eqlI rfl rfl) ?_
      refine wr_nil (post_thenN ?_)
      refine wc_cond rfl ?_ ?_
      · intro he
        simp at he
        refine wc_seq ?_
        refine wc_region [0,1,2] rfl ?_
        refine Go.Sx.V rfl wu rfl rfl (mv rfl) ?_
        refine Go.Sx.V rfl wu rfl rfl (asg rfl) ?_
        refine Go.Sx.V rfl wu rfl rfl (asg rfl) ?_
        refine wr_nil (post_thenN (wc_ret (post_blockR (post_thenR (post_loopR (post_blockR (post_thenR ?_)))))))
        refine post_ret2 rfl rfl rfl ?_
        refine ⟨hE, ?_⟩
        rw [if_pos he] at hl
        rw [lim, if_neg (by omega), hl, if_neg (by omega)]
        rfl
      · intro he
        simp at he
        refine wc_skip (post_blockN (post_thenN ?_))
        rw [if_neg he] at hl
        refine wc_region [0,1,2] rfl ?_
        refine Go.Sx.V rfl wu rfl rfl (mv rfl) ?_
        refine Go.Sx.V rfl wu rfl rfl (subI rfl rfl) ?_
        refine Go.Sx.V rfl wu rfl rfl (asg rfl) ?_
        refine wr_nil ?_
        exact post_loopN (t - 1) ⟨rfl, rfl, rfl, trivial⟩ ⟨by omega, by omega, by rw [hl, show t - 1 + 1 = t by omega], hE⟩ (by omega)
    · intro ht
      simp at ht
      refine wc_exit (post_thenE (post_loopE (post_blockX (post_thenN (wc_seq ?_)))))
      refine wc_region [0,1] rfl ?_
      refine Go.Sx.V rfl wu rfl rfl (asg rfl) ?_
      refine Go.Sx.V rfl wu rfl rfl (asg rfl) ?_
      refine wr_nil (post_thenN (wc_ret ?_))
      refine post_ret2 rfl rfl rfl ?_
      refine ⟨hE, ?_⟩
      rw [show (t + 1).toNat = 0 by omega, limF] at hl
      rw [lim, if_neg (by omega), if_pos hl]
      rfl
set_option maxRecDepth 10000 in
theorem alive41 (w : World) : Calls Tryz.prog 9 #[] w (RetX w fun v _ => v = .bool true) := by
  have hE : Ext w w := Ext.refl w
  have hpv : PV (par 7 2 4) = .tuple #[.agg [Value.int .i64 3, .int .i64 8, .int .i64 8].toArray, .int .i64 0] := by rw [alive1]; rfl
  refine calls0 Tryz.func9 rfl ?_
  refine wc_seq ?_
  refine wc_region [0] rfl ?_
  refine Go.Sx.V rfl wu rfl rfl (asg rfl) ?_
  refine wr_nil (post_thenN (wc_seq ?_))
  refine wc_region [0,1,2,3,4,5,6] rfl ?_
  refine C rfl wu rfl rfl Tryz.call28 (lParams 7 2 4 _) ?_
  rintro _ w2 hE2 rfl
  replace hE := hE.trans hE2
  rw [hpv]
  refine Go.Sx.V rfl wu rfl rfl (mv rfl) ?_
  refine Go.Sx.V rfl wu rfl rfl (ext rfl rfl) ?_
  refine Go.Sx.V rfl wu rfl rfl (ext rfl rfl) ?_
  refine AL rfl wu rfl zv43 ?_
  intro b w3 hE3 hB hb
  refine STB (vs := [.int .i64 3, .int .i64 8, .int .i64 8]) (cs' := [.int .i64 3, .int .i64 8, .int .i64 8]) rfl wu rfl rfl rfl sv43 (by intro h; cases h) (by assumption) (by first | (simp [Value.oneCell']; done) | (intro v hv; simp only [List.mem_cons, List.not_mem_nil, or_false] at hv; rcases hv with rfl | rfl | rfl | rfl | rfl <;> first | rfl | assumption) | (intro v hv; simp only [List.mem_cons, List.not_mem_nil, or_false] at hv; rcases hv with rfl | rfl | rfl <;> first | rfl | assumption) | (intro v hv; simp only [List.mem_cons, List.not_mem_nil, or_false] at hv; rcases hv with rfl | rfl <;> first | rfl | assumption)) rfl rfl rfl ?_
  intro w4 hg hX hB
  refine Go.Sx.V rfl wu rfl rfl (asg rfl) ?_
  refine wr_nil (post_thenN (wc_seq ?_))
  replace hE := hX _ (by have := hE.size; omega) (hE.trans hE3)
  refine wc_region [0,1,2,3,4,5] rfl ?_
  refine C rfl wu rfl rfl Tryz.call29 (lLimit 7 2 _) ?_
  rintro _ w5 hE5 rfl
  replace hB := hB.ext hE5
  replace hE := hE.trans hE5
  rw [alive2]
  refine Go.Sx.V rfl wu rfl rfl (mv rfl) ?_
  refine Go.Sx.V rfl wu rfl rfl (ext rfl rfl) ?_
  refine Go.Sx.V rfl wu rfl rfl (ext rfl rfl) ?_
  refine Go.Sx.V rfl wu rfl rfl (asg rfl) ?_
  refine Go.Sx.V rfl wu rfl rfl (asg rfl) ?_
  refine wr_nil (post_thenN (wc_seq ?_))
  refine wc_region [0,1,2,3,4,5,6,7,8,9,10,11,12,13,14,15] rfl ?_
  refine Go.Sx.V rfl wu rfl rfl (mv rfl) ?_
  refine Go.Sx.V rfl wu rfl rfl (eqlI rfl rfl) ?_
  refine Go.Sx.V rfl wu rfl rfl (mv rfl) ?_
  refine KB 15 true rfl (by simp) ?_
  refine Go.Sx.V rfl (wg rfl rfl) rfl rfl (ldA rfl ag43) ?_
  refine Go.Sx.V rfl (wg rfl rfl) rfl rfl (bld (us := [.int .i64 3, .int .i64 8, .int .i64 8]) (r := [.int .i64 3, .int .i64 8, .int .i64 8]) rfl (bd43 _ _ _)) ?_
  refine Go.Sx.V rfl (wg rfl rfl) rfl rfl (eqlS (xs := [3, 8, 8]) (ys := [3, 8, 8]) rfl rfl rfl rfl eqs43 eqg43) ?_
  refine Go.Sx.V rfl wu rfl rfl (pk rfl rfl) ?_
  refine Go.Sx.V rfl wu rfl rfl (mv rfl) ?_
  refine AND (π1 := [8,9,10]) (π2 := [11,12,13,14,15]) (tc := 20) (tp := 23) rfl rfl rfl (by
      intro hg
      simp at hg
      refine Go.Sx.V rfl (wg rfl rfl) rfl rfl (mv rfl) ?_
      refine Go.Sx.V rfl (wg rfl rfl) rfl rfl (eqlI rfl rfl) ?_
      refine Go.Sx.V rfl wu rfl rfl (pk rfl rfl) ?_
      exact join rfl) (by
      intro _
      refine SK rfl rfl rfl rfl rfl ?_
      refine SK rfl rfl rfl rfl rfl ?_
      refine Go.Sx.V rfl wu rfl rfl (pk rfl rfl) ?_
      exact join rfl) ?_
  refine Go.Sx.V rfl wu rfl rfl (mv rfl) ?_
  refine AND (π1 := [12,13,14]) (π2 := [15]) (tc := 24) (tp := 27) rfl rfl rfl (by
      intro hg
      simp at hg
      refine Go.Sx.V rfl (wg rfl rfl) rfl rfl (mv rfl) ?_
      refine Go.Sx.V rfl (wg rfl rfl) rfl rfl (eqlI rfl rfl) ?_
      refine Go.Sx.V rfl wu rfl rfl (pk rfl rfl) ?_
      exact join rfl) (by
      intro _
      refine SK rfl rfl rfl rfl rfl ?_
      refine SK rfl rfl rfl rfl rfl ?_
      refine Go.Sx.V rfl wu rfl rfl (pk rfl rfl) ?_
      exact join rfl) ?_
  refine Go.Sx.V rfl wu rfl rfl (asg rfl) ?_
  refine wr_nil (post_thenN (wc_ret ?_))
  refine post_ret1 rfl rfl ?_
  exact ⟨hE, rfl⟩
end Go.Proofs.YtmnojknfjbimdaaGreat

