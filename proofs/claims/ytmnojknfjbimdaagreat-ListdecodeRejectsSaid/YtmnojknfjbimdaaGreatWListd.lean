/-
  The parameters of the list decoder, the program's and the reference's, by contract.
-/
import Derived.Test.YtmnojknfjbimdaaGreatWListdPlain
import Derived.Test.YtmnojknfjbimdaaGreatWMTya
namespace Go.Proofs.YtmnojknfjbimdaaGreat
open Go Go.Sx Go.Pl Go.RowKit Go.Ld
theorem lWeight (k : Int) (w : World) (h : 0 ≤ k ∧ k ≤ 64) :
    Calls Tryz.prog 60 #[.int .i64 k] w (RetX w fun v _ => v = .int .i64 (wt k)) := by
  refine calls1 Tryz.func60 rfl rfl ?_
  refine wc_seq ?_
  refine wc_region [0] rfl ?_
  refine Go.Sx.V rfl wu rfl rfl (asg rfl) ?_
  refine wr_nil (post_thenN (wc_seq ?_))
  refine wc_region [0,1,2,3] rfl ?_
  refine Go.Sx.V rfl wu rfl rfl (mv rfl) ?_
  refine Go.Sx.V rfl wu rfl rfl (subI rfl rfl) ?_
  refine Go.Sx.V rfl wu rfl rfl (maxI rfl rfl) ?_
  refine Go.Sx.V rfl wu rfl rfl (asg rfl) ?_
  refine wr_nil (post_thenN (wc_ret ?_))
  refine post_ret1 rfl rfl ?_
  exact ⟨Ext.refl _, rfl⟩
theorem rWeight (k : Int) (w : World) (h : 0 ≤ k ∧ k ≤ 64) :
    Calls Tryz.prog 21 #[.int .i64 k] w (RetX w fun v _ => v = .int .i64 (wt k)) := by
  refine calls1 Tryz.func21 rfl rfl ?_
  refine wc_seq ?_
  refine wc_region [0] rfl ?_
  refine Go.Sx.V rfl wu rfl rfl (asg rfl) ?_
  refine wr_nil (post_thenN (wc_seq ?_))
  refine wc_region [0,1,2,3] rfl ?_
  refine Go.Sx.V rfl wu rfl rfl (mv rfl) ?_
  refine Go.Sx.V rfl wu rfl rfl (subI rfl rfl) ?_
  refine Go.Sx.V rfl wu rfl rfl (maxI rfl rfl) ?_
  refine Go.Sx.V rfl wu rfl rfl (asg rfl) ?_
  refine wr_nil (post_thenN (wc_ret ?_))
  refine post_ret1 rfl rfl ?_
  exact ⟨Ext.refl _, rfl⟩
theorem round_le {d w j : Int} (hd : 0 ≤ d ∧ d ≤ 8000) (hw : 1 ≤ w ∧ w ≤ 64) (hj : 0 ≤ j ∧ w * j ≤ d) : j ≤ d ∧ 0 ≤ w * j ∧ 0 ≤ tmJ d w j.toNat ∧ tmJ d w j.toNat ≤ 64008000 ∧ tmJ d w (j + 1).toNat = tmJ d w j.toNat + (d - w * j + 1) := by
  have h0 : 0 ≤ w * j := Int.mul_nonneg (by omega) hj.1
  have h1 : 1 * j ≤ w * j := Int.mul_le_mul_of_nonneg_right hw.1 hj.1
  have h2 : w * (j - 1) = w * j - w := by rw [Int.mul_sub, Int.mul_one]
  have h3 := tmJ_pos d w hd.1 hw.1 j.toNat (.inr (by rw [show ((j.toNat : Nat) : Int) = j by omega]; omega))
  rw [show ((j.toNat : Nat) : Int) = j by omega] at h3
  have h4 : j * (d + 1) ≤ 8000 * 8001 := Int.mul_le_mul (by omega) (by omega) (by omega) (by omega)
  refine ⟨by omega, h0, h3.2.1, by omega, ?_⟩
  rw [show (j + 1).toNat = j.toNat + 1 by omega, tmJ, show ((j.toNat : Nat) : Int) = j by omega]
theorem le_div {d w j : Int} (hw : 1 ≤ w) : w * j ≤ d ↔ j ≤ d / w := by
  rw [Int.mul_comm]
  exact (Int.le_ediv_iff_mul_le (by omega)).symm
theorem lTerms (d wv : Int) (w : World) (hd : 0 ≤ d ∧ d ≤ 8000) (hw : 1 ≤ wv ∧ wv ≤ 64) :
    Calls Tryz.prog 125 #[.int .i64 d, .int .i64 wv] w (RetX w fun v _ => v = .int .i64 (tm d wv)) := by
  have hq0 : 0 ≤ d / wv := Int.ediv_nonneg hd.1 (by omega)
  have hq1 : d / wv ≤ d := Int.ediv_le_self _ hd.1
  refine calls2 Tryz.func125 rfl rfl ?_
  refine wc_seq ?_
  refine wc_region [0] rfl ?_
  refine Go.Sx.V rfl wu rfl rfl (asg rfl) ?_
  refine wr_nil (post_thenN (wc_seq ?_))
  refine wc_region [0] rfl ?_
  refine Go.Sx.V rfl wu rfl rfl (asg rfl) ?_
  refine wr_nil (post_thenN (wc_seq (wc_seq ?_)))
  refine wc_region [0] rfl ?_
  refine Go.Sx.V rfl wu rfl rfl (asg rfl) ?_
  refine wr_nil (post_thenN (wc_block ?_))
  refine wc_loop (fun j : Int => [(0, .int .i64 d), (1, .int .i64 wv), (5, .int .i64 (tmJ d wv j.toNat)), (6, .int .i64 j)])
    (fun j w' => 0 ≤ j ∧ j ≤ d / wv + 1 ∧ w' = w) (fun j => (d / wv + 1 - j).toNat) 0 ⟨rfl, rfl, rfl, rfl, trivial⟩ ⟨by omega, by omega, rfl⟩ ?_
  rintro j w' ⟨h0, h1, rfl⟩
  try dsimp only
  refine wc_seq (wc_seq ?_)
  have hm : 0 ≤ wv * j ∧ wv * j ≤ 64 * 8001 := ⟨Int.mul_nonneg (by omega) h0, Int.mul_le_mul hw.2 (by omega) h0 (by omega)⟩
  refine wc_region [0,1,2,3,4] rfl ?_
  refine Go.Sx.V rfl wu rfl rfl (mv rfl) ?_
  refine Go.Sx.V rfl wu rfl rfl (mv rfl) ?_
  refine Go.Sx.V rfl wu rfl rfl (mulI rfl rfl) ?_
  refine Go.Sx.V rfl wu rfl rfl (mv rfl) ?_
  refine Go.Sx.V rfl wu rfl rfl (leqI rfl rfl) ?_
  refine wr_nil (post_thenN ?_)
  refine wc_cond rfl ?_ ?_
  · intro h
    simp at h
    refine wc_skip (post_thenN (wc_seq (wc_block ?_)))
    obtain ⟨b1, b2, b3, b4, b5⟩ := round_le hd hw ⟨h0, h⟩
    have hj := (le_div hw.1).1 h
    refine wc_region [0,1,2,3,4,5,6,7,8] rfl ?_
    refine Go.Sx.V rfl wu rfl rfl (mv rfl) ?_
    refine Go.Sx.V rfl wu rfl rfl (mv rfl) ?_
    refine Go.Sx.V rfl wu rfl rfl (mv rfl) ?_
    refine Go.Sx.V rfl wu rfl rfl (mv rfl) ?_
    refine Go.Sx.V rfl wu rfl rfl (mulI rfl rfl) ?_
    refine Go.Sx.V rfl wu rfl rfl (subI rfl rfl) ?_
    refine Go.Sx.V rfl wu rfl rfl (addI rfl rfl) ?_
    refine Go.Sx.V rfl wu rfl rfl (addI rfl rfl) ?_
    refine Go.Sx.V rfl wu rfl rfl (asg rfl) ?_
    refine wr_nil (post_blockN (post_thenN ?_))
    rw [← b5]
    refine wc_region [0,1,2] rfl ?_
    refine Go.Sx.V rfl wu rfl rfl (mv rfl) ?_
    refine Go.Sx.V rfl wu rfl rfl (addI rfl rfl) ?_
    refine Go.Sx.V rfl wu rfl rfl (asg rfl) ?_
    refine wr_nil ?_
    exact post_loopN (j + 1) ⟨rfl, rfl, rfl, rfl, trivial⟩ ⟨by omega, by omega, rfl⟩ (by omega)
  · intro h
    simp at h
    refine wc_exit (post_thenE (post_loopE (post_blockX (post_thenN (wc_seq ?_)))))
    refine wc_region [0,1] rfl ?_
    refine Go.Sx.V rfl wu rfl rfl (mv rfl) ?_
    refine Go.Sx.V rfl wu rfl rfl (asg rfl) ?_
    refine wr_nil (post_thenN (wc_ret ?_))
    refine post_ret1 rfl rfl ?_
    refine ⟨Ext.refl _, ?_⟩
    have hj : ¬ j ≤ d / wv := fun hc => absurd ((le_div hw.1).2 hc) (by omega)
    have e : j.toNat = (d / wv).toNat.succ := by omega
    rw [e]; rfl
theorem rTerms (d wv : Int) (w : World) (hd : 0 ≤ d ∧ d ≤ 8000) (hw : 1 ≤ wv ∧ wv ≤ 64) :
    Calls Tryz.prog 39 #[.int .i64 wv, .int .i64 (d / wv), .int .i64 d] w (RetX w fun v _ => v = .int .i64 (tm d wv)) := by
  have hq0 : 0 ≤ d / wv := Int.ediv_nonneg hd.1 (by omega)
  have hq1 : d / wv ≤ d := Int.ediv_le_self _ hd.1
  refine calls3 Tryz.func39 rfl rfl ?_
  refine wc_seq ?_
  refine wc_region [0] rfl ?_
  refine Go.Sx.V rfl wu rfl rfl (asg rfl) ?_
  refine wr_nil (post_thenN (wc_seq ?_))
  refine wc_region [0] rfl ?_
  refine Go.Sx.V rfl wu rfl rfl (asg rfl) ?_
  refine wr_nil (post_thenN (wc_seq (wc_seq ?_)))
  refine wc_region [0] rfl ?_
  refine Go.Sx.V rfl wu rfl rfl (asg rfl) ?_
  refine wr_nil (post_thenN (wc_block ?_))
  refine wc_loop (fun j : Int => [(0, .int .i64 wv), (1, .int .i64 (d / wv)), (2, .int .i64 d), (7, .int .i64 (tmJ d wv j.toNat)), (8, .int .i64 j)])
    (fun j w' => 0 ≤ j ∧ j ≤ d / wv + 1 ∧ w' = w) (fun j => (d / wv + 1 - j).toNat) 0 ⟨rfl, rfl, rfl, rfl, rfl, trivial⟩ ⟨by omega, by omega, rfl⟩ ?_
  rintro j w' ⟨h0, h1, rfl⟩
  try dsimp only
  refine wc_seq (wc_seq ?_)
  refine wc_region [0,1,2] rfl ?_
  refine Go.Sx.V rfl wu rfl rfl (mv rfl) ?_
  refine Go.Sx.V rfl wu rfl rfl (mv rfl) ?_
  refine Go.Sx.V rfl wu rfl rfl (leqI rfl rfl) ?_
  refine wr_nil (post_thenN ?_)
  refine wc_cond rfl ?_ ?_
  · intro h
    simp at h
    refine wc_skip (post_thenN (wc_seq (wc_block (wc_seq ?_))))
    have hj := (le_div hw.1).2 h
    obtain ⟨b1, b2, b3, b4, b5⟩ := round_le hd hw ⟨h0, hj⟩
    refine wc_region [0,1,2,3,4,5] rfl ?_
    refine Go.Sx.V rfl wu rfl rfl (mv rfl) ?_
    refine Go.Sx.V rfl wu rfl rfl (mv rfl) ?_
    refine Go.Sx.V rfl wu rfl rfl (mv rfl) ?_
    refine Go.Sx.V rfl wu rfl rfl (mulI rfl rfl) ?_
    refine Go.Sx.V rfl wu rfl rfl (subI rfl rfl) ?_
    refine Go.Sx.V rfl wu rfl rfl (geqI rfl rfl) ?_
    refine wr_nil (post_thenN ?_)
    refine wc_condT rfl (by simp; omega) ?_
    refine wc_region [0,1,2,3,4,5,6,7,8] rfl ?_
    refine Go.Sx.V rfl wu rfl rfl (mv rfl) ?_
    refine Go.Sx.V rfl wu rfl rfl (mv rfl) ?_
    refine Go.Sx.V rfl wu rfl rfl (mv rfl) ?_
    refine Go.Sx.V rfl wu rfl rfl (mv rfl) ?_
    refine Go.Sx.V rfl wu rfl rfl (mulI rfl rfl) ?_
    refine Go.Sx.V rfl wu rfl rfl (subI rfl rfl) ?_
    refine Go.Sx.V rfl wu rfl rfl (addI rfl rfl) ?_
    refine Go.Sx.V rfl wu rfl rfl (addI rfl rfl) ?_
    refine Go.Sx.V rfl wu rfl rfl (asg rfl) ?_
    refine wr_nil (post_blockN (post_thenN ?_))
    rw [← b5]
    refine wc_region [0,1,2] rfl ?_
    refine Go.Sx.V rfl wu rfl rfl (mv rfl) ?_
    refine Go.Sx.V rfl wu rfl rfl (addI rfl rfl) ?_
    refine Go.Sx.V rfl wu rfl rfl (asg rfl) ?_
    refine wr_nil ?_
    exact post_loopN (j + 1) ⟨rfl, rfl, rfl, rfl, rfl, trivial⟩ ⟨by omega, by omega, rfl⟩ (by omega)
  · intro h
    simp at h
    refine wc_exit (post_thenE (post_loopE (post_blockX (post_thenN (wc_seq ?_)))))
    refine wc_region [0,1] rfl ?_
    refine Go.Sx.V rfl wu rfl rfl (mv rfl) ?_
    refine Go.Sx.V rfl wu rfl rfl (asg rfl) ?_
    refine wr_nil (post_thenN (wc_ret ?_))
    refine post_ret1 rfl rfl ?_
    refine ⟨Ext.refl _, ?_⟩
    have e : j.toNat = (d / wv).toNat.succ := by omega
    rw [e]; rfl
theorem lDegree (c wv : Int) (w : World) (hc : 0 ≤ c ∧ c ≤ 4096) (hw : 1 ≤ wv ∧ wv ≤ 64) :
    Calls Tryz.prog 85 #[.int .i64 c, .int .i64 wv] w (RetX w fun v _ => v = .int .i64 (deg c wv)) := by
  refine calls2 Tryz.func85 rfl rfl ?_
  refine wc_seq ?_
  refine wc_region [0] rfl ?_
  refine Go.Sx.V rfl wu rfl rfl (asg rfl) ?_
  refine wr_nil (post_thenN (wc_seq ?_))
  refine wc_region [0] rfl ?_
  refine Go.Sx.V rfl wu rfl rfl (asg rfl) ?_
  refine wr_nil (post_thenN (wc_seq (wc_block ?_)))
  refine wc_loop (fun d : Int => [(0, .int .i64 c), (1, .int .i64 wv), (5, .int .i64 d)])
    (fun d w' => 0 ≤ d ∧ d ≤ c + 1 ∧ deg c wv = degF c wv (9000 - d).toNat d ∧ Ext w w') (fun d => (c + 1 - d).toNat) 0 ⟨rfl, rfl, rfl, trivial⟩ ⟨by omega, by omega, rfl, Ext.refl _⟩ ?_
  rintro d w1 ⟨h0, h1, h2, hE⟩
  have hge := tm_ge d wv h0 hw.1
  try dsimp only
  refine wc_seq (wc_seq ?_)
  refine wc_region [0,1,2,3,4] rfl ?_
  refine Go.Sx.V rfl wu rfl rfl (mv rfl) ?_
  refine Go.Sx.V rfl wu rfl rfl (mv rfl) ?_
  refine C rfl wu rfl rfl Tryz.call125 (lTerms d wv _ ⟨h0, by omega⟩ hw) ?_
  rintro _ w2 hE2 rfl
  replace hE := hE.trans hE2
  refine Go.Sx.V rfl wu rfl rfl (mv rfl) ?_
  refine Go.Sx.V rfl wu rfl rfl (leqI rfl rfl) ?_
  refine wr_nil (post_thenN ?_)
  refine wc_cond rfl ?_ ?_
  · intro h
    simp at h
    refine wc_skip (post_thenN (wc_block ?_))
    refine wc_region [0,1,2] rfl ?_
    refine Go.Sx.V rfl wu rfl rfl (mv rfl) ?_
    refine Go.Sx.V rfl wu rfl rfl (addI rfl rfl) ?_
    refine Go.Sx.V rfl wu rfl rfl (asg rfl) ?_
    refine wr_nil (post_blockN ?_)
    exact post_loopN (d + 1) ⟨rfl, rfl, rfl, trivial⟩ ⟨by omega, by omega, by rw [h2]; exact degF_step h0 hw.1 (by omega) rfl h, hE⟩ (by omega)
  · intro h
    simp at h
    refine wc_exit (post_thenE (post_loopE (post_blockX (post_thenN (wc_seq ?_)))))
    refine wc_region [0,1] rfl ?_
    refine Go.Sx.V rfl wu rfl rfl (mv rfl) ?_
    refine Go.Sx.V rfl wu rfl rfl (asg rfl) ?_
    refine wr_nil (post_thenN (wc_ret ?_))
    refine post_ret1 rfl rfl ?_
    exact ⟨hE, by rw [h2, degF_stop (by omega)]⟩
def PV (r : List Int × Int) : Value := .tuple #[.agg (r.1.map (Value.int .i64)).toArray, .int .i64 r.2]
def ok3 (n k t m : Int) : Value := .tuple #[.agg (if cost n m ≤ 4096 then [.int .i64 m, .int .i64 (deg (cost n m) (wt k)), .int .i64 (deg (cost n m) (wt k) / wt k)] else [.int .i64 0, .int .i64 0, .int .i64 0]).toArray, .bool (okB n k t m)]
theorem wt_le {k : Int} (h : 0 ≤ k ∧ k ≤ 64) : 1 ≤ wt k ∧ wt k ≤ 64 := by unfold wt; omega
set_option maxRecDepth 10000 in
theorem lSuff (n k t m : Int) (w : World) (hn : 0 ≤ n ∧ n ≤ 64) (hk : 0 ≤ k ∧ k ≤ 64) (ht : 0 ≤ t ∧ t ≤ n) (hm : 0 ≤ m ∧ m ≤ 17) :
    Calls Tryz.prog 54 #[.int .i64 n, .int .i64 k, .int .i64 t, .int .i64 m] w (RetX w fun v _ => v = ok3 n k t m) := by
  obtain ⟨c1, c2⟩ := cost_le hn hm
  have hw := wt_le hk
  refine calls4 Tryz.func54 rfl rfl ?_
  refine wc_seq ?_
  refine wc_region [0,1] rfl ?_
  refine AL rfl wu rfl zv43 ?_
  intro b w1 hE hB hb
  refine Go.Sx.V rfl wu rfl rfl (asg rfl) ?_
  refine wr_nil (post_thenN (wc_seq ?_))
  refine wc_region [0,1,2,3,4,5,6,7] rfl ?_
  refine Go.Sx.V rfl wu rfl rfl (mv rfl) ?_
  refine Go.Sx.V rfl wu rfl rfl (mv rfl) ?_
  refine Go.Sx.V rfl wu rfl rfl (mulI rfl rfl) ?_
  refine Go.Sx.V rfl wu rfl rfl (mv rfl) ?_
  refine Go.Sx.V rfl wu rfl rfl (addI rfl rfl) ?_
  refine Go.Sx.V rfl wu rfl rfl (mulI rfl rfl) ?_
  refine Go.Sx.V rfl wu rfl rfl (quoI rfl rfl) ?_
  refine Go.Sx.V rfl wu rfl rfl (asg rfl) ?_
  refine wr_nil (post_thenN (wc_seq (wc_seq ?_)))
  have hcost : n * m * (m + 1) / 2 = cost n m := rfl
  have hc0 : 0 ≤ cost n m := by unfold cost; omega
  rw [hcost]
  refine wc_region [0,1] rfl ?_
  refine Go.Sx.V rfl wu rfl rfl (mv rfl) ?_
  refine Go.Sx.V rfl wu rfl rfl (gtrI rfl rfl) ?_
  refine wr_nil (post_thenN ?_)
  refine wc_cond rfl ?_ ?_
  · intro h
    simp at h
    refine wc_seq ?_
    refine wc_region [0,1,2] rfl ?_
    refine Go.Sx.V rfl wu rfl rfl (bld (us := []) (r := [.int .i64 0, .int .i64 0, .int .i64 0]) rfl bz43) ?_
    refine STB (vs := [.int .i64 0, .int .i64 0, .int .i64 0]) (cs' := [.int .i64 0, .int .i64 0, .int .i64 0]) rfl wu rfl rfl rfl sv43 (by intro h; cases h) (by assumption) (by first | (simp [Value.oneCell']; done) | (intro v hv; simp only [List.mem_cons, List.not_mem_nil, or_false] at hv; rcases hv with rfl | rfl | rfl | rfl | rfl <;> first | rfl | assumption) | (intro v hv; simp only [List.mem_cons, List.not_mem_nil, or_false] at hv; rcases hv with rfl | rfl | rfl <;> first | rfl | assumption) | (intro v hv; simp only [List.mem_cons, List.not_mem_nil, or_false] at hv; rcases hv with rfl | rfl <;> first | rfl | assumption)) rfl rfl rfl ?_
    intro w2 hg hX hB
    refine Go.Sx.V rfl wu rfl rfl (asg rfl) ?_
    refine wr_nil (post_thenN (wc_ret (post_thenR ?_)))
    refine post_retC2 rfl rfl rfl ag43 (by assumption) rfl ?_
    refine ⟨hX _ hb hE, ?_⟩
    simp [ok3, okB, show ¬ cost n m ≤ 4096 by omega]
  · intro h
    simp at h
    refine wc_skip (post_thenN (wc_seq ?_))
    have hd := deg_bound (c := cost n m) hw.1 9000 0 (by omega) (by omega)
    have hd : 0 ≤ deg (cost n m) (wt k) ∧ deg (cost n m) (wt k) ≤ 4097 := ⟨hd.1, by have := hd.2; unfold deg; omega⟩
    have hmt : 0 ≤ m * (n - t) ∧ m * (n - t) ≤ 17 * 64 := ⟨Int.mul_nonneg (by omega) (by omega), Int.mul_le_mul hm.2 (by omega) (by omega) (by omega)⟩
    refine wc_region [0,1,2] rfl ?_
    refine Go.Sx.V rfl wu rfl rfl (mv rfl) ?_
    refine C rfl wu rfl rfl Tryz.call60 (lWeight k _ hk) ?_
    rintro _ w2 hE2 rfl
    replace hB := hB.ext hE2
    replace hE := hE.trans hE2
    refine Go.Sx.V rfl wu rfl rfl (asg rfl) ?_
    refine wr_nil (post_thenN (wc_seq ?_))
    refine wc_region [0,1,2,3] rfl ?_
    refine Go.Sx.V rfl wu rfl rfl (mv rfl) ?_
    refine Go.Sx.V rfl wu rfl rfl (mv rfl) ?_
    refine C rfl wu rfl rfl Tryz.call85 (lDegree _ _ _ ⟨hc0, h⟩ hw) ?_
    rintro _ w3 hE3 rfl
    replace hB := hB.ext hE3
    replace hE := hE.trans hE3
    refine Go.Sx.V rfl wu rfl rfl (asg rfl) ?_
    refine wr_nil (post_thenN (wc_seq ?_))
    refine wc_region [0,1,2,3,4,5,6,7] rfl ?_
    refine Go.Sx.V rfl wu rfl rfl (mv rfl) ?_
    refine Go.Sx.V rfl wu rfl rfl (mv rfl) ?_
    refine Go.Sx.V rfl wu rfl rfl (mv rfl) ?_
    refine Go.Sx.V rfl wu rfl rfl (mv rfl) ?_
    refine Go.Sx.V rfl wu rfl rfl (quoI rfl rfl) ?_
    refine Go.Sx.V rfl wu rfl rfl (bld (us := [.int .i64 m, .int .i64 (deg (cost n m) (wt k)), .int .i64 (deg (cost n m) (wt k) / wt k)]) (r := [.int .i64 m, .int .i64 (deg (cost n m) (wt k)), .int .i64 (deg (cost n m) (wt k) / wt k)]) rfl (bd43 _ _ _)) ?_
    refine AL rfl wu rfl zv43 ?_
    intro b2 w4 hE4 hB4 hb4
    have hlt := hB.lt
    replace hB := hB.ext hE4
    refine STB (vs := [.int .i64 m, .int .i64 (deg (cost n m) (wt k)), .int .i64 (deg (cost n m) (wt k) / wt k)]) (cs' := [.int .i64 m, .int .i64 (deg (cost n m) (wt k)), .int .i64 (deg (cost n m) (wt k) / wt k)]) rfl wu rfl rfl rfl sv43 (by intro h; cases h) (by assumption) (by first | (simp [Value.oneCell']; done) | (intro v hv; simp only [List.mem_cons, List.not_mem_nil, or_false] at hv; rcases hv with rfl | rfl | rfl | rfl | rfl <;> first | rfl | assumption) | (intro v hv; simp only [List.mem_cons, List.not_mem_nil, or_false] at hv; rcases hv with rfl | rfl | rfl <;> first | rfl | assumption) | (intro v hv; simp only [List.mem_cons, List.not_mem_nil, or_false] at hv; rcases hv with rfl | rfl <;> first | rfl | assumption)) rfl rfl rfl ?_
    intro w5 hg5 hX5 hB5
    refine wr_nil (post_thenN (wc_seq ?_))
    replace hB := hB.grown hg5 (by intro hh; cases hh; omega)
    replace hE := hX5 _ (by have := hE.size; omega) (hE.trans hE4)
    refine wc_region [0,1,2,3,4,5,6,7,8,9,10,11,12,13,14] rfl ?_
    refine Go.Sx.V rfl wu rfl rfl (ldA rfl ag43) ?_
    refine Go.Sx.V rfl wu rfl rfl (fad rfl fa43_2) ?_
    refine Go.Sx.V rfl wu rfl rfl (ldB rfl na3) ?_
    refine Go.Sx.V rfl wu rfl rfl (leqI rfl rfl) ?_
    refine Go.Sx.V rfl wu rfl rfl (mv rfl) ?_
    refine AND (π1 := [5,6,7,8,9,10,11,12]) (π2 := [13,14]) (tc := 39) (tp := 47) rfl rfl rfl (by
        intro hg
        simp at hg
        refine Go.Sx.V rfl (wg rfl rfl) rfl rfl (mv rfl) ?_
        refine Go.Sx.V rfl (wg rfl rfl) rfl rfl (mv rfl) ?_
        refine Go.Sx.V rfl (wg rfl rfl) rfl rfl (mv rfl) ?_
        refine Go.Sx.V rfl (wg rfl rfl) rfl rfl (subI rfl rfl) ?_
        refine Go.Sx.V rfl (wg rfl rfl) rfl rfl (mulI rfl rfl) ?_
        refine Go.Sx.V rfl (wg rfl rfl) rfl rfl (mv rfl) ?_
        refine Go.Sx.V rfl (wg rfl rfl) rfl rfl (gtrI rfl rfl) ?_
        refine Go.Sx.V rfl wu rfl rfl (pk rfl rfl) ?_
        exact join rfl) (by
        intro _
        refine SK rfl rfl rfl rfl rfl ?_
        refine SK rfl rfl rfl rfl rfl ?_
        refine SK rfl rfl rfl rfl rfl ?_
        refine SK rfl rfl rfl rfl rfl ?_
        refine SK rfl rfl rfl rfl rfl ?_
        refine SK rfl rfl rfl rfl rfl ?_
        refine SK rfl rfl rfl rfl rfl ?_
        refine Go.Sx.V rfl wu rfl rfl (pk rfl rfl) ?_
        exact join rfl) ?_
    refine STB (vs := [.int .i64 m, .int .i64 (deg (cost n m) (wt k)), .int .i64 (deg (cost n m) (wt k) / wt k)]) (cs' := [.int .i64 m, .int .i64 (deg (cost n m) (wt k)), .int .i64 (deg (cost n m) (wt k) / wt k)]) rfl wu rfl rfl rfl sv43 (by intro h; cases h) (by assumption) (by first | (simp [Value.oneCell']; done) | (intro v hv; simp only [List.mem_cons, List.not_mem_nil, or_false] at hv; rcases hv with rfl | rfl | rfl | rfl | rfl <;> first | rfl | assumption) | (intro v hv; simp only [List.mem_cons, List.not_mem_nil, or_false] at hv; rcases hv with rfl | rfl | rfl <;> first | rfl | assumption) | (intro v hv; simp only [List.mem_cons, List.not_mem_nil, or_false] at hv; rcases hv with rfl | rfl <;> first | rfl | assumption)) rfl rfl rfl ?_
    intro w6 hg6 hX6 hB6
    refine Go.Sx.V rfl wu rfl rfl (asg rfl) ?_
    refine wr_nil (post_thenN (wc_ret ?_))
    refine post_retC2 rfl rfl rfl ag43 (by assumption) rfl ?_
    refine ⟨hX6 _ hb hE, ?_⟩
    simp [ok3, okB, h]
end Go.Proofs.YtmnojknfjbimdaaGreat

