/-
  The reference's irreducible and Check, by contract.
-/
import Derived.Test.YtmnojknfjbimdaaGreatYRef2
namespace Go.Proofs.YtmnojknfjbimdaaGreat
open Go Go.Sx Go.Pl Go.RowKit Go.Fd Go.Alg
set_option maxRecDepth 10000 in
theorem rIrr (b : Value) (md : List Int) (p : Int) (w : World) (hb : Ints w b md) (hp : 2 ≤ p ∧ p ≤ 256) (hm : Lo p md) (hm8 : md.length ≤ 8) (hq : p ^ md.length ≤ 256) :
    Calls Tryz.prog 100 #[b, .int .i64 p] w (RetX w fun v _ => v = .bool (irr md p)) := by
  refine calls2 Tryz.func100 rfl rfl ?_
  refine wc_seq ?_
  refine wc_region [0] rfl ?_
  refine Go.Sx.V rfl wu rfl rfl (asg rfl) ?_
  refine wr_nil (post_thenN (wc_seq ?_))
  refine wc_region [0] rfl ?_
  refine Go.Sx.V rfl wu rfl rfl (asg rfl) ?_
  refine wr_nil (post_thenN (wc_seq (wc_seq ?_)))
  refine wc_region [0] rfl ?_
  refine Go.Sx.V rfl wu rfl rfl (asg rfl) ?_
  refine wr_nil (post_thenN (wc_block ?_))
  refine wc_loop (fun d : Int => [(0, b), (1, .int .i64 p), (5, .int .i64 (p ^ (d - 1).toNat)), (6, .int .i64 d)])
    (fun d w' => 1 ≤ d ∧ 2 * d ≤ md.length + 2 ∧ Ext w w' ∧ irrB md p (d - 1).toNat = true) (fun d => (md.length + 2 - d).toNat) 1 ⟨rfl, rfl, by rw [show ((1 : Int) - 1).toNat = 0 from rfl, Int.pow_zero]; rfl, rfl, trivial⟩ ⟨by omega, by omega, Ext.refl _, rfl⟩ ?_
  rintro d w1 ⟨d0, d1, hE, hI⟩
  have hpd := pow_pos' hp.1 (d - 1).toNat
  have hpd2 := pow_mono hp.1 (m := (d - 1).toNat) (n := md.length) (by omega)
  try dsimp only
  refine wc_seq (wc_seq ?_)
  refine wc_region [0,1,2,3,4] rfl ?_
  refine Go.Sx.V rfl wu rfl rfl (mv rfl) ?_
  refine Go.Sx.V rfl wu rfl rfl (mulI rfl rfl) ?_
  refine Go.Sx.V rfl wu rfl rfl (mv rfl) ?_
  refine Go.Sx.V rfl wu rfl rfl (lenI rfl ty22) ?_
  refine Go.Sx.V rfl wu rfl rfl (leqI rfl rfl) ?_
  refine wr_nil (post_thenN ?_)
  refine wc_cond rfl ?_ ?_
  · intro hd
    simp at hd
    refine wc_skip (post_thenN (wc_seq (wc_block (wc_seq ?_))))
    have hm1 := mul_le' (a := p ^ (d - 1).toNat) (b := p) (c := 256) (d := 256) (by omega) (by omega) (by omega) (by omega)
    have hnx := pow_next (p := p) (d - 1) (by omega)
    rw [show d - 1 + 1 = d by omega] at hnx
    have hpd3 := pow_mono hp.1 (m := d.toNat) (n := md.length) (by omega)
    refine wc_region [0,1,2,3] rfl ?_
    refine Go.Sx.V rfl wu rfl rfl (mv rfl) ?_
    refine Go.Sx.V rfl wu rfl rfl (mv rfl) ?_
    refine Go.Sx.V rfl wu rfl rfl (mulI rfl rfl) ?_
    refine Go.Sx.V rfl wu rfl rfl (asg rfl) ?_
    refine wr_nil (post_thenN (wc_seq ?_))
    rw [← hnx]
    refine wc_region [0] rfl ?_
    refine Go.Sx.V rfl wu rfl rfl (asg rfl) ?_
    refine wr_nil (post_thenN (wc_block ?_))
    refine wc_loop (fun v : Int => [(0, b), (1, .int .i64 p), (5, .int .i64 (p ^ d.toNat)), (6, .int .i64 d), (7, .int .i64 v)])
      (fun v w' => 0 ≤ v ∧ v ≤ p ^ d.toNat ∧ Ext w w' ∧ noDv md p d.toNat v.toNat = true) (fun v => (p ^ d.toNat - v).toNat) 0 ⟨rfl, rfl, rfl, rfl, rfl, trivial⟩ ⟨by omega, by omega, hE, rfl⟩ ?_
    clear hE
    rintro v w2 ⟨v0, v1, hE, hN⟩
    try dsimp only
    refine wc_seq (wc_seq ?_)
    refine wc_region [0,1,2] rfl ?_
    refine Go.Sx.V rfl wu rfl rfl (mv rfl) ?_
    refine Go.Sx.V rfl wu rfl rfl (mv rfl) ?_
    refine Go.Sx.V rfl wu rfl rfl (lssI rfl rfl) ?_
    refine wr_nil (post_thenN ?_)
    refine wc_cond rfl ?_ ?_
    · intro hv
      simp at hv
      refine wc_skip (post_thenN (wc_seq (wc_block (wc_seq ?_))))
      have hdl := dig_length p d.toNat v
      refine wc_region [0,1,2,3,4,5,6] rfl ?_
      refine Go.Sx.V rfl wu rfl rfl (mv rfl) ?_
      refine Go.Sx.V rfl wu rfl rfl (mv rfl) ?_
      refine Go.Sx.V rfl wu rfl rfl (mv rfl) ?_
      have hcd := rDigits v p d.toNat w2 ⟨v0, by omega⟩ hp (by omega)
      rw [show ((d.toNat : Nat) : Int) = d by omega] at hcd
      refine C rfl wu rfl rfl Tryz.call101 hcd ?_
      rintro a w3 hE3 ⟨ha, _⟩
      replace hE := hE.trans hE3
      refine Go.Sx.V rfl wu rfl rfl (mv rfl) ?_
      refine Go.Sx.V rfl wu rfl rfl (mv rfl) ?_
      refine C rfl wu rfl rfl Tryz.call142 (rDivides a b (dig p d.toNat v) md p _ ha.ints (hb.ext hE) hp (dig_lo hp.1 _ _) hm (by omega) hm8) ?_
      rintro _ w4 hE4 rfl
      replace hE := hE.trans hE4
      refine wr_nil (post_thenN ?_)
      refine wc_cond rfl ?_ ?_
      · intro hdv
        refine wc_seq ?_
        refine wc_region [0] rfl ?_
        refine Go.Sx.V rfl wu rfl rfl (asg rfl) ?_
        refine wr_nil (post_thenN (wc_ret (post_blockR (post_thenR (post_loopR (post_blockR (post_blockR (post_thenR (post_loopR (post_blockR (post_thenR ?_)))))))))))
        refine post_ret1 rfl rfl ?_
        refine ⟨hE, ?_⟩
        have hdv' : dv (dig p ((d - 1).toNat + 1) (v.toNat : Nat)) md p = true := by
          rw [show (d - 1).toNat + 1 = d.toNat by omega, show ((v.toNat : Nat) : Int) = v by omega]
          exact hdv
        have := irr_false hdv' (by rw [show (d - 1).toNat + 1 = d.toNat by omega]; omega) (md.length / 2) (by omega)
        rw [irr, this]
      · intro hdv
        refine wc_skip (post_blockN (post_thenN ?_))
        refine wc_region [0,1,2] rfl ?_
        refine Go.Sx.V rfl wu rfl rfl (mv rfl) ?_
        refine Go.Sx.V rfl wu rfl rfl (addI rfl rfl) ?_
        refine Go.Sx.V rfl wu rfl rfl (asg rfl) ?_
        refine wr_nil ?_
        refine post_loopN (v + 1) ⟨rfl, rfl, rfl, rfl, rfl, trivial⟩ ⟨by omega, by omega, hE, ?_⟩ (by omega)
        rw [show (v + 1).toNat = v.toNat + 1 by omega, noDv, hN, show ((v.toNat : Nat) : Int) = v by omega, hdv]
        rfl
    · intro hv
      simp at hv
      refine wc_exit (post_thenE (post_loopE (post_blockX (post_blockN (post_thenN ?_)))))
      refine wc_region [0,1,2] rfl ?_
      refine Go.Sx.V rfl wu rfl rfl (mv rfl) ?_
      refine Go.Sx.V rfl wu rfl rfl (addI rfl rfl) ?_
      refine Go.Sx.V rfl wu rfl rfl (asg rfl) ?_
      refine wr_nil ?_
      refine post_loopN (d + 1) ⟨rfl, rfl, by rw [show (d + 1 - 1).toNat = d.toNat by omega]; rfl, rfl, trivial⟩ ⟨by omega, by omega, hE, ?_⟩ (by omega)
      have hvp : v.toNat = (p ^ d.toNat).toNat := by omega
      rw [hvp] at hN
      rw [show (d + 1 - 1).toNat = (d - 1).toNat + 1 by omega, irrB, hI, show (d - 1).toNat + 1 = d.toNat by omega, hN]
      rfl
  · intro hd
    simp at hd
    refine wc_exit (post_thenE (post_loopE (post_blockX (post_thenN (wc_seq ?_)))))
    refine wc_region [0] rfl ?_
    refine Go.Sx.V rfl wu rfl rfl (asg rfl) ?_
    refine wr_nil (post_thenN (wc_ret ?_))
    refine post_ret1 rfl rfl ?_
    refine ⟨hE, ?_⟩
    rw [irr, show md.length / 2 = (d - 1).toNat by omega, hI]
end Go.Proofs.YtmnojknfjbimdaaGreat

