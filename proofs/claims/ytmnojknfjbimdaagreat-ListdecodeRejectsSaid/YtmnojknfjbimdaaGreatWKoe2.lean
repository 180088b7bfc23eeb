/-
  The package bivariate, by contract, part 6: meet; division of the field.
-/
import Derived.Test.YtmnojknfjbimdaaGreatWKoe1
import Derived.Test.YtmnojknfjbimdaaGreatWMPa
import Derived.Test.YtmnojknfjbimdaaGreatWMSxa
import Derived.Test.YtmnojknfjbimdaaGreatWMTya
import Derived.Test.YtmnojknfjbimdaaGreatWGF2
namespace Go.Proofs.YtmnojknfjbimdaaGreat
open Go Go.Sx Go.Pl Go.RowKit Go.Fd Go.Alg
theorem gDiv (P : FP) (g : Value) (x y : Int) (w : World) (hG : GFV w P g) (hy : inK P y ≠ 0) :
    Calls Tryz.prog 56 #[g, .int .i64 x, .int .i64 y] w (RetX w fun v _ => v = .tuple #[.int .i64 (inK P x * invK P (inK P y)).1, .int .i64 0]) := by
  refine calls3 Tryz.func56 rfl rfl ?_
  refine wc_seq ?_
  refine wc_region [0,1] rfl ?_
  refine Go.Sx.V rfl wu rfl rfl (asg rfl) ?_
  refine Go.Sx.V rfl wu rfl rfl (asg rfl) ?_
  refine wr_nil (post_thenN (wc_seq ?_))
  refine wc_region [0,1,2,3,4,5,6,7] rfl ?_
  refine Go.Sx.V rfl wu rfl rfl (mv rfl) ?_
  refine Go.Sx.V rfl wu rfl rfl (mv rfl) ?_
  refine C rfl wu rfl rfl Tryz.call86 (gInv P g y _ hG) ?_
  rintro _ w2 hE rfl
  rw [if_neg hy]
  refine Go.Sx.V rfl wu rfl rfl (mv rfl) ?_
  refine Go.Sx.V rfl wu rfl rfl (ext rfl rfl) ?_
  refine Go.Sx.V rfl wu rfl rfl (ext rfl rfl) ?_
  refine Go.Sx.V rfl wu rfl rfl (asg rfl) ?_
  refine Go.Sx.V rfl wu rfl rfl (asg rfl) ?_
  refine wr_nil (post_thenN (wc_seq (wc_seq ?_)))
  refine wc_region [0,1] rfl ?_
  refine Go.Sx.V rfl wu rfl rfl (mv rfl) ?_
  refine Go.Sx.V rfl wu rfl rfl (neqI rfl rfl) ?_
  refine wr_nil (post_thenN ?_)
  refine wc_condF rfl (by simp) ?_
  refine wc_skip (post_thenN (wc_seq ?_))
  refine wc_region [0,1,2,3,4,5] rfl ?_
  refine Go.Sx.V rfl wu rfl rfl (mv rfl) ?_
  refine Go.Sx.V rfl wu rfl rfl (mv rfl) ?_
  refine Go.Sx.V rfl wu rfl rfl (mv rfl) ?_
  refine C rfl wu rfl rfl Tryz.call87 (gMul P g _ _ _ (hG.ext hE)) ?_
  rintro _ w3 hE3 rfl
  refine Go.Sx.V rfl wu rfl rfl (asg rfl) ?_
  refine Go.Sx.V rfl wu rfl rfl (asg rfl) ?_
  refine wr_nil (post_thenN (wc_ret ?_))
  refine post_ret2 rfl rfl rfl ?_
  exact ⟨hE.trans hE3, by rw [inK_val]⟩
end Go.Proofs.YtmnojknfjbimdaaGreat

