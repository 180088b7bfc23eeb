/-
  The library's slices.Equal, EqualFunc and SortFunc (few elements) at lists of ints, and bits.Len at a small number, by contract.
-/
import Derived.Test.YtmnojknfjbimdaaGreatUMSxa
import Derived.Test.YtmnojknfjbimdaaGreatUCompare
import Derived.Test.YtmnojknfjbimdaaGreatUMPa
import Derived.Test.YtmnojknfjbimdaaGreatUMTya
namespace Go.Proofs.YtmnojknfjbimdaaGreat
open Go Go.Sx Go.Pl Go.RowKit Go.Fd
set_option maxRecDepth 10000 in
theorem bLen64 (n : Int) (w : World) (h0 : 0 ≤ n) (h1 : n ≤ 12) : Calls Tryz.prog 140 #[.int .u64 n] w (RetX w fun r _ => ∃ k, r = .int .i64 k) := by
  have hw8 : IntKind.u8.wrap n = n := by simp [IntKind.wrap, IntKind.bits, IntKind.signed]; omega
  refine calls1 Tryz.func140 rfl rfl ?_
  refine wc_seq ?_
  refine wc_region [0] rfl ?_
  refine Go.Sx.V rfl wu rfl rfl (asg rfl) ?_
  refine wr_nil (post_thenN (wc_seq (wc_seq ?_)))
  refine wc_region [0,1] rfl ?_
  refine Go.Sx.V rfl wu rfl rfl (mv rfl) ?_
  refine Go.Sx.V rfl wu rfl rfl (geqK rfl rfl) ?_
  refine wr_nil (post_thenN ?_)
  refine wc_condF rfl (by simp; omega) ?_
  refine wc_skip (post_thenN (wc_seq (wc_seq ?_)))
  refine wc_region [0,1] rfl ?_
  refine Go.Sx.V rfl wu rfl rfl (mv rfl) ?_
  refine Go.Sx.V rfl wu rfl rfl (geqK rfl rfl) ?_
  refine wr_nil (post_thenN ?_)
  refine wc_condF rfl (by simp; omega) ?_
  refine wc_skip (post_thenN (wc_seq (wc_seq ?_)))
  refine wc_region [0,1] rfl ?_
  refine Go.Sx.V rfl wu rfl rfl (mv rfl) ?_
  refine Go.Sx.V rfl wu rfl rfl (geqK rfl rfl) ?_
  refine wr_nil (post_thenN ?_)
  refine wc_condF rfl (by simp; omega) ?_
  refine wc_skip (post_thenN (wc_seq ?_))
  refine wc_region [0,1,2,3,4,5,6] rfl ?_
  refine Go.Sx.V rfl wu rfl rfl (mv rfl) ?_
  refine Go.Sx.V rfl wu rfl rfl (mv rfl) ?_
  refine Go.Sx.V rfl wu rfl rfl (cvK (q := .u8) rfl (by kernel_rfl) (by kernel_rfl)) ?_
  rw [hw8]
  refine Go.Sx.V rfl wu rfl rfl (ixS (u := n) rfl rfl (by kernel_rfl) h0 (by exact Int.lt_of_le_of_lt h1 (by decide +kernel))) ?_
  refine Go.Sx.V rfl wu rfl rfl (cvK (q := .i64) rfl (by kernel_rfl) (by kernel_rfl)) ?_
  refine Go.Sx.V rfl wu rfl rfl (addW rfl rfl) ?_
  refine Go.Sx.V rfl wu rfl rfl (asg rfl) ?_
  refine wr_nil (post_thenN (wc_ret ?_))
  refine post_ret1 rfl rfl ?_
  exact ⟨Ext.refl _, _, rfl⟩
set_option maxRecDepth 10000 in
theorem bLen (n : Int) (w : World) (h0 : 0 ≤ n) (h1 : n ≤ 12) : Calls Tryz.prog 97 #[.int .u64 n] w (RetX w fun r _ => ∃ k, r = .int .i64 k) := by
  refine calls1 Tryz.func97 rfl rfl ?_
  refine wc_seq ?_
  refine wc_region [0] rfl ?_
  refine Go.Sx.V rfl wu rfl rfl (asg rfl) ?_
  refine wr_nil (post_thenN (wc_seq ?_))
  refine wc_condF rfl (rfl) ?_
  refine wc_skip (post_thenN (wc_seq ?_))
  refine wc_region [0,1,2] rfl ?_
  refine Go.Sx.V rfl wu rfl rfl (mv rfl) ?_
  refine C rfl wu rfl rfl Tryz.call140 (bLen64 n _ h0 h1) ?_
  rintro _ w1 hE ⟨k, rfl⟩
  refine Go.Sx.V rfl wu rfl rfl (asg rfl) ?_
  refine wr_nil (post_thenN (wc_ret ?_))
  refine post_ret1 rfl rfl ?_
  exact ⟨hE, _, rfl⟩
end Go.Proofs.YtmnojknfjbimdaaGreat

