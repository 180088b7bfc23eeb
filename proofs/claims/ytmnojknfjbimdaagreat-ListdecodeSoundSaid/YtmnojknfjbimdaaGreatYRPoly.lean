/-
  The reference's polynomials, by contract: Canon, Degree, At, Add, Mul, Eval, Scale. Each answers the canonical list of the polynomial that is meant.
-/
import Derived.Test.YtmnojknfjbimdaaGreatYMPa
import Derived.Test.YtmnojknfjbimdaaGreatYRef6
import Derived.Test.YtmnojknfjbimdaaGreatYMTya
namespace Go.Fd
open Go.Pl Go.Alg
variable {P : FP}
theorem tab_succ {α : Type} (n : Nat) (f : Nat → α) : tab (n + 1) f = tab n f ++ [f n] := by simp [tab, List.range_succ]
theorem val1_part (z : List Int) (x : K P) (i : Nat) : val1 (Go.Alg.part (i + 1) (pz P z)) x = val1 (Go.Alg.part i (pz P z)) x + inK P (gi z i) * npow x i := by
  rw [val1, pev_part Hom.id, mul_comm (npow x i)]; rfl
theorem val1_part0 (f : Pol (K P)) (x : K P) : val1 (Go.Alg.part 0 f) x = 0 := by rw [part_zero]; exact (val1_hom x).zero
theorem val1_all (z : List Int) : Go.Alg.part z.length (pz P z) = pz P z := part_all fun _ h => co_pz_over h
end Go.Fd
namespace Go.Proofs.YtmnojknfjbimdaaGreat
open Go Go.Sx Go.Pl Go.RowKit Go.Fd Go.Alg
set_option maxRecDepth 10000 in
theorem rPEval (P : FP) (mo : Value) (md : List Int) (u : Value) (z : List Int) (x : Int) (w : World) (hF : FV w P mo md) (hu : Ints w u z) :
    Calls Tryz.prog 38 #[fv P mo, u, .int .i64 x] w (RetX w fun r _ => r = .int .i64 (val1 (pz P z) (inK P x)).1) := by
  have hle := hu.le
  refine calls3 Tryz.func38 rfl rfl ?_
  refine wc_seq ?_
  refine wc_region [0,1] rfl ?_
  refine BXA rfl wu rfl rfl ?_
  intro fb w1 hE hB hg
  refine Go.Sx.V rfl wu rfl rfl (asg rfl) ?_
  refine wr_nil (post_thenN (wc_seq ?_))
  refine wc_region [0] rfl ?_
  refine Go.Sx.V rfl wu rfl rfl (asg rfl) ?_
  refine wr_nil (post_thenN (wc_seq ?_))
  refine wc_region [0] rfl ?_
  refine Go.Sx.V rfl wu rfl rfl (asg rfl) ?_
  refine wr_nil (post_thenN (wc_seq (wc_seq ?_)))
  refine wc_region [0] rfl ?_
  refine Go.Sx.V rfl wu rfl rfl (asg rfl) ?_
  refine wr_nil (post_thenN (wc_block ?_))
  refine wc_loop (fun i : Nat => [(1, u), (2, .int .i64 x), (3, .pointer (some ⟨fb, 0, none⟩)), (7, .int .i64 (val1 (Go.Alg.part i (pz P z)) (inK P x)).1), (8, .int .i64 (npow (inK P x) i).1), (9, .int .i64 i)])
    (fun i w' => i ≤ z.length ∧ Ext w w' ∧ Ext w1 w') (fun i => z.length - i) 0 ⟨rfl, rfl, rfl, by rw [val1_part0]; rfl, rfl, rfl, trivial⟩ ⟨by omega, hE, Ext.refl _⟩ ?_
  clear hE
  rintro i w4 ⟨i1, hE, hE1⟩
  have hui := hu.ext hE
  have hBi := hB.ext hE1
  try dsimp only
  refine wc_seq (wc_seq ?_)
  refine wc_region [0,1,2,3] rfl ?_
  refine Go.Sx.V rfl wu rfl rfl (mv rfl) ?_
  refine Go.Sx.V rfl wu rfl rfl (mv rfl) ?_
  refine Go.Sx.V rfl wu rfl rfl (lenI rfl ty22) ?_
  refine Go.Sx.V rfl wu rfl rfl (lssI rfl rfl) ?_
  refine wr_nil (post_thenN ?_)
  refine wc_cond rfl ?_ ?_
  · intro hc
    simp at hc
    have hst := val1_part (P := P) z (inK P x) i
    refine wc_skip (post_thenN (wc_seq (wc_block (wc_seq ?_))))
    refine wc_draw mixed [0,1,2,3,4,5,6,7,8,9,10] (by kernel_rfl) ?_
    intro w5 hd _
    replace hE := hE.trans hd
    replace hE1 := hE1.trans hd
    replace hui := hui.ext hd
    replace hBi := hBi.ext hd
    refine Go.Sx.V rfl wu rfl rfl (ldA rfl ag24) ?_
    refine Go.Sx.V rfl wu rfl rfl (mv rfl) ?_
    refine Go.Sx.V rfl wu rfl rfl (ldA rfl ag24) ?_
    refine Go.Sx.V rfl wu rfl rfl (mv rfl) ?_
    refine Go.Sx.V rfl wu rfl rfl (mv rfl) ?_
    refine Go.Sx.V rfl wu rfl rfl (iadI rfl rfl ty22) ?_
    refine Go.Sx.V rfl wu rfl rfl (ldI rfl na3) ?_
    refine Go.Sx.V rfl wu rfl rfl (mv rfl) ?_
    refine C rfl wu rfl rfl Tryz.call37 (rMul P mo md _ _ _ (hF.ext hE)) ?_
    rintro _ w6 hE6 rfl
    replace hE := hE.trans hE6
    replace hE1 := hE1.trans hE6
    replace hBi := hBi.ext hE6
    refine C rfl wu rfl rfl Tryz.call70 (rAdd P mo md _ _ _ (hF.ext hE)) ?_
    rintro _ w6 hE6 rfl
    replace hE := hE.trans hE6
    replace hE1 := hE1.trans hE6
    replace hBi := hBi.ext hE6
    refine Go.Sx.V rfl wu rfl rfl (asg rfl) ?_
    refine wr_nil (post_thenN ?_)
    refine wc_region [0,1,2,3,4] rfl ?_
    refine Go.Sx.V rfl wu rfl rfl (ldA rfl ag24) ?_
    refine Go.Sx.V rfl wu rfl rfl (mv rfl) ?_
    refine Go.Sx.V rfl wu rfl rfl (mv rfl) ?_
    refine C rfl wu rfl rfl Tryz.call37 (rMul P mo md _ _ _ (hF.ext hE)) ?_
    rintro _ w6 hE6 rfl
    replace hE := hE.trans hE6
    replace hE1 := hE1.trans hE6
    refine Go.Sx.V rfl wu rfl rfl (asg rfl) ?_
    refine wr_nil (post_blockN (post_thenN ?_))
    refine wc_region [0,1,2] rfl ?_
    refine Go.Sx.V rfl wu rfl rfl (mv rfl) ?_
    refine Go.Sx.V rfl wu rfl rfl (addI rfl rfl) ?_
    refine Go.Sx.V rfl wu rfl rfl (asg rfl) ?_
    refine wr_nil ?_
    exact post_loopN (i + 1) ⟨rfl, rfl, rfl, by rw [hst, inK_val, inK_val, inK_val]; rfl, by rw [inK_val]; rfl, rfl, trivial⟩ ⟨by omega, hE, hE1⟩ (by omega)
  · intro hc
    simp at hc
    refine wc_exit (post_thenE (post_loopE (post_blockX (post_thenN (wc_seq ?_)))))
    refine wc_region [0,1] rfl ?_
    refine Go.Sx.V rfl wu rfl rfl (mv rfl) ?_
    refine Go.Sx.V rfl wu rfl rfl (asg rfl) ?_
    refine wr_nil (post_thenN (wc_ret ?_))
    refine post_ret1 rfl rfl ?_
    rw [show i = z.length by omega, val1_all]
    exact ⟨hE, rfl⟩
end Go.Proofs.YtmnojknfjbimdaaGreat

