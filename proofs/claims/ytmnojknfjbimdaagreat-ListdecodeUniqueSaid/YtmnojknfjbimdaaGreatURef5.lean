/-
  The reference's functions of a field's elements, by contract: Is, In, Digits, Value, Add, Neg, Sub, Mul, Dot. They answer as the ring of residues does.
-/
import Derived.Test.YtmnojknfjbimdaaGreatUMRfa
import Derived.Test.YtmnojknfjbimdaaGreatUMGa
namespace Go.Proofs.YtmnojknfjbimdaaGreat
open Go Go.Sx Go.Pl Go.RowKit Go.Fd Go.Alg
theorem FV.ord {w : World} {P : FP} {mo : Value} {md : List Int} (h : FV w P mo md) : ordZ P.p P.M = P.q := by
  have h1 := P.hp
  have h2 := P.hM
  have h3 := h.p
  have h4 := h.m
  have h5 : P.p ^ P.M ≤ 256 := h.q
  rw [ordZ, show ((P.M : Int)).toNat = P.M by omega, if_neg (by omega)]
  rfl
theorem rIs (P : FP) (mo : Value) (md : List Int) (x : Int) (w : World) (hF : FV w P mo md) :
    Calls Tryz.prog 36 #[fv P mo, .int .i64 x] w (RetX w fun v _ => v = .bool (decide (0 ≤ x) && decide (x < P.q))) := by
  refine calls2 Tryz.func36 rfl rfl ?_
  refine wc_seq ?_
  refine wc_region [0,1] rfl ?_
  refine BXA rfl wu rfl rfl ?_
  intro g w1 hE hB hg
  refine Go.Sx.V rfl wu rfl rfl (asg rfl) ?_
  refine wr_nil (post_thenN (wc_seq ?_))
  refine wc_region [0,1,2,3,4,5,6,7,8] rfl ?_
  refine Go.Sx.V rfl wu rfl rfl (mv rfl) ?_
  refine Go.Sx.V rfl wu rfl rfl (geqI rfl rfl) ?_
  refine Go.Sx.V rfl wu rfl rfl (mv rfl) ?_
  refine ANDX (π1 := [3,4,5,6,7]) (π2 := [8]) (tc := 7) (tp := 12) rfl rfl rfl (by
      intro hg
      simp at hg
      refine Go.Sx.V rfl (wg rfl rfl) rfl rfl (mv rfl) ?_
      refine Go.Sx.V rfl (wg rfl rfl) rfl rfl (ldA rfl ag24) ?_
      refine C rfl (wg rfl rfl) rfl rfl Tryz.call67 (rOrder P.p P.M mo _) ?_
      rintro _ w2 hE2 rfl
      refine Go.Sx.V rfl (wg rfl rfl) rfl rfl (lssI rfl rfl) ?_
      refine Go.Sx.V rfl wu rfl rfl (pk rfl rfl) ?_
      exact joinX rfl) (by
      intro _
      refine SK rfl rfl rfl rfl rfl ?_
      refine SK rfl rfl rfl rfl rfl ?_
      refine SK rfl rfl rfl rfl rfl ?_
      refine SK rfl rfl rfl rfl rfl ?_
      refine Go.Sx.V rfl wu rfl rfl (pk rfl rfl) ?_
      exact joinX rfl) ?_
  intro w2 hE2
  refine Go.Sx.V rfl wu rfl rfl (asg rfl) ?_
  refine wr_nil (post_thenN (wc_ret ?_))
  refine post_ret1 rfl rfl ?_
  exact ⟨hE.trans hE2, by rw [hF.ord]⟩
end Go.Proofs.YtmnojknfjbimdaaGreat

