/-
  The program's inverses and powers of a field's elements, by contract.
-/
import Derived.Test.YtmnojknfjbimdaaGreatWGF1
import Derived.Test.YtmnojknfjbimdaaGreatWMGa
namespace Go.Proofs.YtmnojknfjbimdaaGreat
open Go Go.Sx Go.Pl Go.RowKit Go.Fd Go.Alg
theorem GFV.gen {w : World} {P : FP} {v : Value} (h : GFV w P v) : ∃ x : K P, HasOrder x (n1 P) := by
  obtain ⟨b, mc, exp, log, md, lg, x0, _, _, _, hx, _⟩ := h.ex
  exact ⟨x0, hx⟩
theorem GFV.q {w : World} {P : FP} {v : Value} (h : GFV w P v) : P.q ≤ 256 := by
  obtain ⟨b, mc, exp, log, md, lg, x0, _, _, hF, hx, _⟩ := h.ex
  exact hF.q
set_option maxRecDepth 10000 in
theorem gInv (P : FP) (g : Value) (x : Int) (w : World) (hG : GFV w P g) :
    Calls Tryz.prog 86 #[g, .int .i64 x] w (RetX w fun v _ => v = if inK P x = 0 then .tuple #[.int .i64 0, .int .i64 7] else .tuple #[.int .i64 (invK P (inK P x)).1, .int .i64 0]) := by
  refine calls2 Tryz.func86 rfl rfl ?_
  refine wc_seq ?_
  refine wc_region [0,1] rfl ?_
  refine Go.Sx.V rfl wu rfl rfl (asg rfl) ?_
  refine Go.Sx.V rfl wu rfl rfl (asg rfl) ?_
  refine wr_nil (post_thenN (wc_seq ?_))
  refine wc_region [0,1,2,3] rfl ?_
  refine Go.Sx.V rfl wu rfl rfl (mv rfl) ?_
  refine Go.Sx.V rfl wu rfl rfl (mv rfl) ?_
  refine C rfl wu rfl rfl Tryz.call126 (gIn P g x _ hG) ?_
  rintro _ w2 hE rfl
  refine Go.Sx.V rfl wu rfl rfl (asg rfl) ?_
  refine wr_nil (post_thenN (wc_seq (wc_seq ?_)))
  replace hG := hG.ext hE
  obtain ⟨b, mc, exp, log, md, lg, x0, rfl, hB, hF, hx, hei, hli, hL⟩ := hG.ex
  generalize inK P x = X
  have hX := X.2
  have hq := hF.q
  refine wc_region [0,1] rfl ?_
  refine Go.Sx.V rfl wu rfl rfl (mv rfl) ?_
  refine Go.Sx.V rfl wu rfl rfl (eqlI rfl rfl) ?_
  refine wr_nil (post_thenN ?_)
  refine wc_cond rfl ?_ ?_
  · intro h
    simp at h
    refine wc_seq ?_
    refine wc_region [0,1] rfl ?_
    refine Go.Sx.V rfl wu rfl rfl (asg rfl) ?_
    refine Go.Sx.V rfl wu rfl rfl (asg rfl) ?_
    refine wr_nil (post_thenN (wc_ret (post_thenR ?_)))
    refine post_ret2 rfl rfl rfl ?_
    exact ⟨hE, by rw [if_pos (show X = 0 from Subtype.ext h)]⟩
  · intro h
    simp at h
    have hX0 : X ≠ 0 := fun e => h (by rw [e]; rfl)
    refine wc_skip (post_thenN (wc_seq ?_))
    obtain ⟨i, hi, eX⟩ := gen_all hx X hX0
    have gX := hL.2 i hi
    rw [eX] at gX
    have hl := hL.1
    have hpl := pows_length x0 (n1 P)
    have hn1 := n1_eq (P := P)
    have hq2 := P.q_two
    have m0 : 0 ≤ (P.q - 1 - gi lg X.1) % (P.q - 1) := Int.emod_nonneg _ (by omega)
    have m1 : (P.q - 1 - gi lg X.1) % (P.q - 1) < P.q - 1 := Int.emod_lt_of_pos _ (by omega)
    refine wc_draw mixed [0,1,2,3,4,5,6,7,8,9,10,11,12,13,14,15,16,17,18,19,20,21,22,23,24,25,26] (by kernel_rfl) ?_
    intro w4 hd _
    replace hE := hE.trans hd
    replace hB := hB.ext hd
    replace hei := hei.ext hd
    replace hli := hli.ext hd
    refine Go.Sx.V rfl wu rfl rfl (mv rfl) ?_
    refine Go.Sx.V rfl wu rfl rfl (nchk rfl) ?_
    refine Go.Sx.V rfl wu rfl rfl (fad rfl fa120_2) ?_
    refine Go.Sx.V rfl wu rfl rfl (ldB rfl na22) ?_
    refine Go.Sx.V rfl wu rfl rfl (mv rfl) ?_
    refine Go.Sx.V rfl wu rfl rfl (nchk rfl) ?_
    refine Go.Sx.V rfl wu rfl rfl (fad rfl fa120_1) ?_
    refine Go.Sx.V rfl wu rfl rfl (ldB rfl na3) ?_
    refine Go.Sx.V rfl wu rfl rfl (subI rfl rfl) ?_
    refine Go.Sx.V rfl wu rfl rfl (mv rfl) ?_
    refine Go.Sx.V rfl wu rfl rfl (nchk rfl) ?_
    refine Go.Sx.V rfl wu rfl rfl (fad rfl fa120_3) ?_
    refine Go.Sx.V rfl wu rfl rfl (ldB rfl na22) ?_
    refine Go.Sx.V rfl wu rfl rfl (mv rfl) ?_
    refine Go.Sx.V rfl wu rfl rfl (iadI rfl rfl ty22) ?_
    refine Go.Sx.V rfl wu rfl rfl (ldI rfl na3) ?_
    refine Go.Sx.V rfl wu rfl rfl (subI rfl rfl) ?_
    refine Go.Sx.V rfl wu rfl rfl (mv rfl) ?_
    refine Go.Sx.V rfl wu rfl rfl (nchk rfl) ?_
    refine Go.Sx.V rfl wu rfl rfl (fad rfl fa120_1) ?_
    refine Go.Sx.V rfl wu rfl rfl (ldB rfl na3) ?_
    refine Go.Sx.V rfl wu rfl rfl (subI rfl rfl) ?_
    refine Go.Sx.V rfl wu rfl rfl (remI rfl rfl) ?_
    refine Go.Sx.V rfl wu rfl rfl (iadI rfl rfl ty22) ?_
    refine Go.Sx.V rfl wu rfl rfl (ldI rfl na3) ?_
    refine Go.Sx.V rfl wu rfl rfl (asg rfl) ?_
    refine Go.Sx.V rfl wu rfl rfl (asg rfl) ?_
    refine wr_nil (post_thenN (wc_ret ?_))
    refine post_ret2 rfl rfl rfl ?_
    refine ⟨hE, ?_⟩
    rw [if_neg hX0]
    congr 3
    rw [pows_get x0 m0 (by omega)]
    have e : npow x0 ((P.q - 1 - gi lg X.1) % (P.q - 1)).toNat = npow x0 (n1 P - i) := by
      rw [npow_mod hx.2.1 (n1 P - i)]
      congr 1
      rw [gX, ← hn1, show ((n1 P : Int) - i) = ((n1 P - i : Nat) : Int) by omega, ← Int.natCast_emod, Int.toNat_natCast]
    rw [e]
    have h1 := pow_unit hx.2.1 (i := i) (by omega)
    rw [eX] at h1
    rw [inv_uniq h1 (mul_invK hx hX0)]
end Go.Proofs.YtmnojknfjbimdaaGreat

