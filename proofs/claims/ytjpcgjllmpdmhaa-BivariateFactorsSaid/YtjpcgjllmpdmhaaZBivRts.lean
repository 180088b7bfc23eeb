/-
  Statements BivariateRoots, BivariateAllRoots and BivariateFactors: for every description of a field and all arguments the laws return true. No condition.
-/
import Derived.Test.YtjpcgjllmpdmhaaZOpen40
import Derived.Test.YtjpcgjllmpdmhaaZRBiv2
import Derived.Test.YtjpcgjllmpdmhaaZMPa
import Derived.Test.YtjpcgjllmpdmhaaRows
namespace Go.Proofs.Ytjpcgjllmpdmhaa
open Go Go.Sx Go.Pl Go.RowKit Go.Fd Go.Alg Go.Fr
theorem ag55 : FA Try.prog 55 0 0 := fun a w => by
  simp [Instr.fieldAt, run_underlying Try.underlying55, Instr.sureAddr, fieldPlace]
theorem fa55_0 : FA Try.prog 55 0 0 := ag55
theorem fa55_1 : FA Try.prog 55 1 1 := fun a w => by
  simp [Instr.fieldAt, run_underlying Try.underlying55, Instr.sureAddr, fieldPlace, szSl]
/-- What Roots answers for a polynomial that is not zero and a bound within the limits. -/
theorem roots_ok {P : FP} {w : World} {g : Value} {e : Int} {L : List (List Int)} {F : Pol (Pol (K P))} {k : Int} (hG : GFV w P g) (hF : F ≠ 0) (hk : 0 ≤ k ∧ k ≤ 64)
    (h : (F = 0 ∧ e = 7 ∧ L = []) ∨ (F ≠ 0 ∧ ¬ (0 ≤ k ∧ k ≤ 64) ∧ e = 6 ∧ L = []) ∨ (F ≠ 0 ∧ (0 ≤ k ∧ k ≤ 64) ∧ e = 0 ∧ L = (srch P k.toNat F []).map fun f => cl (pz P f))) : e = 0 ∧ ∃ R, RtL F k.toNat L R := by
  rcases h with ⟨h, _⟩ | ⟨_, h, _⟩ | ⟨_, _, h1, h2⟩
  · exact absurd h hF
  · exact absurd hk h
  · refine ⟨h1, rts (elsK P) k.toNat F, ?_⟩
    rw [h2]
    exact found_list hG.nzd hF k.toNat

set_option maxRecDepth 10000 in
theorem law_BivariateAllRoots {w : World} (v0 : Value) (r : FRec) (s0 : v0 = r.v ∧ FOf w r) (u : Value) (A : List (List Int)) (s1 : LL w u A ∧ LLFit A) (v2 : Value) (x2 : RtRec) (s2 : v2 = x2.val ∧ Ints w x2.u x2.a) :
    Calls Try.prog 7 #[v0, u, v2] w (RetX w fun v _ => v = .bool true) := by
  obtain ⟨p, M, mo, md⟩ := r
  obtain ⟨rfl, hr⟩ := s0
  obtain ⟨hv, a, k⟩ := x2
  obtain ⟨rfl, hh⟩ := s2
  obtain ⟨hu, _⟩ := s1
  dsimp only at hh
  refine calls3 Try.func7 rfl rfl ?_
  refine wc_seq ?_
  refine wc_region [0,1,2] rfl ?_
  refine BXA rfl wu rfl rfl ?_
  intro fb w1 hE hB hg
  refine BXA rfl wu rfl rfl ?_
  intro cb w3 hE3 hB3 hg3
  replace hB := hB.ext hE3
  replace hE := hE.trans hE3
  refine Go.Sx.V rfl wu rfl rfl (asg rfl) ?_
  refine wr_nil (post_thenN (wc_seq (wc_seq ?_)))
  refine wc_region [0,1] rfl ?_
  refine C rfl wu rfl rfl Try.call16 (lAlive _) ?_
  rintro _ w4 hE4 rfl
  replace hB := hB.ext hE4
  replace hB3 := hB3.ext hE4
  replace hE := hE.trans hE4
  refine Go.Sx.V rfl wu rfl rfl (notB rfl) ?_
  refine wr_nil (post_thenN ?_)
  refine wc_condF rfl (by simp) ?_
  refine wc_skip (post_thenN (wc_seq ?_))
  have hmi := hr.ints.ext hE
  dsimp only at hmi hB
  refine wc_region [0,1,2] rfl ?_
  refine Go.Sx.V rfl wu rfl rfl (ldA rfl ag24) ?_
  refine C rfl wu rfl rfl Try.call17 (lMade p M mo md _ hmi) ?_
  rintro g w5 hE5 hm
  replace hB := hB.ext hE5
  replace hB3 := hB3.ext hE5
  replace hE := hE.trans hE5
  refine Go.Sx.V rfl wu rfl rfl (asg rfl) ?_
  refine wr_nil (post_thenN (wc_seq ?_))
  replace hmi := hmi.ext hE5
  replace hu := hu.ext hE
  replace hh := hh.ext hE
  have hX := Ext.refl w5
  refine wc_region [0,1,2] rfl ?_
  refine Go.Sx.V rfl wu rfl rfl (fad rfl fa55_0) ?_
  refine Go.Sx.V rfl wu rfl rfl (ldB rfl na22 hB3) ?_
  refine Go.Sx.V rfl wu rfl rfl (asg rfl) ?_
  refine wr_nil (post_thenN (wc_seq (wc_seq ?_)))
  rcases made_split hm hmi with rfl | ⟨P, hp, hM, hF, hG⟩
  · skip
    refine wc_draw mixed [0,1,2,3,4,5,6,7,8,9,10,11,12,13,14,15,16,17,18,19,20,21,22,23,24,25,26,27,28,29,30,31,32,34,35,33,36,37,38,39,40,41,42,43,44,45] (by kernel_rfl) ?_
    intro w6 hd _
    replace hX := hX.trans hd
    refine Go.Sx.V rfl wu rfl rfl (mv rfl) ?_
    refine Go.Sx.V rfl wu rfl rfl (eqlPn rfl rfl Try.underlying28) ?_
    refine Go.Sx.V rfl wu rfl rfl (mv rfl) ?_
    refine KB 21 true rfl (by rfl) ?_
    refine SK rfl rfl rfl rfl rfl ?_
    refine SK rfl rfl rfl rfl rfl ?_
    refine SK rfl rfl rfl rfl rfl ?_
    refine SK rfl rfl rfl rfl rfl ?_
    refine Go.Sx.V rfl wu rfl rfl (pk rfl rfl) ?_
    refine Go.Sx.V rfl wu rfl rfl (mv rfl) ?_
    refine KB 27 true rfl (by rfl) ?_
    refine SK rfl rfl rfl rfl rfl ?_
    refine SK rfl rfl rfl rfl rfl ?_
    refine SK rfl rfl rfl rfl rfl ?_
    refine SK rfl rfl rfl rfl rfl ?_
    refine SK rfl rfl rfl rfl rfl ?_
    refine Go.Sx.V rfl wu rfl rfl (pk rfl rfl) ?_
    refine Go.Sx.V rfl wu rfl rfl (mv rfl) ?_
    refine KB 34 true rfl (by rfl) ?_
    refine SK rfl rfl rfl rfl rfl ?_
    refine SK rfl rfl rfl rfl rfl ?_
    refine SK rfl rfl rfl rfl rfl ?_
    refine Go.Sx.V rfl wu rfl rfl (pk rfl rfl) ?_
    refine Go.Sx.V rfl wu rfl rfl (mv rfl) ?_
    refine KB 39 true rfl (by rfl) ?_
    refine SK rfl rfl rfl rfl rfl ?_
    refine SK rfl rfl rfl rfl rfl ?_
    refine SK rfl rfl rfl rfl rfl ?_
    refine Go.Sx.V rfl wu rfl rfl (pk rfl rfl) ?_
    refine Go.Sx.V rfl wu rfl rfl (mv rfl) ?_
    refine KB 44 true rfl (by rfl) ?_
    refine SK rfl rfl rfl rfl rfl ?_
    refine SK rfl rfl rfl rfl rfl ?_
    refine SK rfl rfl rfl rfl rfl ?_
    refine Go.Sx.V rfl wu rfl rfl (pk rfl rfl) ?_
    refine Go.Sx.V rfl wu rfl rfl (mv rfl) ?_
    refine KB 49 true rfl (by rfl) ?_
    refine SK rfl rfl rfl rfl rfl ?_
    refine SK rfl rfl rfl rfl rfl ?_
    refine SK rfl rfl rfl rfl rfl ?_
    refine SK rfl rfl rfl rfl rfl ?_
    refine SK rfl rfl rfl rfl rfl ?_
    refine SK rfl rfl rfl rfl rfl ?_
    refine Go.Sx.V rfl wu rfl rfl (pk rfl rfl) ?_
    refine Go.Sx.V rfl wu rfl rfl (mv rfl) ?_
    refine KB 57 true rfl (by rfl) ?_
    refine SK rfl rfl rfl rfl rfl ?_
    refine SK rfl rfl rfl rfl rfl ?_
    refine SK rfl rfl rfl rfl rfl ?_
    refine SK rfl rfl rfl rfl rfl ?_
    refine SK rfl rfl rfl rfl rfl ?_
    refine SK rfl rfl rfl rfl rfl ?_
    refine Go.Sx.V rfl wu rfl rfl (pk rfl rfl) ?_
    refine wr_nil (post_thenN ?_)
    refine wc_condT rfl (by simp) ?_
    refine wc_seq ?_
    refine wc_region [0] rfl ?_
    refine Go.Sx.V rfl wu rfl rfl (asg rfl) ?_
    refine wr_nil (post_thenN (wc_ret (post_thenR ?_)))
    refine post_ret1 rfl rfl ?_
    exact ⟨hE.trans hX, rfl⟩
  · subst hp hM
    obtain ⟨ga, hga⟩ := hG.ptr
    by_cases hsm : smallB A = true
    · obtain ⟨hA1, hA2⟩ := smallB_iff.1 hsm
      have rA := hA2.mono (show 12 ≤ 17592186044416 by omega)
      refine wc_draw mixed [0,1,2,3,4,5,6,7,8,9,10,11,12,13,14,15,16,17,18,19,20,21,22,23,24,25,26,27,28,29,30,31,32,34,35,33,36,37,38,39,40,41,42,43,44,45] (by kernel_rfl) ?_
      intro w6 hd _
      replace hX := hX.trans hd
      refine Go.Sx.V rfl wu rfl rfl (mv rfl) ?_
      rw [hga]
      refine Go.Sx.V rfl wu rfl rfl (eqlPn rfl rfl Try.underlying28) ?_
      rw [← hga]
      refine Go.Sx.V rfl wu rfl rfl (mv rfl) ?_
      refine KB 21 false rfl (by rfl) ?_
      refine Go.Sx.V rfl (wg rfl rfl) rfl rfl (mv rfl) ?_
      refine BS (us := [u]) rfl (wg rfl rfl) rfl rfl rfl rfl ty86 (by intro q hq; obtain rfl : q = u := (by simpa using hq); exact hu.one) ?_
      intro sv w7 hE7 hsv _
      replace hX := hX.trans hE7
      refine C rfl (wg rfl rfl) rfl rfl Try.call18 (lSmall sv _ [A] _ hsv.sl (bis1 (hu.ext hX))) ?_
      rintro _ w8 hE8 rfl
      replace hX := hX.trans hE8
      refine Go.Sx.V rfl (wg rfl rfl) rfl rfl (notB rfl) ?_
      refine Go.Sx.V rfl wu rfl rfl (pk rfl rfl) ?_
      refine Go.Sx.V rfl wu rfl rfl (mv rfl) ?_
      refine KB 27 false rfl (by simp [hsm]) ?_
      refine Go.Sx.V rfl (wg rfl rfl) rfl rfl (ldA rfl ag24 (hB.ext hX)) ?_
      refine Go.Sx.V rfl (wg rfl rfl) rfl rfl (mv rfl) ?_
      refine C rfl (wg rfl rfl) rfl rfl Try.call21 (rBCanon P mo md u A _ (hF.ext hX) (hu.ext hX) rA (by omega)) ?_
      intro c w9 hE9 hc
      replace hX := hX.trans hE9
      obtain ⟨crows, hcs, hcl, hcx⟩ := hc.ll.row
      rw [← hcl] at hcx
      refine Go.Sx.V rfl (wg rfl rfl) rfl rfl (lenS rfl ty26 hcs) ?_
      refine Go.Sx.V rfl (wg rfl rfl) rfl rfl (eqlI rfl rfl) ?_
      refine Go.Sx.V rfl wu rfl rfl (pk rfl rfl) ?_
      refine Go.Sx.V rfl wu rfl rfl (mv rfl) ?_
      refine OR (π1 := [16,17,18,19]) (π2 := [20,21,22,23,24,25,26,27,28,29,30,31,32,34,35,33,36,37,38,39,40,41,42,43,44,45]) (tc := 34) (tp := 38) rfl rfl rfl (by
          intro _
          refine SK rfl rfl rfl rfl rfl ?_
          refine SK rfl rfl rfl rfl rfl ?_
          refine SK rfl rfl rfl rfl rfl ?_
          refine Go.Sx.V rfl wu rfl rfl (pk rfl rfl) ?_
          exact join rfl) (by
          intro hg
          simp at hg
          refine Go.Sx.V rfl (wg rfl rfl) rfl rfl (mv rfl) ?_
          refine Go.Sx.V rfl (wg rfl rfl) rfl rfl (lenI rfl ty22 hh) ?_
          refine Go.Sx.V rfl (wg rfl rfl) rfl rfl (gtrI rfl rfl) ?_
          refine Go.Sx.V rfl wu rfl rfl (pk rfl rfl) ?_
          exact join rfl) ?_
      refine Go.Sx.V rfl wu rfl rfl (mv rfl) ?_
      refine OR (π1 := [21,22,23,24]) (π2 := [25,26,27,28,29,30,31,32,34,35,33,36,37,38,39,40,41,42,43,44,45]) (tc := 39) (tp := 43) rfl rfl rfl (by
          intro _
          refine SK rfl rfl rfl rfl rfl ?_
          refine SK rfl rfl rfl rfl rfl ?_
          refine SK rfl rfl rfl rfl rfl ?_
          refine Go.Sx.V rfl wu rfl rfl (pk rfl rfl) ?_
          exact join rfl) (by
          intro hg
          simp at hg
          refine Go.Sx.V rfl (wg rfl rfl) rfl rfl (fad rfl fa55_1) ?_
          refine Go.Sx.V rfl (wg rfl rfl) rfl rfl (ldB rfl na3 (hB3.ext hX)) ?_
          refine Go.Sx.V rfl (wg rfl rfl) rfl rfl (lssI rfl rfl) ?_
          refine Go.Sx.V rfl wu rfl rfl (pk rfl rfl) ?_
          exact join rfl) ?_
      refine Go.Sx.V rfl wu rfl rfl (mv rfl) ?_
      refine OR (π1 := [26,27,28,29]) (π2 := [30,31,32,34,35,33,36,37,38,39,40,41,42,43,44,45]) (tc := 44) (tp := 48) rfl rfl rfl (by
          intro _
          refine SK rfl rfl rfl rfl rfl ?_
          refine SK rfl rfl rfl rfl rfl ?_
          refine SK rfl rfl rfl rfl rfl ?_
          refine Go.Sx.V rfl wu rfl rfl (pk rfl rfl) ?_
          exact join rfl) (by
          intro hg
          simp at hg
          refine Go.Sx.V rfl (wg rfl rfl) rfl rfl (fad rfl fa55_1) ?_
          refine Go.Sx.V rfl (wg rfl rfl) rfl rfl (ldB rfl na3 (hB3.ext hX)) ?_
          refine Go.Sx.V rfl (wg rfl rfl) rfl rfl (gtrI rfl rfl) ?_
          refine Go.Sx.V rfl wu rfl rfl (pk rfl rfl) ?_
          exact join rfl) ?_
      refine Go.Sx.V rfl wu rfl rfl (mv rfl) ?_
      refine ORX (π1 := [31,32,34,35,33,36,37]) (π2 := [38,39,40,41,42,43,44,45]) (tc := 49) (tp := 56) rfl rfl rfl (by
          intro _
          refine SK rfl rfl rfl rfl rfl ?_
          refine SK rfl rfl rfl rfl rfl ?_
          refine SK rfl rfl rfl rfl rfl ?_
          refine SK rfl rfl rfl rfl rfl ?_
          refine SK rfl rfl rfl rfl rfl ?_
          refine SK rfl rfl rfl rfl rfl ?_
          refine Go.Sx.V rfl wu rfl rfl (pk rfl rfl) ?_
          exact joinX rfl) (by
          intro hg
          simp at hg
          refine Go.Sx.V rfl (wg rfl rfl) rfl rfl (ldA rfl ag24 (hB.ext hX)) ?_
          refine Go.Sx.V rfl (wg rfl rfl) rfl rfl (mv rfl) ?_
          refine Go.Sx.V rfl (wg rfl rfl) rfl rfl (fad rfl fa55_1) ?_
          refine Go.Sx.V rfl (wg rfl rfl) rfl rfl (ldB rfl na3 (hB3.ext hX)) ?_
          refine C rfl (wg rfl rfl) rfl rfl Try.call35 (rPDegree P mo md hv a _ (hF.ext hX) (hh.ext hX) (by omega)) ?_
          rintro _ w10 hE10 rfl
          refine Go.Sx.V rfl (wg rfl rfl) rfl rfl (geqI rfl rfl) ?_
          refine Go.Sx.V rfl wu rfl rfl (pk rfl rfl) ?_
          exact joinX rfl) ?_
      intro w10 hE10
      replace hX := hX.trans hE10
      refine Go.Sx.V rfl wu rfl rfl (mv rfl) ?_
      refine ORX (π1 := [39,40,41,42,43,44,45]) (π2 := []) (tc := 57) (tp := 64) rfl rfl rfl (by
          intro _
          refine SK rfl rfl rfl rfl rfl ?_
          refine SK rfl rfl rfl rfl rfl ?_
          refine SK rfl rfl rfl rfl rfl ?_
          refine SK rfl rfl rfl rfl rfl ?_
          refine SK rfl rfl rfl rfl rfl ?_
          refine SK rfl rfl rfl rfl rfl ?_
          refine Go.Sx.V rfl wu rfl rfl (pk rfl rfl) ?_
          exact joinX rfl) (by
          intro hg
          simp at hg
          refine Go.Sx.V rfl (wg rfl rfl) rfl rfl (ldA rfl ag24 (hB.ext hX)) ?_
          refine Go.Sx.V rfl (wg rfl rfl) rfl rfl (mv rfl) ?_
          refine Go.Sx.V rfl (wg rfl rfl) rfl rfl (mv rfl) ?_
          refine C rfl (wg rfl rfl) rfl rfl Try.call33 (rBSubst P mo md u hv A a 12 _ (hF.ext hX) (hu.ext hX) (hh.ext hX) hA2 (by omega) (by omega) (by omega)) ?_
          intro s w11 hE11 hs
          have hsi := OwnI.ints hs
          refine Go.Sx.V rfl (wg rfl rfl) rfl rfl (lenI rfl ty22 hsi) ?_
          refine Go.Sx.V rfl (wg rfl rfl) rfl rfl (gtrI rfl rfl) ?_
          refine Go.Sx.V rfl wu rfl rfl (pk rfl rfl) ?_
          exact joinX rfl) ?_
      intro w11 hE11
      replace hX := hX.trans hE11
      refine wr_nil (post_thenN ?_)
      refine wc_cond rfl ?_ ?_
      · intro h
        refine wc_seq ?_
        refine wc_region [0] rfl ?_
        refine Go.Sx.V rfl wu rfl rfl (asg rfl) ?_
        refine wr_nil (post_thenN (wc_ret (post_thenR ?_)))
        refine post_ret1 rfl rfl ?_
        exact ⟨hE.trans hX, rfl⟩
      · intro h
        simp at h
        obtain ⟨⟨⟨⟨⟨hc0, ha6⟩, hk0⟩, hk64⟩, hdeg⟩, hsub⟩ := h
        have hF0 : bz P A ≠ 0 := fun e => hc0 (List.eq_nil_of_length_eq_zero (by rw [hcl, bcl_nil.2 e]; rfl))
        have hsub0 : subst (bz P A) (pz P a) = 0 := cl_nil.1 hsub
        have hyk : YB k.toNat (pz P a) := fun i hi => cl_over _ (by omega)
        refine wc_skip (post_thenN (wc_seq ?_))
        refine wc_region [0,1,2,3,4,5,6,7,8,9] rfl ?_
        refine Go.Sx.V rfl wu rfl rfl (mv rfl) ?_
        refine Go.Sx.V rfl wu rfl rfl (mv rfl) ?_
        refine Go.Sx.V rfl wu rfl rfl (fad rfl fa55_1) ?_
        refine Go.Sx.V rfl wu rfl rfl (ldB rfl na3 (hB3.ext hX)) ?_
        refine C rfl wu rfl rfl Try.call30 (bRoots P g u A k 12 _ (hG.ext hX) (hu.ext hX) hA2 (by omega) (by omega)) ?_
        rintro _ w12 hE12 ⟨ls, e, L, rfl, hL, hres⟩
        replace hX := hX.trans hE12
        refine Go.Sx.V rfl wu rfl rfl (mv rfl) ?_
        refine Go.Sx.V rfl wu rfl rfl (ext rfl rfl) ?_
        refine Go.Sx.V rfl wu rfl rfl (ext rfl rfl) ?_
        refine Go.Sx.V rfl wu rfl rfl (asg rfl) ?_
        refine Go.Sx.V rfl wu rfl rfl (asg rfl) ?_
        refine wr_nil (post_thenN (wc_seq (wc_seq ?_)))
        obtain ⟨rfl, R, hR⟩ := roots_ok hG hF0 ⟨hk0, hk64⟩ hres
        have hmem := hR.has hyk hsub0
        clear hres
        obtain ⟨rows, hs2, hrl, hrr⟩ := hL.row
        have hX12 := Ext.refl w12
        have hrle := hs2.le
        refine wc_region [0,1,2] rfl ?_
        refine Go.Sx.V rfl wu rfl rfl (mv rfl) ?_
        refine Go.Sx.V rfl wu rfl rfl (lenS rfl ty25 hs2) ?_
        refine Go.Sx.V rfl wu rfl rfl (mv rfl) ?_
        refine wr_nil (post_thenN (wc_block ?_))
        rw [hrl]
        refine wc_loop (fun i : Nat => [(3, .pointer (some ⟨fb, 0, none⟩)), (8, hv), (10, .int .i64 0), (73, ls), (74, .int .i64 L.length), (75, .int .i64 i)])
          (fun i w' => i ≤ L.length ∧ Ext w5 w' ∧ Ext w12 w' ∧ ∀ t, t < i → L.getD t [] ≠ cl (pz P a)) (fun i => L.length - i) 0 ⟨rfl, rfl, rfl, rfl, rfl, rfl, trivial⟩ ⟨by omega, hX, hX12, fun t ht => by omega⟩ ?_
        clear hX hX12
        rintro i w13 ⟨i1, hX, hX12, hno⟩
        try dsimp only
        refine wc_seq ?_
        refine wc_region [0] rfl ?_
        refine Go.Sx.V rfl wu rfl rfl (lssI rfl rfl) ?_
        refine wr_nil (post_thenN (wc_seq ?_))
        refine wc_cond rfl ?_ ?_
        · intro hc
          simp at hc
          obtain ⟨r, hr, hri⟩ := hrr i hc
          refine wc_skip (post_thenN (wc_seq (wc_block (wc_seq ?_))))
          refine wc_region [0,1,2] rfl ?_
          refine Go.Sx.V rfl wu rfl rfl (iad rfl rfl ty25 hs2 (by omega) (by omega)) ?_
          refine Go.Sx.V rfl wu rfl rfl (ldE rfl na22 hs2 hr hX12) ?_
          refine Go.Sx.V rfl wu rfl rfl (asg rfl) ?_
          refine wr_nil (post_thenN (wc_seq ?_))
          refine wc_region [0,1,2,3,4] rfl ?_
          refine Go.Sx.V rfl wu rfl rfl (mv rfl) ?_
          refine Go.Sx.V rfl wu rfl rfl (ldA rfl ag24 (hB.ext hX)) ?_
          refine Go.Sx.V rfl wu rfl rfl (mv rfl) ?_
          refine C rfl wu rfl rfl Try.call32 (rPCanon P mo md hv a _ (hF.ext hX) (hh.ext hX) (by omega)) ?_
          intro c2 w14 hE14 hc2
          replace hX := hX.trans hE14
          replace hX12 := hX12.trans hE14
          refine C rfl wu rfl rfl Try.call31 (lSame r c2 _ _ _ (hri.ext hX12) (OwnI.ints hc2)) ?_
          rintro _ w15 hE15 rfl
          replace hX := hX.trans hE15
          replace hX12 := hX12.trans hE15
          refine wr_nil (post_thenN ?_)
          refine wc_cond rfl ?_ ?_
          · intro _
            refine wc_seq ?_
            refine wc_region [0,1,2] rfl ?_
            refine Go.Sx.V rfl wu rfl rfl (mv rfl) ?_
            refine Go.Sx.V rfl wu rfl rfl (eqlI rfl rfl) ?_
            refine Go.Sx.V rfl wu rfl rfl (asg rfl) ?_
            refine wr_nil (post_thenN (wc_ret (post_blockR (post_thenR (post_loopR (post_blockR (post_thenR ?_)))))))
            refine post_ret1 rfl rfl ?_
            exact ⟨hE.trans hX, rfl⟩
          · intro hne
            simp at hne
            refine wc_skip (post_blockN (post_thenN ?_))
            refine wc_region [0,1] rfl ?_
            refine Go.Sx.V rfl wu rfl rfl (addI rfl rfl) ?_
            refine Go.Sx.V rfl wu rfl rfl (mv rfl) ?_
            refine wr_nil ?_
            exact post_loopN (i + 1) ⟨rfl, rfl, rfl, rfl, rfl, rfl, trivial⟩ ⟨by omega, hX, hX12, fun t ht => by
              rcases Nat.lt_or_ge t i with h1 | h1
              · exact hno t h1
              · obtain rfl : t = i := by omega
                rw [List.getD_eq_getElem?_getD]
                simpa using hne⟩ (by omega)
        · intro hc
          simp at hc
          exfalso
          obtain ⟨t, ht, het⟩ := List.getElem_of_mem hmem
          refine hno t (by omega) ?_
          rw [List.getD_eq_getElem?_getD, List.getElem?_eq_getElem ht]
          exact het
    · have hsf : smallB A = false := by simpa using hsm
      refine wc_draw mixed [0,1,2,3,4,5,6,7,8,9,10,11,12,13,14,15,16,17,18,19,20,21,22,23,24,25,26,27,28,29,30,31,32,34,35,33,36,37,38,39,40,41,42,43,44,45] (by kernel_rfl) ?_
      intro w6 hd _
      replace hX := hX.trans hd
      refine Go.Sx.V rfl wu rfl rfl (mv rfl) ?_
      rw [hga]
      refine Go.Sx.V rfl wu rfl rfl (eqlPn rfl rfl Try.underlying28) ?_
      rw [← hga]
      refine Go.Sx.V rfl wu rfl rfl (mv rfl) ?_
      refine KB 21 false rfl (by rfl) ?_
      refine Go.Sx.V rfl (wg rfl rfl) rfl rfl (mv rfl) ?_
      refine BS (us := [u]) rfl (wg rfl rfl) rfl rfl rfl rfl ty86 (by intro q hq; obtain rfl : q = u := (by simpa using hq); exact hu.one) ?_
      intro sv w7 hE7 hsv _
      replace hX := hX.trans hE7
      refine C rfl (wg rfl rfl) rfl rfl Try.call18 (lSmall sv _ [A] _ hsv.sl (bis1 (hu.ext hX))) ?_
      rintro _ w8 hE8 rfl
      replace hX := hX.trans hE8
      refine Go.Sx.V rfl (wg rfl rfl) rfl rfl (notB rfl) ?_
      refine Go.Sx.V rfl wu rfl rfl (pk rfl rfl) ?_
      refine Go.Sx.V rfl wu rfl rfl (mv rfl) ?_
      refine KB 27 true rfl (by simp [hsf]) ?_
      refine SK rfl rfl rfl rfl rfl ?_
      refine SK rfl rfl rfl rfl rfl ?_
      refine SK rfl rfl rfl rfl rfl ?_
      refine SK rfl rfl rfl rfl rfl ?_
      refine SK rfl rfl rfl rfl rfl ?_
      refine Go.Sx.V rfl wu rfl rfl (pk rfl rfl) ?_
      refine Go.Sx.V rfl wu rfl rfl (mv rfl) ?_
      refine KB 34 true rfl (by simp [hsf]) ?_
      refine SK rfl rfl rfl rfl rfl ?_
      refine SK rfl rfl rfl rfl rfl ?_
      refine SK rfl rfl rfl rfl rfl ?_
      refine Go.Sx.V rfl wu rfl rfl (pk rfl rfl) ?_
      refine Go.Sx.V rfl wu rfl rfl (mv rfl) ?_
      refine KB 39 true rfl (by simp [hsf]) ?_
      refine SK rfl rfl rfl rfl rfl ?_
      refine SK rfl rfl rfl rfl rfl ?_
      refine SK rfl rfl rfl rfl rfl ?_
      refine Go.Sx.V rfl wu rfl rfl (pk rfl rfl) ?_
      refine Go.Sx.V rfl wu rfl rfl (mv rfl) ?_
      refine KB 44 true rfl (by simp [hsf]) ?_
      refine SK rfl rfl rfl rfl rfl ?_
      refine SK rfl rfl rfl rfl rfl ?_
      refine SK rfl rfl rfl rfl rfl ?_
      refine Go.Sx.V rfl wu rfl rfl (pk rfl rfl) ?_
      refine Go.Sx.V rfl wu rfl rfl (mv rfl) ?_
      refine KB 49 true rfl (by simp [hsf]) ?_
      refine SK rfl rfl rfl rfl rfl ?_
      refine SK rfl rfl rfl rfl rfl ?_
      refine SK rfl rfl rfl rfl rfl ?_
      refine SK rfl rfl rfl rfl rfl ?_
      refine SK rfl rfl rfl rfl rfl ?_
      refine SK rfl rfl rfl rfl rfl ?_
      refine Go.Sx.V rfl wu rfl rfl (pk rfl rfl) ?_
      refine Go.Sx.V rfl wu rfl rfl (mv rfl) ?_
      refine KB 57 true rfl (by simp [hsf]) ?_
      refine SK rfl rfl rfl rfl rfl ?_
      refine SK rfl rfl rfl rfl rfl ?_
      refine SK rfl rfl rfl rfl rfl ?_
      refine SK rfl rfl rfl rfl rfl ?_
      refine SK rfl rfl rfl rfl rfl ?_
      refine SK rfl rfl rfl rfl rfl ?_
      refine Go.Sx.V rfl wu rfl rfl (pk rfl rfl) ?_
      refine wr_nil (post_thenN ?_)
      refine wc_condT rfl (by simp [hsf]) ?_
      refine wc_seq ?_
      refine wc_region [0] rfl ?_
      refine Go.Sx.V rfl wu rfl rfl (asg rfl) ?_
      refine wr_nil (post_thenN (wc_ret (post_thenR ?_)))
      refine post_ret1 rfl rfl ?_
      exact ⟨hE.trans hX, rfl⟩

set_option maxRecDepth 10000 in
theorem law_BivariateFactors {w : World} (v0 : Value) (r : FRec) (s0 : v0 = r.v ∧ FOf w r) (u : Value) (A : List (List Int)) (s1 : LL w u A ∧ LLFit A) (v2 : Value) (x2 : RtRec) (s2 : v2 = x2.val ∧ Ints w x2.u x2.a) :
    Calls Try.prog 8 #[v0, u, v2] w (RetX w fun v _ => v = .bool true) := by
  obtain ⟨p, M, mo, md⟩ := r
  obtain ⟨rfl, hr⟩ := s0
  obtain ⟨hv, a, k⟩ := x2
  obtain ⟨rfl, hh⟩ := s2
  obtain ⟨hu, _⟩ := s1
  dsimp only at hh
  refine calls3 Try.func8 rfl rfl ?_
  refine wc_seq ?_
  refine wc_region [0,1,2] rfl ?_
  refine BXA rfl wu rfl rfl ?_
  intro fb w1 hE hB hg
  refine BXA rfl wu rfl rfl ?_
  intro cb w3 hE3 hB3 hg3
  replace hB := hB.ext hE3
  replace hE := hE.trans hE3
  refine Go.Sx.V rfl wu rfl rfl (asg rfl) ?_
  refine wr_nil (post_thenN (wc_seq (wc_seq ?_)))
  refine wc_region [0,1] rfl ?_
  refine C rfl wu rfl rfl Try.call16 (lAlive _) ?_
  rintro _ w4 hE4 rfl
  replace hB := hB.ext hE4
  replace hB3 := hB3.ext hE4
  replace hE := hE.trans hE4
  refine Go.Sx.V rfl wu rfl rfl (notB rfl) ?_
  refine wr_nil (post_thenN ?_)
  refine wc_condF rfl (by simp) ?_
  refine wc_skip (post_thenN (wc_seq ?_))
  have hmi := hr.ints.ext hE
  dsimp only at hmi hB
  refine wc_region [0,1,2] rfl ?_
  refine Go.Sx.V rfl wu rfl rfl (ldA rfl ag24) ?_
  refine C rfl wu rfl rfl Try.call17 (lMade p M mo md _ hmi) ?_
  rintro g w5 hE5 hm
  replace hB := hB.ext hE5
  replace hB3 := hB3.ext hE5
  replace hE := hE.trans hE5
  refine Go.Sx.V rfl wu rfl rfl (asg rfl) ?_
  refine wr_nil (post_thenN (wc_seq ?_))
  replace hmi := hmi.ext hE5
  replace hu := hu.ext hE
  replace hh := hh.ext hE
  have hX := Ext.refl w5
  refine wc_region [0,1,2] rfl ?_
  refine Go.Sx.V rfl wu rfl rfl (fad rfl fa55_0) ?_
  refine Go.Sx.V rfl wu rfl rfl (ldB rfl na22 hB3) ?_
  refine Go.Sx.V rfl wu rfl rfl (asg rfl) ?_
  refine wr_nil (post_thenN (wc_seq (wc_seq ?_)))
  rcases made_split hm hmi with rfl | ⟨P, hp, hM, hF, hG⟩
  · skip
    refine wc_draw mixed [0,1,2,3,4,5,6,7,8,9,10,11,12,13,14,15,16,17,18,19,20,21,22,23,24,25,26,27,28,29,30,31,32,34,35,33,36,37] (by kernel_rfl) ?_
    intro w6 hd _
    replace hX := hX.trans hd
    refine Go.Sx.V rfl wu rfl rfl (mv rfl) ?_
    refine Go.Sx.V rfl wu rfl rfl (eqlPn rfl rfl Try.underlying28) ?_
    refine Go.Sx.V rfl wu rfl rfl (mv rfl) ?_
    refine KB 22 true rfl (by rfl) ?_
    refine SK rfl rfl rfl rfl rfl ?_
    refine SK rfl rfl rfl rfl rfl ?_
    refine SK rfl rfl rfl rfl rfl ?_
    refine SK rfl rfl rfl rfl rfl ?_
    refine Go.Sx.V rfl wu rfl rfl (pk rfl rfl) ?_
    refine Go.Sx.V rfl wu rfl rfl (mv rfl) ?_
    refine KB 28 true rfl (by rfl) ?_
    refine SK rfl rfl rfl rfl rfl ?_
    refine SK rfl rfl rfl rfl rfl ?_
    refine SK rfl rfl rfl rfl rfl ?_
    refine SK rfl rfl rfl rfl rfl ?_
    refine SK rfl rfl rfl rfl rfl ?_
    refine Go.Sx.V rfl wu rfl rfl (pk rfl rfl) ?_
    refine Go.Sx.V rfl wu rfl rfl (mv rfl) ?_
    refine KB 35 true rfl (by rfl) ?_
    refine SK rfl rfl rfl rfl rfl ?_
    refine SK rfl rfl rfl rfl rfl ?_
    refine SK rfl rfl rfl rfl rfl ?_
    refine Go.Sx.V rfl wu rfl rfl (pk rfl rfl) ?_
    refine Go.Sx.V rfl wu rfl rfl (mv rfl) ?_
    refine KB 40 true rfl (by rfl) ?_
    refine SK rfl rfl rfl rfl rfl ?_
    refine SK rfl rfl rfl rfl rfl ?_
    refine SK rfl rfl rfl rfl rfl ?_
    refine Go.Sx.V rfl wu rfl rfl (pk rfl rfl) ?_
    refine Go.Sx.V rfl wu rfl rfl (mv rfl) ?_
    refine KB 45 true rfl (by rfl) ?_
    refine SK rfl rfl rfl rfl rfl ?_
    refine SK rfl rfl rfl rfl rfl ?_
    refine SK rfl rfl rfl rfl rfl ?_
    refine Go.Sx.V rfl wu rfl rfl (pk rfl rfl) ?_
    refine Go.Sx.V rfl wu rfl rfl (mv rfl) ?_
    refine KB 50 true rfl (by rfl) ?_
    refine SK rfl rfl rfl rfl rfl ?_
    refine SK rfl rfl rfl rfl rfl ?_
    refine SK rfl rfl rfl rfl rfl ?_
    refine SK rfl rfl rfl rfl rfl ?_
    refine SK rfl rfl rfl rfl rfl ?_
    refine SK rfl rfl rfl rfl rfl ?_
    refine Go.Sx.V rfl wu rfl rfl (pk rfl rfl) ?_
    refine wr_nil (post_thenN ?_)
    refine wc_condT rfl (by simp) ?_
    refine wc_seq ?_
    refine wc_region [0] rfl ?_
    refine Go.Sx.V rfl wu rfl rfl (asg rfl) ?_
    refine wr_nil (post_thenN (wc_ret (post_thenR ?_)))
    refine post_ret1 rfl rfl ?_
    exact ⟨hE.trans hX, rfl⟩
  · subst hp hM
    obtain ⟨ga, hga⟩ := hG.ptr
    by_cases hsm : smallB A = true
    · obtain ⟨hA1, hA2⟩ := smallB_iff.1 hsm
      have rA := hA2.mono (show 12 ≤ 17592186044416 by omega)
      refine wc_draw mixed [0,1,2,3,4,5,6,7,8,9,10,11,12,13,14,15,16,17,18,19,20,21,22,23,24,25,26,27,28,29,30,31,32,34,35,33,36,37] (by kernel_rfl) ?_
      intro w6 hd _
      replace hX := hX.trans hd
      refine Go.Sx.V rfl wu rfl rfl (mv rfl) ?_
      rw [hga]
      refine Go.Sx.V rfl wu rfl rfl (eqlPn rfl rfl Try.underlying28) ?_
      rw [← hga]
      refine Go.Sx.V rfl wu rfl rfl (mv rfl) ?_
      refine KB 22 false rfl (by rfl) ?_
      refine Go.Sx.V rfl (wg rfl rfl) rfl rfl (mv rfl) ?_
      refine BS (us := [u]) rfl (wg rfl rfl) rfl rfl rfl rfl ty86 (by intro q hq; obtain rfl : q = u := (by simpa using hq); exact hu.one) ?_
      intro sv w7 hE7 hsv _
      replace hX := hX.trans hE7
      refine C rfl (wg rfl rfl) rfl rfl Try.call18 (lSmall sv _ [A] _ hsv.sl (bis1 (hu.ext hX))) ?_
      rintro _ w8 hE8 rfl
      replace hX := hX.trans hE8
      refine Go.Sx.V rfl (wg rfl rfl) rfl rfl (notB rfl) ?_
      refine Go.Sx.V rfl wu rfl rfl (pk rfl rfl) ?_
      refine Go.Sx.V rfl wu rfl rfl (mv rfl) ?_
      refine KB 28 false rfl (by simp [hsm]) ?_
      refine Go.Sx.V rfl (wg rfl rfl) rfl rfl (ldA rfl ag24 (hB.ext hX)) ?_
      refine Go.Sx.V rfl (wg rfl rfl) rfl rfl (mv rfl) ?_
      refine C rfl (wg rfl rfl) rfl rfl Try.call21 (rBCanon P mo md u A _ (hF.ext hX) (hu.ext hX) rA (by omega)) ?_
      intro c w9 hE9 hc
      replace hX := hX.trans hE9
      obtain ⟨crows, hcs, hcl, hcx⟩ := hc.ll.row
      rw [← hcl] at hcx
      refine Go.Sx.V rfl (wg rfl rfl) rfl rfl (lenS rfl ty26 hcs) ?_
      refine Go.Sx.V rfl (wg rfl rfl) rfl rfl (eqlI rfl rfl) ?_
      refine Go.Sx.V rfl wu rfl rfl (pk rfl rfl) ?_
      refine Go.Sx.V rfl wu rfl rfl (mv rfl) ?_
      refine OR (π1 := [16,17,18,19]) (π2 := [20,21,22,23,24,25,26,27,28,29,30,31,32,34,35,33,36,37]) (tc := 35) (tp := 39) rfl rfl rfl (by
          intro _
          refine SK rfl rfl rfl rfl rfl ?_
          refine SK rfl rfl rfl rfl rfl ?_
          refine SK rfl rfl rfl rfl rfl ?_
          refine Go.Sx.V rfl wu rfl rfl (pk rfl rfl) ?_
          exact join rfl) (by
          intro hg
          simp at hg
          refine Go.Sx.V rfl (wg rfl rfl) rfl rfl (mv rfl) ?_
          refine Go.Sx.V rfl (wg rfl rfl) rfl rfl (lenI rfl ty22 hh) ?_
          refine Go.Sx.V rfl (wg rfl rfl) rfl rfl (gtrI rfl rfl) ?_
          refine Go.Sx.V rfl wu rfl rfl (pk rfl rfl) ?_
          exact join rfl) ?_
      refine Go.Sx.V rfl wu rfl rfl (mv rfl) ?_
      refine OR (π1 := [21,22,23,24]) (π2 := [25,26,27,28,29,30,31,32,34,35,33,36,37]) (tc := 40) (tp := 44) rfl rfl rfl (by
          intro _
          refine SK rfl rfl rfl rfl rfl ?_
          refine SK rfl rfl rfl rfl rfl ?_
          refine SK rfl rfl rfl rfl rfl ?_
          refine Go.Sx.V rfl wu rfl rfl (pk rfl rfl) ?_
          exact join rfl) (by
          intro hg
          simp at hg
          refine Go.Sx.V rfl (wg rfl rfl) rfl rfl (fad rfl fa55_1) ?_
          refine Go.Sx.V rfl (wg rfl rfl) rfl rfl (ldB rfl na3 (hB3.ext hX)) ?_
          refine Go.Sx.V rfl (wg rfl rfl) rfl rfl (lssI rfl rfl) ?_
          refine Go.Sx.V rfl wu rfl rfl (pk rfl rfl) ?_
          exact join rfl) ?_
      refine Go.Sx.V rfl wu rfl rfl (mv rfl) ?_
      refine OR (π1 := [26,27,28,29]) (π2 := [30,31,32,34,35,33,36,37]) (tc := 45) (tp := 49) rfl rfl rfl (by
          intro _
          refine SK rfl rfl rfl rfl rfl ?_
          refine SK rfl rfl rfl rfl rfl ?_
          refine SK rfl rfl rfl rfl rfl ?_
          refine Go.Sx.V rfl wu rfl rfl (pk rfl rfl) ?_
          exact join rfl) (by
          intro hg
          simp at hg
          refine Go.Sx.V rfl (wg rfl rfl) rfl rfl (fad rfl fa55_1) ?_
          refine Go.Sx.V rfl (wg rfl rfl) rfl rfl (ldB rfl na3 (hB3.ext hX)) ?_
          refine Go.Sx.V rfl (wg rfl rfl) rfl rfl (gtrI rfl rfl) ?_
          refine Go.Sx.V rfl wu rfl rfl (pk rfl rfl) ?_
          exact join rfl) ?_
      refine Go.Sx.V rfl wu rfl rfl (mv rfl) ?_
      refine ORX (π1 := [31,32,34,35,33,36,37]) (π2 := []) (tc := 50) (tp := 57) rfl rfl rfl (by
          intro _
          refine SK rfl rfl rfl rfl rfl ?_
          refine SK rfl rfl rfl rfl rfl ?_
          refine SK rfl rfl rfl rfl rfl ?_
          refine SK rfl rfl rfl rfl rfl ?_
          refine SK rfl rfl rfl rfl rfl ?_
          refine SK rfl rfl rfl rfl rfl ?_
          refine Go.Sx.V rfl wu rfl rfl (pk rfl rfl) ?_
          exact joinX rfl) (by
          intro hg
          simp at hg
          refine Go.Sx.V rfl (wg rfl rfl) rfl rfl (ldA rfl ag24 (hB.ext hX)) ?_
          refine Go.Sx.V rfl (wg rfl rfl) rfl rfl (mv rfl) ?_
          refine Go.Sx.V rfl (wg rfl rfl) rfl rfl (fad rfl fa55_1) ?_
          refine Go.Sx.V rfl (wg rfl rfl) rfl rfl (ldB rfl na3 (hB3.ext hX)) ?_
          refine C rfl (wg rfl rfl) rfl rfl Try.call35 (rPDegree P mo md hv a _ (hF.ext hX) (hh.ext hX) (by omega)) ?_
          rintro _ w10 hE10 rfl
          refine Go.Sx.V rfl (wg rfl rfl) rfl rfl (geqI rfl rfl) ?_
          refine Go.Sx.V rfl wu rfl rfl (pk rfl rfl) ?_
          exact joinX rfl) ?_
      intro w10 hE10
      replace hX := hX.trans hE10
      refine wr_nil (post_thenN ?_)
      refine wc_cond rfl ?_ ?_
      · intro h
        refine wc_seq ?_
        refine wc_region [0] rfl ?_
        refine Go.Sx.V rfl wu rfl rfl (asg rfl) ?_
        refine wr_nil (post_thenN (wc_ret (post_thenR ?_)))
        refine post_ret1 rfl rfl ?_
        exact ⟨hE.trans hX, rfl⟩
      · intro h
        simp at h
        obtain ⟨⟨⟨⟨hc0, ha6⟩, hk0⟩, hk64⟩, hdeg⟩ := h
        have hF0 : bz P A ≠ 0 := fun e => hc0 (List.eq_nil_of_length_eq_zero (by rw [hcl, bcl_nil.2 e]; rfl))
        have hyk : YB k.toNat (pz P a) := fun i hi => cl_over _ (by omega)
        have hsl : (cl (pC (-inK P 1) * pz P a)).length ≤ 6 := cl_len fun i hi => by rw [co_pC_mul, co_pz_over (by omega), mul_zero]
        refine wc_skip (post_thenN (wc_seq ?_))
        refine wc_cutQ (σ := Value) (fun fc => [(1, u), (3, .pointer (some ⟨fb, 0, none⟩)), (5, .pointer (some ⟨cb, 0, none⟩)), (7, g), (8, hv), (9, fc)]) (fun fc w' => Ext w5 w' ∧ LL w' fc [cl (pC (-inK P 1) * pz P a), [1]]) ?_ ?_
        · skip
          refine wc_drawT mixed (.br [0,1,3] (.br [2] (.leaf [4,5,6,7]) (.leaf [5,4,6,7])) (.leaf [5,2,4,6,7])) (by kernel_rfl) ?_
          intro w11 hd11 _
          replace hX := hX.trans hd11
          refine wt_br ?_
          refine Go.Sx.V rfl wu rfl rfl (ldA rfl ag24 (hB.ext hX)) ?_
          refine Go.Sx.V rfl wu rfl rfl (ldA rfl ag24 (hB.ext hX)) ?_
          refine Go.Sx.V rfl wu rfl rfl (mv rfl) ?_
          refine wr_br ?_ ?_
          · skip
            refine wt_br ?_
            refine C rfl wu rfl rfl Try.call37 (rNeg P mo md _ _ (hF.ext hX)) ?_
            rintro _ w12 hE12 rfl
            replace hX := hX.trans hE12
            try replace hsci := hsci.ext hE12
            try replace hon := hon.ext hE12
            refine wr_br ?_ ?_
            · skip
              refine wt_leaf ?_
              refine C rfl wu rfl rfl Try.call36 (rPScale P mo md hv _ a _ (hF.ext hX) (hh.ext hX) (by omega)) ?_
              intro sc w13 hE13 hsc
              rw [inK_val] at hsc
              replace hX := hX.trans hE13
              have hsci := OwnI.ints hsc
              try replace hon := hon.ext hE13
              refine BSI (zs := [1]) rfl wu rfl rfl rfl rfl ty22 ?_
              intro on w14 hE14 _ hon _
              replace hX := hX.trans hE14
              try replace hsci := hsci.ext hE14
              refine BSL (us := [sc, on]) (L := [cl (pC (-inK P 1) * pz P a), [1]]) rfl wu rfl rfl rfl rfl ty26 (Go.Sx.rows2 hsci hon) ?_
              intro fc w15 hE15 hfc
              replace hX := hX.trans hE15
              refine Go.Sx.V rfl wu rfl rfl (asg rfl) ?_
              exact wr_cutQ fc ⟨rfl, rfl, rfl, rfl, rfl, rfl, trivial⟩ ⟨hX, hfc⟩
            · skip
              refine wt_leaf ?_
              refine BSI (zs := [1]) rfl wu rfl rfl rfl rfl ty22 ?_
              intro on w14 hE14 _ hon _
              replace hX := hX.trans hE14
              try replace hsci := hsci.ext hE14
              refine C rfl wu rfl rfl Try.call36 (rPScale P mo md hv _ a _ (hF.ext hX) (hh.ext hX) (by omega)) ?_
              intro sc w13 hE13 hsc
              rw [inK_val] at hsc
              replace hX := hX.trans hE13
              have hsci := OwnI.ints hsc
              try replace hon := hon.ext hE13
              refine BSL (us := [sc, on]) (L := [cl (pC (-inK P 1) * pz P a), [1]]) rfl wu rfl rfl rfl rfl ty26 (Go.Sx.rows2 hsci hon) ?_
              intro fc w15 hE15 hfc
              replace hX := hX.trans hE15
              refine Go.Sx.V rfl wu rfl rfl (asg rfl) ?_
              exact wr_cutQ fc ⟨rfl, rfl, rfl, rfl, rfl, rfl, trivial⟩ ⟨hX, hfc⟩
          · skip
            refine wt_leaf ?_
            refine BSI (zs := [1]) rfl wu rfl rfl rfl rfl ty22 ?_
            intro on w14 hE14 _ hon _
            replace hX := hX.trans hE14
            try replace hsci := hsci.ext hE14
            refine C rfl wu rfl rfl Try.call37 (rNeg P mo md _ _ (hF.ext hX)) ?_
            rintro _ w12 hE12 rfl
            replace hX := hX.trans hE12
            try replace hsci := hsci.ext hE12
            try replace hon := hon.ext hE12
            refine C rfl wu rfl rfl Try.call36 (rPScale P mo md hv _ a _ (hF.ext hX) (hh.ext hX) (by omega)) ?_
            intro sc w13 hE13 hsc
            rw [inK_val] at hsc
            replace hX := hX.trans hE13
            have hsci := OwnI.ints hsc
            try replace hon := hon.ext hE13
            refine BSL (us := [sc, on]) (L := [cl (pC (-inK P 1) * pz P a), [1]]) rfl wu rfl rfl rfl rfl ty26 (Go.Sx.rows2 hsci hon) ?_
            intro fc w15 hE15 hfc
            replace hX := hX.trans hE15
            refine Go.Sx.V rfl wu rfl rfl (asg rfl) ?_
            exact wr_cutQ fc ⟨rfl, rfl, rfl, rfl, rfl, rfl, trivial⟩ ⟨hX, hfc⟩
        clear hX
        rintro fc w15 ⟨hX, hfc⟩
        refine post_thenN (wc_seq ?_)
        have rB : RB 6 [cl (pC (-inK P 1) * pz P a), [1]] := fun j => by
          match j with
          | 0 => exact hsl
          | 1 => simp
          | j + 2 => simp
        have hfz : bz P [cl (pC (-inK P 1) * pz P a), [1]] = pC (-(pz P a)) + pX := by
          rw [bz_two, pz_cl, pz_one, pC_hom.one, one_mul, inK1, pC_hom.neg, pC_hom.one, neg_mul, one_mul]
        have hfne : pC (-(pz P a)) + pX ≠ (0 : Pol (Pol (K P))) := fun e => by
          have h1 := congrArg (fun G => (Pol.co G 1).co 0) e
          have h2 : ((pC (-(pz P a)) + pX : Pol (Pol (K P))).co 1).co 0 = 1 := by
            rw [co_add, co_pC, if_neg (by omega)]
            show ((0 + psX 1 : Pol (K P))).co 0 = 1
            rw [psX, if_pos rfl, zero_add]
            rfl
          exact k_one_ne' (h2.symm.trans h1)
        have hne : bz P A * (pC (-(pz P a)) + pX) ≠ 0 := fun e => (pol_nzd (pol_nzd hG.nzd) _ _ e).elim hF0 hfne
        have hsub0 : subst (bz P A * (pC (-(pz P a)) + pX)) (pz P a) = 0 := by
          rw [(subst_hom _).mul, (subst_hom _).add]
          have e1 : subst (pC (-(pz P a))) (pz P a) = -(pz P a) := pev_C Hom.id _ _
          have e2 : subst pX (pz P a) = pz P a := pev_X Hom.id _
          rw [e1, e2, neg_add, mul_zero]
        have xm := XB.rb ((hA2.xb (P := P)).mul (rB.xb (P := P)))
        have ym : (bcl (bz P A * bz P [cl (pC (-inK P 1) * pz P a), [1]])).length ≤ A.length + 2 := bcl_len ((YB.bz A).mul (YB.bz [cl (pC (-inK P 1) * pz P a), [1]]))
        rw [hfz] at xm ym
        refine wc_draw mixed [0,1,2,3,5,6,4,7,8,9,10,11,12] (by kernel_rfl) ?_
        intro w16 hd16 _
        replace hX := hX.trans hd16
        replace hfc := hfc.ext hd16
        refine Go.Sx.V rfl wu rfl rfl (mv rfl) ?_
        refine Go.Sx.V rfl wu rfl rfl (mv rfl) ?_
        refine Go.Sx.V rfl wu rfl rfl (mv rfl) ?_
        refine Go.Sx.V rfl wu rfl rfl (mv rfl) ?_
        refine Go.Sx.V rfl wu rfl rfl (fad rfl fa55_1) ?_
        refine Go.Sx.V rfl wu rfl rfl (ldB rfl na3 (hB3.ext hX)) ?_
        refine C rfl wu rfl rfl Try.call24 (bMul P g u fc A _ 12 6 _ (hG.ext hX) (hu.ext hX) hfc hA2 rB (by omega) (by omega) (by omega) (by simp)) ?_
        intro m w17 hE17 hm2
        rw [hfz] at hm2
        replace hX := hX.trans hE17
        refine C rfl wu rfl rfl Try.call30 (bRoots P g m _ k 18 _ (hG.ext hX) hm2.ll xm (by omega) (by omega)) ?_
        rintro _ w18 hE18 ⟨ls, e, L, rfl, hL, hres⟩
        replace hX := hX.trans hE18
        rw [bz_bcl] at hres
        refine Go.Sx.V rfl wu rfl rfl (mv rfl) ?_
        refine Go.Sx.V rfl wu rfl rfl (ext rfl rfl) ?_
        refine Go.Sx.V rfl wu rfl rfl (ext rfl rfl) ?_
        refine Go.Sx.V rfl wu rfl rfl (asg rfl) ?_
        refine Go.Sx.V rfl wu rfl rfl (asg rfl) ?_
        refine wr_nil (post_thenN (wc_seq (wc_seq ?_)))
        obtain ⟨rfl, R, hR⟩ := roots_ok hG hne ⟨hk0, hk64⟩ hres
        have hmem := hR.has hyk hsub0
        clear hres
        obtain ⟨rows, hs2, hrl, hrr⟩ := hL.row
        have hX12 := Ext.refl w18
        have hrle := hs2.le
        refine wc_region [0,1,2] rfl ?_
        refine Go.Sx.V rfl wu rfl rfl (mv rfl) ?_
        refine Go.Sx.V rfl wu rfl rfl (lenS rfl ty25 hs2) ?_
        refine Go.Sx.V rfl wu rfl rfl (mv rfl) ?_
        refine wr_nil (post_thenN (wc_block ?_))
        rw [hrl]
        refine wc_loop (fun i : Nat => [(3, .pointer (some ⟨fb, 0, none⟩)), (8, hv), (11, .int .i64 0), (76, ls), (77, .int .i64 L.length), (78, .int .i64 i)])
          (fun i w' => i ≤ L.length ∧ Ext w5 w' ∧ Ext w18 w' ∧ ∀ t, t < i → L.getD t [] ≠ cl (pz P a)) (fun i => L.length - i) 0 ⟨rfl, rfl, rfl, rfl, rfl, rfl, trivial⟩ ⟨by omega, hX, hX12, fun t ht => by omega⟩ ?_
        clear hX hX12
        rintro i w19 ⟨i1, hX, hX12, hno⟩
        try dsimp only
        refine wc_seq ?_
        refine wc_region [0] rfl ?_
        refine Go.Sx.V rfl wu rfl rfl (lssI rfl rfl) ?_
        refine wr_nil (post_thenN (wc_seq ?_))
        refine wc_cond rfl ?_ ?_
        · intro hc
          simp at hc
          obtain ⟨r, hr, hri⟩ := hrr i hc
          refine wc_skip (post_thenN (wc_seq (wc_block (wc_seq ?_))))
          refine wc_region [0,1,2] rfl ?_
          refine Go.Sx.V rfl wu rfl rfl (iad rfl rfl ty25 hs2 (by omega) (by omega)) ?_
          refine Go.Sx.V rfl wu rfl rfl (ldE rfl na22 hs2 hr hX12) ?_
          refine Go.Sx.V rfl wu rfl rfl (asg rfl) ?_
          refine wr_nil (post_thenN (wc_seq ?_))
          refine wc_region [0,1,2,3,4] rfl ?_
          refine Go.Sx.V rfl wu rfl rfl (mv rfl) ?_
          refine Go.Sx.V rfl wu rfl rfl (ldA rfl ag24 (hB.ext hX)) ?_
          refine Go.Sx.V rfl wu rfl rfl (mv rfl) ?_
          refine C rfl wu rfl rfl Try.call32 (rPCanon P mo md hv a _ (hF.ext hX) (hh.ext hX) (by omega)) ?_
          intro c2 w20 hE20 hc2
          replace hX := hX.trans hE20
          replace hX12 := hX12.trans hE20
          refine C rfl wu rfl rfl Try.call31 (lSame r c2 _ _ _ (hri.ext hX12) (OwnI.ints hc2)) ?_
          rintro _ w21 hE21 rfl
          replace hX := hX.trans hE21
          replace hX12 := hX12.trans hE21
          refine wr_nil (post_thenN ?_)
          refine wc_cond rfl ?_ ?_
          · intro _
            refine wc_seq ?_
            refine wc_region [0,1,2] rfl ?_
            refine Go.Sx.V rfl wu rfl rfl (mv rfl) ?_
            refine Go.Sx.V rfl wu rfl rfl (eqlI rfl rfl) ?_
            refine Go.Sx.V rfl wu rfl rfl (asg rfl) ?_
            refine wr_nil (post_thenN (wc_ret (post_blockR (post_thenR (post_loopR (post_blockR (post_thenR ?_)))))))
            refine post_ret1 rfl rfl ?_
            exact ⟨hE.trans hX, rfl⟩
          · intro hne
            simp at hne
            refine wc_skip (post_blockN (post_thenN ?_))
            refine wc_region [0,1] rfl ?_
            refine Go.Sx.V rfl wu rfl rfl (addI rfl rfl) ?_
            refine Go.Sx.V rfl wu rfl rfl (mv rfl) ?_
            refine wr_nil ?_
            exact post_loopN (i + 1) ⟨rfl, rfl, rfl, rfl, rfl, rfl, trivial⟩ ⟨by omega, hX, hX12, fun t ht => by
              rcases Nat.lt_or_ge t i with h1 | h1
              · exact hno t h1
              · obtain rfl : t = i := by omega
                rw [List.getD_eq_getElem?_getD]
                simpa using hne⟩ (by omega)
        · intro hc
          simp at hc
          exfalso
          obtain ⟨t, ht, het⟩ := List.getElem_of_mem hmem
          refine hno t (by omega) ?_
          rw [List.getD_eq_getElem?_getD, List.getElem?_eq_getElem ht]
          exact het
    · have hsf : smallB A = false := by simpa using hsm
      refine wc_draw mixed [0,1,2,3,4,5,6,7,8,9,10,11,12,13,14,15,16,17,18,19,20,21,22,23,24,25,26,27,28,29,30,31,32,34,35,33,36,37] (by kernel_rfl) ?_
      intro w6 hd _
      replace hX := hX.trans hd
      refine Go.Sx.V rfl wu rfl rfl (mv rfl) ?_
      rw [hga]
      refine Go.Sx.V rfl wu rfl rfl (eqlPn rfl rfl Try.underlying28) ?_
      rw [← hga]
      refine Go.Sx.V rfl wu rfl rfl (mv rfl) ?_
      refine KB 22 false rfl (by rfl) ?_
      refine Go.Sx.V rfl (wg rfl rfl) rfl rfl (mv rfl) ?_
      refine BS (us := [u]) rfl (wg rfl rfl) rfl rfl rfl rfl ty86 (by intro q hq; obtain rfl : q = u := (by simpa using hq); exact hu.one) ?_
      intro sv w7 hE7 hsv _
      replace hX := hX.trans hE7
      refine C rfl (wg rfl rfl) rfl rfl Try.call18 (lSmall sv _ [A] _ hsv.sl (bis1 (hu.ext hX))) ?_
      rintro _ w8 hE8 rfl
      replace hX := hX.trans hE8
      refine Go.Sx.V rfl (wg rfl rfl) rfl rfl (notB rfl) ?_
      refine Go.Sx.V rfl wu rfl rfl (pk rfl rfl) ?_
      refine Go.Sx.V rfl wu rfl rfl (mv rfl) ?_
      refine KB 28 true rfl (by simp [hsf]) ?_
      refine SK rfl rfl rfl rfl rfl ?_
      refine SK rfl rfl rfl rfl rfl ?_
      refine SK rfl rfl rfl rfl rfl ?_
      refine SK rfl rfl rfl rfl rfl ?_
      refine SK rfl rfl rfl rfl rfl ?_
      refine Go.Sx.V rfl wu rfl rfl (pk rfl rfl) ?_
      refine Go.Sx.V rfl wu rfl rfl (mv rfl) ?_
      refine KB 35 true rfl (by simp [hsf]) ?_
      refine SK rfl rfl rfl rfl rfl ?_
      refine SK rfl rfl rfl rfl rfl ?_
      refine SK rfl rfl rfl rfl rfl ?_
      refine Go.Sx.V rfl wu rfl rfl (pk rfl rfl) ?_
      refine Go.Sx.V rfl wu rfl rfl (mv rfl) ?_
      refine KB 40 true rfl (by simp [hsf]) ?_
      refine SK rfl rfl rfl rfl rfl ?_
      refine SK rfl rfl rfl rfl rfl ?_
      refine SK rfl rfl rfl rfl rfl ?_
      refine Go.Sx.V rfl wu rfl rfl (pk rfl rfl) ?_
      refine Go.Sx.V rfl wu rfl rfl (mv rfl) ?_
      refine KB 45 true rfl (by simp [hsf]) ?_
      refine SK rfl rfl rfl rfl rfl ?_
      refine SK rfl rfl rfl rfl rfl ?_
      refine SK rfl rfl rfl rfl rfl ?_
      refine Go.Sx.V rfl wu rfl rfl (pk rfl rfl) ?_
      refine Go.Sx.V rfl wu rfl rfl (mv rfl) ?_
      refine KB 50 true rfl (by simp [hsf]) ?_
      refine SK rfl rfl rfl rfl rfl ?_
      refine SK rfl rfl rfl rfl rfl ?_
      refine SK rfl rfl rfl rfl rfl ?_
      refine SK rfl rfl rfl rfl rfl ?_
      refine SK rfl rfl rfl rfl rfl ?_
      refine SK rfl rfl rfl rfl rfl ?_
      refine Go.Sx.V rfl wu rfl rfl (pk rfl rfl) ?_
      refine wr_nil (post_thenN ?_)
      refine wc_condT rfl (by simp [hsf]) ?_
      refine wc_seq ?_
      refine wc_region [0] rfl ?_
      refine Go.Sx.V rfl wu rfl rfl (asg rfl) ?_
      refine wr_nil (post_thenN (wc_ret (post_thenR ?_)))
      refine post_ret1 rfl rfl ?_
      exact ⟨hE.trans hX, rfl⟩
namespace FBivariateAllRoots
open Go.ChangeShapes Go.WideShapes Go.ChangeAt Go.RowKit Go.Fr
theorem own : ownKnob Try.prog.godebug = none := by kernel_rfl
theorem laidOut : laidOutB Try.prog = true := by kernel_rfl
set_option maxRecDepth 100000 in
theorem lifted (os : Os) (started : os.Started) (H : Type) (enc : TypeId × Value → H) :
    ReturnsInHanded {} Try.checked os 7 .any (Rows.bivariateAllRootsSpec.pre6 enc Try.prog Try.f7 Rows.bivariateAllRootsRow.domain false) (Rows.bivariateAllRootsSpec.post enc Try.prog Try.f7 false true false false) := by
  refine returnsInHanded_of_change_sized (C := Try.checked) own started (by kernel_rfl) Try.func7
    (ChangeSpec.witness6 (enc := enc) (C := Try.checked) false ⟨#[], #[.agg #[.int .i64 0, .int .i64 0, .slice none 0 0], .slice none 0 0, .agg #[.slice none 0 0, .int .i64 0]], []⟩ 8 (by kernel_rfl) (by kernel_rfl) (by kernel_rfl) (by kernel_rfl)) ?_
  intro W base args ds gs before hval0 hW _ hsz0 _
  have hval : ∀ (j : Nat) t v, Try.f7.params[j]? = some t → args[j]? = some v → Value.okWide Try.prog W .any base t v := hval0
  have hW' := hW
  obtain ⟨p, q, hA0, hV, rfl, hfz, hnd⟩ := hW
  have hA : DataW.TrodAll enc Try.prog W 0 (fun _ => true) true Try.f7.params.toList args.toList ds p := hA0
  have hsz : (DataW.weightsEach Try.prog (Try.f7.params.toList ++ Rows.bivariateAllRootsSpec.plain.varTypes Try.prog) (ds ++ gs)).all (· ≤ reachBytes) = true := hsz0
  rw [Try.params7] at hA hval hsz
  obtain ⟨v0, vs0, d0, ds0, p0, q0, hargs, rfl, rfl, h0, r0⟩ := trodAll_cons hA
  obtain ⟨v1, vs1, d1, ds1, p1, q1, rfl, rfl, rfl, h1, r1⟩ := trodAll_cons r0
  obtain ⟨v2, vs2, d2, ds2, p2, q2, rfl, rfl, rfl, h2, r2⟩ := trodAll_cons r1
  obtain ⟨rfl, rfl, rfl⟩ := trodAll_nil r2
  obtain rfl : args = #[v0, v1, v2] := by cases args; simp_all
  obtain ⟨rfl, rfl⟩ := trodVars_none hV
  have k0 := h0
  have lt0 : ∀ x ∈ p0, x.block < W.heap.size := by obtain ⟨m, hm⟩ := k0; exact DataW.trod_lt m _ _ _ hm
  have w0 : WOK Try.prog 24 d0 := wok_arg hsz (j := 0) rfl rfl
  obtain ⟨x0, s0⟩ := op_field (hval 0 24 v0 rfl rfl) h0 w0
  have k1 := h1
  have lt1 : ∀ x ∈ p1, x.block < W.heap.size := by obtain ⟨m, hm⟩ := k1; exact DataW.trod_lt m _ _ _ hm
  have w1 : WOK Try.prog 26 d1 := wok_arg hsz (j := 1) rfl rfl
  obtain ⟨x1, s1⟩ := op_bi (hval 1 26 v1 rfl rfl) h1 w1
  have k2 := h2
  have lt2 : ∀ x ∈ p2, x.block < W.heap.size := by obtain ⟨m, hm⟩ := k2; exact DataW.trod_lt m _ _ _ hm
  have w2 : WOK Try.prog 55 d2 := wok_arg hsz (j := 2) rfl rfl
  obtain ⟨x2, s2⟩ := op_root (hval 2 55 v2 rfl rfl) h2 w2
  refine (law_BivariateAllRoots (w := W) v0 x0 s0 v1 x1 s1 v2 x2 s2).mono fun e W' he => ?_
  cases e with
  | panicked c => exact he.elim
  | outgrown => exact he.elim
  | returned v =>
    obtain ⟨bel, rfl⟩ := he
    exact ⟨_, rfl, _, _, _, [], _, [], hW', trodAll_mk1 (shut_bool Try.underlying4 _), (trodAll_cons_mk (Below.trod laidOut (by kernel_rfl) (of_decide_eq_true (by kernel_rfl)) k0 bel lt0) (trodAll_cons_mk (Below.trod laidOut (by kernel_rfl) (of_decide_eq_true (by kernel_rfl)) k1 bel lt1) (trodAll_cons_mk (Below.trod laidOut (by kernel_rfl) (of_decide_eq_true (by kernel_rfl)) k2 bel lt2) trodAll_mk0))), rfl, bel.frame _, fun h => by cases h⟩
theorem over : Rows.bivariateAllRootsRow.holds Try.pinned (OpenSpec.ofChange Rows.bivariateAllRootsSpec) :=
  OpenClaim.holds_of_wide 7 Try.f7 rfl rfl rfl rfl rfl rfl rfl ⟨rfl, rfl, rfl, rfl, rfl⟩ rfl rfl rfl rfl rfl (by kernel_rfl) Try.func7 (by kernel_rfl)
    (of_decide_eq_true (by kernel_rfl)) (by unfold Func.isWrapper; first | (rw [if_pos (by decide +kernel)]; kernel_rfl) | (rw [if_neg (by decide +kernel)]; exact ⟨rfl, rfl⟩))
    (fun os started H enc _ => lifted os started H enc)
end FBivariateAllRoots
/-- The statement. -/
theorem bivariateAllRoots_holds : Rows.BivariateAllRootsSaid := FBivariateAllRoots.over
namespace FBivariateFactors
open Go.ChangeShapes Go.WideShapes Go.ChangeAt Go.RowKit Go.Fr
theorem own : ownKnob Try.prog.godebug = none := by kernel_rfl
theorem laidOut : laidOutB Try.prog = true := by kernel_rfl
set_option maxRecDepth 100000 in
theorem lifted (os : Os) (started : os.Started) (H : Type) (enc : TypeId × Value → H) :
    ReturnsInHanded {} Try.checked os 8 .any (Rows.bivariateFactorsSpec.pre6 enc Try.prog Try.f8 Rows.bivariateFactorsRow.domain false) (Rows.bivariateFactorsSpec.post enc Try.prog Try.f8 false true false false) := by
  refine returnsInHanded_of_change_sized (C := Try.checked) own started (by kernel_rfl) Try.func8
    (ChangeSpec.witness6 (enc := enc) (C := Try.checked) false ⟨#[], #[.agg #[.int .i64 0, .int .i64 0, .slice none 0 0], .slice none 0 0, .agg #[.slice none 0 0, .int .i64 0]], []⟩ 8 (by kernel_rfl) (by kernel_rfl) (by kernel_rfl) (by kernel_rfl)) ?_
  intro W base args ds gs before hval0 hW _ hsz0 _
  have hval : ∀ (j : Nat) t v, Try.f8.params[j]? = some t → args[j]? = some v → Value.okWide Try.prog W .any base t v := hval0
  have hW' := hW
  obtain ⟨p, q, hA0, hV, rfl, hfz, hnd⟩ := hW
  have hA : DataW.TrodAll enc Try.prog W 0 (fun _ => true) true Try.f8.params.toList args.toList ds p := hA0
  have hsz : (DataW.weightsEach Try.prog (Try.f8.params.toList ++ Rows.bivariateFactorsSpec.plain.varTypes Try.prog) (ds ++ gs)).all (· ≤ reachBytes) = true := hsz0
  rw [Try.params8] at hA hval hsz
  obtain ⟨v0, vs0, d0, ds0, p0, q0, hargs, rfl, rfl, h0, r0⟩ := trodAll_cons hA
  obtain ⟨v1, vs1, d1, ds1, p1, q1, rfl, rfl, rfl, h1, r1⟩ := trodAll_cons r0
  obtain ⟨v2, vs2, d2, ds2, p2, q2, rfl, rfl, rfl, h2, r2⟩ := trodAll_cons r1
  obtain ⟨rfl, rfl, rfl⟩ := trodAll_nil r2
  obtain rfl : args = #[v0, v1, v2] := by cases args; simp_all
  obtain ⟨rfl, rfl⟩ := trodVars_none hV
  have k0 := h0
  have lt0 : ∀ x ∈ p0, x.block < W.heap.size := by obtain ⟨m, hm⟩ := k0; exact DataW.trod_lt m _ _ _ hm
  have w0 : WOK Try.prog 24 d0 := wok_arg hsz (j := 0) rfl rfl
  obtain ⟨x0, s0⟩ := op_field (hval 0 24 v0 rfl rfl) h0 w0
  have k1 := h1
  have lt1 : ∀ x ∈ p1, x.block < W.heap.size := by obtain ⟨m, hm⟩ := k1; exact DataW.trod_lt m _ _ _ hm
  have w1 : WOK Try.prog 26 d1 := wok_arg hsz (j := 1) rfl rfl
  obtain ⟨x1, s1⟩ := op_bi (hval 1 26 v1 rfl rfl) h1 w1
  have k2 := h2
  have lt2 : ∀ x ∈ p2, x.block < W.heap.size := by obtain ⟨m, hm⟩ := k2; exact DataW.trod_lt m _ _ _ hm
  have w2 : WOK Try.prog 55 d2 := wok_arg hsz (j := 2) rfl rfl
  obtain ⟨x2, s2⟩ := op_root (hval 2 55 v2 rfl rfl) h2 w2
  refine (law_BivariateFactors (w := W) v0 x0 s0 v1 x1 s1 v2 x2 s2).mono fun e W' he => ?_
  cases e with
  | panicked c => exact he.elim
  | outgrown => exact he.elim
  | returned v =>
    obtain ⟨bel, rfl⟩ := he
    exact ⟨_, rfl, _, _, _, [], _, [], hW', trodAll_mk1 (shut_bool Try.underlying4 _), (trodAll_cons_mk (Below.trod laidOut (by kernel_rfl) (of_decide_eq_true (by kernel_rfl)) k0 bel lt0) (trodAll_cons_mk (Below.trod laidOut (by kernel_rfl) (of_decide_eq_true (by kernel_rfl)) k1 bel lt1) (trodAll_cons_mk (Below.trod laidOut (by kernel_rfl) (of_decide_eq_true (by kernel_rfl)) k2 bel lt2) trodAll_mk0))), rfl, bel.frame _, fun h => by cases h⟩
theorem over : Rows.bivariateFactorsRow.holds Try.pinned (OpenSpec.ofChange Rows.bivariateFactorsSpec) :=
  OpenClaim.holds_of_wide 8 Try.f8 rfl rfl rfl rfl rfl rfl rfl ⟨rfl, rfl, rfl, rfl, rfl⟩ rfl rfl rfl rfl rfl (by kernel_rfl) Try.func8 (by kernel_rfl)
    (of_decide_eq_true (by kernel_rfl)) (by unfold Func.isWrapper; first | (rw [if_pos (by decide +kernel)]; kernel_rfl) | (rw [if_neg (by decide +kernel)]; exact ⟨rfl, rfl⟩))
    (fun os started H enc _ => lifted os started H enc)
end FBivariateFactors
/-- The statement. -/
theorem bivariateFactors_holds : Rows.BivariateFactorsSaid := FBivariateFactors.over
end Go.Proofs.Ytjpcgjllmpdmhaa
