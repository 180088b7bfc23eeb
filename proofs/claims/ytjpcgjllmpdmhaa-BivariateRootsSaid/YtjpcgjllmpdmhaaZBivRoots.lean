/-
  Statement BivariateRoots: for every description of a field, every polynomial in two variables and every bound the law returns true. No condition.
-/
import Derived.Test.YtjpcgjllmpdmhaaZOpen40
import Derived.Test.YtjpcgjllmpdmhaaZRBiv2
import Derived.Test.YtjpcgjllmpdmhaaZMPa
import Derived.Test.YtjpcgjllmpdmhaaRows
namespace Go.Proofs.Ytjpcgjllmpdmhaa
open Go Go.Sx Go.Pl Go.RowKit Go.Fd Go.Alg Go.Fr

set_option maxRecDepth 10000 in
theorem law_BivariateRoots {w : World} (v0 : Value) (r : FRec) (s0 : v0 = r.v ∧ FOf w r) (u : Value) (A : List (List Int)) (s1 : LL w u A ∧ LLFit A) (k : Int) (_ : Go.Fr.Fits k) :
    Calls Try.prog 6 #[v0, u, .int .i64 k] w (RetX w fun v _ => v = .bool true) := by
  obtain ⟨p, M, mo, md⟩ := r
  obtain ⟨rfl, hr⟩ := s0
  obtain ⟨hu, _⟩ := s1
  refine calls3 Try.func6 rfl rfl ?_
  refine wc_seq ?_
  refine wc_region [0,1] rfl ?_
  refine BXA rfl wu rfl rfl ?_
  intro fb w1 hE hB hg
  refine Go.Sx.V rfl wu rfl rfl (asg rfl) ?_
  refine wr_nil (post_thenN (wc_seq (wc_seq ?_)))
  refine wc_region [0,1] rfl ?_
  refine C rfl wu rfl rfl Try.call16 (lAlive _) ?_
  rintro _ w4 hE4 rfl
  replace hB := hB.ext hE4
  replace hE := hE.trans hE4
  refine Go.Sx.V rfl wu rfl rfl (notB rfl) ?_
  refine wr_nil (post_thenN ?_)
  refine wc_condF rfl (by simp) ?_
  refine wc_skip (post_thenN (wc_seq ?_))
  have hmi := hr.ints.ext hE
  dsimp only at hmi hB
  refine wc_region [0,1,2] rfl ?_
  refine Go.Sx.V rfl wu rfl rfl (ldA rfl ag24) ?_
  refine C rfl wu rfl rfl Try.call17 (lMade p M mo md _ hmi) ?_
  rintro g w5 hE5 hm
  replace hB := hB.ext hE5
  replace hE := hE.trans hE5
  refine Go.Sx.V rfl wu rfl rfl (asg rfl) ?_
  refine wr_nil (post_thenN (wc_seq (wc_seq ?_)))
  replace hmi := hmi.ext hE5
  replace hu := hu.ext hE
  have hX := Ext.refl w5
  rcases made_split hm hmi with rfl | ⟨P, hp, hM, hF, hG⟩
  · skip
    refine wc_region [0,1,2,3,4,5,6,7] rfl ?_
    refine Go.Sx.V rfl wu rfl rfl (mv rfl) ?_
    refine Go.Sx.V rfl wu rfl rfl (eqlPn rfl rfl Try.underlying28) ?_
    refine Go.Sx.V rfl wu rfl rfl (mv rfl) ?_
    refine KB 19 true rfl (by rfl) ?_
    refine SK rfl rfl rfl rfl rfl ?_
    refine SK rfl rfl rfl rfl rfl ?_
    refine SK rfl rfl rfl rfl rfl ?_
    refine SK rfl rfl rfl rfl rfl ?_
    refine Go.Sx.V rfl wu rfl rfl (pk rfl rfl) ?_
    refine wr_nil (post_thenN ?_)
    refine wc_condT rfl (by simp) ?_
    refine wc_seq ?_
    refine wc_region [0] rfl ?_
    refine Go.Sx.V rfl wu rfl rfl (asg rfl) ?_
    refine wr_nil (post_thenN (wc_ret (post_thenR ?_)))
    refine post_ret1 rfl rfl ?_
    exact ⟨hE.trans hX, rfl⟩
  · subst hp hM
    obtain ⟨ga, hga⟩ := hG.ptr
    refine wc_region [0,1,2,3,4,5,6,7] rfl ?_
    refine Go.Sx.V rfl wu rfl rfl (mv rfl) ?_
    rw [hga]
    refine Go.Sx.V rfl wu rfl rfl (eqlPn rfl rfl Try.underlying28) ?_
    rw [← hga]
    refine Go.Sx.V rfl wu rfl rfl (mv rfl) ?_
    refine KB 19 false rfl (by rfl) ?_
    refine Go.Sx.V rfl (wg rfl rfl) rfl rfl (mv rfl) ?_
    refine BS (us := [u]) rfl (wg rfl rfl) rfl rfl rfl rfl ty86 (by intro q hq; obtain rfl : q = u := (by simpa using hq); exact hu.one) ?_
    intro sv w7 hE7 hsv _
    replace hX := hX.trans hE7
    refine C rfl (wg rfl rfl) rfl rfl Try.call18 (lSmall sv _ [A] _ hsv.sl (bis1 (hu.ext hX))) ?_
    rintro _ w8 hE8 rfl
    replace hX := hX.trans hE8
    refine Go.Sx.V rfl (wg rfl rfl) rfl rfl (notB rfl) ?_
    refine Go.Sx.V rfl wu rfl rfl (pk rfl rfl) ?_
    refine wr_nil (post_thenN ?_)
    refine wc_cond rfl ?_ ?_
    · intro h
      refine wc_seq ?_
      refine wc_region [0] rfl ?_
      refine Go.Sx.V rfl wu rfl rfl (asg rfl) ?_
      refine wr_nil (post_thenN (wc_ret (post_thenR ?_)))
      refine post_ret1 rfl rfl ?_
      exact ⟨hE.trans hX, rfl⟩
    · intro h
      simp at h
      obtain ⟨hA1, hA2⟩ := smallB_iff.1 h
      have rA := hA2.mono (show 12 ≤ 17592186044416 by omega)
      refine wc_skip (post_thenN (wc_seq ?_))
      refine wc_region [0,1,2,3,4,5,6,7,8] rfl ?_
      refine Go.Sx.V rfl wu rfl rfl (mv rfl) ?_
      refine Go.Sx.V rfl wu rfl rfl (mv rfl) ?_
      refine Go.Sx.V rfl wu rfl rfl (mv rfl) ?_
      refine C rfl wu rfl rfl Try.call30 (bRoots P g u A k 12 _ (hG.ext hX) (hu.ext hX) hA2 (by omega) (by omega)) ?_
      rintro _ w9 hE9 ⟨ls, e, L, rfl, hL, hres⟩
      replace hX := hX.trans hE9
      refine Go.Sx.V rfl wu rfl rfl (mv rfl) ?_
      refine Go.Sx.V rfl wu rfl rfl (ext rfl rfl) ?_
      refine Go.Sx.V rfl wu rfl rfl (ext rfl rfl) ?_
      refine Go.Sx.V rfl wu rfl rfl (asg rfl) ?_
      refine Go.Sx.V rfl wu rfl rfl (asg rfl) ?_
      refine wr_nil (post_thenN (wc_seq ?_))
      refine wc_region [0,1,2,3,4] rfl ?_
      refine Go.Sx.V rfl wu rfl rfl (ldA rfl ag24 (hB.ext hX)) ?_
      refine Go.Sx.V rfl wu rfl rfl (mv rfl) ?_
      refine C rfl wu rfl rfl Try.call21 (rBCanon P mo md u A _ (hF.ext hX) (hu.ext hX) rA (by omega)) ?_
      intro c w10 hE10 hc
      replace hX := hX.trans hE10
      replace hL := hL.ext hE10
      obtain ⟨crows, hcs, hcl, hcx⟩ := hc.ll.row
      rw [← hcl] at hcx
      refine Go.Sx.V rfl wu rfl rfl (lenS rfl ty26 hcs) ?_
      refine Go.Sx.V rfl wu rfl rfl (asg rfl) ?_
      refine wr_nil (post_thenN (wc_seq (wc_block (wc_seq ?_))))
      obtain ⟨rows, hs2, hrl, hrr⟩ := hL.row
      have hle2 := hs2.le
      have hle3 := hcs.le
      refine wc_region [0,1,2] rfl ?_
      refine Go.Sx.V rfl wu rfl rfl (mv rfl) ?_
      refine Go.Sx.V rfl wu rfl rfl (eqlI rfl rfl) ?_
      refine Go.Sx.V rfl wu rfl rfl (asg rfl) ?_
      refine wr_nil (post_thenN ?_)
      rcases hres with ⟨h0, rfl, rfl⟩ | ⟨h0, hk, rfl, rfl⟩ | ⟨h0, hk, rfl, hLe⟩
      · have hz : crows.length = 0 := by rw [hcl, bcl_nil.2 h0]; rfl
        refine wc_condT rfl (by simp; exact List.eq_nil_of_length_eq_zero hz) ?_
        refine wc_seq ?_
        refine wc_region [0,1,2,3,4,5,6,7] rfl ?_
        refine Go.Sx.V rfl wu rfl rfl (mv rfl) ?_
        refine Go.Sx.V rfl wu rfl rfl (eqlI rfl rfl) ?_
        refine Go.Sx.V rfl wu rfl rfl (mv rfl) ?_
        refine KB 41 true rfl (by rfl) ?_
        refine Go.Sx.V rfl (wg rfl rfl) rfl rfl (mv rfl) ?_
        refine Go.Sx.V rfl (wg rfl rfl) rfl rfl (lenS rfl ty25 hs2) ?_
        refine Go.Sx.V rfl (wg rfl rfl) rfl rfl (eqlI rfl rfl) ?_
        refine Go.Sx.V rfl wu rfl rfl (pk rfl rfl) ?_
        refine Go.Sx.V rfl wu rfl rfl (asg rfl) ?_
        refine wr_nil (post_thenN (wc_ret (post_blockR (post_thenR ?_))))
        refine post_ret1 rfl rfl ?_
        exact ⟨hE.trans hX, by rw [hrl]; simp⟩
      · have hz : ¬ crows.length = 0 := fun e => h0 (bcl_nil.1 (List.eq_nil_of_length_eq_zero (by omega)))
        refine wc_condF rfl (by simp; exact fun e => hz (by rw [e]; rfl)) ?_
        refine wc_seq ?_
        refine wc_region [0,1,2,3,4,5,6] rfl ?_
        refine Go.Sx.V rfl wu rfl rfl (mv rfl) ?_
        refine Go.Sx.V rfl wu rfl rfl (lssI rfl rfl) ?_
        refine Go.Sx.V rfl wu rfl rfl (mv rfl) ?_
        refine OR (π1 := [3,4,5]) (π2 := [6]) (tc := 49) (tp := 52) rfl rfl rfl (by
            intro _
            refine SK rfl rfl rfl rfl rfl ?_
            refine SK rfl rfl rfl rfl rfl ?_
            refine Go.Sx.V rfl wu rfl rfl (pk rfl rfl) ?_
            exact join rfl) (by
            intro hg
            simp at hg
            refine Go.Sx.V rfl (wg rfl rfl) rfl rfl (mv rfl) ?_
            refine Go.Sx.V rfl (wg rfl rfl) rfl rfl (gtrI rfl rfl) ?_
            refine Go.Sx.V rfl wu rfl rfl (pk rfl rfl) ?_
            exact join rfl) ?_
        refine Go.Sx.V rfl wu rfl rfl (asg rfl) ?_
        refine wr_nil (post_thenN ?_)
        refine wc_condT rfl (by simp <;> omega) ?_
        refine wc_seq ?_
        refine wc_region [0,1,2,3,4,5,6,7] rfl ?_
        refine Go.Sx.V rfl wu rfl rfl (mv rfl) ?_
        refine Go.Sx.V rfl wu rfl rfl (eqlI rfl rfl) ?_
        refine Go.Sx.V rfl wu rfl rfl (mv rfl) ?_
        refine KB 55 true rfl (by rfl) ?_
        refine Go.Sx.V rfl (wg rfl rfl) rfl rfl (mv rfl) ?_
        refine Go.Sx.V rfl (wg rfl rfl) rfl rfl (lenS rfl ty25 hs2) ?_
        refine Go.Sx.V rfl (wg rfl rfl) rfl rfl (eqlI rfl rfl) ?_
        refine Go.Sx.V rfl wu rfl rfl (pk rfl rfl) ?_
        refine Go.Sx.V rfl wu rfl rfl (asg rfl) ?_
        refine wr_nil (post_thenN (wc_ret (post_blockR (post_thenR ?_))))
        refine post_ret1 rfl rfl ?_
        exact ⟨hE.trans hX, by rw [hrl]; simp⟩
      · have hz : ¬ crows.length = 0 := fun e => h0 (bcl_nil.1 (List.eq_nil_of_length_eq_zero (by omega)))
        obtain ⟨R, hR⟩ : ∃ R, RtL (bz P A) k.toNat L R := ⟨rts (elsK P) k.toNat (bz P A), by rw [hLe]; exact found_list hG.nzd h0 k.toNat⟩
        have hlen : L.length ≤ crows.length - 1 := by
          rw [hR.eq, List.length_map]
          exact hR.len _ (fun j hj => bcl_over _ (by omega))
        refine wc_condF rfl (by simp; exact fun e => hz (by rw [e]; rfl)) ?_
        refine wc_seq ?_
        refine wc_region [0,1,2,3,4,5,6] rfl ?_
        refine Go.Sx.V rfl wu rfl rfl (mv rfl) ?_
        refine Go.Sx.V rfl wu rfl rfl (lssI rfl rfl) ?_
        refine Go.Sx.V rfl wu rfl rfl (mv rfl) ?_
        refine OR (π1 := [3,4,5]) (π2 := [6]) (tc := 49) (tp := 52) rfl rfl rfl (by
            intro _
            refine SK rfl rfl rfl rfl rfl ?_
            refine SK rfl rfl rfl rfl rfl ?_
            refine Go.Sx.V rfl wu rfl rfl (pk rfl rfl) ?_
            exact join rfl) (by
            intro hg
            simp at hg
            refine Go.Sx.V rfl (wg rfl rfl) rfl rfl (mv rfl) ?_
            refine Go.Sx.V rfl (wg rfl rfl) rfl rfl (gtrI rfl rfl) ?_
            refine Go.Sx.V rfl wu rfl rfl (pk rfl rfl) ?_
            exact join rfl) ?_
        refine Go.Sx.V rfl wu rfl rfl (asg rfl) ?_
        refine wr_nil (post_thenN ?_)
        refine wc_condF rfl (by simp <;> omega) ?_
        refine wc_skip (post_blockN (post_thenN (wc_seq (wc_seq ?_))))
        refine wc_region [0,1,2,3,4,5,6,7,8] rfl ?_
        refine Go.Sx.V rfl wu rfl rfl (mv rfl) ?_
        refine Go.Sx.V rfl wu rfl rfl (neqI rfl rfl) ?_
        refine Go.Sx.V rfl wu rfl rfl (mv rfl) ?_
        refine KB 62 false rfl (by rfl) ?_
        refine Go.Sx.V rfl (wg rfl rfl) rfl rfl (mv rfl) ?_
        refine Go.Sx.V rfl (wg rfl rfl) rfl rfl (lenS rfl ty25 hs2) ?_
        refine Go.Sx.V rfl (wg rfl rfl) rfl rfl (mv rfl) ?_
        refine Go.Sx.V rfl (wg rfl rfl) rfl rfl (subI rfl rfl) ?_
        refine Go.Sx.V rfl (wg rfl rfl) rfl rfl (gtrI rfl rfl) ?_
        refine Go.Sx.V rfl wu rfl rfl (pk rfl rfl) ?_
        refine wr_nil (post_thenN ?_)
        refine wc_condF rfl (by rw [hrl]; simp <;> omega) ?_
        refine wc_skip (post_thenN (wc_seq (wc_seq ?_)))
        have hX12 := Ext.refl w10
        refine wc_region [0,1,2] rfl ?_
        refine Go.Sx.V rfl wu rfl rfl (mv rfl) ?_
        refine Go.Sx.V rfl wu rfl rfl (lenS rfl ty25 hs2) ?_
        refine Go.Sx.V rfl wu rfl rfl (mv rfl) ?_
        refine wr_nil (post_thenN (wc_block ?_))
        rw [hrl]
        refine wc_loop (fun i : Nat => [(1, u), (2, .int .i64 k), (3, .pointer (some ⟨fb, 0, none⟩)), (8, ls), (69, ls), (70, .int .i64 L.length), (71, .int .i64 i)])
          (fun i w' => i ≤ L.length ∧ Ext w5 w' ∧ Ext w10 w') (fun i => L.length - i) 0 ⟨rfl, rfl, rfl, rfl, rfl, rfl, rfl, trivial⟩ ⟨by omega, hX, hX12⟩ ?_
        clear hX hX12
        rintro i w13 ⟨i1, hX, hX12⟩
        try dsimp only
        refine wc_seq ?_
        refine wc_region [0] rfl ?_
        refine Go.Sx.V rfl wu rfl rfl (lssI rfl rfl) ?_
        refine wr_nil (post_thenN (wc_seq ?_))
        refine wc_cond rfl ?_ ?_
        · intro hc5
          simp at hc5
          obtain ⟨r, hr, hri⟩ := hrr i hc5
          obtain ⟨gg, hg1, hg2, hg3⟩ := hR.row hc5
          have hgl : (cl gg).length ≤ k.toNat := cl_len hg2
          have hless : ∀ j, j + 1 = i → LessP (pz P (L.getD j [])) (pz P (L.getD i [])) k.toNat := fun j hj => by
            subst hj
            exact hR.less hc5
          refine wc_skip (post_thenN (wc_seq (wc_block (wc_seq ?_))))
          refine wc_region [0,1,2,3,4] rfl ?_
          refine Go.Sx.V rfl wu rfl rfl (mv rfl) ?_
          refine Go.Sx.V rfl wu rfl rfl (iad rfl rfl ty25 hs2 (by omega) (by omega)) ?_
          refine Go.Sx.V rfl wu rfl rfl (ldE rfl na22 hs2 hr hX12) ?_
          refine Go.Sx.V rfl wu rfl rfl (asg rfl) ?_
          refine Go.Sx.V rfl wu rfl rfl (asg rfl) ?_
          refine wr_nil (post_thenN (wc_seq ?_))
          rcases Nat.eq_zero_or_pos i with hi0 | hi0
          · skip
            refine wc_draw mixed [0,1,2,3,4,5,6,7,8,9,10,11,12,13,14,15,16,17,18,19,20,21,22,23,24,25,26,27,28,29,30,31,32,33,34,35] (by kernel_rfl) ?_
            intro w14 hd14 _
            replace hX := hX.trans hd14
            replace hX12 := hX12.trans hd14
            refine Go.Sx.V rfl wu rfl rfl (mv rfl) ?_
            refine Go.Sx.V rfl wu rfl rfl (lenI rfl ty22 hri) ?_
            refine Go.Sx.V rfl wu rfl rfl (mv rfl) ?_
            refine Go.Sx.V rfl wu rfl rfl (gtrI rfl rfl) ?_
            refine Go.Sx.V rfl wu rfl rfl (mv rfl) ?_
            refine KB 80 false rfl (by rw [hg1]; simp <;> omega) ?_
            refine Go.Sx.V rfl (wg rfl rfl) rfl rfl (mv rfl) ?_
            refine Go.Sx.V rfl (wg rfl rfl) rfl rfl (ldA rfl ag24 (hB.ext hX)) ?_
            refine Go.Sx.V rfl (wg rfl rfl) rfl rfl (mv rfl) ?_
            refine C rfl (wg rfl rfl) rfl rfl Try.call32 (rPCanon P mo md r _ _ (hF.ext hX) (hri.ext hX12) (by rw [hg1]; omega)) ?_
            intro c2 w15 hE15 hc2
            replace hX := hX.trans hE15
            replace hX12 := hX12.trans hE15
            refine C rfl (wg rfl rfl) rfl rfl Try.call31 (lSame r c2 _ _ _ (hri.ext hX12) (OwnI.ints hc2)) ?_
            rintro _ w16 hE16 rfl
            replace hX := hX.trans hE16
            replace hX12 := hX12.trans hE16
            refine Go.Sx.V rfl (wg rfl rfl) rfl rfl (notB rfl) ?_
            refine Go.Sx.V rfl wu rfl rfl (pk rfl rfl) ?_
            refine Go.Sx.V rfl wu rfl rfl (mv rfl) ?_
            refine KB 88 false rfl (by rw [hg1, pz_cl]; simp <;> omega) ?_
            refine Go.Sx.V rfl (wg rfl rfl) rfl rfl (ldA rfl ag24 (hB.ext hX)) ?_
            refine Go.Sx.V rfl (wg rfl rfl) rfl rfl (mv rfl) ?_
            refine Go.Sx.V rfl (wg rfl rfl) rfl rfl (mv rfl) ?_
            refine C rfl (wg rfl rfl) rfl rfl Try.call33 (rBSubst P mo md u r A _ 12 _ (hF.ext hX) (hu.ext hX) (hri.ext hX12) hA2 (by omega) (by rw [hg1]; omega) (by omega)) ?_
            intro s w17 hE17 hs
            replace hX := hX.trans hE17
            replace hX12 := hX12.trans hE17
            have hsi := OwnI.ints hs
            refine Go.Sx.V rfl (wg rfl rfl) rfl rfl (lenI rfl ty22 hsi) ?_
            refine Go.Sx.V rfl (wg rfl rfl) rfl rfl (gtrI rfl rfl) ?_
            refine Go.Sx.V rfl wu rfl rfl (pk rfl rfl) ?_
            refine Go.Sx.V rfl wu rfl rfl (mv rfl) ?_
            refine KB 96 false rfl (by rw [hg1, pz_cl, hg3, cl_zero]; simp <;> omega) ?_
            refine Go.Sx.V rfl (wg rfl rfl) rfl rfl (mv rfl) ?_
            refine Go.Sx.V rfl (wg rfl rfl) rfl rfl (gtrI rfl rfl) ?_
            refine Go.Sx.V rfl (wg rfl rfl) rfl rfl (mv rfl) ?_
            refine KB 99 false rfl (by simp <;> omega) ?_
            refine SK rfl rfl rfl rfl rfl ?_
            refine SK rfl rfl rfl rfl rfl ?_
            refine SK rfl rfl rfl rfl rfl ?_
            refine SK rfl rfl rfl rfl rfl ?_
            refine SK rfl rfl rfl rfl rfl ?_
            refine SK rfl rfl rfl rfl rfl ?_
            refine SK rfl rfl rfl rfl rfl ?_
            refine SK rfl rfl rfl rfl rfl ?_
            refine SK rfl rfl rfl rfl rfl ?_
            refine SK rfl rfl rfl rfl rfl ?_
            refine Go.Sx.V rfl (wg rfl rfl) rfl rfl (pk rfl rfl) ?_
            refine Go.Sx.V rfl wu rfl rfl (pk rfl rfl) ?_
            refine wr_nil (post_thenN ?_)
            refine wc_condF rfl (by simp [hg1, pz_cl, hg3, cl_zero] <;> omega) ?_
            refine wc_skip (post_blockN (post_thenN ?_))
            refine wc_region [0,1] rfl ?_
            refine Go.Sx.V rfl wu rfl rfl (addI rfl rfl) ?_
            refine Go.Sx.V rfl wu rfl rfl (mv rfl) ?_
            refine wr_nil ?_
            exact post_loopN (i + 1) ⟨rfl, rfl, rfl, rfl, rfl, rfl, rfl, trivial⟩ ⟨by omega, hX, hX12⟩ (by omega)
          · obtain ⟨r2, hr2, hri2⟩ := hrr (i - 1) (by omega)
            have hl := hless (i - 1) (by omega)
            refine wc_draw mixed [0,1,2,3,4,5,6,7,8,9,10,11,12,13,14,15,16,17,18,19,20,21,22,23,24,25,26,27,28,29,30,31,32,33,34,35] (by kernel_rfl) ?_
            intro w14 hd14 _
            replace hX := hX.trans hd14
            replace hX12 := hX12.trans hd14
            refine Go.Sx.V rfl wu rfl rfl (mv rfl) ?_
            refine Go.Sx.V rfl wu rfl rfl (lenI rfl ty22 hri) ?_
            refine Go.Sx.V rfl wu rfl rfl (mv rfl) ?_
            refine Go.Sx.V rfl wu rfl rfl (gtrI rfl rfl) ?_
            refine Go.Sx.V rfl wu rfl rfl (mv rfl) ?_
            refine KB 80 false rfl (by rw [hg1]; simp <;> omega) ?_
            refine Go.Sx.V rfl (wg rfl rfl) rfl rfl (mv rfl) ?_
            refine Go.Sx.V rfl (wg rfl rfl) rfl rfl (ldA rfl ag24 (hB.ext hX)) ?_
            refine Go.Sx.V rfl (wg rfl rfl) rfl rfl (mv rfl) ?_
            refine C rfl (wg rfl rfl) rfl rfl Try.call32 (rPCanon P mo md r _ _ (hF.ext hX) (hri.ext hX12) (by rw [hg1]; omega)) ?_
            intro c2 w15 hE15 hc2
            replace hX := hX.trans hE15
            replace hX12 := hX12.trans hE15
            refine C rfl (wg rfl rfl) rfl rfl Try.call31 (lSame r c2 _ _ _ (hri.ext hX12) (OwnI.ints hc2)) ?_
            rintro _ w16 hE16 rfl
            replace hX := hX.trans hE16
            replace hX12 := hX12.trans hE16
            refine Go.Sx.V rfl (wg rfl rfl) rfl rfl (notB rfl) ?_
            refine Go.Sx.V rfl wu rfl rfl (pk rfl rfl) ?_
            refine Go.Sx.V rfl wu rfl rfl (mv rfl) ?_
            refine KB 88 false rfl (by rw [hg1, pz_cl]; simp <;> omega) ?_
            refine Go.Sx.V rfl (wg rfl rfl) rfl rfl (ldA rfl ag24 (hB.ext hX)) ?_
            refine Go.Sx.V rfl (wg rfl rfl) rfl rfl (mv rfl) ?_
            refine Go.Sx.V rfl (wg rfl rfl) rfl rfl (mv rfl) ?_
            refine C rfl (wg rfl rfl) rfl rfl Try.call33 (rBSubst P mo md u r A _ 12 _ (hF.ext hX) (hu.ext hX) (hri.ext hX12) hA2 (by omega) (by rw [hg1]; omega) (by omega)) ?_
            intro s w17 hE17 hs
            replace hX := hX.trans hE17
            replace hX12 := hX12.trans hE17
            have hsi := OwnI.ints hs
            refine Go.Sx.V rfl (wg rfl rfl) rfl rfl (lenI rfl ty22 hsi) ?_
            refine Go.Sx.V rfl (wg rfl rfl) rfl rfl (gtrI rfl rfl) ?_
            refine Go.Sx.V rfl wu rfl rfl (pk rfl rfl) ?_
            refine Go.Sx.V rfl wu rfl rfl (mv rfl) ?_
            refine KB 96 false rfl (by rw [hg1, pz_cl, hg3, cl_zero]; simp <;> omega) ?_
            refine Go.Sx.V rfl (wg rfl rfl) rfl rfl (mv rfl) ?_
            refine Go.Sx.V rfl (wg rfl rfl) rfl rfl (gtrI rfl rfl) ?_
            refine Go.Sx.V rfl (wg rfl rfl) rfl rfl (mv rfl) ?_
            refine KB 99 true rfl (by simp <;> omega) ?_
            refine Go.Sx.V rfl (wg rfl rfl) rfl rfl (ldA rfl ag24 (hB.ext hX)) ?_
            refine Go.Sx.V rfl (wg rfl rfl) rfl rfl (mv rfl) ?_
            refine Go.Sx.V rfl (wg rfl rfl) rfl rfl (mv rfl) ?_
            refine Go.Sx.V rfl (wg rfl rfl) rfl rfl (subI rfl rfl) ?_
            refine Go.Sx.V rfl (wg rfl rfl) rfl rfl (iad rfl rfl ty25 hs2 (by omega) (by omega)) ?_
            refine Go.Sx.V rfl (wg rfl rfl) rfl rfl (ldE rfl na22 hs2 (by rw [show ((i : Int) - 1).toNat = i - 1 by omega]; exact hr2) hX12) ?_
            refine Go.Sx.V rfl (wg rfl rfl) rfl rfl (mv rfl) ?_
            refine Go.Sx.V rfl (wg rfl rfl) rfl rfl (mv rfl) ?_
            refine C rfl (wg rfl rfl) rfl rfl Try.call34 (rBLess P mo md r2 r _ _ k _ (hF.ext hX) (hri2.ext hX12) (hri.ext hX12) (by omega)) ?_
            rintro _ w18 hE18 ⟨t, rfl, ht⟩
            replace hX := hX.trans hE18
            replace hX12 := hX12.trans hE18
            rw [ht.2 hl]
            refine Go.Sx.V rfl (wg rfl rfl) rfl rfl (notB rfl) ?_
            refine Go.Sx.V rfl (wg rfl rfl) rfl rfl (pk rfl rfl) ?_
            refine Go.Sx.V rfl wu rfl rfl (pk rfl rfl) ?_
            refine wr_nil (post_thenN ?_)
            refine wc_condF rfl (by simp [hg1, pz_cl, hg3, cl_zero] <;> omega) ?_
            refine wc_skip (post_blockN (post_thenN ?_))
            refine wc_region [0,1] rfl ?_
            refine Go.Sx.V rfl wu rfl rfl (addI rfl rfl) ?_
            refine Go.Sx.V rfl wu rfl rfl (mv rfl) ?_
            refine wr_nil ?_
            exact post_loopN (i + 1) ⟨rfl, rfl, rfl, rfl, rfl, rfl, rfl, trivial⟩ ⟨by omega, hX, hX12⟩ (by omega)
        · intro hc5
          simp at hc5
          refine wc_exit (post_thenE (post_loopE (post_blockX (post_thenN (wc_seq ?_)))))
          refine wc_region [0] rfl ?_
          refine Go.Sx.V rfl wu rfl rfl (asg rfl) ?_
          refine wr_nil (post_thenN (wc_ret ?_))
          refine post_ret1 rfl rfl ?_
          exact ⟨hE.trans hX, rfl⟩
namespace FBivariateRoots
open Go.ChangeShapes Go.WideShapes Go.ChangeAt Go.RowKit Go.Fr
theorem own : ownKnob Try.prog.godebug = none := by kernel_rfl
theorem laidOut : laidOutB Try.prog = true := by kernel_rfl
set_option maxRecDepth 100000 in
theorem lifted (os : Os) (started : os.Started) (H : Type) (enc : TypeId × Value → H) :
    ReturnsInHanded {} Try.checked os 6 .any (Rows.bivariateRootsSpec.pre6 enc Try.prog Try.f6 Rows.bivariateRootsRow.domain false) (Rows.bivariateRootsSpec.post enc Try.prog Try.f6 false true false false) := by
  refine returnsInHanded_of_change_sized (C := Try.checked) own started (by kernel_rfl) Try.func6
    (ChangeSpec.witness6 (enc := enc) (C := Try.checked) false ⟨#[], #[.agg #[.int .i64 0, .int .i64 0, .slice none 0 0], .slice none 0 0, .int .i64 0], []⟩ 8 (by kernel_rfl) (by kernel_rfl) (by kernel_rfl) (by kernel_rfl)) ?_
  intro W base args ds gs before hval0 hW _ hsz0 _
  have hval : ∀ (j : Nat) t v, Try.f6.params[j]? = some t → args[j]? = some v → Value.okWide Try.prog W .any base t v := hval0
  have hW' := hW
  obtain ⟨p, q, hA0, hV, rfl, hfz, hnd⟩ := hW
  have hA : DataW.TrodAll enc Try.prog W 0 (fun _ => true) true Try.f6.params.toList args.toList ds p := hA0
  have hsz : (DataW.weightsEach Try.prog (Try.f6.params.toList ++ Rows.bivariateRootsSpec.plain.varTypes Try.prog) (ds ++ gs)).all (· ≤ reachBytes) = true := hsz0
  rw [Try.params6] at hA hval hsz
  obtain ⟨v0, vs0, d0, ds0, p0, q0, hargs, rfl, rfl, h0, r0⟩ := trodAll_cons hA
  obtain ⟨v1, vs1, d1, ds1, p1, q1, rfl, rfl, rfl, h1, r1⟩ := trodAll_cons r0
  obtain ⟨v2, vs2, d2, ds2, p2, q2, rfl, rfl, rfl, h2, r2⟩ := trodAll_cons r1
  obtain ⟨rfl, rfl, rfl⟩ := trodAll_nil r2
  obtain rfl : args = #[v0, v1, v2] := by cases args; simp_all
  obtain ⟨rfl, rfl⟩ := trodVars_none hV
  have k0 := h0
  have lt0 : ∀ x ∈ p0, x.block < W.heap.size := by obtain ⟨m, hm⟩ := k0; exact DataW.trod_lt m _ _ _ hm
  have w0 : WOK Try.prog 24 d0 := wok_arg hsz (j := 0) rfl rfl
  obtain ⟨x0, s0⟩ := op_field (hval 0 24 v0 rfl rfl) h0 w0
  have k1 := h1
  have lt1 : ∀ x ∈ p1, x.block < W.heap.size := by obtain ⟨m, hm⟩ := k1; exact DataW.trod_lt m _ _ _ hm
  have w1 : WOK Try.prog 26 d1 := wok_arg hsz (j := 1) rfl rfl
  obtain ⟨x1, s1⟩ := op_bi (hval 1 26 v1 rfl rfl) h1 w1
  have k2 := h2
  have lt2 : ∀ x ∈ p2, x.block < W.heap.size := by obtain ⟨m, hm⟩ := k2; exact DataW.trod_lt m _ _ _ hm
  have w2 : WOK Try.prog 3 d2 := wok_arg hsz (j := 2) rfl rfl
  obtain ⟨n2, rfl, b2⟩ := op_int Try.underlying3 (hval 2 3 v2 rfl rfl) h2
  refine (law_BivariateRoots (w := W) v0 x0 s0 v1 x1 s1 n2 b2).mono fun e W' he => ?_
  cases e with
  | panicked c => exact he.elim
  | outgrown => exact he.elim
  | returned v =>
    obtain ⟨bel, rfl⟩ := he
    exact ⟨_, rfl, _, _, _, [], _, [], hW', trodAll_mk1 (shut_bool Try.underlying4 _), (trodAll_cons_mk (Below.trod laidOut (by kernel_rfl) (of_decide_eq_true (by kernel_rfl)) k0 bel lt0) (trodAll_cons_mk (Below.trod laidOut (by kernel_rfl) (of_decide_eq_true (by kernel_rfl)) k1 bel lt1) (trodAll_cons_mk (Below.trod laidOut (by kernel_rfl) (of_decide_eq_true (by kernel_rfl)) k2 bel lt2) trodAll_mk0))), rfl, bel.frame _, fun h => by cases h⟩
theorem over : Rows.bivariateRootsRow.holds Try.pinned (OpenSpec.ofChange Rows.bivariateRootsSpec) :=
  OpenClaim.holds_of_wide 6 Try.f6 rfl rfl rfl rfl rfl rfl rfl ⟨rfl, rfl, rfl, rfl, rfl⟩ rfl rfl rfl rfl rfl (by kernel_rfl) Try.func6 (by kernel_rfl)
    (of_decide_eq_true (by kernel_rfl)) (by unfold Func.isWrapper; first | (rw [if_pos (by decide +kernel)]; kernel_rfl) | (rw [if_neg (by decide +kernel)]; exact ⟨rfl, rfl⟩))
    (fun os started H enc _ => lifted os started H enc)
end FBivariateRoots
/-- The statement. -/
theorem bivariateRoots_holds : Rows.BivariateRootsSaid := FBivariateRoots.over
end Go.Proofs.Ytjpcgjllmpdmhaa
