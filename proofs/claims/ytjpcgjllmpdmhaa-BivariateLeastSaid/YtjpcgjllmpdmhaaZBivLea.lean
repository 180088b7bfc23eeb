/-
  Statement BivariateLeast: for every description of a field and all arguments the law returns true. No condition.
-/
import Derived.Test.YtjpcgjllmpdmhaaZRKoe
import Derived.Test.YtjpcgjllmpdmhaaZRHas
import Derived.Test.YtjpcgjllmpdmhaaZKoe3
import Derived.Test.YtjpcgjllmpdmhaaRows
namespace Go.Proofs.Ytjpcgjllmpdmhaa
open Go Go.Sx Go.Pl Go.RowKit Go.Fd Go.Alg Go.Fr

theorem yb_of_deg {P : FP} {F : Pol (Pol (K P))} {l : Nat} (h : wdg F 100 / 100 ≤ l) : YB (l + 1) F := fun j hj => Pol.ext fun i => by
  apply Classical.byContradiction
  intro hne
  rcases wdg_spec F 100 with ⟨_, h0⟩ | ⟨d, h1, h2, _⟩
  · exact hne (by rw [h0]; rfl)
  · have h3 : i + 100 * j ≤ d := Nat.le_of_not_lt fun hc => hne (h2 i j hc)
    rw [show ((100 : Nat) : Int) = 100 from rfl] at h1
    rw [h1] at h
    omega
theorem wdg_neg {P : FP} {F : Pol (Pol (K P))} : wdg F 0 < 0 ↔ F = 0 := by
  rcases wdg_spec F 0 with ⟨h1, h2⟩ | ⟨d, h1, h2⟩
  · exact ⟨fun _ => h2, fun _ => by rw [show ((0 : Nat) : Int) = 0 from rfl] at h1; omega⟩
  · exact ⟨fun h => by rw [show ((0 : Nat) : Int) = 0 from rfl] at h1; omega, fun h => absurd h h2.ne⟩

set_option maxRecDepth 10000 in
theorem law_BivariateLeast {w : World} (v0 : Value) (r : FRec) (s0 : v0 = r.v ∧ FOf w r) (v1 : Value) (x : TkRec) (s1 : v1 = x.val ∧ Ints w x.u x.xs ∧ Ints w x.v x.ys ∧ Go.Fr.Fits x.M ∧ Go.Fr.Fits x.W ∧ Go.Fr.Fits x.L) (pu : Value) (A : List (List Int)) (s2 : LL w pu A ∧ LLFit A) :
    Calls Try.prog 14 #[v0, v1, pu] w (RetX w fun v _ => v = .bool true) := by
  obtain ⟨p, M, mo, md⟩ := r
  obtain ⟨rfl, hr⟩ := s0
  obtain ⟨rfl, hu, hv, hfM, hfW, hfL⟩ := s1
  obtain ⟨hpu, _⟩ := s2
  have hmayE : ∀ P : FP, May P x → argsA P x.xs x.ys.length x.M x.W x.L = 0 := fun P => may_args
  obtain ⟨u, v, xs, ys, m, wt, l⟩ := x
  dsimp only at hu hv hfM hfW hfL hmayE
  refine calls3 Try.func14 rfl rfl ?_
  refine wc_seq ?_
  refine wc_region [0,1,2] rfl ?_
  refine BXA rfl wu rfl rfl ?_
  intro fb w1 hE hB hg
  refine BXA rfl wu rfl rfl ?_
  intro cb w3 hE3 hB3 hg3
  replace hB := hB.ext hE3
  replace hE := hE.trans hE3
  refine Go.Sx.V rfl wu rfl rfl (asg rfl) ?_
  refine wr_nil (post_thenN (wc_seq (wc_seq ?_)))
  refine wc_region [0,1] rfl ?_
  refine C rfl wu rfl rfl Try.call16 (lAlive _) ?_
  rintro _ w4 hE4 rfl
  replace hB := hB.ext hE4
  replace hB3 := hB3.ext hE4
  replace hE := hE.trans hE4
  refine Go.Sx.V rfl wu rfl rfl (notB rfl) ?_
  refine wr_nil (post_thenN ?_)
  refine wc_condF rfl (by simp) ?_
  refine wc_skip (post_thenN (wc_seq ?_))
  have hmi := hr.ints.ext hE
  dsimp only at hmi hB hB3
  refine wc_region [0,1,2] rfl ?_
  refine Go.Sx.V rfl wu rfl rfl (ldA rfl ag24) ?_
  refine C rfl wu rfl rfl Try.call17 (lMade p M mo md _ hmi) ?_
  rintro g w5 hE5 hm
  replace hB := hB.ext hE5
  replace hB3 := hB3.ext hE5
  replace hE := hE.trans hE5
  refine Go.Sx.V rfl wu rfl rfl (asg rfl) ?_
  refine wr_nil (post_thenN (wc_seq (wc_seq ?_)))
  replace hmi := hmi.ext hE5
  replace hu := hu.ext hE
  replace hv := hv.ext hE
  replace hpu := hpu.ext hE
  have hX := Ext.refl w5
  have hxle := hu.le
  rcases made_split hm hmi with rfl | ⟨P, hp, hM, hF, hG⟩
  · skip
    refine wc_draw mixed [0,1,2,3,4,5,6,7,8,9,10,11,12,13,14,15,16,17,18,19,20,21,22,25,26,23,24,27,28] (by kernel_rfl) ?_
    intro w6 hd _
    replace hX := hX.trans hd
    refine Go.Sx.V rfl wu rfl rfl (mv rfl) ?_
    refine Go.Sx.V rfl wu rfl rfl (eqlPn rfl rfl Try.underlying28) ?_
    refine Go.Sx.V rfl wu rfl rfl (mv rfl) ?_
    refine KB 17 true rfl (by rfl) ?_
    refine SK rfl rfl rfl rfl rfl ?_
    refine SK rfl rfl rfl rfl rfl ?_
    refine SK rfl rfl rfl rfl rfl ?_
    refine SK rfl rfl rfl rfl rfl ?_
    refine Go.Sx.V rfl wu rfl rfl (pk rfl rfl) ?_
    refine Go.Sx.V rfl wu rfl rfl (mv rfl) ?_
    refine KB 23 true rfl (by rfl) ?_
    refine SK rfl rfl rfl rfl rfl ?_
    refine SK rfl rfl rfl rfl rfl ?_
    refine SK rfl rfl rfl rfl rfl ?_
    refine SK rfl rfl rfl rfl rfl ?_
    refine Go.Sx.V rfl wu rfl rfl (pk rfl rfl) ?_
    refine Go.Sx.V rfl wu rfl rfl (mv rfl) ?_
    refine KB 29 true rfl (by rfl) ?_
    refine SK rfl rfl rfl rfl rfl ?_
    refine SK rfl rfl rfl rfl rfl ?_
    refine SK rfl rfl rfl rfl rfl ?_
    refine SK rfl rfl rfl rfl rfl ?_
    refine Go.Sx.V rfl wu rfl rfl (pk rfl rfl) ?_
    refine Go.Sx.V rfl wu rfl rfl (mv rfl) ?_
    refine KB 35 true rfl (by rfl) ?_
    refine SK rfl rfl rfl rfl rfl ?_
    refine SK rfl rfl rfl rfl rfl ?_
    refine SK rfl rfl rfl rfl rfl ?_
    refine SK rfl rfl rfl rfl rfl ?_
    refine SK rfl rfl rfl rfl rfl ?_
    refine SK rfl rfl rfl rfl rfl ?_
    refine SK rfl rfl rfl rfl rfl ?_
    refine Go.Sx.V rfl wu rfl rfl (pk rfl rfl) ?_
    refine wr_nil (post_thenN ?_)
    refine wc_condT rfl (by simp) ?_
    refine wc_seq ?_
    refine wc_region [0] rfl ?_
    refine Go.Sx.V rfl wu rfl rfl (asg rfl) ?_
    refine wr_nil (post_thenN (wc_ret (post_thenR ?_)))
    refine post_ret1 rfl rfl ?_
    exact ⟨hE.trans hX, rfl⟩
  · subst hp hM
    obtain ⟨ga, hga⟩ := hG.ptr
    by_cases hmay : May P ⟨u, v, xs, ys, m, wt, l⟩
    · by_cases hsm : smallB A = true
      · obtain ⟨hA1, hA2⟩ := smallB_iff.1 hsm
        have hz := hmayE P hmay
        have hmay' := hmay
        obtain ⟨a1, a2, a3, a4, a5, a6, a7, a8, a9⟩ := hmay'
        dsimp only at a1 a2 a3 a4 a5 a6 a7 a8 a9
        obtain ⟨F, hFF⟩ : ∃ F, F = bz P A := ⟨_, rfl⟩
        have hxb : XB 12 F := by rw [hFF]; exact hA2.xb
        by_cases hF0 : F = 0
        · have hneg : wdg F 0 < 0 := wdg_neg.2 hF0
          refine wc_draw mixed [0,1,2,3,4,5,6,7,8,9,10,11,12,13,14,15,16,17,18,19,20,21,22,25,26,23,24,27,28] (by kernel_rfl) ?_
          intro w6 hd _
          replace hX := hX.trans hd
          replace hB := hB.ext hd
          replace hB3 := hB3.ext hd
          refine Go.Sx.V rfl wu rfl rfl (mv rfl) ?_
          rw [hga]
          refine Go.Sx.V rfl wu rfl rfl (eqlPn rfl rfl Try.underlying28) ?_
          rw [← hga]
          refine Go.Sx.V rfl wu rfl rfl (mv rfl) ?_
          refine KB 17 false rfl (by rfl) ?_
          refine Go.Sx.V rfl (wg rfl rfl) rfl rfl (ldA rfl ag73 hB3) ?_
          refine Go.Sx.V rfl (wg rfl rfl) rfl rfl (ldA rfl ag24 hB) ?_
          refine C rfl (wg rfl rfl) rfl rfl Try.call48 (lMay P mo md ⟨u, v, xs, ys, m, wt, l⟩ _ (hF.ext hX) (hu.ext hX) (hv.ext hX)) ?_
          rintro _ w7 hE7 ⟨t, rfl, ht⟩
          obtain rfl := ht.2 hmay
          replace hX := hX.trans hE7
          replace hB := hB.ext hE7
          replace hB3 := hB3.ext hE7
          refine Go.Sx.V rfl (wg rfl rfl) rfl rfl (notB rfl) ?_
          refine Go.Sx.V rfl wu rfl rfl (pk rfl rfl) ?_
          refine Go.Sx.V rfl wu rfl rfl (mv rfl) ?_
          refine KB 23 false rfl (by rfl) ?_
          refine Go.Sx.V rfl (wg rfl rfl) rfl rfl (mv rfl) ?_
          refine BS (us := [pu]) rfl (wg rfl rfl) rfl rfl rfl rfl ty86 (by intro q hq; obtain rfl : q = pu := (by simpa using hq); exact hpu.one) ?_
          intro sv w8 hE8 hsv _
          replace hX := hX.trans hE8
          replace hB := hB.ext hE8
          replace hB3 := hB3.ext hE8
          refine C rfl (wg rfl rfl) rfl rfl Try.call18 (lSmall sv _ [A] _ hsv.sl (bis1 (hpu.ext hX))) ?_
          rintro _ w9 hE9 rfl
          replace hX := hX.trans hE9
          replace hB := hB.ext hE9
          replace hB3 := hB3.ext hE9
          refine Go.Sx.V rfl (wg rfl rfl) rfl rfl (notB rfl) ?_
          refine Go.Sx.V rfl wu rfl rfl (pk rfl rfl) ?_
          refine Go.Sx.V rfl wu rfl rfl (mv rfl) ?_
          refine KB 29 false rfl (by simp [hsm]) ?_
          refine Go.Sx.V rfl (wg rfl rfl) rfl rfl (ldA rfl ag24 hB) ?_
          refine Go.Sx.V rfl (wg rfl rfl) rfl rfl (mv rfl) ?_
          refine C rfl (wg rfl rfl) rfl rfl Try.call27 (rBDegree P mo md pu A 0 12 _ (hF.ext hX) (hpu.ext hX) ⟨by omega, by omega⟩ hA2 (by omega) (by omega)) ?_
          rintro _ w10 hE10 rfl
          replace hX := hX.trans hE10
          rw [← hFF]
          refine Go.Sx.V rfl (wg rfl rfl) rfl rfl (lssI rfl rfl) ?_
          refine Go.Sx.V rfl wu rfl rfl (pk rfl rfl) ?_
          refine Go.Sx.V rfl wu rfl rfl (mv rfl) ?_
          refine KB 35 true rfl (by simp [hneg]) ?_
          refine SK rfl rfl rfl rfl rfl ?_
          refine SK rfl rfl rfl rfl rfl ?_
          refine SK rfl rfl rfl rfl rfl ?_
          refine SK rfl rfl rfl rfl rfl ?_
          refine SK rfl rfl rfl rfl rfl ?_
          refine SK rfl rfl rfl rfl rfl ?_
          refine SK rfl rfl rfl rfl rfl ?_
          refine Go.Sx.V rfl wu rfl rfl (pk rfl rfl) ?_
          refine wr_nil (post_thenN ?_)
          refine wc_condT rfl (by simp [hneg]) ?_
          refine wc_seq ?_
          refine wc_region [0] rfl ?_
          refine Go.Sx.V rfl wu rfl rfl (asg rfl) ?_
          refine wr_nil (post_thenN (wc_ret (post_thenR ?_)))
          refine post_ret1 rfl rfl ?_
          exact ⟨hE.trans hX, rfl⟩
        · have hneg : ¬ wdg F 0 < 0 := fun h => hF0 (wdg_neg.1 h)
          have hdp : 0 ≤ wdg F 100 := by
            rcases wdg_spec F 100 with ⟨_, h0⟩ | ⟨d, h1, _⟩
            · exact absurd h0 hF0
            · rw [show ((100 : Nat) : Int) = 100 from rfl] at h1; omega
          have hd100 := wdN_lo F (w := 100) (by omega) hxb (bcl F).length
          have hFl : (bcl F).length ≤ 6 := by rw [hFF]; exact Nat.le_trans (bcl_bz_len A) hA1
          have hd100' : -1 ≤ wdg F 100 ∧ wdg F 100 ≤ ((12 : Nat) : Int) + 100 * ((bcl F).length : Int) := hd100
          refine wc_draw mixed [0,1,2,3,4,5,6,7,8,9,10,11,12,13,14,15,16,17,18,19,20,21,22,25,26,23,24,27,28] (by kernel_rfl) ?_
          intro w6 hd _
          replace hX := hX.trans hd
          replace hB := hB.ext hd
          replace hB3 := hB3.ext hd
          refine Go.Sx.V rfl wu rfl rfl (mv rfl) ?_
          rw [hga]
          refine Go.Sx.V rfl wu rfl rfl (eqlPn rfl rfl Try.underlying28) ?_
          rw [← hga]
          refine Go.Sx.V rfl wu rfl rfl (mv rfl) ?_
          refine KB 17 false rfl (by rfl) ?_
          refine Go.Sx.V rfl (wg rfl rfl) rfl rfl (ldA rfl ag73 hB3) ?_
          refine Go.Sx.V rfl (wg rfl rfl) rfl rfl (ldA rfl ag24 hB) ?_
          refine C rfl (wg rfl rfl) rfl rfl Try.call48 (lMay P mo md ⟨u, v, xs, ys, m, wt, l⟩ _ (hF.ext hX) (hu.ext hX) (hv.ext hX)) ?_
          rintro _ w7 hE7 ⟨t, rfl, ht⟩
          obtain rfl := ht.2 hmay
          replace hX := hX.trans hE7
          replace hB := hB.ext hE7
          replace hB3 := hB3.ext hE7
          refine Go.Sx.V rfl (wg rfl rfl) rfl rfl (notB rfl) ?_
          refine Go.Sx.V rfl wu rfl rfl (pk rfl rfl) ?_
          refine Go.Sx.V rfl wu rfl rfl (mv rfl) ?_
          refine KB 23 false rfl (by rfl) ?_
          refine Go.Sx.V rfl (wg rfl rfl) rfl rfl (mv rfl) ?_
          refine BS (us := [pu]) rfl (wg rfl rfl) rfl rfl rfl rfl ty86 (by intro q hq; obtain rfl : q = pu := (by simpa using hq); exact hpu.one) ?_
          intro sv w8 hE8 hsv _
          replace hX := hX.trans hE8
          replace hB := hB.ext hE8
          replace hB3 := hB3.ext hE8
          refine C rfl (wg rfl rfl) rfl rfl Try.call18 (lSmall sv _ [A] _ hsv.sl (bis1 (hpu.ext hX))) ?_
          rintro _ w9 hE9 rfl
          replace hX := hX.trans hE9
          replace hB := hB.ext hE9
          replace hB3 := hB3.ext hE9
          refine Go.Sx.V rfl (wg rfl rfl) rfl rfl (notB rfl) ?_
          refine Go.Sx.V rfl wu rfl rfl (pk rfl rfl) ?_
          refine Go.Sx.V rfl wu rfl rfl (mv rfl) ?_
          refine KB 29 false rfl (by simp [hsm]) ?_
          refine Go.Sx.V rfl (wg rfl rfl) rfl rfl (ldA rfl ag24 hB) ?_
          refine Go.Sx.V rfl (wg rfl rfl) rfl rfl (mv rfl) ?_
          refine C rfl (wg rfl rfl) rfl rfl Try.call27 (rBDegree P mo md pu A 0 12 _ (hF.ext hX) (hpu.ext hX) ⟨by omega, by omega⟩ hA2 (by omega) (by omega)) ?_
          rintro _ w10 hE10 rfl
          replace hX := hX.trans hE10
          replace hB := hB.ext hE10
          replace hB3 := hB3.ext hE10
          rw [← hFF]
          refine Go.Sx.V rfl (wg rfl rfl) rfl rfl (lssI rfl rfl) ?_
          refine Go.Sx.V rfl wu rfl rfl (pk rfl rfl) ?_
          refine Go.Sx.V rfl wu rfl rfl (mv rfl) ?_
          refine KB 35 false rfl (by simp [hneg, hsm]) ?_
          refine Go.Sx.V rfl (wg rfl rfl) rfl rfl (ldA rfl ag24 hB) ?_
          refine Go.Sx.V rfl (wg rfl rfl) rfl rfl (mv rfl) ?_
          refine Go.Sx.V rfl (wg rfl rfl) rfl rfl (fad rfl fa73_4) ?_
          refine Go.Sx.V rfl (wg rfl rfl) rfl rfl (ldB rfl na3) ?_
          refine C rfl (wg rfl rfl) rfl rfl Try.call27 (rBDegree P mo md pu A 100 12 _ (hF.ext hX) (hpu.ext hX) ⟨by omega, by omega⟩ hA2 (by omega) (by omega)) ?_
          rintro _ w11 hE11 rfl
          replace hX := hX.trans hE11
          replace hB := hB.ext hE11
          replace hB3 := hB3.ext hE11
          rw [← hFF]
          refine Go.Sx.V rfl (wg rfl rfl) rfl rfl (quoI rfl rfl) ?_
          refine Go.Sx.V rfl (wg rfl rfl) rfl rfl (gtrI rfl rfl) ?_
          refine Go.Sx.V rfl wu rfl rfl (pk rfl rfl) ?_
          refine wr_nil (post_thenN ?_)
          refine wc_cond rfl ?_ ?_
          · intro hc
            refine wc_seq ?_
            refine wc_region [0] rfl ?_
            refine Go.Sx.V rfl wu rfl rfl (asg rfl) ?_
            refine wr_nil (post_thenN (wc_ret (post_thenR ?_)))
            refine post_ret1 rfl rfl ?_
            exact ⟨hE.trans hX, rfl⟩
          · intro hc
            have hq : wdg F 100 / 100 ≤ l := by
              have h2 : ¬ l < wdg F 100 / 100 := fun h => by simp [h] at hc
              omega
            have hyb : YB (l.toNat + 1) F := yb_of_deg (by omega)
            refine wc_skip (post_thenN (wc_seq (wc_seq ?_)))
            refine wc_region [0,1,2,3] rfl ?_
            refine Go.Sx.V rfl wu rfl rfl (fad rfl fa73_0) ?_
            refine Go.Sx.V rfl wu rfl rfl (ldB rfl na22 hB3) ?_
            refine Go.Sx.V rfl wu rfl rfl (lenI rfl ty22 (hu.ext hX)) ?_
            refine Go.Sx.V rfl wu rfl rfl (mv rfl) ?_
            refine wr_nil (post_thenN (wc_block ?_))
            have hX11 := Ext.refl w11
            refine wc_loop (fun i : Nat => [(2, pu), (3, .pointer (some ⟨fb, 0, none⟩)), (4, .pointer (some ⟨cb, 0, none⟩)), (7, g), (46, .int .i64 xs.length), (47, .int .i64 i)])
              (fun i w' => i ≤ xs.length ∧ Ext w5 w' ∧ Ext w11 w' ∧ ∀ t, t < i → Van (inK P (gi xs t)) (inK P (gi ys t)) F m.toNat) (fun i => xs.length - i) 0 ⟨rfl, rfl, rfl, rfl, rfl, rfl, trivial⟩ ⟨by omega, hX, hX11, fun t h => by omega⟩ ?_
            clear hX hX11
            rintro i w12 ⟨i1, hX, hX11, hvan⟩
            have hB12 := hB.ext hX11
            have hB312 := hB3.ext hX11
            try dsimp only
            refine wc_seq ?_
            refine wc_region [0] rfl ?_
            refine Go.Sx.V rfl wu rfl rfl (lssI rfl rfl) ?_
            refine wr_nil (post_thenN (wc_seq ?_))
            refine wc_cond rfl ?_ ?_
            · intro hc2
              simp at hc2
              have hui := hu.ext hX
              have hvi := hv.ext hX
              refine wc_skip (post_thenN (wc_seq (wc_block (wc_seq ?_))))
              refine wc_region [0,1] rfl ?_
              refine Go.Sx.V rfl wu rfl rfl (mv rfl) ?_
              refine Go.Sx.V rfl wu rfl rfl (asg rfl) ?_
              refine wr_nil (post_thenN (wc_seq ?_))
              refine wc_draw mixed [0,1,2,3,4,5,6,7,8,9,10,11,12,13,14,15] (by kernel_rfl) ?_
              intro w13 hd13 _
              replace hX := hX.trans hd13
              replace hX11 := hX11.trans hd13
              replace hui := hui.ext hd13
              replace hvi := hvi.ext hd13
              replace hB12 := hB12.ext hd13
              replace hB312 := hB312.ext hd13
              refine Go.Sx.V rfl wu rfl rfl (ldA rfl ag24 hB12) ?_
              refine Go.Sx.V rfl wu rfl rfl (mv rfl) ?_
              refine Go.Sx.V rfl wu rfl rfl (fad rfl fa73_0) ?_
              refine Go.Sx.V rfl wu rfl rfl (ldB rfl na22 hB312) ?_
              refine Go.Sx.V rfl wu rfl rfl (mv rfl) ?_
              refine Go.Sx.V rfl wu rfl rfl (iadI rfl rfl ty22 hui (by omega) (by omega)) ?_
              refine Go.Sx.V rfl wu rfl rfl (ldI rfl na3 hui) ?_
              refine Go.Sx.V rfl wu rfl rfl (fad rfl fa73_1) ?_
              refine Go.Sx.V rfl wu rfl rfl (ldB rfl na22 hB312) ?_
              refine Go.Sx.V rfl wu rfl rfl (mv rfl) ?_
              refine Go.Sx.V rfl wu rfl rfl (iadI rfl rfl ty22 hvi (by omega) (by omega)) ?_
              refine Go.Sx.V rfl wu rfl rfl (ldI rfl na3 hvi) ?_
              refine Go.Sx.V rfl wu rfl rfl (fad rfl fa73_2) ?_
              refine Go.Sx.V rfl wu rfl rfl (ldB rfl na3) ?_
              have em : Value.int .i64 m = Value.int .i64 ((m.toNat : Nat) : Int) := by rw [show ((m.toNat : Nat) : Int) = m by omega]
              refine C rfl wu rfl rfl Try.call52 (by have h0 := rAtLeast P mo md pu A (gi xs i) (gi ys i) m.toNat 12 _ (hF.ext hX) (hpu.ext hX) hA2 (by omega) (by omega) (by omega); rw [← em] at h0; exact h0) ?_
              rintro _ w14 hE14 ⟨t, rfl, ht⟩
              replace hX := hX.trans hE14
              replace hX11 := hX11.trans hE14
              refine Go.Sx.V rfl wu rfl rfl (notB rfl) ?_
              refine wr_nil (post_thenN ?_)
              rw [← hFF] at ht
              cases t with
              | false =>
                refine wc_condT rfl (by rfl) ?_
                refine wc_seq ?_
                refine wc_region [0] rfl ?_
                refine Go.Sx.V rfl wu rfl rfl (asg rfl) ?_
                refine wr_nil (post_thenN (wc_ret (post_blockR (post_thenR (post_loopR (post_blockR (post_thenR ?_)))))))
                refine post_ret1 rfl rfl ?_
                exact ⟨hE.trans hX, rfl⟩
              | true =>
                have hvi2 : Van (inK P (gi xs i)) (inK P (gi ys i)) F m.toNat := ht.1 rfl
                refine wc_condF rfl (by rfl) ?_
                refine wc_skip (post_blockN (post_thenN ?_))
                refine wc_region [0,1] rfl ?_
                refine Go.Sx.V rfl wu rfl rfl (addI rfl rfl) ?_
                refine Go.Sx.V rfl wu rfl rfl (mv rfl) ?_
                refine wr_nil ?_
                exact post_loopN (i + 1) ⟨rfl, rfl, rfl, rfl, rfl, rfl, trivial⟩ ⟨by omega, hX, hX11, fun t ht => by
                  by_cases e : t = i
                  · rw [e]; exact hvi2
                  · exact hvan t (by omega)⟩ (by omega)
            · intro hc2
              simp at hc2
              obtain rfl : i = xs.length := by omega
              refine wc_exit (post_thenE (post_loopE (post_blockX (post_thenN (wc_seq ?_)))))
              refine wc_region [0,1,2,3,4,5,6,7,8,9,10,11,12,13,14,15,16] rfl ?_
              refine Go.Sx.V rfl wu rfl rfl (mv rfl) ?_
              refine Go.Sx.V rfl wu rfl rfl (fad rfl fa73_0) ?_
              refine Go.Sx.V rfl wu rfl rfl (ldB rfl na22 hB312) ?_
              refine Go.Sx.V rfl wu rfl rfl (fad rfl fa73_1) ?_
              refine Go.Sx.V rfl wu rfl rfl (ldB rfl na22 hB312) ?_
              refine Go.Sx.V rfl wu rfl rfl (fad rfl fa73_2) ?_
              refine Go.Sx.V rfl wu rfl rfl (ldB rfl na3) ?_
              refine Go.Sx.V rfl wu rfl rfl (fad rfl fa73_3) ?_
              refine Go.Sx.V rfl wu rfl rfl (ldB rfl na3) ?_
              refine Go.Sx.V rfl wu rfl rfl (fad rfl fa73_4) ?_
              refine Go.Sx.V rfl wu rfl rfl (ldB rfl na3) ?_
              refine C rfl wu rfl rfl Try.call50 (bInterp P g u v xs ys m wt l _ (hG.ext hX) (hu.ext hX) (hv.ext hX)) ?_
              rintro dv w15 hE15 hint
              replace hX := hX.trans hE15
              replace hB12 := hB12.ext hE15
              replace hB312 := hB312.ext hE15
              obtain ⟨q, Q, rfl, hq2, hip⟩ : ∃ q Q, dv = .tuple #[q, .int .i64 0] ∧ LO w12.heap.size w15 q 22 (bcl Q) ∧ IntP (fun i : Nat => inK P (gi xs i)) (fun i : Nat => inK P (gi ys i)) xs.length m.toNat wt.toNat (l.toNat + 1) Q := hint.elim (fun h => absurd hz h.1) (·.2)
              refine Go.Sx.V rfl wu rfl rfl (mv rfl) ?_
              refine Go.Sx.V rfl wu rfl rfl (ext rfl rfl) ?_
              refine Go.Sx.V rfl wu rfl rfl (ext rfl rfl) ?_
              refine Go.Sx.V rfl wu rfl rfl (asg rfl) ?_
              refine Go.Sx.V rfl wu rfl rfl (asg rfl) ?_
              refine wr_nil (post_thenN (wc_seq ?_))
              have hqn : (bcl Q).length ≠ 0 := fun e => hip.ne (bcl_nil.1 (List.eq_nil_of_length_eq_zero e))
              have hqy : (bcl Q).length ≤ l.toNat + 1 := bcl_len hip.yb
              have hnr : xs.length * rs m.toNat m.toNat ≤ 4096 := by
                have h1 := num_conds xs.length m.toNat
                rw [show ((m.toNat : Nat) : Int) = m by omega] at h1
                have h2 := (args_zero.1 hz).2.2.2.2.2.2.2.2
                omega
              have hrb : RB 4097 (bcl Q) := XB.rb (hip.xb.mono (by omega))
              have hql := hq2.ll
              have hle := hip.least F 12 hF0 hyb hxb hvan
              rw [show ((wt.toNat : Nat) : Int) = wt by omega] at hle
              have hql0 := hql
              obtain ⟨qrs, hqs, hqsl, _⟩ := hql0.row
              refine wc_draw mixed [0,1,2,3,4,5,6,7,8,9,10,11,13,14,15,16,12,17,18,19,20] (by kernel_rfl) ?_
              intro w16 hd16 _
              replace hX := hX.trans hd16
              replace hB12 := hB12.ext hd16
              replace hB312 := hB312.ext hd16
              replace hql := hql.ext hd16
              replace hqs := hqs.ext hd16
              refine Go.Sx.V rfl wu rfl rfl (mv rfl) ?_
              refine Go.Sx.V rfl wu rfl rfl (eqlI rfl rfl) ?_
              refine Go.Sx.V rfl wu rfl rfl (mv rfl) ?_
              refine KB 84 true rfl (by rfl) ?_
              refine Go.Sx.V rfl (wg rfl rfl) rfl rfl (mv rfl) ?_
              refine Go.Sx.V rfl (wg rfl rfl) rfl rfl (lenS rfl ty26 hqs) ?_
              refine Go.Sx.V rfl (wg rfl rfl) rfl rfl (gtrI rfl rfl) ?_
              refine Go.Sx.V rfl wu rfl rfl (pk rfl rfl) ?_
              refine Go.Sx.V rfl wu rfl rfl (mv rfl) ?_
              refine KB 89 true rfl (by rw [hqsl]; simp; omega) ?_
              refine Go.Sx.V rfl (wg rfl rfl) rfl rfl (ldA rfl ag24 hB12) ?_
              refine Go.Sx.V rfl (wg rfl rfl) rfl rfl (mv rfl) ?_
              refine Go.Sx.V rfl (wg rfl rfl) rfl rfl (fad rfl fa73_3) ?_
              refine Go.Sx.V rfl (wg rfl rfl) rfl rfl (ldB rfl na3) ?_
              refine Go.Sx.V rfl (wg rfl rfl) rfl rfl (ldA rfl ag24 hB12) ?_
              refine Go.Sx.V rfl (wg rfl rfl) rfl rfl (mv rfl) ?_
              refine Go.Sx.V rfl (wg rfl rfl) rfl rfl (fad rfl fa73_3) ?_
              refine Go.Sx.V rfl (wg rfl rfl) rfl rfl (ldB rfl na3) ?_
              refine C rfl (wg rfl rfl) rfl rfl Try.call27 (rBDegree P mo md q _ wt 4097 _ (hF.ext hX) hql ⟨by omega, by omega⟩ hrb (by omega) (by omega)) ?_
              rintro _ w17 hE17 rfl
              replace hX := hX.trans hE17
              replace hB12 := hB12.ext hE17
              replace hB312 := hB312.ext hE17
              refine C rfl (wg rfl rfl) rfl rfl Try.call27 (rBDegree P mo md pu A wt 12 _ (hF.ext hX) (hpu.ext hX) ⟨by omega, by omega⟩ hA2 (by omega) (by omega)) ?_
              rintro _ w18 hE18 rfl
              replace hX := hX.trans hE18
              refine Go.Sx.V rfl (wg rfl rfl) rfl rfl (leqI rfl rfl) ?_
              refine Go.Sx.V rfl wu rfl rfl (pk rfl rfl) ?_
              refine Go.Sx.V rfl wu rfl rfl (asg rfl) ?_
              refine wr_nil (post_thenN (wc_ret ?_))
              refine post_ret1 rfl rfl ?_
              refine ⟨hE.trans hX, ?_⟩
              rw [bz_bcl, ← hFF, decide_eq_true hle]
      · have hsf : smallB A = false := by simpa using hsm
        refine wc_draw mixed [0,1,2,3,4,5,6,7,8,9,10,11,12,13,14,15,16,17,18,19,20,21,22,25,26,23,24,27,28] (by kernel_rfl) ?_
        intro w6 hd _
        replace hX := hX.trans hd
        replace hB := hB.ext hd
        replace hB3 := hB3.ext hd
        refine Go.Sx.V rfl wu rfl rfl (mv rfl) ?_
        rw [hga]
        refine Go.Sx.V rfl wu rfl rfl (eqlPn rfl rfl Try.underlying28) ?_
        rw [← hga]
        refine Go.Sx.V rfl wu rfl rfl (mv rfl) ?_
        refine KB 17 false rfl (by rfl) ?_
        refine Go.Sx.V rfl (wg rfl rfl) rfl rfl (ldA rfl ag73 hB3) ?_
        refine Go.Sx.V rfl (wg rfl rfl) rfl rfl (ldA rfl ag24 hB) ?_
        refine C rfl (wg rfl rfl) rfl rfl Try.call48 (lMay P mo md ⟨u, v, xs, ys, m, wt, l⟩ _ (hF.ext hX) (hu.ext hX) (hv.ext hX)) ?_
        rintro _ w7 hE7 ⟨t, rfl, ht⟩
        obtain rfl := ht.2 hmay
        replace hX := hX.trans hE7
        refine Go.Sx.V rfl (wg rfl rfl) rfl rfl (notB rfl) ?_
        refine Go.Sx.V rfl wu rfl rfl (pk rfl rfl) ?_
        refine Go.Sx.V rfl wu rfl rfl (mv rfl) ?_
        refine KB 23 false rfl (by rfl) ?_
        refine Go.Sx.V rfl (wg rfl rfl) rfl rfl (mv rfl) ?_
        refine BS (us := [pu]) rfl (wg rfl rfl) rfl rfl rfl rfl ty86 (by intro q hq; obtain rfl : q = pu := (by simpa using hq); exact hpu.one) ?_
        intro sv w8 hE8 hsv _
        replace hX := hX.trans hE8
        refine C rfl (wg rfl rfl) rfl rfl Try.call18 (lSmall sv _ [A] _ hsv.sl (bis1 (hpu.ext hX))) ?_
        rintro _ w9 hE9 rfl
        replace hX := hX.trans hE9
        refine Go.Sx.V rfl (wg rfl rfl) rfl rfl (notB rfl) ?_
        refine Go.Sx.V rfl wu rfl rfl (pk rfl rfl) ?_
        refine Go.Sx.V rfl wu rfl rfl (mv rfl) ?_
        refine KB 29 true rfl (by simp [hsf]) ?_
        refine SK rfl rfl rfl rfl rfl ?_
        refine SK rfl rfl rfl rfl rfl ?_
        refine SK rfl rfl rfl rfl rfl ?_
        refine SK rfl rfl rfl rfl rfl ?_
        refine Go.Sx.V rfl wu rfl rfl (pk rfl rfl) ?_
        refine Go.Sx.V rfl wu rfl rfl (mv rfl) ?_
        refine KB 35 true rfl (by simp [hsf]) ?_
        refine SK rfl rfl rfl rfl rfl ?_
        refine SK rfl rfl rfl rfl rfl ?_
        refine SK rfl rfl rfl rfl rfl ?_
        refine SK rfl rfl rfl rfl rfl ?_
        refine SK rfl rfl rfl rfl rfl ?_
        refine SK rfl rfl rfl rfl rfl ?_
        refine SK rfl rfl rfl rfl rfl ?_
        refine Go.Sx.V rfl wu rfl rfl (pk rfl rfl) ?_
        refine wr_nil (post_thenN ?_)
        refine wc_condT rfl (by simp [hsf]) ?_
        refine wc_seq ?_
        refine wc_region [0] rfl ?_
        refine Go.Sx.V rfl wu rfl rfl (asg rfl) ?_
        refine wr_nil (post_thenN (wc_ret (post_thenR ?_)))
        refine post_ret1 rfl rfl ?_
        exact ⟨hE.trans hX, rfl⟩
    · skip
      refine wc_draw mixed [0,1,2,3,4,5,6,7,8,9,10,11,12,13,14,15,16,17,18,19,20,21,22,25,26,23,24,27,28] (by kernel_rfl) ?_
      intro w6 hd _
      replace hX := hX.trans hd
      replace hB := hB.ext hd
      replace hB3 := hB3.ext hd
      refine Go.Sx.V rfl wu rfl rfl (mv rfl) ?_
      rw [hga]
      refine Go.Sx.V rfl wu rfl rfl (eqlPn rfl rfl Try.underlying28) ?_
      rw [← hga]
      refine Go.Sx.V rfl wu rfl rfl (mv rfl) ?_
      refine KB 17 false rfl (by rfl) ?_
      refine Go.Sx.V rfl (wg rfl rfl) rfl rfl (ldA rfl ag73 hB3) ?_
      refine Go.Sx.V rfl (wg rfl rfl) rfl rfl (ldA rfl ag24 hB) ?_
      refine C rfl (wg rfl rfl) rfl rfl Try.call48 (lMay P mo md ⟨u, v, xs, ys, m, wt, l⟩ _ (hF.ext hX) (hu.ext hX) (hv.ext hX)) ?_
      rintro _ w7 hE7 ⟨t, rfl, ht⟩
      obtain rfl : t = false := by cases t; rfl; exact absurd (ht.1 rfl) hmay
      replace hX := hX.trans hE7
      refine Go.Sx.V rfl (wg rfl rfl) rfl rfl (notB rfl) ?_
      refine Go.Sx.V rfl wu rfl rfl (pk rfl rfl) ?_
      refine Go.Sx.V rfl wu rfl rfl (mv rfl) ?_
      refine KB 23 true rfl (by rfl) ?_
      refine SK rfl rfl rfl rfl rfl ?_
      refine SK rfl rfl rfl rfl rfl ?_
      refine SK rfl rfl rfl rfl rfl ?_
      refine SK rfl rfl rfl rfl rfl ?_
      refine Go.Sx.V rfl wu rfl rfl (pk rfl rfl) ?_
      refine Go.Sx.V rfl wu rfl rfl (mv rfl) ?_
      refine KB 29 true rfl (by rfl) ?_
      refine SK rfl rfl rfl rfl rfl ?_
      refine SK rfl rfl rfl rfl rfl ?_
      refine SK rfl rfl rfl rfl rfl ?_
      refine SK rfl rfl rfl rfl rfl ?_
      refine Go.Sx.V rfl wu rfl rfl (pk rfl rfl) ?_
      refine Go.Sx.V rfl wu rfl rfl (mv rfl) ?_
      refine KB 35 true rfl (by rfl) ?_
      refine SK rfl rfl rfl rfl rfl ?_
      refine SK rfl rfl rfl rfl rfl ?_
      refine SK rfl rfl rfl rfl rfl ?_
      refine SK rfl rfl rfl rfl rfl ?_
      refine SK rfl rfl rfl rfl rfl ?_
      refine SK rfl rfl rfl rfl rfl ?_
      refine SK rfl rfl rfl rfl rfl ?_
      refine Go.Sx.V rfl wu rfl rfl (pk rfl rfl) ?_
      refine wr_nil (post_thenN ?_)
      refine wc_condT rfl (by rfl) ?_
      refine wc_seq ?_
      refine wc_region [0] rfl ?_
      refine Go.Sx.V rfl wu rfl rfl (asg rfl) ?_
      refine wr_nil (post_thenN (wc_ret (post_thenR ?_)))
      refine post_ret1 rfl rfl ?_
      exact ⟨hE.trans hX, rfl⟩
namespace FBivariateLeast
open Go.ChangeShapes Go.WideShapes Go.ChangeAt Go.RowKit Go.Fr
theorem own : ownKnob Try.prog.godebug = none := by kernel_rfl
theorem laidOut : laidOutB Try.prog = true := by kernel_rfl
set_option maxRecDepth 100000 in
theorem lifted (os : Os) (started : os.Started) (H : Type) (enc : TypeId × Value → H) :
    ReturnsInHanded {} Try.checked os 14 .any (Rows.bivariateLeastSpec.pre6 enc Try.prog Try.f14 Rows.bivariateLeastRow.domain false) (Rows.bivariateLeastSpec.post enc Try.prog Try.f14 false true false false) := by
  refine returnsInHanded_of_change_sized (C := Try.checked) own started (by kernel_rfl) Try.func14
    (ChangeSpec.witness6 (enc := enc) (C := Try.checked) false ⟨#[], #[.agg #[.int .i64 0, .int .i64 0, .slice none 0 0], .agg #[.slice none 0 0, .slice none 0 0, .int .i64 0, .int .i64 0, .int .i64 0], .slice none 0 0], []⟩ 8 (by kernel_rfl) (by kernel_rfl) (by kernel_rfl) (by kernel_rfl)) ?_
  intro W base args ds gs before hval0 hW _ hsz0 _
  have hval : ∀ (j : Nat) t v, Try.f14.params[j]? = some t → args[j]? = some v → Value.okWide Try.prog W .any base t v := hval0
  have hW' := hW
  obtain ⟨p, q, hA0, hV, rfl, hfz, hnd⟩ := hW
  have hA : DataW.TrodAll enc Try.prog W 0 (fun _ => true) true Try.f14.params.toList args.toList ds p := hA0
  have hsz : (DataW.weightsEach Try.prog (Try.f14.params.toList ++ Rows.bivariateLeastSpec.plain.varTypes Try.prog) (ds ++ gs)).all (· ≤ reachBytes) = true := hsz0
  rw [Try.params14] at hA hval hsz
  obtain ⟨v0, vs0, d0, ds0, p0, q0, hargs, rfl, rfl, h0, r0⟩ := trodAll_cons hA
  obtain ⟨v1, vs1, d1, ds1, p1, q1, rfl, rfl, rfl, h1, r1⟩ := trodAll_cons r0
  obtain ⟨v2, vs2, d2, ds2, p2, q2, rfl, rfl, rfl, h2, r2⟩ := trodAll_cons r1
  obtain ⟨rfl, rfl, rfl⟩ := trodAll_nil r2
  obtain rfl : args = #[v0, v1, v2] := by cases args; simp_all
  obtain ⟨rfl, rfl⟩ := trodVars_none hV
  have k0 := h0
  have lt0 : ∀ x ∈ p0, x.block < W.heap.size := by obtain ⟨m, hm⟩ := k0; exact DataW.trod_lt m _ _ _ hm
  have w0 : WOK Try.prog 24 d0 := wok_arg hsz (j := 0) rfl rfl
  obtain ⟨x0, s0⟩ := op_field (hval 0 24 v0 rfl rfl) h0 w0
  have k1 := h1
  have lt1 : ∀ x ∈ p1, x.block < W.heap.size := by obtain ⟨m, hm⟩ := k1; exact DataW.trod_lt m _ _ _ hm
  have w1 : WOK Try.prog 73 d1 := wok_arg hsz (j := 1) rfl rfl
  obtain ⟨x1, s1⟩ := op_task (hval 1 73 v1 rfl rfl) h1 w1
  have k2 := h2
  have lt2 : ∀ x ∈ p2, x.block < W.heap.size := by obtain ⟨m, hm⟩ := k2; exact DataW.trod_lt m _ _ _ hm
  have w2 : WOK Try.prog 26 d2 := wok_arg hsz (j := 2) rfl rfl
  obtain ⟨x2, s2⟩ := op_bi (hval 2 26 v2 rfl rfl) h2 w2
  refine (law_BivariateLeast (w := W) v0 x0 s0 v1 x1 s1 v2 x2 s2).mono fun e W' he => ?_
  cases e with
  | panicked c => exact he.elim
  | outgrown => exact he.elim
  | returned v =>
    obtain ⟨bel, rfl⟩ := he
    exact ⟨_, rfl, _, _, _, [], _, [], hW', trodAll_mk1 (shut_bool Try.underlying4 _), (trodAll_cons_mk (Below.trod laidOut (by kernel_rfl) (of_decide_eq_true (by kernel_rfl)) k0 bel lt0) (trodAll_cons_mk (Below.trod laidOut (by kernel_rfl) (of_decide_eq_true (by kernel_rfl)) k1 bel lt1) (trodAll_cons_mk (Below.trod laidOut (by kernel_rfl) (of_decide_eq_true (by kernel_rfl)) k2 bel lt2) trodAll_mk0))), rfl, bel.frame _, fun h => by cases h⟩
theorem over : Rows.bivariateLeastRow.holds Try.pinned (OpenSpec.ofChange Rows.bivariateLeastSpec) :=
  OpenClaim.holds_of_wide 14 Try.f14 rfl rfl rfl rfl rfl rfl rfl ⟨rfl, rfl, rfl, rfl, rfl⟩ rfl rfl rfl rfl rfl (by kernel_rfl) Try.func14 (by kernel_rfl)
    (of_decide_eq_true (by kernel_rfl)) (by unfold Func.isWrapper; first | (rw [if_pos (by decide +kernel)]; kernel_rfl) | (rw [if_neg (by decide +kernel)]; exact ⟨rfl, rfl⟩))
    (fun os started H enc _ => lifted os started H enc)
end FBivariateLeast
/-- The statement. -/
theorem bivariateLeast_holds : Rows.BivariateLeastSaid := FBivariateLeast.over
end Go.Proofs.Ytjpcgjllmpdmhaa
