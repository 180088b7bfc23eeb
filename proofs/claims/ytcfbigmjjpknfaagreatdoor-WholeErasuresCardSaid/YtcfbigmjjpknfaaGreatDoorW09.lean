import Derived.Test.YtcfbigmjjpknfaaGreatDoorW08
import Derived.Test.YtcfbigmjjpknfaaGreatDoorW03
import Derived.Test.YtcfbigmjjpknfaaGreatDoorW04
namespace Go.Proofs.YtcfbigmjjpknfaaGreatDoor
open Go Go.Sx Go.Pl Go.RowKit Go.Fd Go.Alg
theorem gOrder (P : FP) (g : Value) (w : World) (hG : GFV w P g) :
  Calls Tryz.prog 136 #[g] w (RetX w fun v _ => v = .int .i64 P.q) := by
 obtain ⟨b, mc, exp, log, md, lg, x0, rfl, hB, hF, hx, hei, hli, hL⟩ := hG.ex
 refine QL Tryz.func136 rfl rfl (Qc (Qb [0] rfl (Qk rfl rfl (Qd (Qa (Qc (Qb [0,1,2,3,4] rfl (mvV rfl rfl (QM rfl rfl (Qz rfl rfl KK (Vw rfl (ldB rfl na3) ?_)))))))))))
 refine Qk rfl rfl (Qd (Qa (Qq (Qj rfl rfl ?_))))
 exact ⟨Ext.refl _, rfl⟩
theorem gIs (P : FP) (g : Value) (x : Int) (w : World) (hG : GFV w P g) :
  Calls Tryz.prog 25 #[g, .int .i64 x] w (RetX w fun v _ => v = .bool (decide (0 ≤ x) && decide (x < P.q))) := by
 obtain ⟨b, mc, exp, log, md, lg, x0, rfl, hB, hF, hx, hei, hli, hL⟩ := hG.ex
 refine QD Tryz.func25 rfl rfl (Qc (Qb [0] rfl (Qk rfl rfl (Qd (Qa (Qc (Qb [0,1,2,3,4,5,6,7,8,9,10] rfl (mvV rfl rfl (Vw rfl (Xb rfl rfl) (mvV rfl rfl ?_))))))))))
 refine AND (π1 := [3,4,5,6,7,8,9]) (π2 := [10]) (tc := 7) (tp := 14) rfl rfl rfl (by
   intro hg
   simp at hg
   refine Vg rfl rfl rfl (mv rfl) (Vg rfl rfl rfl (mv rfl) (Vg rfl rfl rfl (nchk rfl) (Vg rfl rfl rfl (fad rfl KK) (Vg rfl rfl rfl (ldB rfl na3) ?_))))
   refine Vg rfl rfl rfl (Qan rfl rfl) (pkV rfl rfl rfl ?_)
   exact Zx rfl) (by
   intro _
   refine SK rfl rfl rfl rfl rfl (SK rfl rfl rfl rfl rfl (SK rfl rfl rfl rfl rfl (SK rfl rfl rfl rfl rfl (SK rfl rfl rfl rfl rfl (SK rfl rfl rfl rfl rfl (pkV rfl rfl rfl ?_))))))
   exact Zx rfl) ?_
 refine Qk rfl rfl (Qd (Qa (Qq (Qj rfl rfl ?_))))
 exact ⟨Ext.refl _, rfl⟩
theorem gIn (P : FP) (g : Value) (x : Int) (w : World) (hG : GFV w P g) :
  Calls Tryz.prog 63 #[g, .int .i64 x] w (RetX w fun v _ => v = .int .i64 (inK P x).1) := by
 refine QD Tryz.func63 rfl rfl (Qc (Qb [0] rfl (Qk rfl rfl (Qd (Qa (Qc (Qc (Qb [0,1,2] rfl (mvV rfl rfl (mvV rfl rfl (C rfl wu rfl rfl Tryz.call25 (gIs P g x _ hG) ?_)))))))))))
 rintro _ w2 hE2 rfl
 refine Qd (Qa (Qo rfl ?_ ?_))
 ·intro h
  simp at h
  refine Qc (Qb [0,1] rfl (mvV rfl rfl (Qk rfl rfl (Qd (Qa (Qq (Qp (Qj rfl rfl ?_))))))))
  exact ⟨hE2, by rw [ZF h]⟩
 ·intro h
  simp at h
  refine Qe (Qa (Qc (Qb [0] rfl (Qk rfl rfl (Qd (Qa (Qq (Qj rfl rfl ?_))))))))
  exact ⟨hE2, by rw [Qcf (by omega)]; rfl⟩
theorem JG {p : Int} {x : Int} {k m : Nat} (hp : 2 ≤ p) (h0 : 0 ≤ x) (h1 : x < p ^ m) (hk : m ≤ k) : x / p ^ k = 0 := by
 have := ZJ hp hk
 exact Int.ediv_eq_zero_of_lt h0 (by omega)
theorem Qa5 {p x : Int} (hp : 2 ≤ p) (k : Nat) : x / p ^ k / p = x / p ^ (k + 1) := by
 have := ZQ hp k
 rw [Int.pow_succ, Int.ediv_ediv, if_neg (by omega), Int.sub_zero]
theorem KN {p x : Int} (hp : 2 ≤ p) {k j : Nat} (hkj : k ≤ j) (h : x / p ^ k = 0) : x / p ^ j = 0 := by
 obtain ⟨m, rfl⟩ : ∃ m, j = k + m := ⟨j - k, by omega⟩
 have := ZQ hp k
 rw [Int.pow_add, ← Int.ediv_ediv_of_nonneg (by omega), h, Int.zero_ediv]
set_option maxRecDepth 10000 in
theorem gAdd (P : FP) (g : Value) (x y : Int) (w : World) (hG : GFV w P g) :
  Calls Tryz.prog 62 #[g, .int .i64 x, .int .i64 y] w (RetX w fun v _ => v = .int .i64 (inK P x + inK P y).1) := by
 refine QS Tryz.func62 rfl rfl (Qc (Qb [0] rfl (Qk rfl rfl (Qd (Qa (Qc (Qb [0,1,2,3,4,5,6,7] rfl (mvV rfl rfl (mvV rfl rfl (C rfl wu rfl rfl Tryz.call63 (gIn P g x _ hG) ?_))))))))))
 rintro _ w2 hE2 rfl
 refine mvV rfl rfl (mvV rfl rfl (C rfl wu rfl rfl Tryz.call63 (gIn P g y _ (hG.ext hE2)) ?_))
 rintro _ w3 hE3 rfl
 refine Qk rfl rfl (Qk rfl rfl (Qd (Qa (Qc (Qc ?_)))))
 have hE := hE2.trans hE3
 have hE0 := hE
 replace hG := hG.ext hE
 clear hE2 hE3
 obtain ⟨b, mc, exp, log, md, lg, x0, rfl, hB, hF, hx, hei, hli, hL⟩ := hG.ex
 generalize inK P x = X
 generalize inK P y = Y
 have hX := X.2
 have hY := Y.2
 have hq := hF.q
 have hp := P.hp
 have hp2 := hF.p
 refine Qb [0,1,2,3,4,5] rfl (mvV rfl rfl (QM rfl rfl (Qz rfl rfl ZN (Qz rfl rfl QY (Vw rfl (ldB rfl na3) ?_)))))
 refine QU rfl rfl rfl (Qd (Qa (Qo rfl ?_ ?_)))
 ·intro h
  simp at h
  refine Qc (Qb [0,1,2,3] rfl (mvV rfl rfl (mvV rfl rfl (Vw rfl (xorI rfl rfl) (Qk rfl rfl (Qd (Qa (Qq (Qp (Qj rfl rfl ?_))))))))))
  refine ⟨hE, ?_⟩
  have h1 : X.1 < 2 ^ P.M := by have : X.1 < P.p ^ P.M := X.2.2; rw [h] at this; exact this
  have h2 : Y.1 < 2 ^ P.M := by have : Y.1 < P.p ^ P.M := Y.2.2; rw [h] at this; exact this
  have hc : ((2 ^ P.M : Nat) : Int) = 2 ^ P.M := by rw [Int.natCast_pow]; rfl
  rw [add_ps, h, xor_ps P.M X.1.toNat Y.1.toNat (by omega) (by omega)]
  congr 2
  rw [Int.toNat_of_nonneg hX.1, Int.toNat_of_nonneg hY.1]
 ·intro h
  simp at h
  refine Qe (Qa (Qc (Qb [0,1] rfl (Qk rfl rfl (Qk rfl rfl (Qd (Qa (Qc (Qf ?_)))))))))
  refine Qv (fun k : Nat => [(0, .pointer (some ⟨b, 0, none⟩)), (1, .int .i64 (X.1 / P.p ^ k)), (2, .int .i64 (Y.1 / P.p ^ k)), (7, .int .i64 (ps P.p (da P.p X.1 Y.1) k)), (8, .int .i64 (P.p ^ k))])
   (fun k w' => k ≤ P.M ∧ Ext w3 w') (fun k => P.M - k) 0 ⟨rfl, by rw [Int.pow_zero, Int.ediv_one]; rfl, by rw [Int.pow_zero, Int.ediv_one]; rfl, rfl, by rw [Int.pow_zero]; rfl, trivial⟩ ⟨by omega, Ext.refl _⟩ ?_
  clear hE
  rintro k w4 ⟨hk, hE⟩
  have hpk := ZQ hp k
  have hx0 : 0 ≤ X.1 / P.p ^ k := Int.ediv_nonneg hX.1 (by omega)
  have hy0 : 0 ≤ Y.1 / P.p ^ k := Int.ediv_nonneg hY.1 (by omega)
  have hx1 : X.1 / P.p ^ k ≤ X.1 := Int.ediv_le_self _ hX.1
  have hy1 : Y.1 / P.p ^ k ≤ Y.1 := Int.ediv_le_self _ hY.1
  try dsimp only
  refine Qc (Qc (Qb [0,1,2,3,4,5] rfl (mvV rfl rfl (ZA rfl rfl rfl (mvV rfl rfl ?_)))))
  refine OR (π1 := [3,4,5]) (π2 := []) (tc := 26) (tp := 29) rfl rfl rfl (by
    intro _
    refine SK rfl rfl rfl rfl rfl (SK rfl rfl rfl rfl rfl (pkV rfl rfl rfl ?_))
    exact Zx rfl) (by
    intro hg
    simp at hg
    refine Vg rfl rfl rfl (mv rfl) (Vg rfl rfl rfl (Ju rfl rfl) (pkV rfl rfl rfl ?_))
    exact Zx rfl) ?_
  refine Qd (Qa (Qo rfl ?_ ?_))
  ·intro hc
   simp at hc
   refine Qe (Qa (Qf (Qc ?_)))
   have hkM : k < P.M := by
    apply Classical.byContradiction
    intro hn
    have e1 := JG hp hX.1 hX.2 (k := k) (by omega)
    have e2 := JG hp hY.1 hY.2 (k := k) (by omega)
    omega
   have hpq : P.p ^ k ≤ P.q := ZJ hp hk
   have hd : ∀ j, 0 ≤ da P.p X.1 Y.1 j ∧ da P.p X.1 Y.1 j < P.p := fun j => ⟨Int.emod_nonneg _ (by omega), Int.emod_lt_of_pos _ (by omega)⟩
   have hs := QaL hp hd k
   have hdk := hd k
   have hm := Jh (a := da P.p X.1 Y.1 k) (b := P.p ^ k) (c := 256) (d := 256) hdk.1 (by omega) (by omega) (by omega)
   have hm2 := Jh (a := P.p ^ k) (b := P.p) (c := 256) (d := 256) (by omega) (by omega) (by omega) (by omega)
   unfold da at hm hdk
   have r1 : 0 ≤ X.1 / P.p ^ k % P.p := Int.emod_nonneg _ (by omega)
   have r2 : 0 ≤ Y.1 / P.p ^ k % P.p := Int.emod_nonneg _ (by omega)
   have r3 : X.1 / P.p ^ k % P.p < P.p := Int.emod_lt_of_pos _ (by omega)
   have r4 : Y.1 / P.p ^ k % P.p < P.p := Int.emod_lt_of_pos _ (by omega)
   refine Qx QK [0,1,2,3,4,5,6,7,8,9,10,11,12,13,14,15,16,17,18,19,20,21,22,23,24,25] (by kernel_rfl) ?_
   intro w5 hd _
   replace hE := hE.trans hd
   refine mvV rfl rfl (mvV rfl rfl (mvV rfl rfl (QM rfl rfl (Qz rfl rfl ZN (Qz rfl rfl QY (Vw rfl (ldB rfl na3) ?_))))))
   refine Vw rfl (Qbe rfl rfl) (mvV rfl rfl (mvV rfl rfl (QM rfl rfl (Qz rfl rfl ZN (Qz rfl rfl QY (Vw rfl (ldB rfl na3) ?_))))))
   refine Vw rfl (Qbe rfl rfl) (Qw rfl rfl rfl (mvV rfl rfl (QM rfl rfl (Qz rfl rfl ZN (Qz rfl rfl QY (Vw rfl (ldB rfl na3) ?_))))))
   refine Vw rfl (Qbe rfl rfl) (mvV rfl rfl (Vw rfl (Kx rfl rfl) (Qw rfl rfl rfl (Qk rfl rfl (Qd (Qa (Qc (Qb [0,1,2,3,4,5,6,7] rfl (mvV rfl rfl (mvV rfl rfl (QM rfl rfl ?_)))))))))))
   refine Qz rfl rfl ZN (Qz rfl rfl QY (Vw rfl (ldB rfl na3) ?_))
   refine Vw rfl (Kx rfl rfl) (Qk rfl rfl (Qd (Qa (Qc (Qb [0,1,2,3,4,5,6,7] rfl (mvV rfl rfl (mvV rfl rfl (QM rfl rfl (Qz rfl rfl ZN (Qz rfl rfl QY (Vw rfl (ldB rfl na3) ?_)))))))))))
   refine Vw rfl (quoI rfl rfl) (Qk rfl rfl (Qd (Qa ?_)))
   rw [Qa5 hp k]
   refine Qb [0,1,2,3,4,5,6,7] rfl (mvV rfl rfl (mvV rfl rfl (QM rfl rfl (Qz rfl rfl ZN (Qz rfl rfl QY (Vw rfl (ldB rfl na3) ?_))))))
   refine Vw rfl (quoI rfl rfl) (Qk rfl rfl (Qd (Qg ?_)))
   rw [Qa5 hp k]
   exact Qi (k + 1) ⟨rfl, rfl, rfl, rfl, by rw [Int.pow_succ]; rfl, trivial⟩ ⟨hkM, hE⟩ (by omega)
  ·intro hc
   simp at hc
   refine Qt (Ql (Qm (Qh (Qa (Qc (Qb [0,1] rfl (mvV rfl rfl (Qk rfl rfl (Qd (Qa (Qq (Qj rfl rfl ?_))))))))))))
   refine ⟨hE0.trans hE, ?_⟩
   have e1 : X.1 / P.p ^ k = 0 := by omega
   have e2 : Y.1 / P.p ^ k = 0 := by omega
   rw [add_ps, QbZ (f := da P.p X.1 Y.1) (k := k) (fun j hj => ?_) P.M hk]
   rw [da, KN hp hj e1, KN hp hj e2]
   simp
set_option maxRecDepth 10000 in
theorem gNeg (P : FP) (g : Value) (x : Int) (w : World) (hG : GFV w P g) :
  Calls Tryz.prog 34 #[g, .int .i64 x] w (RetX w fun v _ => v = .int .i64 (-inK P x).1) := by
 refine QD Tryz.func34 rfl rfl (Qc (Qb [0] rfl (Qk rfl rfl (Qd (Qa (Qc (Qb [0,1,2,3] rfl (mvV rfl rfl (mvV rfl rfl (C rfl wu rfl rfl Tryz.call63 (gIn P g x _ hG) ?_))))))))))
 rintro _ w2 hE2 rfl
 refine Qk rfl rfl (Qd (Qa (Qc ?_)))
 have hE0 := hE2
 replace hG := hG.ext hE2
 clear hE2
 obtain ⟨b, mc, exp, log, md, lg, x0, rfl, hB, hF, hx, hei, hli, hL⟩ := hG.ex
 generalize inK P x = X
 have hX := X.2
 have hq := hF.q
 have hp := P.hp
 have hp2 := hF.p
 refine Qb [0,1] rfl (Qk rfl rfl (Qk rfl rfl (Qd (Qa (Qc (Qf ?_))))))
 refine Qv (fun k : Nat => [(0, .pointer (some ⟨b, 0, none⟩)), (1, .int .i64 (X.1 / P.p ^ k)), (5, .int .i64 (ps P.p (dn P.p X.1) k)), (6, .int .i64 (P.p ^ k))])
  (fun k w' => k ≤ P.M ∧ Ext w2 w') (fun k => P.M - k) 0 ⟨rfl, by rw [Int.pow_zero, Int.ediv_one]; rfl, rfl, by rw [Int.pow_zero]; rfl, trivial⟩ ⟨by omega, Ext.refl _⟩ ?_
 rintro k w4 ⟨hk, hE⟩
 have hpk := ZQ hp k
 have hx0 : 0 ≤ X.1 / P.p ^ k := Int.ediv_nonneg hX.1 (by omega)
 have hx1 : X.1 / P.p ^ k ≤ X.1 := Int.ediv_le_self _ hX.1
 try dsimp only
 refine Qc (Qc (Qb [0,1] rfl (mvV rfl rfl (ZA rfl rfl rfl (Qd (Qa (Qo rfl ?_ ?_)))))))
 ·intro hc
  simp at hc
  refine Qe (Qa (Qf (Qc ?_)))
  have hkM : k < P.M := by
   apply Classical.byContradiction
   intro hn
   have e1 := JG hp hX.1 hX.2 (k := k) (by omega)
   omega
  have hpq : P.p ^ k ≤ P.q := ZJ hp hk
  have hd : ∀ j, 0 ≤ dn P.p X.1 j ∧ dn P.p X.1 j < P.p := fun j => ⟨Int.emod_nonneg _ (by omega), Int.emod_lt_of_pos _ (by omega)⟩
  have hs := QaL hp hd k
  have hdk := hd k
  have hm := Jh (a := dn P.p X.1 k) (b := P.p ^ k) (c := 256) (d := 256) hdk.1 (by omega) (by omega) (by omega)
  have hm2 := Jh (a := P.p ^ k) (b := P.p) (c := 256) (d := 256) (by omega) (by omega) (by omega) (by omega)
  unfold dn at hm hdk
  have r1 : 0 ≤ X.1 / P.p ^ k % P.p := Int.emod_nonneg _ (by omega)
  have r3 : X.1 / P.p ^ k % P.p < P.p := Int.emod_lt_of_pos _ (by omega)
  refine Qx QK [0,1,2,3,4,5,6,7,8,9,10,11,12,13,14,15,16,17,18,19,20,21,22,23] (by kernel_rfl) ?_
  intro w5 hd _
  replace hE := hE.trans hd
  refine mvV rfl rfl (mvV rfl rfl (QM rfl rfl (Qz rfl rfl ZN (Qz rfl rfl QY (Vw rfl (ldB rfl na3) ?_)))))
  refine mvV rfl rfl (mvV rfl rfl (QM rfl rfl (Qz rfl rfl ZN (Qz rfl rfl QY (Vw rfl (ldB rfl na3) ?_)))))
  refine Vw rfl (Qbe rfl rfl) (Zd rfl rfl rfl (mvV rfl rfl (QM rfl rfl (Qz rfl rfl ZN (Qz rfl rfl QY (Vw rfl (ldB rfl na3) ?_))))))
  refine Vw rfl (Qbe rfl rfl) (mvV rfl rfl (Vw rfl (Kx rfl rfl) (Qw rfl rfl rfl (Qk rfl rfl (Qd (Qa (Qc (Qb [0,1,2,3,4,5,6,7] rfl (mvV rfl rfl (mvV rfl rfl (QM rfl rfl ?_)))))))))))
  refine Qz rfl rfl ZN (Qz rfl rfl QY (Vw rfl (ldB rfl na3) ?_))
  refine Vw rfl (Kx rfl rfl) (Qk rfl rfl (Qd (Qa (Qb [0,1,2,3,4,5,6,7] rfl (mvV rfl rfl (mvV rfl rfl (QM rfl rfl (Qz rfl rfl ZN (Qz rfl rfl QY (Vw rfl (ldB rfl na3) ?_))))))))))
  refine Vw rfl (quoI rfl rfl) (Qk rfl rfl (Qd (Qg ?_)))
  rw [Qa5 hp k]
  exact Qi (k + 1) ⟨rfl, rfl, rfl, by rw [Int.pow_succ]; rfl, trivial⟩ ⟨hkM, hE⟩ (by omega)
 ·intro hc
  simp at hc
  refine Qt (Ql (Qm (Qh (Qa (Qc (Qb [0,1] rfl (mvV rfl rfl (Qk rfl rfl (Qd (Qa (Qq (Qj rfl rfl ?_))))))))))))
  refine ⟨hE0.trans hE, ?_⟩
  have e1 : X.1 / P.p ^ k = 0 := by omega
  rw [neg_ps, QbZ (f := dn P.p X.1) (k := k) (fun j hj => ?_) P.M hk]
  rw [dn, KN hp hj e1]
  simp
theorem gSub (P : FP) (g : Value) (x y : Int) (w : World) (hG : GFV w P g) :
  Calls Tryz.prog 306 #[g, .int .i64 x, .int .i64 y] w (RetX w fun v _ => v = .int .i64 (inK P x + -inK P y).1) := by
 refine QS Tryz.func306 rfl rfl (Qc (Qb [0] rfl (Qk rfl rfl (Qd (Qa (Qc (Qb [0,1,2,3,4,5,6] rfl (mvV rfl rfl (mvV rfl rfl (mvV rfl rfl (mvV rfl rfl ?_)))))))))))
 refine C rfl wu rfl rfl Tryz.call34 (gNeg P g y _ hG) ?_
 rintro _ w2 hE2 rfl
 refine C rfl wu rfl rfl Tryz.call62 (gAdd P g x (-inK P y).1 _ (hG.ext hE2)) ?_
 rintro _ w3 hE3 rfl
 refine Qk rfl rfl (Qd (Qa (Qq (Qj rfl rfl ?_))))
 exact ⟨hE2.trans hE3, by rw [Zi]⟩
set_option maxRecDepth 10000 in
theorem gMul (P : FP) (g : Value) (x y : Int) (w : World) (hG : GFV w P g) :
  Calls Tryz.prog 61 #[g, .int .i64 x, .int .i64 y] w (RetX w fun v _ => v = .int .i64 (inK P x * inK P y).1) := by
 refine QS Tryz.func61 rfl rfl (Qc (Qb [0] rfl (Qk rfl rfl (Qd (Qa (Qc (Qb [0,1,2,3,4,5,6,7] rfl (mvV rfl rfl (mvV rfl rfl (C rfl wu rfl rfl Tryz.call63 (gIn P g x _ hG) ?_))))))))))
 rintro _ w2 hE2 rfl
 refine mvV rfl rfl (mvV rfl rfl (C rfl wu rfl rfl Tryz.call63 (gIn P g y _ (hG.ext hE2)) ?_))
 rintro _ w3 hE3 rfl
 refine Qk rfl rfl (Qk rfl rfl (Qd (Qa (Qc (Qc ?_)))))
 have hE := hE2.trans hE3
 replace hG := hG.ext hE
 clear hE2 hE3
 obtain ⟨b, mc, exp, log, md, lg, x0, rfl, hB, hF, hx, hei, hli, hL⟩ := hG.ex
 generalize inK P x = X
 generalize inK P y = Y
 have hX := X.2
 have hY := Y.2
 have hq := hF.q
 refine Qb [0,1,2,3,4,5] rfl (mvV rfl rfl (QU rfl rfl rfl (mvV rfl rfl ?_)))
 refine OR (π1 := [3,4,5]) (π2 := []) (tc := 15) (tp := 18) rfl rfl rfl (by
   intro _
   refine SK rfl rfl rfl rfl rfl (SK rfl rfl rfl rfl rfl (pkV rfl rfl rfl ?_))
   exact Zx rfl) (by
   intro hg
   simp at hg
   refine Vg rfl rfl rfl (mv rfl) (Vg rfl rfl rfl (KV rfl rfl) (pkV rfl rfl rfl ?_))
   exact Zx rfl) ?_
 refine Qd (Qa (Qo rfl ?_ ?_))
 ·intro h
  simp at h
  refine Qc (Qb [0] rfl (Qk rfl rfl (Qd (Qa (Qq (Qp (Qj rfl rfl ?_)))))))
  refine ⟨hE, ?_⟩
  rcases h with h | h
  ·rw [show X = 0 from Subtype.ext h, zero_mul]; rfl
  ·rw [show Y = 0 from Subtype.ext h, mul_zero]; rfl
 ·intro h
  simp at h
  refine Qe (Qa (Qc ?_))
  obtain ⟨i, hi, eX⟩ := KF hx X (fun e => h.1 (by rw [e]; rfl))
  obtain ⟨j, hj, eY⟩ := KF hx Y (fun e => h.2 (by rw [e]; rfl))
  have gX := hL.2 i hi
  have gY := hL.2 j hj
  rw [eX] at gX
  rw [eY] at gY
  have hl := hL.1
  have hpl := ZZ x0 (n1 P)
  have hn1 := QaS (P := P)
  have hq2 := P.q_two
  have m0 : 0 ≤ (gi lg X.1 + gi lg Y.1) % (P.q - 1) := Int.emod_nonneg _ (by omega)
  have m1 : (gi lg X.1 + gi lg Y.1) % (P.q - 1) < P.q - 1 := Int.emod_lt_of_pos _ (by omega)
  refine Qx QK [0,1,2,3,4,5,6,7,8,9,10,11,12,13,14,15,16,17,18,19,20,21,22,23,24,25,26,27] (by kernel_rfl) ?_
  intro w4 hd _
  replace hE := hE.trans hd
  replace hB := hB.ext hd
  replace hei := hei.ext hd
  replace hli := hli.ext hd
  refine mvV rfl rfl (QM rfl rfl (Qz rfl rfl fa107_2 (Vw rfl (ldB rfl Zk) ?_)))
  refine mvV rfl rfl (QM rfl rfl (Qz rfl rfl Qa2 (Vw rfl (ldB rfl Zk) ?_)))
  refine mvV rfl rfl (Vw rfl (QO rfl rfl QA) ?_)
  refine Vw rfl (ldI rfl na3) ?_
  refine mvV rfl rfl (QM rfl rfl (Qz rfl rfl Qa2 (Vw rfl (ldB rfl Zk) ?_)))
  refine mvV rfl rfl (Vw rfl (QO rfl rfl QA) ?_)
  refine Vw rfl (ldI rfl na3) ?_
  refine Qw rfl rfl rfl (mvV rfl rfl (QM rfl rfl (Qz rfl rfl KK (Vw rfl (ldB rfl na3) ?_))))
  refine Zd rfl rfl rfl (Vw rfl (Qbe rfl rfl) (Vw rfl (QO rfl rfl QA) ?_))
  refine Vw rfl (ldI rfl na3) ?_
  refine Qk rfl rfl (Qd (Qa (Qq (Qj rfl rfl ?_))))
  refine ⟨hE, ?_⟩
  rw [Xk x0 m0 (by omega), gX, gY, ← eX, ← eY, ← ZR, QaR hx.2.1 (i + j)]
  congr 3
  rw [← hn1, ← Int.natCast_add, ← Int.natCast_emod, Int.toNat_natCast]
end Go.Proofs.YtcfbigmjjpknfaaGreatDoor
namespace Go.Fd
open Go.Pl Go.Alg
def upd (m : Nat) (f g : Nat → Int) (i : Int) : List Int := tab m fun t => if (t : Int) < i then f t else g t
theorem JL (m : Nat) (f g : Nat → Int) (i : Int) : (upd m f g i).length = m := Qs _ _
theorem upd_zero (l : List Int) (f : Nat → Int) : upd l.length f (fun t => l.getD t 0) 0 = l := by
 conv => rhs; rw [JQ l]
 exact QF fun t _ => if_neg (by omega)
theorem Qbg (m : Nat) (f g : Nat → Int) : upd m f g 0 = tab m g := QF fun t _ => if_neg (by omega)
theorem Kb (m : Nat) (f g : Nat → Int) {i : Int} (h : (m : Int) ≤ i) : upd m f g i = tab m f := QF fun t ht => if_pos (by omega)
theorem upd_get {m : Nat} {f g : Nat → Int} {i : Int} (h0 : 0 ≤ i) (h1 : i < m) : gi (upd m f g i) i = g i.toNat := by
 rw [upd, ZO h1 h0, if_neg (by omega)]
theorem Xg {m : Nat} {f g : Nat → Int} {i : Int} (h0 : 0 ≤ i) : si (upd m f g i) i (f i.toNat) = upd m f g (i + 1) := by
 rw [upd, Jt]
 refine QF fun t _ => ?_
 by_cases e : t = i.toNat
 ·rw [if_pos e, if_pos (by omega), e]
 ·rw [if_neg e]
  by_cases h : (t : Int) < i
  ·rw [if_pos h, if_pos (by omega)]
  ·rw [if_neg h, if_neg (by omega)]
section
variable {P : FP}
theorem v_lo (x : K P) (j : Nat) (hj : j < P.M) : 0 ≤ x.v j ∧ x.v j < P.p := by
 have hl := QZ P.p P.M x.1
 have := QbJ P.hp P.M x.1 _ (List.getElem_mem (h := by rw [hl]; exact hj) : (dig P.p P.M x.1)[j]'(by rw [hl]; exact hj) ∈ _)
 have e : x.v j = (dig P.p P.M x.1)[j]'(by rw [hl]; exact hj) := by
  show (dig P.p P.M x.1).getD j 0 = _
  simp [hl, hj]
 rw [e]
 exact this
theorem gi_v (x : K P) {j : Int} : gi (dig P.p P.M x.1) j = x.v j.toNat := rfl
theorem QcL (l : List Int) {k i j n : Nat} (hk : k = i + j) (hkn : k < n) (hkl : k < l.length) {u a b : Int} (hu : zK P u = zK P (l.getD k 0) + zK P a * zK P b) :
  pe P (fun t => (l.set k u).getD t 0) n = pe P (fun t => l.getD t 0) n + zK P a * npow (xi P) i * (zK P b * npow (xi P) j) := by
 rw [getD_set l k u hkl, pe_set _ k u n hkn, hu, add_assoc, add_comm (zK P a * zK P b), ← add_assoc, Xd, zero_add, hk, ZR]
 congr 1
 rw [mul_assoc, mul_assoc, mul_left_comm (zK P b)]
theorem pe_red (l : List Int) {i m : Nat} {t : Int} {Z : K P} (hi : i = m + P.M) (ht : l.getD i 0 = t) (h : pe P (fun t => l.getD t 0) (i + 1) = Z + zK P (-t) * npow (xi P) m * pe P P.md P.M) :
  pe P (fun t => l.getD t 0) i = Z := by
 have e1 : pe P P.md P.M = -npow (xi P) P.M := by rw [xi_top, Kw]
 rw [pe, ht, e1, zK_neg, neg_mul, neg_mul, mul_neg, Kw, mul_assoc, ← ZR, ← hi] at h
 exact XZ h
end
end Go.Fd
namespace Go.Fd
open Go.Pl Go.Alg
section
variable {P : FP}
instance decK (P : FP) : DecidableEq (K P) := fun x y => if h : x.1 = y.1 then isTrue (Subtype.ext h) else isFalse (fun e => h (by rw [e]))
theorem pow_n1 {g : K P} (hg : HasOrder g (n1 P)) {x : K P} (hx : x ≠ 0) : npow x (n1 P) = 1 := by
 obtain ⟨i, _, rfl⟩ := KF hg x hx
 rw [← Xm, Nat.mul_comm, Xm, hg.2.1, Kg]
def powA (P : FP) (x : K P) (n : Int) : K P × Int := if n = 0 then (1, 0) else if x = 0 then (0, if n < 0 then 7 else 0) else (npow x (n % n1 P).toNat, 0)
def invK (P : FP) (x : K P) : K P := npow x (n1 P - 1)
theorem Xn {g : K P} (hg : HasOrder g (n1 P)) {x : K P} (hx : x ≠ 0) : x * invK P x = 1 := by
 have h := pow_n1 hg hx
 have h1 := n1_pos (P := P)
 rw [invK, mul_comm, ← Zz, show n1 P - 1 + 1 = n1 P by omega, h]
theorem QcR {x y z : K P} (hy : x * y = 1) (hz : x * z = 1) : y = z := by
 rw [← mul_one y, ← hz, ← mul_assoc, mul_comm y x, hy, one_mul]
end
end Go.Fd
namespace Go.Proofs.YtcfbigmjjpknfaaGreatDoor
open Go Go.Sx Go.Pl Go.RowKit Go.Fd Go.Alg
set_option maxRecDepth 10000 in
theorem gInv (P : FP) (g : Value) (x : Int) (w : World) (hG : GFV w P g) :
  Calls Tryz.prog 60 #[g, .int .i64 x] w (RetX w fun v _ => v = if inK P x = 0 then .tuple #[.int .i64 0, .int .i64 7] else .tuple #[.int .i64 (invK P (inK P x)).1, .int .i64 0]) := by
 refine QD Tryz.func60 rfl rfl (Qc (Qb [0,1] rfl (Qk rfl rfl (Qk rfl rfl (Qd (Qa (Qc (Qb [0,1,2,3] rfl (mvV rfl rfl (mvV rfl rfl (C rfl wu rfl rfl Tryz.call63 (gIn P g x _ hG) ?_)))))))))))
 rintro _ w2 hE rfl
 refine Qk rfl rfl (Qd (Qa (Qc (Qc ?_))))
 replace hG := hG.ext hE
 obtain ⟨b, mc, exp, log, md, lg, x0, rfl, hB, hF, hx, hei, hli, hL⟩ := hG.ex
 generalize inK P x = X
 have hX := X.2
 have hq := hF.q
 refine Qb [0,1] rfl (mvV rfl rfl (QU rfl rfl rfl (Qd (Qa (Qo rfl ?_ ?_)))))
 ·intro h
  simp at h
  refine Qc (Qb [0,1] rfl (Qk rfl rfl (Qk rfl rfl (Qd (Qa (Qq (Qp (QH rfl rfl rfl ?_))))))))
  exact ⟨hE, by rw [if_pos (show X = 0 from Subtype.ext h)]⟩
 ·intro h
  simp at h
  have hX0 : X ≠ 0 := fun e => h (by rw [e]; rfl)
  refine Qe (Qa (Qc ?_))
  obtain ⟨i, hi, eX⟩ := KF hx X hX0
  have gX := hL.2 i hi
  rw [eX] at gX
  have hl := hL.1
  have hpl := ZZ x0 (n1 P)
  have hn1 := QaS (P := P)
  have hq2 := P.q_two
  have m0 : 0 ≤ (P.q - 1 - gi lg X.1) % (P.q - 1) := Int.emod_nonneg _ (by omega)
  have m1 : (P.q - 1 - gi lg X.1) % (P.q - 1) < P.q - 1 := Int.emod_lt_of_pos _ (by omega)
  refine Qx QK [0,1,2,3,4,5,6,7,8,9,10,11,12,13,14,15,16,17,18,19,20,21,22,23,24,25,26] (by kernel_rfl) ?_
  intro w4 hd _
  replace hE := hE.trans hd
  replace hB := hB.ext hd
  replace hei := hei.ext hd
  replace hli := hli.ext hd
  refine mvV rfl rfl (QM rfl rfl (Qz rfl rfl fa107_2 (Vw rfl (ldB rfl Zk) ?_)))
  refine mvV rfl rfl (QM rfl rfl (Qz rfl rfl KK (Vw rfl (ldB rfl na3) ?_)))
  refine Zd rfl rfl rfl (mvV rfl rfl (QM rfl rfl (Qz rfl rfl Qa2 (Vw rfl (ldB rfl Zk) ?_))))
  refine mvV rfl rfl (Vw rfl (QO rfl rfl QA) ?_)
  refine Vw rfl (ldI rfl na3) ?_
  refine Zd rfl rfl rfl (mvV rfl rfl (QM rfl rfl (Qz rfl rfl KK (Vw rfl (ldB rfl na3) ?_))))
  refine Zd rfl rfl rfl (Vw rfl (Qbe rfl rfl) (Vw rfl (QO rfl rfl QA) ?_))
  refine Vw rfl (ldI rfl na3) ?_
  refine Qk rfl rfl (Qk rfl rfl (Qd (Qa (Qq (QH rfl rfl rfl ?_)))))
  refine ⟨hE, ?_⟩
  rw [if_neg hX0]
  congr 3
  rw [Xk x0 m0 (by omega)]
  have e : npow x0 ((P.q - 1 - gi lg X.1) % (P.q - 1)).toNat = npow x0 (n1 P - i) := by
   rw [QaR hx.2.1 (n1 P - i)]
   congr 1
   rw [gX, ← hn1, show ((n1 P : Int) - i) = ((n1 P - i : Nat) : Int) by omega, ← Int.natCast_emod, Int.toNat_natCast]
  rw [e]
  have h1 := Kf hx.2.1 (i := i) (by omega)
  rw [eX] at h1
  rw [QcR h1 (Xn hx hX0)]
end Go.Proofs.YtcfbigmjjpknfaaGreatDoor
namespace Go.Proofs.YtcfbigmjjpknfaaGreatDoor
open Go Go.Sx Go.Pl Go.RowKit
end Go.Proofs.YtcfbigmjjpknfaaGreatDoor
namespace Go.Sx
open Go Go.RowKit Go.Pl
theorem Sl.lt {w : World} {v : Value} {xs : List Value} (h : Sl w v xs) (hn : 0 < xs.length) : ∃ k, v.ownBlock = some k ∧ k < w.heap.size := by
 obtain ⟨⟨a, c, rfl, hc, hx⟩, _⟩ := h
 obtain ⟨ad, rfl, hcell⟩ := hx hn
 have h0 := hcell 0 xs[0] (by simp [hn])
 refine ⟨ad.block, rfl, ?_⟩
 have := World.block_lt_of_cell? w _ h0
 simpa [Addr.add] using this
theorem Ints.lt {w : World} {v : Value} {zs : List Int} (h : Ints w v zs) (hn : 0 < zs.length) : ∃ k, v.ownBlock = some k ∧ k < w.heap.size := Sl.lt h (by simpa using hn)
theorem Sl.slice {w : World} {v : Value} {xs : List Value} (h : Sl w v xs) : ∃ a c, v = .slice a xs.length c := by
 obtain ⟨⟨a, c, hv, _⟩, _⟩ := h
 exact ⟨a, c, hv⟩
def cutTo (v : Value) (n : Nat) : Value := match v with
 | .slice a _ c => .slice a n c
 | v => v
theorem slv_cut {a : Option Addr} {n c : Nat} {hi : Int} : slv (.slice a n c) 0 hi = cutTo (.slice a n c) hi.toNat := by
 have e : ∀ q : Addr, q.add 0 = q := fun q => by simp [Addr.add]
 have e2 : a.map (fun x => x.add 0) = a := by cases a <;> simp [e]
 simp [slv, sliced, cutTo, e2]
theorem Sl.part0 {w : World} {v : Value} {xs : List Value} (h : Sl w v xs) {hi : Int} : Go.Sx.slv v 0 hi = cutTo v hi.toNat := by
 obtain ⟨a, c, rfl⟩ := h.slice
 exact Go.Sx.slv_cut
theorem cut_block (v : Value) (n : Nat) : (cutTo v n).ownBlock = v.ownBlock := by
 cases v <;> try rfl
 rename_i a _ _
 cases a <;> rfl
theorem Sl.cut {w : World} {v : Value} {xs : List Value} (h : Sl w v xs) {n : Nat} (hn : n ≤ xs.length) : Sl w (cutTo v n) (xs.take n) := by
 obtain ⟨⟨a, c, rfl, hc, hx⟩, hl⟩ := h
 have hlen : (xs.take n).length = n := by simp; omega
 refine ⟨⟨a, c, by rw [hlen]; rfl, by rw [hlen]; omega, fun hp => ?_⟩, by rw [hlen]; omega⟩
 rw [hlen] at hp
 obtain ⟨ad, rfl, hcell⟩ := hx (by omega)
 refine ⟨ad, rfl, fun j u hu => ?_⟩
 rw [List.getElem?_take] at hu
 split at hu
 ·exact hcell _ _ hu
 ·cases hu
theorem Value.slice_cells (v : Value) (h : ∃ a n c, v = .slice a n c) : v.oneCell' = true := by
 obtain ⟨a, n, c, rfl⟩ := h
 rfl
section
variable {P : Program} {N : Nat} {l : Env} {w : World} {ops : Array Oper} {dr : Bool} {Q : Act → World → Prop} {π : List Nat} {i d : Nat} {v : Value} {op : Op} {ty : TypeId} {pos : String} {after : Array Edge} {g : Option (Nat × Bool)}
variable {x y c p : Operand} {u z : Int} {T T' : TypeId}
def RowsOk (w : World) (us : List Value) (L : List (List Int)) : Prop := us.length = L.length ∧ ∀ (i : Nat) r zs, us[i]? = some r → L[i]? = some zs → Ints w r zs
theorem Ze {w : World} {r : Value} {z : List Int} (h : Ints w r z) : RowsOk w [r] [z] := ⟨rfl, fun i r' zs a b => by
 match i with
 | 0 => cases a; cases b; exact h
 | i + 1 => simp at a⟩
theorem Zc {w : World} {r s : Value} {z y : List Int} (h : Ints w r z) (k : Ints w s y) : RowsOk w [r, s] [z, y] := ⟨rfl, fun i r' zs a b => by
 match i with
 | 0 => cases a; cases b; exact h
 | 1 => cases a; cases b; exact k
 | i + 2 => simp at a⟩
end
section
variable {P : Program} {N : Nat} {l : Env} {w : World}
theorem Kn {c : Code} {Q : Exit → Act → World → Prop} {σ : Type} (L : σ → Env) (I : σ → World → Prop)
  (h : WC P N c (fun e a w => e = .normal ∧ ∃ s, At N a (L s) ∧ I s w) l w) (hy : ∀ s w, I s w → Post N Q .normal (L s) w) : WC P N c Q l w := fun a ha => wp_mono (h a ha) (fun e a' w' hq => by
 obtain ⟨rfl, s, h1, h2⟩ := hq
 exact hy s w' h2 a' h1)
theorem ZL {ops : Array Oper} {dr : Bool} {σ : Type} {L : σ → Env} {I : σ → World → Prop} (s : σ) (hL : Sub l (L s)) (hI : I s w) :
  WR P N ops dr (fun a w => Exit.normal = Exit.normal ∧ ∃ s, At N a (L s) ∧ I s w) [] l w := fun _ ha => ⟨rfl, s, ha.sub hL, hI⟩
end
section
variable {P : Program} {N : Nat} {l : Env} {w : World} {ops : Array Oper} {dr : Bool} {Q : Act → World → Prop} {π : List Nat} {i d : Nat} {op : Op} {ty : TypeId} {pos : String} {after : Array Edge}
theorem SKU {j t : Nat} {want : Bool} (hi : ops[i]? = some ⟨some d, op, ty, pos, after, some (j, want)⟩) (hj : (ops[j]?).bind (·.dst) = some t) (hb : lk l t = some undef)
  (hd : Nat.blt d N = true) (h : WR P N ops dr Q π ((d, undef) :: l) w) : WR P N ops dr Q (i :: π) l w := fun a ha => by
 refine ⟨_, hi, ?_⟩
 have hs := ha.slots t _ hb
 rw [if_neg (by simp [Region.wanted, yielded, hj, hs, undef])]
 exact h _ (ha.put hd undef)
end
section
variable {P : Program} {N : Nat} {l : Env} {w : World} {ops : Array Oper} {dr : Bool} {Q : Act → World → Prop} {π : List Nat} {i d : Nat} {op : Op} {ty : TypeId} {pos : String} {after : Array Edge} {g : Option (Nat × Bool)} {T : TypeId} {p x : Operand}
theorem QB {u : Value} (h : u.oneCell' = true) : u.cells = #[u] := by cases u <;> first | rfl | simp [Value.oneCell'] at h
theorem STV {b t : Nat} {v0 u0 : Value} (hi : ops[i]? = some ⟨none, .store T p x, ty, pos, after, g⟩) (hw : Wt ops N l g) (hp : ev l p = some (.pointer (some ⟨b, 0, none⟩))) (hx : ev l x = some u0)
  (hs : ∀ w, (sizeOf T).run P w = .ok 1 w) (htl : dr = true → isTail ops i = true) (hB : Blk w b t #[v0]) (h1 : u0.oneCell' = true)
  (h : ∀ w', w.grownBy w' (some b) → (∀ w0, w0.heap.size ≤ b → Ext w0 w → Ext w0 w') → Blk w' b t #[u0] → WR P N ops dr Q π l w') : WR P N ops dr Q (i :: π) l w :=
 STB (k := 0) (n := 1) (vs := [u0]) (cs := [v0]) (cs' := [u0]) hi hw hp hx (QB h1) hs htl hB (fun v hv => by
  obtain rfl : v = u0 := by simpa using hv
  exact h1) rfl rfl rfl h
theorem Sl.one {w : World} {v : Value} {xs : List Value} (h : Sl w v xs) : v.oneCell' = true := by
 obtain ⟨a, c, rfl⟩ := h.slice
 rfl
theorem Ints.one {w : World} {v : Value} {zs : List Int} (h : Ints w v zs) : v.oneCell' = true := Sl.one h
theorem LL.one {w : World} {v : Value} {L : List (List Int)} (h : LL w v L) : v.oneCell' = true := by
 obtain ⟨rows, h1, _⟩ := h
 exact h1.one
end
end Go.Sx
namespace Go.Proofs.YtcfbigmjjpknfaaGreatDoor
open Go Go.Sx Go.Pl Go.RowKit
theorem QN : SlT Tryz.prog 25 22 (.slice none 0 0) 1 24 := ⟨by kernel_rfl, by kernel_rfl⟩
theorem sz22 : ∃ j, Tryz.prog.info? 22 = some j ∧ j.size = 1 := ⟨Tryz.t22, by kernel_rfl, by kernel_rfl⟩
theorem Zm : NA Tryz.prog 25 := fun w => Tryz.isAgg25 w
theorem infoLL : Tryz.prog.info? 25 = some Tryz.t25 := by kernel_rfl
theorem sv25 : ∀ w, (sizeOf 25).run Tryz.prog w = .ok 1 w := fun w => by simp [sizeOf, typeInfo, infoLL]; rfl
end Go.Proofs.YtcfbigmjjpknfaaGreatDoor
namespace Go.Proofs.YtcfbigmjjpknfaaGreatDoor
open Go Go.Sx Go.Pl Go.RowKit
theorem infoPt : Tryz.prog.info? 61 = some Tryz.t61 := by kernel_rfl
theorem szPt : ∀ w, (sizeOf 61).run Tryz.prog w = .ok 1 w := fun w => by simp [sizeOf, typeInfo, infoPt]; rfl
end Go.Proofs.YtcfbigmjjpknfaaGreatDoor
namespace Go.Proofs.YtcfbigmjjpknfaaGreatDoor
open Go Go.Sx Go.Pl Go.RowKit
theorem infoCd : Tryz.prog.info? 27 = some Tryz.t27 := by kernel_rfl
theorem QbS : ∀ w, (sizeOf 27).run Tryz.prog w = .ok 5 w := fun w => by simp [sizeOf, typeInfo, infoCd]; rfl
theorem Qc5 : ZV Tryz.prog 27 [.int .i64 0, .int .i64 0, .slice none 0 0, .int .i64 0, .slice none 0 0] := fun w => ⟨_, by simp [zeroValue, typeInfo, infoCd]; rfl, rfl⟩
theorem Jx : AG Tryz.prog 27 5 := ⟨fun w => by simp [isAgg, run_underlying Tryz.underlying27], QbS⟩
theorem Zy : FA Tryz.prog 27 0 0 := fun a w => by
 simp [Instr.fieldAt, run_underlying Tryz.underlying27, Instr.sureAddr, fieldPlace]
theorem Zr : FA Tryz.prog 27 1 3 := fun a w => by
 simp [Instr.fieldAt, run_underlying Tryz.underlying27, Instr.sureAddr, fieldPlace]
theorem ZE : FA Tryz.prog 27 2 4 := fun a w => by
 simp [Instr.fieldAt, run_underlying Tryz.underlying27, Instr.sureAddr, fieldPlace]
theorem bdCd (p M : Int) (mo : Value) (n : Int) (r : Value) (hr : r.cells = #[r]) : ∀ w, (Instr.build 27 #[(0, .agg #[.int .i64 p, .int .i64 M, mo]), (1, .int .i64 n), (2, r)]).run Tryz.prog w = .ok (.agg #[.int .i64 p, .int .i64 M, mo, .int .i64 n, r]) w := fun w => by
 obtain ⟨zv, h1, h2⟩ := Qc5 w
 simp [Instr.build, h1, h2, run_underlying Tryz.underlying27, Instr.fill, Qa8, Zo, hr]
theorem infoMx : Tryz.prog.info? 39 = some Tryz.t39 := by kernel_rfl
theorem JN : ∀ w, (sizeOf 39).run Tryz.prog w = .ok 2 w := fun w => by simp [sizeOf, typeInfo, infoMx]; rfl
theorem KW : ZV Tryz.prog 39 [.int .i64 0, .slice none 0 0] := fun w => ⟨_, by simp [zeroValue, typeInfo, infoMx]; rfl, rfl⟩
theorem ZP : AG Tryz.prog 39 2 := ⟨fun w => by simp [isAgg, run_underlying Tryz.underlying39], JN⟩
theorem QV : FA Tryz.prog 39 0 0 := fun a w => by
 simp [Instr.fieldAt, run_underlying Tryz.underlying39, Instr.sureAddr, fieldPlace]
theorem QR : FA Tryz.prog 39 1 1 := fun a w => by
 simp [Instr.fieldAt, run_underlying Tryz.underlying39, Instr.sureAddr, fieldPlace]
theorem QdE (n : Int) (r : Value) (hr : r.cells = #[r]) : ∀ w, (Instr.build 39 #[(0, .int .i64 n), (1, r)]).run Tryz.prog w = .ok (.agg #[.int .i64 n, r]) w := fun w => by
 obtain ⟨zv, h1, h2⟩ := KW w
 simp [Instr.build, h1, h2, run_underlying Tryz.underlying39, Instr.fill, Qa8, hr]
end Go.Proofs.YtcfbigmjjpknfaaGreatDoor
namespace Go.Sx
open Go Go.RowKit Go.Pl
theorem Xw (a : Addr) (m n : Nat) : (a.add m).add n = a.add (m + n) := by
 unfold Addr.add
 by_cases hm : m = 0
 ·subst hm; simp
 ·by_cases hn : n = 0
  ·subst hn; simp [hm]
  ·simp [hm, hn, Nat.add_assoc]
section
variable {P : Program} {N : Nat} {l : Env} {w : World} {ops : Array Oper} {dr : Bool} {Q : Act → World → Prop} {π : List Nat} {i d : Nat} {v : Value} {op : Op} {ty : TypeId} {pos : String} {after : Array Edge} {g : Option (Nat × Bool)}
variable {x y c p : Operand} {u z : Int} {T T' E : TypeId} {s b : Nat} {zv : Value} {L : List (List Int)}
theorem fill_one {place : Nat → Option (Nat × Nat)} {cells cs : Array Value} {s : Nat} (hp : place 0 = some (0, s)) (hs : cs.size = s) (hc : cells.size = s) : Instr.fill place cells [(0, .agg cs)] = some cs := by
 have hcs : (Value.agg cs).cells = cs := rfl
 simp only [Instr.fill, hp, hcs, hs, hc]
 rw [if_neg (by simp)]
 congr 1
 subst hs
 have key : ∀ (k : Nat) (acc : Array Value), acc.size = cs.size → k ≤ cs.size → (∀ j, j < k → acc[j]? = cs[j]?) →
   ((cs.toList.drop k).zipIdx k).foldl (fun a (q : Value × Nat) => a.setIfInBounds (0 + q.2) q.1) acc = cs := by
  intro k
  induction hn : cs.size - k generalizing k with
  | zero =>
   intro acc h1 h2 h3
   rw [List.drop_of_length_le (by simp; omega)]
   simp only [List.zipIdx_nil, List.foldl_nil]
   apply Array.ext_getElem?
   intro j
   by_cases hj : j < k
   ·exact h3 j hj
   ·rw [Array.getElem?_eq_none (by omega), Array.getElem?_eq_none (by omega)]
  | succ n ih =>
   intro acc h1 h2 h3
   have hk : k < cs.size := by omega
   rw [List.drop_eq_getElem_cons (by simpa using hk), List.zipIdx_cons, List.foldl_cons]
   refine ih (k + 1) (by omega) _ (by simpa using h1) (by omega) fun j hj => ?_
   simp only [Nat.zero_add]
   by_cases e : j = k
   ·subst e
    simp [h1, hk]
   ·rw [Array.getElem?_setIfInBounds_ne (Ne.symm e)]
    exact h3 j (by omega)
 have := key 0 cells hc (Nat.zero_le _) (fun j hj => absurd hj (by omega))
 rw [List.drop_zero] at this
 simp only [Nat.zero_add] at this
 rw [← Array.foldl_toList, Array.toList_zipIdx]
 simpa using this
end
end Go.Sx
