import Derived.Test.YtcfbigmjjpknfaaGreatDoorW09
import Derived.Test.YtcfbigmjjpknfaaGreatDoorW11
import Derived.Test.YtcfbigmjjpknfaaGreatDoorW00
namespace Go.Proofs.YtcfbigmjjpknfaaGreatDoor
open Go Go.Sx Go.Pl Go.RowKit Go.Fd Go.Alg
def opsP (P : FP) : Ml.Ops := ⟨fun x y => (inK P x + inK P y).1, fun x y => (inK P x * inK P y).1, fun x => (-inK P x).1, fun x => if inK P x = 0 then 1 else (invK P (inK P x)).1⟩
theorem ge_tab {l : List Int} {n : Nat} (h : l.length = n) : l = tab n fun j => gi l j := by
 apply List.ext_getElem?
 intro j
 by_cases hj : j < n
 ·rw [Za hj]
  simp [gi, List.getD_eq_getElem?_getD, show j < l.length by omega]
 ·rw [List.getElem?_eq_none (by omega), List.getElem?_eq_none (by rw [Qs]; omega)]
set_option maxRecDepth 10000 in
theorem mxAdd (P : FP) (g v u : Value) (a : Int) (zs us : List Int) (B : Nat) (w0 w : World) (hG : GFV w0 P g) (hE0 : Ext w0 w) (hB : w0.heap.size ≤ B) (hv : OwnI B w v 3 zs) (hu : Ints w u us) (hne : ∀ k, v.ownBlock = some k → u.ownBlock ≠ some k) (hl : us.length = zs.length) :
  Calls Tryz.prog 150 #[g, v, .int .i64 a, u] w (RetG v.ownBlock.toList w fun r w' => r = .tuple #[] ∧ OwnI B w' v 3 (Ml.addRow (opsP P) zs a us)) := by
 have hule := hu.le
 refine JW Tryz.func150 rfl rfl (Qc (Qb [0,1,2] rfl (mvV rfl rfl (Vw rfl (Zh rfl QA hu) (mvV rfl rfl (Qd (Qa (Qf ?_))))))))
 have hXB : ∀ k ∈ v.ownBlock.toList, w0.heap.size ≤ k := fun k hk => by
  have := (hv.lt k (by simpa using hk)).1
  omega
 have hXu : ∀ k, u.ownBlock = some k → k ∉ v.ownBlock.toList := fun k hk hx => hne k (by simpa using hx) hk
 refine Qv (fun i : Nat => [(0, g), (1, v), (2, .int .i64 a), (10, u), (11, .int .i64 us.length), (12, .int .i64 i)])
  (fun i w' => i ≤ us.length ∧ Gr v.ownBlock.toList w w' ∧ OwnI B w' v 3 (tab zs.length fun j => if j < i then (if gi us j = 0 then gi zs j else (opsP P).ad (gi zs j) ((opsP P).mu a (gi us j))) else gi zs j)) (fun i => us.length - i) 0 ⟨rfl, rfl, rfl, rfl, rfl, rfl, trivial⟩
  ⟨by omega, Gr.refl _ _, by simpa using (ge_tab (l := zs) rfl) ▸ hv⟩ ?_
 rintro i w1 ⟨i1, hGr, hvi⟩
 have hui := hu.gr hGr hXu
 have hE1 := hGr.ext hE0 hXB
 try dsimp only
 refine Qc (Qb [0] rfl (Qy rfl rfl rfl (Qd (Qa (Qc (Qo rfl ?_ ?_))))))
 ·intro hc
  simp at hc
  refine Qe (Qa (Qc (Qf (Qc (Qb [0,1,2,3,4] rfl (mvV rfl rfl (Vw rfl (QO rfl rfl QA hui (by omega) (by omega)) (Vw rfl (ldI rfl na3 hui (Ext.refl _) (by omega) (by omega)) (Qk rfl rfl (Qk rfl rfl (Qd (Qa (Qc (Qb [0,1] rfl (mvV rfl rfl ?_)))))))))))))))
  refine QG rfl rfl rfl (Qd (Qa (Qo rfl ?_ ?_)))
  ·intro hx
   simp at hx
   have hvr := OwnI.ints hvi
   have hgz : gi (tab zs.length fun j => if j < i then (if gi us j = 0 then gi zs j else (opsP P).ad (gi zs j) ((opsP P).mu a (gi us j))) else gi zs j) i = gi zs i := by
    rw [ZO (by omega) (by omega), Int.toNat_natCast, if_neg (by omega)]
   refine Qx QK [0,1,2,3,4,5,6,7,8,9,10,11,12,13] (by kernel_rfl) ?_
   intro w2 hd _
   replace hvi := hvi.ext hd
   replace hvr := hvr.ext hd
   replace hui := hui.ext hd
   replace hE1 := hE1.trans hd
   refine mvV rfl rfl (mvV rfl rfl (mvV rfl rfl (mvV rfl rfl (mvV rfl rfl (Vw rfl (QO rfl rfl QA hvr (by omega) (by rw [Qs]; omega)) (Vw rfl (ldI rfl na3 hvr (Ext.refl _) (by omega) (by rw [Qs]; omega)) ?_))))))
   rw [hgz]
   refine mvV rfl rfl (mvV rfl rfl (mvV rfl rfl (C rfl wu rfl rfl Tryz.call61 (gMul P g a (gi us i) _ (hG.ext hE1)) ?_)))
   rintro _ w3 hE3 rfl
   replace hE1 := hE1.trans hE3
   refine C rfl wu rfl rfl Tryz.call62 (gAdd P g (gi zs i) _ _ (hG.ext hE1)) ?_
   rintro _ w4 hE4 rfl
   replace hE1 := hE1.trans hE4
   replace hvi := (hvi.ext hE3).ext hE4
   replace hvr := (hvr.ext hE3).ext hE4
   refine Vw rfl (QO rfl rfl QA hvr (by omega) (by rw [Qs]; omega)) (STI rfl wu rfl rfl sz3 (by intro h; kernel_rfl) ?_ (ho := hvi) (h0 := by omega) (h1 := by rw [Qs]; omega))
   intro w5 hg5 hX5 hO5 hI5
   refine Qd (Qg (Qa (Qb [0,1] rfl (Qw rfl rfl rfl (mvV rfl rfl (Qd (Qi (i + 1) ⟨rfl, rfl, rfl, rfl, rfl, rfl, trivial⟩ ⟨by omega, (((hGr.trans (Gr.of_ext hd)).trans (Gr.of_ext hE3)).trans (Gr.of_ext hE4)).trans (Gr.of_grown hg5 (fun k hk => by simp [hk])), ?_⟩ (by omega))))))))
   rw [Jt] at hO5
   have e : (tab zs.length fun t => if t = ((i : Int)).toNat then (inK P (gi zs i) + inK P (inK P a * inK P (gi us i)).1).1 else if t < i then (if gi us t = 0 then gi zs t else (opsP P).ad (gi zs t) ((opsP P).mu a (gi us t))) else gi zs t) = tab zs.length fun j => if j < i + 1 then (if gi us j = 0 then gi zs j else (opsP P).ad (gi zs j) ((opsP P).mu a (gi us j))) else gi zs j := QF fun j hj => by
    rw [Int.toNat_natCast]
    by_cases e : j = i
    ·subst e
     rw [if_pos rfl, if_pos (by omega), if_neg hx]
     rfl
    ·rw [if_neg e]
     by_cases h : j < i
     ·rw [if_pos h, if_pos (show j < i + 1 by omega)]
     ·rw [if_neg h, if_neg (by omega)]
   rw [← e]
   exact hO5
  ·intro hx
   simp at hx
   refine Qe (Qg (Qa (Qb [0,1] rfl (Qw rfl rfl rfl (mvV rfl rfl (Qd (Qi (i + 1) ⟨rfl, rfl, rfl, rfl, rfl, rfl, trivial⟩ ⟨by omega, hGr, ?_⟩ (by omega))))))))
   have e : (tab zs.length fun j => if j < i then (if gi us j = 0 then gi zs j else (opsP P).ad (gi zs j) ((opsP P).mu a (gi us j))) else gi zs j) = tab zs.length fun j => if j < i + 1 then (if gi us j = 0 then gi zs j else (opsP P).ad (gi zs j) ((opsP P).mu a (gi us j))) else gi zs j := QF fun j hj => by
    by_cases e : j = i
    ·subst e
     rw [if_neg (by omega), if_pos (by omega), if_pos hx]
    ·by_cases h : j < i
     ·rw [if_pos h, if_pos (show j < i + 1 by omega)]
     ·rw [if_neg h, if_neg (by omega)]
   rw [← e]
   exact hvi
 ·intro hc
  simp at hc
  obtain rfl : i = us.length := by omega
  refine Qt (Ql (Qm (Qh (QX rfl ?_))))
  refine ⟨hGr, rfl, ?_⟩
  have e : (tab zs.length fun j => if j < us.length then (if gi us j = 0 then gi zs j else (opsP P).ad (gi zs j) ((opsP P).mu a (gi us j))) else gi zs j) = Ml.addRow (opsP P) zs a us := QF fun j hj => if_pos (by omega)
  rw [← e]
  exact hvi
set_option maxRecDepth 10000 in
theorem Qb5 (P : FP) (g u : Value) (a : Int) (us : List Int) (w : World) (hG : GFV w P g) (hu : Ints w u us) (hul : us.length ≤ 1000000) :
  Calls Tryz.prog 246 #[g, .int .i64 a, u] w (RetX w fun r w' => OwnI w.heap.size w' r 3 (Ml.scaleR (opsP P) a us) ∧ r.ownBlock = some w.heap.size) := by
 have hule := hu.le
 refine QS Tryz.func246 rfl rfl (Qc (Qb [0] rfl (Qk rfl rfl (Qd (Qa (Qc (Qb [0,1,2,3] rfl (mvV rfl rfl (Vw rfl (Zh rfl QA hu) (MKI (n := us.length) rfl wu rfl rfl QA ?_ (hby := by omega)))))))))))
 intro v w1 hE1 ho _ hvb
 refine Qk rfl rfl (Qd (Qa (Qc (Qc (Qb [0,1,2] rfl (mvV rfl rfl (Vw rfl (Zh rfl QA (hu.ext hE1)) (mvV rfl rfl (Qd (Qa (Qf ?_)))))))))))
 refine Qv (fun i : Nat => [(0, g), (1, .int .i64 a), (7, v), (13, u), (14, .int .i64 us.length), (15, .int .i64 i)])
  (fun i w' => i ≤ us.length ∧ Ext w w' ∧ OwnI w.heap.size w' v 3 (tab us.length fun j => if j < i then (opsP P).mu a (gi us j) else 0)) (fun i => us.length - i) 0 ⟨rfl, rfl, rfl, rfl, rfl, rfl, trivial⟩
  ⟨by omega, hE1, by simpa using ho⟩ ?_
 clear hE1 ho
 rintro i w2 ⟨i1, hE, ho⟩
 have hui := hu.ext hE
 try dsimp only
 refine Qc (Qb [0] rfl (Qy rfl rfl rfl (Qd (Qa (Qc (Qo rfl ?_ ?_))))))
 ·intro hc
  simp at hc
  refine Qe (Qa (Qc (Qf (Qc (Qb [0,1,2,3,4] rfl (mvV rfl rfl (Vw rfl (QO rfl rfl QA hui (by omega) (by omega)) (Vw rfl (ldI rfl na3 hui (Ext.refl _) (by omega) (by omega)) (Qk rfl rfl (Qk rfl rfl (Qd (Qa (Qb [0,1,2,3,4,5,6,7] rfl (mvV rfl rfl ?_))))))))))))))
  refine mvV rfl rfl (mvV rfl rfl (mvV rfl rfl (mvV rfl rfl (C rfl wu rfl rfl Tryz.call61 (gMul P g a (gi us i) _ (hG.ext hE)) ?_))))
  rintro _ w3 hE3 rfl
  replace hE := hE.trans hE3
  replace ho := ho.ext hE3
  have hvr := OwnI.ints ho
  refine Vw rfl (QO rfl rfl QA hvr (by omega) (by rw [Qs]; omega)) (STI rfl wu rfl rfl sz3 nofun ?_ (ho := ho) (h0 := by omega) (h1 := by rw [Qs]; omega))
  intro w5 hg5 hX5 hO5 hI5
  refine Qd (Qg (Qa (Qb [0,1] rfl (Qw rfl rfl rfl (mvV rfl rfl (Qd (Qi (i + 1) ⟨rfl, rfl, rfl, rfl, rfl, rfl, trivial⟩ ⟨by omega, hX5 w (Nat.le_refl _) hE, ?_⟩ (by omega))))))))
  rw [Jt] at hO5
  have e : (tab us.length fun t => if t = ((i : Int)).toNat then (inK P a * inK P (gi us i)).1 else if t < i then (opsP P).mu a (gi us t) else 0) = tab us.length fun j => if j < i + 1 then (opsP P).mu a (gi us j) else 0 := QF fun j hj => by
   rw [Int.toNat_natCast]
   by_cases e : j = i
   ·subst e
    rw [if_pos rfl, if_pos (by omega)]
    rfl
   ·rw [if_neg e]
    by_cases h : j < i
    ·rw [if_pos h, if_pos (show j < i + 1 by omega)]
    ·rw [if_neg h, if_neg (by omega)]
  rw [← e]
  exact hO5
 ·intro hc
  simp at hc
  obtain rfl : i = us.length := by omega
  refine Qt (Ql (Qm (Qh (Qa (Qc (Qb [0,1] rfl (mvV rfl rfl (Qk rfl rfl (Qd (Qa (Qq (Qj rfl rfl ?_))))))))))))
  have e : (tab us.length fun j => if j < us.length then (opsP P).mu a (gi us j) else 0) = Ml.scaleR (opsP P) a us := QF fun j hj => if_pos hj
  rw [← e]
  exact ⟨hE, ho, hvb⟩
end Go.Proofs.YtcfbigmjjpknfaaGreatDoor
namespace Go.Ml
def nrm (x : Int) : Int := if x = 1 then 1 else 0
def o2c : Ops := ⟨fun x y => if nrm x = nrm y then 0 else 1, fun x y => if nrm x = 1 then nrm y else 0, fun x => nrm x, fun _ => 1⟩
end Go.Ml
namespace Go.Proofs.YtcfbigmjjpknfaaGreatDoor
open Go Go.Sx Go.Pl Go.RowKit Go.Fd Go.Alg
theorem ok2 : OkF 2 1 [] := by
 refine ⟨⟨by decide, by decide, by decide, by decide, by decide +kernel, fun _ => rfl, fun h => absurd rfl h⟩, .inl rfl⟩
def P2 : FP := fpOf 2 1 [] ok2.1.1 ok2.1.2.1
theorem P2_q : P2.q = 2 := rfl
theorem inK2 (x : Int) : inK P2 x = if x = 1 then 1 else 0 := by
 by_cases h1 : x = 1
 ·subst h1
  rw [if_pos rfl]
  exact ZF (P := P2) (by rw [P2_q]; decide)
 ·rw [if_neg h1]
  by_cases h0 : x = 0
  ·subst h0
   exact ZF (P := P2) (by rw [P2_q]; decide)
  ·exact Qcf (by rw [P2_q]; omega)
theorem ops2 : opsP P2 = Ml.o2c := by
 have h01 : ((0 : K P2)).1 = 0 := rfl
 have h11 : ((1 : K P2)).1 = 1 := rfl
 have a11 : ((1 : K P2) + 1).1 = 0 := by decide +kernel
 have a01 : ((0 : K P2) + 1).1 = 1 := by decide +kernel
 have a10 : ((1 : K P2) + 0).1 = 1 := by decide +kernel
 have a00 : ((0 : K P2) + 0).1 = 0 := by decide +kernel
 have m11 : ((1 : K P2) * 1).1 = 1 := by decide +kernel
 have m01 : ((0 : K P2) * 1).1 = 0 := by decide +kernel
 have m10 : ((1 : K P2) * 0).1 = 0 := by decide +kernel
 have m00 : ((0 : K P2) * 0).1 = 0 := by decide +kernel
 have n1 : (-(1 : K P2)).1 = 1 := by decide +kernel
 have n0 : (-(0 : K P2)).1 = 0 := by decide +kernel
 have i1 : (invK P2 (1 : K P2)).1 = 1 := by decide +kernel
 have h10 : (1 : K P2) ≠ 0 := Jq
 unfold opsP Ml.o2c
 congr 1
 ·funext x y
  rw [inK2, inK2]
  by_cases hx : x = 1 <;> by_cases hy : y = 1 <;> simp [hx, hy, Ml.nrm, a11, a01, a10, a00]
 ·funext x y
  rw [inK2, inK2]
  by_cases hx : x = 1 <;> by_cases hy : y = 1 <;> simp [hx, hy, Ml.nrm, m11, m01, m10, m00]
 ·funext x
  rw [inK2]
  by_cases hx : x = 1 <;> simp [hx, Ml.nrm, n1, n0]
 ·funext x
  rw [inK2]
  by_cases hx : x = 1 <;> simp [hx, h10, i1]
def simG : List (List Int) := [[0, 0, 0, 1, 1, 1, 1], [0, 1, 1, 0, 0, 1, 1], [1, 0, 1, 0, 1, 0, 1]]
def simC : List (List Int) := [[1, 0, 1, 0, 1, 0, 1], [0, 1, 1, 0, 0, 1, 1], [0, 0, 0, 1, 1, 1, 1]]
def hamG : List (List Int) := [[1, 0, 0, 0, 0, 1, 1], [0, 1, 0, 0, 1, 0, 1], [0, 0, 1, 0, 1, 1, 0], [0, 0, 0, 1, 1, 1, 1]]
theorem sim_can : (Ml.canonM (opsP P2) simG 7).1 = simC := by rw [ops2]; decide +kernel
theorem simC_can : (Ml.canonM (opsP P2) simC 7).1 = simC := by rw [ops2]; decide +kernel
theorem ham_ker : Ml.kernelM (opsP P2) simC 7 = hamG := by rw [ops2]; decide +kernel
theorem ham_can : (Ml.canonM (opsP P2) hamG 7).1 = hamG := by rw [ops2]; decide +kernel
end Go.Proofs.YtcfbigmjjpknfaaGreatDoor
namespace Go.Proofs.YtcfbigmjjpknfaaGreatDoor
open Go Go.Sx Go.Pl Go.RowKit Go.Fd Go.Alg
structure MV (P : FP) (n : Int) (L : List (List Int)) : Prop where
 n0 : 0 ≤ n
 n1 : n ≤ 256
 len : L.length ≤ 256
 row : ∀ l ∈ L, (l.length : Int) = n
 el : ∀ l ∈ L, ∀ x ∈ l, 0 ≤ x ∧ x < P.q
theorem mxEntries (P : FP) (g u : Value) (us : List Int) (w : World) (hG : GFV w P g) (hu : Ints w u us) (hx : ∀ x ∈ us, 0 ≤ x ∧ x < P.q) :
  Calls Tryz.prog 248 #[g, u] w (RetX w fun r _ => r = .int .i64 0) := by
 have hule := hu.le
 refine QD Tryz.func248 rfl rfl (Qc (Qb [0] rfl (Qk rfl rfl (Qd (Qa (Qc (Qc (Qb [0,1,2] rfl (mvV rfl rfl (Vw rfl (Zh rfl QA hu) (mvV rfl rfl (Qd (Qa (Qf ?_))))))))))))))
 refine Qv (fun i : Nat => [(0, g), (7, u), (8, .int .i64 us.length), (9, .int .i64 i)]) (fun i w' => i ≤ us.length ∧ Ext w w') (fun i => us.length - i) 0 ⟨rfl, rfl, rfl, rfl, trivial⟩ ⟨by omega, Ext.refl _⟩ ?_
 rintro i w2 ⟨i1, hE⟩
 have hui := hu.ext hE
 try dsimp only
 refine Qc (Qb [0] rfl (Qy rfl rfl rfl (Qd (Qa (Qc (Qo rfl ?_ ?_))))))
 ·intro hc
  simp at hc
  have hxi : 0 ≤ gi us i ∧ gi us i < P.q := hx _ (by
   have : gi us i = us[i]'(by omega) := by simp [gi, List.getD_eq_getElem?_getD, show i < us.length by omega]
   rw [this]
   exact List.getElem_mem _)
  refine Qe (Qa (Qc (Qf (Qc (Qb [0,1,2] rfl (Vw rfl (QO rfl rfl QA hui (by omega) (by omega)) (Vw rfl (ldI rfl na3 hui (Ext.refl _) (by omega) (by omega)) (Qk rfl rfl (Qd (Qa (Qc (Qb [0,1,2,3] rfl (mvV rfl rfl (mvV rfl rfl (C rfl wu rfl rfl Tryz.call25 (gIs P g (gi us i) _ (hG.ext hE)) ?_)))))))))))))))
  rintro _ w3 hE3 rfl
  refine ZC rfl rfl (Qd (Qa (Qn rfl (by simp; omega) (Qe (Qg (Qa (Qb [0,1] rfl (Qw rfl rfl rfl (mvV rfl rfl (Qd ?_))))))))))
  exact Qi (i + 1) ⟨rfl, rfl, rfl, rfl, trivial⟩ ⟨by omega, hE.trans hE3⟩ (by omega)
 ·intro hc
  refine Qt (Ql (Qm (Qh (Qa (Qc (Qb [0] rfl (Qk rfl rfl (Qd (Qa (Qq (Qj rfl rfl ?_)))))))))))
  exact ⟨hE, rfl⟩
set_option maxRecDepth 10000 in
theorem Qb6 (P : FP) (g v : Value) (n : Int) (L : List (List Int)) (w : World) (hG : GFV w P g) (hL : LL w v L) (hM : MV P n L) :
  Calls Tryz.prog 141 #[g, .agg #[.int .i64 n, v]] w (RetX w fun r _ => r = .int .i64 0) := by
 have hn0 := hM.n0
 have hn1 := hM.n1
 have hlen := hM.len
 obtain ⟨rows, hsl, hrl, hrow⟩ := hL.row
 refine QD Tryz.func141 rfl rfl (Qc (Qb [0,1] rfl (BXA rfl wu rfl rfl ?_)))
 intro mb w1 hE hB hmb
 refine Qk rfl rfl (Qd (Qa (Qc (Qc (Qb [0,1,2,3,4,5,6,7,8,9,10,11,12,13] rfl (Qz rfl rfl QV (Vw rfl (ldB rfl na3) ?_)))))))
 refine Qy rfl rfl rfl (mvV rfl rfl (KB 13 false rfl (by simp; omega) (Vg rfl rfl rfl (fad rfl QV) (Vg rfl rfl rfl (ldB rfl na3) ?_))))
 refine Vg rfl rfl rfl (Ju rfl rfl) (pkV rfl rfl rfl (mvV rfl rfl (KB 18 false rfl (by simp; omega) (Vg rfl rfl rfl (fad rfl QR) (Vg rfl rfl rfl (ldB rfl Zm) ?_)))))
 refine Vg rfl rfl rfl (Zt rfl QN (hsl.ext hE)) (Vg rfl rfl rfl (Ju rfl rfl) (pkV rfl rfl rfl (Qd (Qa (Qn rfl (by simp; omega) (Qe (Qa (Qc (Qc (Qb [0,1,2,3] rfl (Qz rfl rfl QR (Vw rfl (ldB rfl Zm) ?_))))))))))))
 refine Vw rfl (Zt rfl QN (hsl.ext hE)) (mvV rfl rfl (Qd (Qa (Qf ?_))))
 refine Qv (fun i : Nat => [(0, g), (3, .pointer (some ⟨mb, 0, none⟩)), (25, v), (26, .int .i64 rows.length), (27, .int .i64 i)]) (fun i w' => i ≤ rows.length ∧ w' = w1) (fun i => rows.length - i) 0 ⟨rfl, rfl, rfl, rfl, rfl, trivial⟩ ⟨by omega, rfl⟩ ?_
 rintro i w2 ⟨i1, rfl⟩
 have hsi := hsl.ext hE
 try dsimp only
 refine Qc (Qb [0] rfl (Qy rfl rfl rfl (Qd (Qa (Qc (Qo rfl ?_ ?_))))))
 ·intro hc
  simp at hc
  obtain ⟨r, hri, hrr⟩ := hrow i (by omega)
  have hrr' := hrr.ext hE
  have hli : ((L.getD i []).length : Int) = n := hM.row _ (by rw [List.getD_eq_getElem?_getD, List.getElem?_eq_getElem (by omega)]; exact List.getElem_mem _)
  refine Qe (Qa (Qc (Qf (Qc (Qb [0,1,2] rfl (Vw rfl (iad rfl rfl QN hsi (by omega) (by omega)) (Vw rfl (ldE rfl Zk hsi (by rw [Int.toNat_natCast]; exact hri) (Ext.refl _)) (Qk rfl rfl (Qd (Qa (Qc (Qb [0,1,2,3,4] rfl (mvV rfl rfl (Vw rfl (Zh rfl QA hrr') (Qz rfl rfl QV ?_)))))))))))))))
  refine Vw rfl (ldB rfl na3) ?_
  refine QG rfl rfl rfl (Qd (Qa (Qn rfl (by rw [hli]; simp) (Qe (Qg (Qa (Qb [0,1] rfl (Qw rfl rfl rfl (mvV rfl rfl (Qd ?_))))))))))
  exact Qi (i + 1) ⟨rfl, rfl, rfl, rfl, rfl, trivial⟩ ⟨by omega, rfl⟩ (by omega)
 ·intro hc
  refine Qt (Ql (Qm (Qh (Qa (Qc (Qc (Qb [0,1,2,3] rfl (Qz rfl rfl QR (Vw rfl (ldB rfl Zm) ?_)))))))))
  refine Vw rfl (Zt rfl QN hsi) (mvV rfl rfl (Qd (Qa (Qf ?_))))
  refine Qv (fun i : Nat => [(0, g), (38, v), (39, .int .i64 rows.length), (40, .int .i64 i)]) (fun i w' => i ≤ rows.length ∧ Ext w w') (fun i => rows.length - i) 0 ⟨rfl, rfl, rfl, rfl, trivial⟩ ⟨by omega, hE⟩ ?_
  clear hE hB hsi hc i1
  rintro j w3 ⟨j1, hE⟩
  have hsi := hsl.ext hE
  try dsimp only
  refine Qc (Qb [0] rfl (Qy rfl rfl rfl (Qd (Qa (Qc (Qo rfl ?_ ?_))))))
  ·intro hc
   simp at hc
   obtain ⟨r, hri, hrr⟩ := hrow j (by omega)
   have hmem : L.getD j [] ∈ L := by rw [List.getD_eq_getElem?_getD, List.getElem?_eq_getElem (by omega)]; exact List.getElem_mem _
   refine Qe (Qa (Qc (Qf (Qc (Qb [0,1,2] rfl (Vw rfl (iad rfl rfl QN hsi (by omega) (by omega)) (Vw rfl (ldE rfl Zk hsi (by rw [Int.toNat_natCast]; exact hri) (Ext.refl _)) (Qk rfl rfl (Qd (Qa (Qc (Qb [0,1,2,3] rfl (mvV rfl rfl (mvV rfl rfl (C rfl wu rfl rfl Tryz.call248 (mxEntries P g r (L.getD j []) _ (hG.ext hE) (hrr.ext hE) (hM.el _ hmem)) ?_)))))))))))))))
   rintro _ w4 hE4 rfl
   refine Qk rfl rfl (Qd (Qa (Qc (Qb [0,1] rfl (mvV rfl rfl (QG rfl rfl rfl (Qd (Qa (Qn rfl (rfl) (Qe (Qg (Qa (Qb [0,1] rfl (Qw rfl rfl rfl ?_))))))))))))))
   refine mvV rfl rfl (Qd ?_)
   exact Qi (j + 1) ⟨rfl, rfl, rfl, rfl, trivial⟩ ⟨by omega, hE.trans hE4⟩ (by omega)
  ·intro hc
   refine Qt (Ql (Qm (Qh (Qa (Qc (Qb [0] rfl (Qk rfl rfl (Qd (Qa (Qq (Qj rfl rfl ?_)))))))))))
   exact ⟨hE, rfl⟩
end Go.Proofs.YtcfbigmjjpknfaaGreatDoor
namespace Go.Proofs.YtcfbigmjjpknfaaGreatDoor
open Go Go.Sx Go.Pl Go.RowKit Go.Fd Go.Alg
theorem Qb3 {p M : Int} {md : List Int} (ok : OkF p M md) {r : Value} {w' : World} (h : (r = .tuple #[.pointer none, .int .i64 1] ∧ ¬ OkF p M md) ∨ (∃ h : OkF p M md, ∃ g, r = .tuple #[g, .int .i64 0] ∧ GFV w' (fpOf p M md h.1.1 h.1.2.1) g)) :
  ∃ g, r = .tuple #[g, .int .i64 0] ∧ GFV w' (fpOf p M md ok.1.1 ok.1.2.1) g := by
 rcases h with ⟨-, h⟩ | ⟨_, h⟩
 ·exact absurd ok h
 ·exact h
set_option maxRecDepth 10000 in
theorem Qam (p M : Int) (mo v lv : Value) (md : List Int) (n : Int) (L : List (List Int)) (w : World) (ok : OkF p M md) (hmd : Ints w mo md) (hlv : RowsV w lv 2 [[.int .i64 n, v]]) (hv1 : v.oneCell' = true) (hL : LL w v L) (hM : MV (fpOf p M md ok.1.1 ok.1.2.1) n L) :
  Calls Tryz.prog 101 #[fv0 p M mo, lv] w (RetX w fun r w' => ∃ g, r = .tuple #[g, .int .i64 0] ∧ GFV w' (fpOf p M md ok.1.1 ok.1.2.1) g) := by
 refine QD Tryz.func101 rfl rfl (Qc (Qb [0,1,2] rfl (BXA rfl wu rfl rfl ?_)))
 intro fb w1 hE hB hfb
 refine Qk rfl rfl (Qk rfl rfl (Qd (Qa (Qc ?_))))
 replace hmd := hmd.ext hE
 refine Qb [0,1,2,3,4,5,6] rfl (Vw rfl (ldA rfl Zf hB) (C rfl wu rfl rfl Tryz.call22 (fNew p M mo md _ hmd) ?_))
 rintro r0 w2 hE2 hr0
 obtain ⟨g, rfl, hG⟩ := Qb3 ok hr0
 refine mvV rfl rfl (QI rfl rfl rfl (QI rfl rfl rfl (Qk rfl rfl (Qk rfl rfl (Qd (Qa (Qc (Qc ?_))))))))
 replace hE := hE.trans hE2
 refine Qb [0,1] rfl (mvV rfl rfl (QG rfl rfl rfl (Qd (Qa (Qn rfl (rfl) (Qe (Qa (Qc (Qc (Qb [0,1,2] rfl (mvV rfl rfl (Vw rfl (QaT rfl XX (hlv.ext hE)) (mvV rfl rfl ?_)))))))))))))
 refine Qd (Qa (Qf ?_))
 refine Qv (fun i : Nat => [(6, g), (18, lv), (19, .int .i64 1), (20, .int .i64 i)]) (fun i w' => i ≤ 1 ∧ Ext w w' ∧ GFV w' (fpOf p M md ok.1.1 ok.1.2.1) g) (fun i => 1 - i) 0 ⟨rfl, rfl, rfl, rfl, trivial⟩ ⟨by omega, hE, hG⟩ ?_
 clear hE hG hB
 rintro i w3 ⟨i1, hE, hG⟩
 try dsimp only
 refine Qc (Qb [0] rfl (Qy rfl rfl rfl (Qd (Qa (Qc (Qo rfl ?_ ?_))))))
 ·intro hc
  simp at hc
  obtain rfl : i = 0 := by omega
  refine Qe (Qa (Qc (Qf (Qc (Qb [0,1,2,3] rfl (Vw rfl (KU rfl rfl XX (hlv.ext hE) (by decide) (by simp)) (Vw rfl (ldV rfl ZP (hlv.ext hE) (Ext.refl _) (by decide) (by simp)) (AL rfl wu rfl KW ?_))))))))
  intro mb w4 hE4 hB4 hmb
  refine STB (vs := [.int .i64 n, v]) (cs' := [.int .i64 n, v]) rfl wu rfl rfl rfl JN nofun (by assumption) (by first | exact oc2 | exact oc3 | exact oc5 | (simp [Value.oneCell']; done)) rfl rfl rfl ?_
  intro w5 hg5 hX5 hB5
  refine Qd (Qa (Qc ?_))
  have hE5 := hX5 w3 hmb hE4
  replace hE := hE.trans hE5
  replace hG := hG.ext hE5
  refine Qb [0,1,2,3] rfl (mvV rfl rfl (Vw rfl (ldA rfl ZP hB5) (C rfl wu rfl rfl Tryz.call141 (Qb6 _ g v n L _ hG (hL.ext hE) hM) ?_)))
  rintro _ w6 hE6 rfl
  refine Qk rfl rfl (Qd (Qa (Qc (Qb [0,1] rfl (mvV rfl rfl (QG rfl rfl rfl (Qd (Qa (Qn rfl (rfl) (Qe (Qg (Qa (Qb [0,1] rfl (Qw rfl rfl rfl ?_))))))))))))))
  refine mvV rfl rfl (Qd ?_)
  exact Qi 1 ⟨rfl, rfl, rfl, rfl, trivial⟩ ⟨by omega, hE.trans hE6, hG.ext hE6⟩ (by omega)
 ·intro hc
  refine Qt (Ql (Qm (Qh (Qa (Qc (Qb [0,1,2] rfl (mvV rfl rfl (Qk rfl rfl (Qk rfl rfl (Qd (Qa (Qq (QH rfl rfl rfl ?_)))))))))))))
  exact ⟨hE, g, rfl, hG⟩
end Go.Proofs.YtcfbigmjjpknfaaGreatDoor
namespace Go.Sx
open Go Go.RowKit Go.Pl
structure OM (B : Nat) (w : World) (v : Value) (E E' : TypeId) (rows : List Value) (L : List (List Int)) : Prop where
 own : Own B w v E rows
 len : rows.length = L.length
 row : ∀ (i : Nat) r zs, rows[i]? = some r → L[i]? = some zs → OwnI B w r E' zs
 out : ∀ (i : Nat) r k, rows[i]? = some r → r.ownBlock = some k → v.ownBlock ≠ some k
 apart : ∀ (i j : Nat) r r' k, rows[i]? = some r → rows[j]? = some r' → r.ownBlock = some k → r'.ownBlock = some k → i = j
theorem OM.ext {B : Nat} {w w' : World} {v : Value} {E E' : TypeId} {rows : List Value} {L : List (List Int)} (h : OM B w v E E' rows L) (hE : Ext w w') : OM B w' v E E' rows L :=
 ⟨h.own.ext hE, h.len, fun i r zs a b => (h.row i r zs a b).ext hE, h.out, h.apart⟩
theorem OM.mono {B B' : Nat} {w : World} {v : Value} {E E' : TypeId} {rows : List Value} {L : List (List Int)} (h : OM B w v E E' rows L) (hB : B' ≤ B) : OM B' w v E E' rows L :=
 ⟨h.own.mono hB, h.len, fun i r zs a b => (h.row i r zs a b).mono hB, h.out, h.apart⟩
def bks (v : Value) (rows : List Value) : List Nat := v.ownBlock.toList ++ rows.flatMap fun r => r.ownBlock.toList
theorem QQ {v : Value} {rows : List Value} {k : Nat} : k ∈ bks v rows ↔ v.ownBlock = some k ∨ ∃ r ∈ rows, r.ownBlock = some k := by
 simp [bks]
theorem OM.bk {B : Nat} {w : World} {v : Value} {E E' : TypeId} {rows : List Value} {L : List (List Int)} (h : OM B w v E E' rows L) : ∀ k ∈ bks v rows, B ≤ k ∧ k < w.heap.size := fun k hk => by
 rcases QQ.1 hk with hk | ⟨r, hr, hk⟩
 ·exact h.own.lt k hk
 ·obtain ⟨i, hi⟩ := List.getElem?_of_mem hr
  have hl := h.len
  have hil := (List.getElem?_eq_some_iff.1 hi).1
  exact Own.lt (h.row i r (L[i]'(by omega)) hi (List.getElem?_eq_getElem (by omega))) k hk
theorem OM.gr {B : Nat} {w w' : World} {v : Value} {E E' : TypeId} {rows : List Value} {L : List (List Int)} {X : List Nat} (h : OM B w v E E' rows L) (hg : Gr X w w') (hX : ∀ k ∈ bks v rows, k ∉ X) : OM B w' v E E' rows L :=
 ⟨h.own.gr hg (fun k hk => hX k (QQ.2 (.inl hk))), h.len, fun i r zs a b => Own.gr (h.row i r zs a b) hg (fun k hk => hX k (QQ.2 (.inr ⟨r, List.mem_of_getElem? a, hk⟩))), h.out, h.apart⟩
theorem OM.ll {B : Nat} {w : World} {v : Value} {E E' : TypeId} {rows : List Value} {L : List (List Int)} (h : OM B w v E E' rows L) : LL w v L :=
 ⟨rows, h.own.sl, h.len, fun i r zs a b => OwnI.ints (h.row i r zs a b)⟩
theorem OM.get {B : Nat} {w : World} {v : Value} {E E' : TypeId} {rows : List Value} {L : List (List Int)} (h : OM B w v E E' rows L) {i : Nat} (hi : i < L.length) : ∃ r, rows[i]? = some r ∧ OwnI B w r E' (L.getD i []) := by
 have hl := h.len
 refine ⟨rows[i]'(by omega), List.getElem?_eq_getElem (by omega), h.row i _ _ (List.getElem?_eq_getElem (by omega)) ?_⟩
 rw [List.getD_eq_getElem?_getD, List.getElem?_eq_getElem hi]
 rfl
theorem OM.nil (B : Nat) (w : World) (E E' : TypeId) : OM B w (.slice none 0 0) E E' [] [] :=
 ⟨Own.nil B w E, rfl, fun i r zs h => by simp at h, fun i r k h => by simp at h, fun i j r r' k h => by simp at h⟩
theorem OM.upd {B : Nat} {w w' : World} {v r : Value} {E E' : TypeId} {rows : List Value} {L : List (List Int)} {i : Nat} {zs : List Int} (h : OM B w v E E' rows L) (hi : rows[i]? = some r) (hg : Gr r.ownBlock.toList w w') (ho : OwnI B w' r E' zs) : OM B w' v E E' rows (L.set i zs) :=
 ⟨h.own.gr hg (fun k hk hx => h.out i r k hi (by simpa using hx) hk), by rw [List.length_set]; exact h.len, fun j r' zs' a b => by
  by_cases e : i = j
  ·subst e
   rw [hi] at a
   cases a
   rw [List.getElem?_set_self (by have := (List.getElem?_eq_some_iff.1 b).1; rw [List.length_set] at this; exact this)] at b
   cases b
   exact ho
  ·rw [List.getElem?_set_ne e] at b
   exact Own.gr (h.row j r' zs' a b) hg (fun k hk hx => e (h.apart i j r r' k hi a (by simpa using hx) hk)), h.out, h.apart⟩
theorem OM.put {B : Nat} {w w' : World} {v r0 : Value} {E E' : TypeId} {rows : List Value} {L : List (List Int)} {u : Nat} {zs : List Int} (h : OM B w v E E' rows L) (hg : w.grownBy w' v.ownBlock) (ho : Own B w' v E (rows.set u r0)) (hr : OwnI B w r0 E' zs)
  (h1 : ∀ k, r0.ownBlock = some k → v.ownBlock ≠ some k) (h2 : ∀ (i : Nat) r k, rows[i]? = some r → i ≠ u → r.ownBlock = some k → r0.ownBlock ≠ some k) : OM B w' v E E' (rows.set u r0) (L.set u zs) := by
 have hkp : ∀ {r : Value} {z : List Int}, OwnI B w r E' z → (∀ k, r.ownBlock = some k → v.ownBlock ≠ some k) → OwnI B w' r E' z := fun {r z} ho hn => Own.kept ho hg (by
  cases hb : r.ownBlock with
  | none => exact .inr rfl
  | some k => exact .inl fun e => hn k hb e.symm)
 have hul : ∀ {α : Type} (l : List α) (x y : α) (j : Nat), (l.set u x)[j]? = some y → (j = u ∧ x = y) ∨ (j ≠ u ∧ l[j]? = some y) := fun {α} l x y j hj => by
  by_cases e : u = j
  ·subst e
   rw [List.getElem?_set_self (by have := (List.getElem?_eq_some_iff.1 hj).1; rw [List.length_set] at this; exact this)] at hj
   exact .inl ⟨rfl, Option.some.inj hj⟩
  ·rw [List.getElem?_set_ne e] at hj
   exact .inr ⟨Ne.symm e, hj⟩
 refine ⟨ho, by rw [List.length_set, List.length_set]; exact h.len, fun i r z a b => ?_, fun i r k a hk => ?_, fun i j r r' k a b hk hk' => ?_⟩
 ·rcases hul _ _ _ _ a with ⟨rfl, rfl⟩ | ⟨e, a⟩
  ·rcases hul _ _ _ _ b with ⟨-, rfl⟩ | ⟨e, -⟩
   ·exact hkp hr h1
   ·exact absurd rfl e
  ·rcases hul _ _ _ _ b with ⟨e2, -⟩ | ⟨-, b⟩
   ·exact absurd e2 e
   ·exact hkp (h.row i r z a b) (fun k hk => h.out i r k a hk)
 ·rcases hul _ _ _ _ a with ⟨rfl, rfl⟩ | ⟨e, a⟩
  ·exact h1 k hk
  ·exact h.out i r k a hk
 ·rcases hul _ _ _ _ a with ⟨e, ea⟩ | ⟨e, a'⟩ <;> rcases hul _ _ _ _ b with ⟨e', eb⟩ | ⟨e', b'⟩
  ·rw [e, e']
  ·rw [← ea] at hk
   exact absurd hk (h2 j r' k b' e' hk')
  ·rw [← eb] at hk'
   exact absurd hk' (h2 i r k a' e hk)
  ·exact h.apart i j r r' k a' b' hk hk'
theorem Xh {α : Type} {l : List α} {a k : Nat} {x y : α} (ha : l[a]? = some x) (hk : l[k]? = some y) (i : Nat) : ((l.set a y).set k x)[i]? = l[if i = a then k else if i = k then a else i]? := by
 have hal := (List.getElem?_eq_some_iff.1 ha).1
 have hkl := (List.getElem?_eq_some_iff.1 hk).1
 by_cases h1 : i = k
 ·subst h1
  rw [List.getElem?_set_self (by rw [List.length_set]; exact hkl)]
  by_cases h2 : i = a
  ·subst h2
   rw [if_pos rfl, ha]
  ·rw [if_neg h2, if_pos rfl, ha]
 ·rw [List.getElem?_set_ne (Ne.symm h1)]
  by_cases h2 : i = a
  ·subst h2
   rw [if_pos rfl, List.getElem?_set_self hal, hk]
  ·rw [if_neg h2, if_neg h1, List.getElem?_set_ne (Ne.symm h2)]
theorem swap_inj {a k i j : Nat} (h : (if i = a then k else if i = k then a else i) = (if j = a then k else if j = k then a else j)) : i = j := by
 repeat' split at h
 all_goals omega
theorem OM.swap {B : Nat} {w w' : World} {v ra rk : Value} {E E' : TypeId} {rows : List Value} {L : List (List Int)} {a k : Nat} {la lk : List Int} (h : OM B w v E E' rows L) (ha : rows[a]? = some ra) (hk : rows[k]? = some rk) (hla : L[a]? = some la) (hlk : L[k]? = some lk)
  (hg : Gr v.ownBlock.toList w w') (ho : Own B w' v E ((rows.set a rk).set k ra)) : OM B w' v E E' ((rows.set a rk).set k ra) ((L.set a lk).set k la) := by
 refine ⟨ho, by simp [h.len], fun i r zs p q => ?_, fun i r q p hq => ?_, fun i j r r' q p p' hq hq' => ?_⟩
 ·rw [Xh ha hk] at p
  rw [Xh hla hlk] at q
  exact Own.gr (h.row _ r zs p q) hg (fun b hb hx => h.out _ r b p hb (by simpa using hx))
 ·rw [Xh ha hk] at p
  exact h.out _ r q p hq
 ·rw [Xh ha hk] at p p'
  exact swap_inj (h.apart _ _ r r' q p p' hq hq')
theorem bks_swap {v ra rk : Value} {rows : List Value} {a k : Nat} (ha : rows[a]? = some ra) (hk : rows[k]? = some rk) {b : Nat} (hb : b ∈ bks v ((rows.set a rk).set k ra)) : b ∈ bks v rows := by
 rcases QQ.1 hb with h | ⟨r, hr, h⟩
 ·exact QQ.2 (.inl h)
 ·obtain ⟨i, hi⟩ := List.getElem?_of_mem hr
  rw [Xh ha hk] at hi
  exact QQ.2 (.inr ⟨r, List.mem_of_getElem? hi, h⟩)
theorem bks_set {v r0 : Value} {rows : List Value} {u : Nat} {b : Nat} (hb : b ∈ bks v (rows.set u r0)) : b ∈ bks v rows ∨ r0.ownBlock = some b := by
 rcases QQ.1 hb with h | ⟨r, hr, h⟩
 ·exact .inl (QQ.2 (.inl h))
 ·rcases List.mem_or_eq_of_mem_set hr with hr | rfl
  ·exact .inl (QQ.2 (.inr ⟨r, hr, h⟩))
  ·exact .inr h
section
variable {P : Program} {N : Nat} {l : Env} {w : World} {ops : Array Oper} {dr : Bool} {Q : Act → World → Prop} {π : List Nat} {i d : Nat} {v : Value} {op : Op} {ty : TypeId} {pos : String} {after : Array Edge} {g : Option (Nat × Bool)}
variable {x y c p : Operand} {u z : Int} {T T' E E' : TypeId}
theorem STOM {v0 r0 : Value} {B B' : Nat} {rows : List Value} {L : List (List Int)} {zs : List Int} {w1 : World} (hi : ops[i]? = some ⟨none, .store T p x, ty, pos, after, g⟩) (hw : Wt ops N l g) (hp : ev l p = some (eptr v0 1 u)) (hx : ev l x = some r0)
  (hT : ∃ j, P.info? T = some j ∧ j.size = 1) (htl : dr = true → isTail ops i = true) (ho : OM B w v0 E E' rows L) (hr : OwnI B' w r0 E' zs) (hb : ∀ k ∈ bks v0 rows, k < w1.heap.size) (hB : w1.heap.size ≤ B') (hBB : B ≤ B')
  (h : ∀ w', w.grownBy w' v0.ownBlock → OM B w' v0 E E' (rows.set u.toNat r0) (L.set u.toNat zs) → WR P N ops dr Q π l w') (h0 : 0 ≤ u := by omega) (h1 : u < L.length := by omega) : WR P N ops dr Q (i :: π) l w :=
 ST hi hw hp hx hT (Value.slice_cells _ (by obtain ⟨a, c, e⟩ := Sl.slice (OwnI.ints hr); exact ⟨_, _, _, e⟩)) htl (ho := ho.own) (h0 := h0) (h1 := by have := ho.len; omega) (h := fun w' hg ho' =>
  h w' hg (ho.put hg ho' (Own.mono hr hBB) (fun k hk e => by
   have h2 := (Own.lt hr k hk).1
   have h3 := hb k (QQ.2 (.inl e))
   omega) (fun i r k a _ hk e => by
   have h2 := (Own.lt hr k e).1
   have h3 := hb k (QQ.2 (.inr ⟨r, List.mem_of_getElem? a, hk⟩))
   omega)))
end
end Go.Sx
namespace Go.Sx
open Go Go.RowKit Go.Pl
theorem Kd {α : Type} {A : List α} {z u : α} {n i : Nat} (hA : A.length = n) (hi : i < n) (hu : A[i]? = some u) : (A.take i ++ List.replicate (n - i) z).set i u = A.take (i + 1) ++ List.replicate (n - (i + 1)) z := by
 have hl : (A.take i).length = i := by rw [List.length_take]; omega
 obtain ⟨hi', hu'⟩ := List.getElem?_eq_some_iff.1 hu
 have e1 : n - i = (n - (i + 1)) + 1 := by omega
 rw [e1, List.replicate_succ, List.set_append_right _ _ (by omega), hl, Nat.sub_self, List.set_cons_zero, List.take_succ_eq_append_getElem hi', hu']
 simp
theorem Je {r : List Value} {s : Nat} (hr : r.length = s) : ∀ (n k : Nat), k < n * s → (List.replicate n r).flatten[k]? = r[k % s]?
 | 0, k, h => by simp at h
 | n + 1, k, h => by
  rw [List.replicate_succ, List.flatten_cons]
  by_cases hk : k < s
  ·rw [List.getElem?_append_left (by omega), Nat.mod_eq_of_lt hk]
  ·rw [List.getElem?_append_right (by omega), hr, Je hr n (k - s) (by rw [Nat.add_mul, Nat.one_mul] at h; omega)]
   have : k % s = (k - s) % s := Nat.mod_eq_sub_mod (by omega)
   rw [this]
theorem Qbo {cs vs : List Value} {k : Nat} (hk : k + vs.length ≤ cs.length) (j : Nat) : (putAt cs k vs)[j]? = if j < k then cs[j]? else if j < k + vs.length then vs[j - k]? else cs[j]? := by
 unfold putAt
 by_cases h1 : j < k
 ·rw [if_pos h1, List.append_assoc, List.getElem?_append_left (by rw [List.length_take]; omega), List.getElem?_take, if_pos h1]
 ·rw [if_neg h1]
  by_cases h2 : j < k + vs.length
  ·rw [if_pos h2, List.getElem?_append_left (by rw [List.length_append, List.length_take]; omega), List.getElem?_append_right (by rw [List.length_take]; omega), List.length_take, Nat.min_eq_left (by omega)]
  ·rw [if_neg h2, List.getElem?_append_right (by rw [List.length_append, List.length_take]; omega), List.length_append, List.length_take, Nat.min_eq_left (by omega), List.getElem?_drop]
   congr 1
   omega
theorem KG {s : Nat} {cs : List Value} (hcs : cs.length = s) : ∀ {L : List (List Value)} (u : Nat), (∀ r ∈ L, r.length = s) → u < L.length → flatV (L.set u cs) = putAt (flatV L) (u * s) cs
 | [], _, _, h => absurd h (by simp)
 | r :: L, 0, h, _ => by
  have h1 := h r (List.mem_cons_self ..)
  simp only [flatV, putAt, List.set_cons_zero, List.flatten_cons, Nat.zero_mul, List.take_zero, List.nil_append, Nat.zero_add]
  rw [hcs, ← h1, List.drop_left]
 | r :: L, u + 1, h, hu => by
  have h1 := h r (List.mem_cons_self ..)
  have ih := KG hcs (L := L) u (fun x hx => h x (List.mem_cons_of_mem _ hx)) (by simpa using hu)
  have e : flatV ((r :: L).set (u + 1) cs) = r ++ flatV (L.set u cs) := by simp [flatV]
  have e2 : flatV (r :: L) = r ++ flatV L := by simp [flatV]
  rw [e, e2, ih]
  unfold putAt
  have e3 : (u + 1) * s = r.length + u * s := by rw [Nat.add_mul, Nat.one_mul, h1]; omega
  have t1 : (r ++ flatV L).take (r.length + u * s) = r ++ (flatV L).take (u * s) := by
   rw [List.take_append, Nat.add_sub_cancel_left, List.take_of_length_le (l := r) (by omega)]
  have t2 : (r ++ flatV L).drop (r.length + u * s + cs.length) = (flatV L).drop (u * s + cs.length) := by
   rw [Nat.add_assoc, List.drop_append, Nat.add_sub_cancel_left, List.drop_of_length_le (l := r) (by omega), List.nil_append]
  rw [e3, t1, t2]
  simp
section
variable {P : Program} {N : Nat} {l : Env} {w : World} {ops : Array Oper} {dr : Bool} {Q : Act → World → Prop} {π : List Nat} {i d : Nat} {v : Value} {op : Op} {ty : TypeId} {pos : String} {after : Array Edge} {g : Option (Nat × Bool)}
variable {x y c p : Operand} {u z : Int} {T T' E : TypeId} {s b : Nat} {zv : Value} {L : List (List Value)}
theorem MKV {n : Nat} {cl : Int} (hi : ops[i]? = some ⟨some d, .makeSlice T x x, ty, pos, after, g⟩) (hw : Wt ops N l g) (hd : Nat.blt d N = true) (hx : ev l x = some (.int .i64 cl)) (hT : SlT P T E zv s b) (hz : zv.cells.size = s) (hs : 0 < s)
  (h : ∀ v w', Ext w w' → OwnV w.heap.size w' v E s (List.replicate n zv.cells.toList) → v.ownBlock = some w.heap.size → WR P N ops dr Q π ((d, v) :: l) w')
  (hn : cl = (n : Int) := by omega) (hle : n ≤ 140737488355328 := by omega) (hby : b * n ≤ 281474976710656 := by omega) : WR P N ops dr Q (i :: π) l w := by
 obtain ⟨j, hj, hj1, hj2, hj3⟩ := info_parts hT.inf
 obtain ⟨w', hrun, hown, hg⟩ := run_make_full (P := P) w w.heap.size T E j zv s hT.und hj hj1 hj2 .i64 .i64 n (by rw [hj3]; exact hby) (by unfold maxLen; omega) (Nat.le_refl _)
 have hcells : (madeCells zv.cells (n * s)).toList = flatV (List.replicate n zv.cells.toList) := by
  apply List.ext_getElem?
  intro k
  by_cases hk : k < n * s
  ·rw [flatV, Je (by simpa using hz) n k hk]
   have hm : k % s < zv.cells.size := by rw [hz]; exact Nat.mod_lt _ hs
   simp [madeCells, hk, hz]
   rw [getElem!_pos zv.cells _ hm, Array.getElem?_eq_getElem hm]
  ·rw [List.getElem?_eq_none (by simp [madeCells]; omega), List.getElem?_eq_none (by rw [flatV, ZD (s := s) (by intro r hr; rw [List.eq_of_mem_replicate hr]; simpa using hz)]; simp; omega)]
 rw [hcells] at hown
 subst hn
 refine F (v := .slice (some ⟨w.heap.size, 0, none⟩) n n) hi hw rfl hd (fun a ha => by simp [execOp, ha.eval hx, hrun]) (fun _ _ => Ext.of_grown hg) (h _ w' (Ext.of_grown hg) ⟨?_, by intro r hr; rw [List.eq_of_mem_replicate hr]; simpa using hz, by simpa using hle⟩ rfl)
 simpa using hown
theorem STRV {v0 : Value} {B : Nat} {cs : List Value} {u0 : Value} (hi : ops[i]? = some ⟨none, .store T p x, ty, pos, after, g⟩) (hw : Wt ops N l g) (hp : ev l p = some (eptr v0 s u)) (hx : ev l x = some u0) (hc : u0.cells = cs.toArray) (hs : ∀ w, (sizeOf T).run P w = .ok s w) (h1 : ∀ v ∈ cs, v.oneCell' = true) (hcs : cs.length = s)
  (htl : dr = true → isTail ops i = true)
  (h : ∀ w', w.grownBy w' v0.ownBlock → (∀ w0, w0.heap.size ≤ B → Ext w0 w → Ext w0 w') → OwnV B w' v0 E s (L.set u.toNat cs) → WR P N ops dr Q π l w')
  (ho : OwnV B w v0 E s L := by assumption) (h0 : 0 ≤ u := by omega) (hu : u < L.length := by omega) : WR P N ops dr Q (i :: π) l w := by
 obtain ⟨⟨hl0, hrow⟩, hrs, hle⟩ := ho
 have hul : u.toNat < L.length := by omega
 rcases hrow with ⟨rfl, hn⟩ | ⟨gb, cap, cur, rfl, hB, hheap, hnc, hcap, hcur, htake⟩
 ·omega
 have hfl := ZD hrs
 have hus : u.toNat * s + s ≤ L.length * s := by
  rw [← Nat.succ_mul]
  exact Nat.mul_le_mul_right _ (by omega)
 have hLc : L.length * s ≤ cap * s := Nat.mul_le_mul_right _ hnc
 have hcurl : cur.toList.length = cap * s := by simpa using hcur
 obtain ⟨w', hr, hb, hg⟩ := Jz (P := P) (g := gb) (t := E) cs w cur.toList (u.toNat * s) 0 (by rw [Blk]; simpa using hheap) h1 (by rw [hcs]; omega)
 have hbm : gb < w.heap.size := (Array.getElem?_eq_some_iff.1 hheap).1
 have hlen2 : (putAt cur.toList (u.toNat * s) cs).length = cap * s := by
  simp only [putAt, List.length_append, List.length_take, List.length_drop, hcurl, hcs]
  omega
 refine F0 (w' := w') hi hw rfl (fun a ha => ?_) (fun hd ht => by rw [htl hd] at ht; cases ht) (h w' hg (fun w0 hB0 hE => Below.grown hE hg hE.size (fun k hk => by cases hk; exact Nat.le_trans hB0 hB)) ⟨⟨?_, .inr ⟨gb, cap, (putAt cur.toList (u.toNat * s) cs).toArray, by rw [List.length_set], hB, by rw [Blk] at hb; simpa using hb, by rw [List.length_set]; exact hnc, hcap, by simpa using hlen2, ?_⟩⟩, fun r hr => ?_, by rw [List.length_set]; exact hle⟩)
 ·have hst : (storeCells ⟨gb, u.toNat * s, none⟩ cs 0).run P w = .ok () w' := hr
  have had : (Addr.add ⟨gb, 0, none⟩ (u.toNat * s)) = ⟨gb, u.toNat * s, none⟩ := by simp [Addr.add_lit]
  simp [execOp, ha.eval hp, ha.eval hx, eptr, Instr.storeAt, Instr.sureAddr, storeVar, had, hs w, hc, hcs, hst]
 ·rw [List.length_set, KG hcs _ hrs hul]
  simp only [putAt, List.length_append, List.length_take, List.length_drop, flatV, hfl, hcs]
  omega
 ·rw [List.length_set, KG hcs _ hrs hul, ← htake]
  apply List.ext_getElem?
  intro j
  simp only [List.getElem?_take]
  rw [Qbo (by rw [hcs, hcurl]; omega), Qbo (by rw [hcs, List.length_take, hcurl]; omega)]
  simp only [List.getElem?_take]
  by_cases hj : j < L.length * s
  ·simp [hj]
  ·rw [if_neg hj, if_neg (by omega), if_neg (by rw [hcs]; omega), if_neg hj]
 ·rcases List.mem_or_eq_of_mem_set hr with h2 | rfl
  ·exact hrs r h2
  ·exact hcs
end
end Go.Sx
