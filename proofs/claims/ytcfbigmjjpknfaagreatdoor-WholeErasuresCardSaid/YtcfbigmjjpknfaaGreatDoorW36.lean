import Derived.Test.YtcfbigmjjpknfaaGreatDoorW35
import Derived.Test.YtcfbigmjjpknfaaGreatDoorW12
import Derived.Test.YtcfbigmjjpknfaaGreatDoorW00
import Derived.Test.YtcfbigmjjpknfaaGreatDoorW33
namespace Go.Proofs.YtcfbigmjjpknfaaGreatDoor
open Go Go.Sx Go.Pl Go.RowKit Go.Fd Go.Alg
set_option maxRecDepth 10000 in
theorem rIrr (b : Value) (md : List Int) (p : Int) (w : World) (hb : Ints w b md) (hp : 2 ≤ p ∧ p ≤ 256) (hm : Lo p md) (hm8 : md.length ≤ 8) (hq : p ^ md.length ≤ 256) :
  Calls Tryz.prog 96 #[b, .int .i64 p] w (RetX w fun v _ => v = .bool (irr md p)) := by
 refine QD Tryz.func96 rfl rfl (Qc (Qb [0] rfl (Qk rfl rfl (Qd (Qa (Qc (Qb [0] rfl (Qk rfl rfl (Qd (Qa (Qc (Qc (Qb [0] rfl (Qk rfl rfl ?_))))))))))))))
 refine Qd (Qa (Qf ?_))
 refine Qv (fun d : Int => [(0, b), (1, .int .i64 p), (5, .int .i64 (p ^ (d - 1).toNat)), (6, .int .i64 d)])
  (fun d w' => 1 ≤ d ∧ 2 * d ≤ md.length + 2 ∧ Ext w w' ∧ irrB md p (d - 1).toNat = true) (fun d => (md.length + 2 - d).toNat) 1 ⟨rfl, rfl, by rw [show ((1 : Int) - 1).toNat = 0 from rfl, Int.pow_zero]; rfl, rfl, trivial⟩ ⟨by omega, by omega, Ext.refl _, rfl⟩ ?_
 rintro d w1 ⟨d0, d1, hE, hI⟩
 have hpd := ZQ hp.1 (d - 1).toNat
 have hpd2 := ZJ hp.1 (m := (d - 1).toNat) (n := md.length) (by omega)
 try dsimp only
 refine Qc (Qc (Qb [0,1,2,3,4] rfl (mvV rfl rfl (Vw rfl (Kx rfl rfl) (mvV rfl rfl (Vw rfl (Zh rfl QA) ?_))))))
 refine Vw rfl (Qbz rfl rfl) (Qd (Qa (Qo rfl ?_ ?_)))
 ·intro hd
  simp at hd
  refine Qe (Qa (Qc (Qf (Qc ?_))))
  have hm1 := Jh (a := p ^ (d - 1).toNat) (b := p) (c := 256) (d := 256) (by omega) (by omega) (by omega) (by omega)
  have hnx := QaM (p := p) (d - 1) (by omega)
  rw [show d - 1 + 1 = d by omega] at hnx
  have hpd3 := ZJ hp.1 (m := d.toNat) (n := md.length) (by omega)
  refine Qb [0,1,2,3] rfl (mvV rfl rfl (mvV rfl rfl (Vw rfl (Kx rfl rfl) (Qk rfl rfl (Qd (Qa (Qc ?_)))))))
  rw [← hnx]
  refine Qb [0] rfl (Qk rfl rfl (Qd (Qa (Qf ?_))))
  refine Qv (fun v : Int => [(0, b), (1, .int .i64 p), (5, .int .i64 (p ^ d.toNat)), (6, .int .i64 d), (7, .int .i64 v)])
   (fun v w' => 0 ≤ v ∧ v ≤ p ^ d.toNat ∧ Ext w w' ∧ noDv md p d.toNat v.toNat = true) (fun v => (p ^ d.toNat - v).toNat) 0 ⟨rfl, rfl, rfl, rfl, rfl, trivial⟩ ⟨by omega, by omega, hE, rfl⟩ ?_
  clear hE
  rintro v w2 ⟨v0, v1, hE, hN⟩
  try dsimp only
  refine Qc (Qc (Qb [0,1,2] rfl (mvV rfl rfl (mvV rfl rfl (Qy rfl rfl rfl (Qd (Qa (Qo rfl ?_ ?_))))))))
  ·intro hv
   simp at hv
   refine Qe (Qa (Qc (Qf (Qc ?_))))
   have hdl := QZ p d.toNat v
   refine Qb [0,1,2,3,4,5,6] rfl (mvV rfl rfl (mvV rfl rfl (mvV rfl rfl ?_)))
   have hcd := rDigits v p d.toNat w2 ⟨v0, by omega⟩ hp (by omega)
   rw [show ((d.toNat : Nat) : Int) = d by omega] at hcd
   refine C rfl wu rfl rfl Tryz.call140 hcd ?_
   rintro a w3 hE3 ⟨ha, _⟩
   replace hE := hE.trans hE3
   refine mvV rfl rfl (mvV rfl rfl (C rfl wu rfl rfl Tryz.call139 (rDivides a b (dig p d.toNat v) md p _ ha.ints (hb.ext hE) hp (QbJ hp.1 _ _) hm (by omega) hm8) ?_))
   rintro _ w4 hE4 rfl
   replace hE := hE.trans hE4
   refine Qd (Qa (Qo rfl ?_ ?_))
   ·intro hdv
    refine Qc (Qb [0] rfl (Qk rfl rfl (Qd (Qa (Qq (Qu (Qp (QE (Qu (Qu (Qp (QE (Qu (Qp (Qj rfl rfl ?_)))))))))))))))
    refine ⟨hE, ?_⟩
    have hdv' : dv (dig p ((d - 1).toNat + 1) (v.toNat : Nat)) md p = true := by
     rw [show (d - 1).toNat + 1 = d.toNat by omega, show ((v.toNat : Nat) : Int) = v by omega]
     exact hdv
    have := KE hdv' (by rw [show (d - 1).toNat + 1 = d.toNat by omega]; omega) (md.length / 2) (by omega)
    rw [irr, this]
   ·intro hdv
    refine Qe (Qg (Qa (Qb [0,1,2] rfl (mvV rfl rfl (Qw rfl rfl rfl (Qk rfl rfl (Qd (Qi (v + 1) ⟨rfl, rfl, rfl, rfl, rfl, trivial⟩ ⟨by omega, by omega, hE, ?_⟩ (by omega)))))))))
    rw [show (v + 1).toNat = v.toNat + 1 by omega, noDv, hN, show ((v.toNat : Nat) : Int) = v by omega, hdv]
    rfl
  ·intro hv
   simp at hv
   refine Qt (Ql (Qm (Qh (Qg (Qa (Qb [0,1,2] rfl (mvV rfl rfl (Qw rfl rfl rfl (Qk rfl rfl (Qd (Qi (d + 1) ⟨rfl, rfl, by rw [show (d + 1 - 1).toNat = d.toNat by omega]; rfl, rfl, trivial⟩ ⟨by omega, by omega, hE, ?_⟩ (by omega))))))))))))
   have hvp : v.toNat = (p ^ d.toNat).toNat := by omega
   rw [hvp] at hN
   rw [show (d + 1 - 1).toNat = (d - 1).toNat + 1 by omega, irrB, hI, show (d - 1).toNat + 1 = d.toNat by omega, hN]
   rfl
 ·intro hd
  simp at hd
  refine Qt (Ql (Qm (Qh (Qa (Qc (Qb [0] rfl (Qk rfl rfl (Qd (Qa (Qq (Qj rfl rfl ?_)))))))))))
  refine ⟨hE, ?_⟩
  rw [irr, show md.length / 2 = (d - 1).toNat by omega, hI]
end Go.Proofs.YtcfbigmjjpknfaaGreatDoor
namespace Go.Proofs.YtcfbigmjjpknfaaGreatDoor
open Go Go.Sx Go.Pl Go.RowKit Go.Fd Go.Alg
set_option maxRecDepth 10000 in
theorem QcG (p M : Int) (mo : Value) (md : List Int) (w : World) (hmd : Ints w mo md) :
  Calls Tryz.prog 49 #[fv0 p M mo] w (RetX w fun v _ => (v = .int .i64 0 ∧ OkF p M md) ∨ (v = .int .i64 1 ∧ ¬ OkF p M md)) := by
 have hml := hmd.le
 refine QL Tryz.func49 rfl rfl (Qc (Qb [0,1] rfl (BXA rfl wu rfl rfl ?_)))
 intro g w1 hE hB hg
 refine Qk rfl rfl (Qd (Qa (Qc (Qc ?_))))
 have hmi := hmd.ext hE
 refine Qb [0,1,2,3,4,5,6,7,8] rfl (Vw rfl (ldA rfl Zf) ?_)
 refine C rfl wu rfl rfl Tryz.call17 (QcE p M mo _) ?_
 rintro _ w2 hE2 rfl
 replace hB := hB.ext hE2
 replace hE := hE.trans hE2
 replace hmi := hmi.ext hE2
 refine QU rfl rfl rfl (mvV rfl rfl ?_)
 refine ORX (π1 := [4,5,6,7,8]) (π2 := []) (tc := 7) (tp := 12) rfl rfl rfl (by
   intro _
   refine SK rfl rfl rfl rfl rfl (SK rfl rfl rfl rfl rfl (SK rfl rfl rfl rfl rfl (SK rfl rfl rfl rfl rfl (pkV rfl rfl rfl ?_))))
   exact Qab rfl) (by
   intro hg
   simp at hg
   have ho := QaP hg
   refine Vg rfl rfl rfl (fad rfl QY) (Vg rfl rfl rfl (ldB rfl na3) ?_)
   refine C rfl (wg rfl rfl) rfl rfl Tryz.call95 (rPrime p _ ⟨ho.1, ho.2.1⟩) ?_
   rintro _ w3 hE3 rfl
   refine Vg rfl rfl rfl (notB rfl) (pkV rfl rfl rfl ?_)
   exact Qab rfl) ?_
 intro w4 hE4
 refine Qd (Qa ?_)
 replace hB := hB.ext hE4
 replace hmi := hmi.ext hE4
 replace hE := hE.trans hE4
 refine Qo rfl ?_ ?_
 ·intro h
  simp only [Bool.or_eq_true, decide_eq_true_eq, Bool.not_eq_true'] at h
  refine Qc (Qb [0] rfl (Qk rfl rfl (Qd (Qa (Qq (Qp (Qj rfl rfl ?_)))))))
  refine ⟨hE, .inr ⟨rfl, fun ⟨hs, _⟩ => ?_⟩⟩
  obtain ⟨e1, e2, _⟩ := Kv hs.1 hs.2.1 hs.2.2.1 hs.2.2.2.1
  rcases h with h | h
  ·exact absurd h e2
  ·rw [hs.2.2.2.2.1] at h; cases h
 ·intro h
  simp only [Bool.or_eq_false_iff, decide_eq_false_iff_not, Bool.not_eq_false'] at h
  obtain ⟨hz, hpr⟩ := h
  have ho := QaP hz
  refine Qe (Qa (Qc (Qc (Qb [0,1,2] rfl (Qz rfl rfl Zl (Vw rfl (ldB rfl na3) ?_))))))
  refine QU rfl rfl rfl (Qd (Qa (Qo rfl ?_ ?_)))
  ·intro hM
   simp at hM
   refine Qc (Qc (Qb [0,1,2,3] rfl (Qz rfl rfl Jm (Vw rfl (ldB rfl Zk) ?_))))
   refine Vw rfl (Zh rfl QA) ?_
   refine QG rfl rfl rfl (Qd (Qa (Qo rfl ?_ ?_)))
   ·intro hl
    simp at hl
    refine Qc (Qb [0] rfl (Qk rfl rfl (Qd (Qa (Qq (Qp (Qp (Qj rfl rfl ?_))))))))
    exact ⟨hE, .inr ⟨rfl, fun ⟨hs, _⟩ => hl (hs.2.2.2.2.2.1 hM)⟩⟩
   ·intro hl
    simp at hl
    refine Qe (Qa (Qc (Qb [0] rfl (Qk rfl rfl (Qd (Qa (Qq (Qp (Qj rfl rfl ?_)))))))))
    exact ⟨hE, .inl ⟨rfl, ⟨ho.1, ho.2.2.1, ho.2.2.2.1, ho.2.2.2.2.1, hpr, fun _ => hl, fun h => absurd hM h⟩, .inl hM⟩⟩
  ·intro hM
   simp at hM
   refine Qe (Qa (Qc (Qc (Qb [0,1,2,3,4,5] rfl (Qz rfl rfl Jm (Vw rfl (ldB rfl Zk) ?_))))))
   refine Vw rfl (Zh rfl QA) ?_
   refine Qz rfl rfl Zl (Vw rfl (ldB rfl na3) ?_)
   refine QG rfl rfl rfl (Qd (Qa (Qo rfl ?_ ?_)))
   ·intro hl
    simp at hl
    refine Qc (Qb [0] rfl (Qk rfl rfl (Qd (Qa (Qq (Qp (Qj rfl rfl ?_)))))))
    exact ⟨hE, .inr ⟨rfl, fun ⟨hs, _⟩ => absurd (hs.2.2.2.2.2.2 hM).1 hl⟩⟩
   ·intro hl
    simp at hl
    refine Qe (Qa (Qc (Qc (Qb [0] rfl (Qk rfl rfl (Qd (Qa (Qf ?_))))))))
    refine Qv (fun i : Int => [(1, .pointer (some ⟨g, 0, none⟩)), (3, .int .i64 i)])
     (fun i w' => 0 ≤ i ∧ i ≤ M ∧ Ext w4 w' ∧ ∀ j : Int, 0 ≤ j → j < i → 0 ≤ gi md j ∧ gi md j < p) (fun i => (M - i).toNat) 0 ⟨rfl, rfl, trivial⟩ ⟨by omega, by omega, Ext.refl _, fun j _ _ => by omega⟩ ?_
    rintro i w5 ⟨h0, h1, hE5, hlo⟩
    try dsimp only
    refine Qc (Qc (Qb [0,1,2,3] rfl (mvV rfl rfl (Qz rfl rfl Zl (Vw rfl (ldB rfl na3) ?_)))))
    refine Qy rfl rfl rfl (Qd (Qa (Qo rfl ?_ ?_)))
    ·intro hi
     simp at hi
     refine Qe (Qa (Qc (Qf (Qc (Qx QK [0,1,2,3,4,5,6,7,8,9,10,11,12,13,14,15] (by kernel_rfl) ?_)))))
     intro w6 hd _
     replace hE5 := hE5.trans hd
     refine Qz rfl rfl Jm (Vw rfl (ldB rfl Zk) ?_)
     refine mvV rfl rfl (Vw rfl (QO rfl rfl QA) ?_)
     refine Vw rfl (ldI rfl na3) ?_
     refine Qy rfl rfl rfl (mvV rfl rfl ?_)
     refine OR (π1 := [7,8,9,10,11,12,13,14,15]) (π2 := []) (tc := 38) (tp := 47) rfl rfl rfl (by
       intro _
       refine SK rfl rfl rfl rfl rfl (SK rfl rfl rfl rfl rfl (SK rfl rfl rfl rfl rfl (SK rfl rfl rfl rfl rfl (SK rfl rfl rfl rfl rfl (SK rfl rfl rfl rfl rfl (SK rfl rfl rfl rfl rfl (SK rfl rfl rfl rfl rfl (pkV rfl rfl rfl ?_))))))))
       exact Zx rfl) (by
       intro hg
       simp at hg
       refine Vg rfl rfl rfl (fad rfl Jm) (Vg rfl rfl rfl (ldB rfl Zk) ?_)
       refine Vg rfl rfl rfl (mv rfl) (Vg rfl rfl rfl (QO rfl rfl QA) ?_)
       refine Vg rfl rfl rfl (ldI rfl na3) ?_
       refine Vg rfl rfl rfl (fad rfl QY) (Vg rfl rfl rfl (ldB rfl na3) ?_)
       refine Vg rfl rfl rfl (Xb rfl rfl) (pkV rfl rfl rfl ?_)
       exact Zx rfl) ?_
     refine Qd (Qa (Qo rfl ?_ ?_))
     ·intro hc
      simp at hc
      refine Qc (Qb [0] rfl (Qk rfl rfl (Qd (Qa (Qq (Qu (Qp (QE (Qu (Qp (Qj rfl rfl ?_)))))))))))
      refine ⟨hE.trans hE5, .inr ⟨rfl, fun ⟨hs, _⟩ => ?_⟩⟩
      have := Xr (hs.2.2.2.2.2.2 hM).2 h0 (by omega)
      omega
     ·intro hc
      simp at hc
      refine Qe (Qg (Qa (Qb [0,1,2] rfl (mvV rfl rfl (Qw rfl rfl rfl (Qk rfl rfl (Qd ?_)))))))
      exact Qi (i + 1) ⟨rfl, rfl, trivial⟩ ⟨by omega, by omega, hE5, fun j hj0 hj1 => (by
       by_cases e : j = i
       ·rw [e]; omega
       ·exact hlo j hj0 (by omega))⟩ (by omega)
    ·intro hi
     simp at hi
     refine Qt (Ql (Qm (Qh (Qa (Qc (Qc ?_))))))
     have hLo : Lo p md := fun z hz => by
      obtain ⟨j, hj, rfl⟩ := List.mem_iff_getElem.1 hz
      have := hlo j (by omega) (by omega)
      simpa [gi, hj] using this
     have hS : Shp p M md := ⟨ho.1, ho.2.2.1, ho.2.2.2.1, ho.2.2.2.2.1, hpr, fun h => absurd h hM, fun _ => ⟨hl, hLo⟩⟩
     have hMn : M.toNat = md.length := by omega
     refine Qb [0,1,2,3,4,5] rfl (Qz rfl rfl Jm (Vw rfl (ldB rfl Zk) ?_))
     refine Qz rfl rfl QY (Vw rfl (ldB rfl na3) ?_)
     refine C rfl wu rfl rfl Tryz.call96 (rIrr mo md p _ (hmi.ext hE5) ⟨ho.1, ho.2.1⟩ hLo (by omega) (by rw [← hMn]; exact ho.2.2.2.2.1)) ?_
     rintro _ w7 hE7 rfl
     refine ZC rfl rfl (Qd (Qa ?_))
     replace hE := (hE.trans hE5).trans hE7
     refine Qo rfl ?_ ?_
     ·intro hc
      simp at hc
      refine Qc (Qb [0] rfl (Qk rfl rfl (Qd (Qa (Qq (Qp (Qj rfl rfl ?_)))))))
      refine ⟨hE, .inr ⟨rfl, fun ⟨_, hs⟩ => ?_⟩⟩
      rcases hs with h | h
      ·exact hM h
      ·rw [hc] at h; cases h
     ·intro hc
      simp at hc
      refine Qe (Qa (Qc (Qb [0] rfl (Qk rfl rfl (Qd (Qa (Qq (Qj rfl rfl ?_))))))))
      exact ⟨hE, .inl ⟨rfl, hS, .inr hc⟩⟩
end Go.Proofs.YtcfbigmjjpknfaaGreatDoor
namespace Go.Fd
open Go.Pl Go.Alg Go.Proofs.YtcfbigmjjpknfaaGreatDoor
variable {P : FP}
theorem JR {x : K P} : x.1 = 0 ↔ x = 0 := ⟨fun e => by rw [← Zi x, e, inK0], fun e => by rw [e, ← inK0, ZF (by have := P.q_two; omega)]⟩
theorem QaK {n : Nat} {f : Nat → K P} {l : List Int} (hl : l.length = n) (h : ∀ j, j < n → gi l j = (f j).1) : l = rowL P n f := List.ext_getElem (by rw [hl, QT]) fun j h1 h2 => by
 rw [← Jw h1, ← Jw h2, h j (by omega), Zu (by omega)]
theorem Qcq {n : Nat} {f g : Nat → K P} {a : Int} : Ml.addRow (opsP P) (rowL P n f) a (rowL P n g) = rowL P n fun j => f j + inK P a * g j := by
 refine QaK (by rw [Ml.addRow_length, QT]) fun j hj => ?_
 rw [Ml.addRow, ZO (by rw [QT]; omega) (by omega), Int.toNat_natCast, Zu hj, Zu hj]
 split
 ·rename_i h
  rw [JR.1 h, mul_zero, add_zero]
 ·simp only [opsP, Zi]
theorem QbV {n : Nat} {f : Nat → K P} {a : Int} : Ml.scaleR (opsP P) a (rowL P n f) = rowL P n fun j => inK P a * f j := by
 refine QaK (by rw [Ml.scaleR_length, QT]) fun j hj => ?_
 rw [Ml.scaleR, ZO (by rw [QT]; omega) (by omega), Int.toNat_natCast, Zu hj]
 simp only [opsP, Zi]
theorem ZY {m n : Nat} {M : Nat → Nat → K P} {i : Nat} (h : i < m) : Ml.rw (matL P m n M) i = rowL P n (M i) := ZS h
theorem XL {m n a k c : Nat} {M : Nat → Nat → K P} {s : K P} (ha : a < m) (hc : c < n) : ∀ (f i : Nat), f + i = m →
  Ml.clear (opsP P) c a f i (matL P m n (midR M a k c s i), []) = (matL P m n (elR M a k c s), [])
 | 0, i, h => by
  obtain rfl : i = m := by omega
  rw [Ml.clear, Qbu]
 | f + 1, i, h => by
  have hi : i < m := by omega
  have e1 : Ml.rw (matL P m n (midR M a k c s i)) i = rowL P n (midR M a k c s i i) := ZY hi
  by_cases hz : i = a ∨ gi (Ml.rw (matL P m n (midR M a k c s i)) i) c = 0
  ·rw [Ml.clear_skip hz, Ky, XL ha hc f (i + 1) (by omega)]
   by_cases e : i = a
   ·exact .inl e
   ·refine .inr ?_
    rcases hz with h' | h'
    ·exact absurd h' e
    ·rw [e1, Zu hc, midR_i e] at h'
     exact JR.1 h'
  ·have h1 : i ≠ a := fun e => hz (.inl e)
   have h2 : gi (Ml.rw (matL P m n (midR M a k c s i)) i) c ≠ 0 := fun e => hz (.inr e)
   rw [Ml.clear_do h1 h2]
   dsimp only
   have e2 : (matL P m n (midR M a k c s i)).set i (Ml.addRow (opsP P) (Ml.rw (matL P m n (midR M a k c s i)) i) ((opsP P).ng (gi (Ml.rw (matL P m n (midR M a k c s i)) i) c)) (Ml.rw (matL P m n (midR M a k c s i)) a)) = matL P m n (midR M a k c s (i + 1)) := by
    rw [e1, ZY ha, Qcq, Zu hc, midR_i h1]
    rw [← QcO h1]
    congr 1
    refine JO fun j _ => ?_
    rw [midR_a]
    simp only [opsP, Zi]
   rw [e2]
   simpa using XL ha hc f (i + 1) (by omega)
theorem step_matL {m n a k c : Nat} {M : Nat → Nat → K P} (ha : a < m) (hk : k < m) (hc : c < n) (h0 : M k c ≠ 0) :
  Ml.step (opsP P) c a k (matL P m n M, []) = (matL P m n (elR M a k c (invK P (M k c))), []) := by
 have eA : Ml.stepA a k (matL P m n M, []) = (matL P m n (swR M a k), []) := by
  unfold Ml.stepA
  split
  ·rename_i e
   have e : k = a := Nat.eq_of_beq_eq_true e
   subst e
   have : swR M k k = M := funext fun i => by
    rw [swR]
    split
    ·rename_i h; rw [h]
    ·rfl
   rw [this]
  ·simp only [Ml.swapL, List.set_nil]
   rw [ZY hk, ZY ha, matL_sw]
 have ea : Ml.rw (matL P m n (swR M a k)) a = rowL P n (M k) := by rw [ZY ha, swR, if_pos rfl]
 have eiv : (opsP P).iv (gi (Ml.rw (matL P m n (swR M a k)) a) c) = (invK P (M k c)).1 := by
  rw [ea, Zu hc]
  simp only [opsP, Zi, if_neg h0]
 have eB : Ml.stepB (opsP P) c a (matL P m n (swR M a k), []) = (matL P m n (midR M a k c (invK P (M k c)) 0), []) := by
  unfold Ml.stepB
  dsimp only
  rw [eiv]
  have em : ∀ s : K P, (matL P m n (swR M a k)).set a (rowL P n fun j => s * M k j) = matL P m n (midR M a k c s 0) := fun s => by
   rw [JP]
   refine Zs fun t j _ _ => ?_
   rw [Ji (by omega)]
   by_cases e : t = a
   ·rw [if_pos e, if_pos e]
   ·rw [if_neg e, if_neg e]
  split
  ·rename_i e
   have e := of_decide_eq_true e
   have e1 : invK P (M k c) = 1 := by rw [← Zi (invK P (M k c)), e, inK1]
   rw [e1, ← em]
   refine Prod.ext ?_ rfl
   dsimp only
   have : rowL P n (fun j => 1 * M k j) = rowL P n (swR M a k a) := JO fun j _ => by rw [one_mul, swR, if_pos rfl]
   rw [this, JP]
   refine Zs fun t j _ _ => ?_
   by_cases e : t = a
   ·rw [if_pos e, e]
   ·rw [if_neg e]
  ·rw [ea, QbV, Zi, em]
   simp
 rw [Ml.step_eq, eA, eB]
 have hl : (matL P m n (midR M a k c (invK P (M k c)) 0)).length = m := QP _ _ _
 dsimp only
 rw [hl]
 exact XL ha hc m 0 (by omega)
theorem QcJ {m n c : Nat} {M : Nat → Nat → K P} (hc : c < n) : ∀ (f k : Nat), f + k = m →
  k ≤ Ml.piv (matL P m n M) c f k ∧ Ml.piv (matL P m n M) c f k ≤ m ∧ (∀ i, k ≤ i → i < Ml.piv (matL P m n M) c f k → M i c = 0) ∧ (Ml.piv (matL P m n M) c f k < m → M (Ml.piv (matL P m n M) c f k) c ≠ 0)
 | 0, k, h => by
  rw [Ml.piv]
  exact ⟨Nat.le_refl _, by omega, fun i h1 h2 => by omega, fun h' => by omega⟩
 | f + 1, k, h => by
  have hk : k < m := by omega
  rw [Ml.piv]
  split
  ·rename_i e
   simp only [Bool.and_eq_true, decide_eq_true_eq] at e
   rw [ZY hk, Zu hc] at e
   obtain ⟨h1, h2, h3, h4⟩ := QcJ (m := m) (M := M) hc f (k + 1) (by omega)
   refine ⟨by omega, h2, fun i hi hi2 => ?_, h4⟩
   by_cases e2 : i = k
   ·rw [e2]; exact JR.1 e.2
   ·exact h3 i (by omega) hi2
  ·rename_i e
   refine ⟨Nat.le_refl _, by omega, fun i h1 h2 => by omega, fun _ hz => e ?_⟩
   simp only [Bool.and_eq_true, decide_eq_true_eq]
   rw [ZY hk, Zu hc, QP, Nat.blt_eq]
   exact ⟨hk, JR.2 hz⟩
theorem KM (hgen : ∃ g : K P, HasOrder g (n1 P)) {m n : Nat} {M0 : Nat → Nat → K P} : ∀ (f c a : Nat) (M : Nat → Nat → K P) (pv : Nat → Nat), f + c = n → El m n M0 M a pv c →
  ∃ a' M' pv', Ml.elim (opsP P) n f c ((List.range a).map pv) (matL P m n M, []) = (matL P m n M', [], (List.range a').map pv') ∧ Red P m n M0 a' M' pv'
 | 0, c, a, M, pv, h, hel => by
  have hl := hel.last (.inl (by omega)) (by omega)
  exact ⟨a, M, pv, by rw [Ml.elim], hel.am, hl.1, hl.2⟩
 | f + 1, c, a, M, pv, h, hel => by
  have hcn : c < n := by omega
  have hlen : ((List.range a).map pv).length = a := by simp
  have hml : (matL P m n M).length = m := QP _ _ _
  by_cases ham : a < m
  ·obtain ⟨p1, p2, p3, p4⟩ := QcJ (m := m) (M := M) hcn (m - a) a (by omega)
   by_cases hp : Ml.piv (matL P m n M) c (m - a) a = m
   ·rw [Ml.elim_none hcn (by rw [hlen, hml]; exact ham) (by rw [hlen, hml]; exact hp)]
    rw [hp] at p3
    exact KM hgen f (c + 1) a M pv (by omega) (hel.skip p3)
   ·have hk : Ml.piv (matL P m n M) c (m - a) a < m := by omega
    have h0 := p4 hk
    obtain ⟨g, hg⟩ := hgen
    have hmul : invK P (M (Ml.piv (matL P m n M) c (m - a) a) c) * M (Ml.piv (matL P m n M) c (m - a) a) c = 1 := by rw [mul_comm]; exact Xn hg h0
    rw [Ml.elim_some (k := Ml.piv (matL P m n M) c (m - a) a) hcn (by rw [hlen, hml]; exact ham) (by rw [hlen, hml]) (by rw [hml]; exact hp), hlen, step_matL ham hk hcn h0]
    have hps : (List.range a).map pv ++ [c] = (List.range (a + 1)).map fun i => if i = a then c else pv i := by
     rw [List.range_succ, List.map_append]
     congr 1
     ·refine List.map_congr_left fun i hi => ?_
      have := List.mem_range.1 hi
      rw [if_neg (by omega)]
     ·simp
    rw [hps]
    exact KM ⟨g, hg⟩ f (c + 1) (a + 1) _ _ (by omega) (hel.step p1 hk hmul)
  ·have hl := hel.last (.inr (by have := hel.am; omega)) (by omega)
   exact ⟨a, M, pv, Ml.elim_end (fun _ => by rw [hlen, hml]; exact ham), hel.am, hl.1, hl.2⟩
theorem ZH (hgen : ∃ g : K P, HasOrder g (n1 P)) (m n : Nat) (M0 : Nat → Nat → K P) : ∃ a M pv, Ml.canonM (opsP P) (matL P m n M0) n = (matL P a n M, (List.range a).map pv) ∧ Red P m n M0 a M pv := by
 obtain ⟨a, M, pv, h1, h2⟩ := KM hgen (M0 := M0) (m := m) (n := n) n 0 0 M0 (fun _ => 0) (by omega) (El.first M0 _)
 refine ⟨a, M, pv, ?_, h2⟩
 show ((Ml.elim (opsP P) n n 0 [] (matL P m n M0, [])).1.take (Ml.elim (opsP P) n n 0 [] (matL P m n M0, [])).2.2.length, (Ml.elim (opsP P) n n 0 [] (matL P m n M0, [])).2.2) = _
 rw [show ([] : List Nat) = (List.range 0).map fun _ => 0 from rfl, h1]
 simp only [List.length_map, List.length_range]
 rw [Qbx h2.1]
noncomputable def kM (P : FP) (L : List (List Int)) (i j : Nat) : K P := inK P (gi (Ml.rw L i) j)
theorem Qb9 {L : List (List Int)} {n : Nat} (hr : Ml.RL n L) (hin : ∀ l ∈ L, ∀ x ∈ l, 0 ≤ x ∧ x < P.q) : L = matL P L.length n (kM P L) := by
 refine List.ext_getElem (by rw [QP]) fun i h1 h2 => ?_
 have e : (matL P L.length n (kM P L))[i] = rowL P n (kM P L i) := by simp [matL, tab]
 rw [e]
 have hi : L[i] ∈ L := List.getElem_mem _
 refine QaK (hr _ hi) fun j hj => ?_
 have hj' : j < L[i].length := by rw [hr _ hi]; exact hj
 have eg : Ml.rw L i = L[i] := by simp [Ml.rw, List.getD_eq_getElem?_getD, h1]
 rw [kM, eg, Jw hj', ZF (hin _ hi _ (List.getElem_mem _))]
theorem kM_matL {m n : Nat} {M : Nat → Nat → K P} {i j : Nat} (hi : i < m) (hj : j < n) : kM P (matL P m n M) i j = M i j := by rw [kM, ZY hi, JY hj]
end Go.Fd
