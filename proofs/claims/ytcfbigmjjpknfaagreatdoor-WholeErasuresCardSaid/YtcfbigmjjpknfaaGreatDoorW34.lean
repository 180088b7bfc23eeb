import Derived.Test.YtcfbigmjjpknfaaGreatDoorW33
import Derived.Test.YtcfbigmjjpknfaaGreatDoorW09
import Derived.Test.YtcfbigmjjpknfaaGreatDoorW08
import Derived.Test.YtcfbigmjjpknfaaGreatDoorW10
import Derived.Test.YtcfbigmjjpknfaaGreatDoorW11
namespace Go.Proofs.YtcfbigmjjpknfaaGreatDoor
open Go Go.Sx Go.Pl Go.RowKit Go.Fd Go.Alg
theorem zK_step {P : FP} {c a b : Int} : zK P ((c + a * b) % P.p) = zK P c + zK P a * zK P b := by rw [zK_mod, zK_add, zK_mul]
theorem zK_step2 {P : FP} {c t b : Int} : zK P ((c + (P.p - t) * b) % P.p) = zK P c + zK P (-t) * zK P b := by
 rw [zK_mod, zK_add, zK_mul]
 congr 2
 refine zK_cg ?_
 rw [show P.p - t = -t + P.p * 1 by omega, Int.add_mul_emod_self_left]
def pl (P : FP) (l : List Int) (n : Nat) : K P := pe P (fun t => l.getD t 0) n
theorem gi_getD (l : List Int) (k : Int) : gi l k = l.getD k.toNat 0 := rfl
theorem pl_first (P : FP) (m n : Nat) : pl P (tab m fun _ => 0) n = 0 := by
 rw [pl, ← pe_zero n]
 refine QaO n fun j _ => ?_
 by_cases h : j < m
 ·simp [Za h]
 ·rw [List.getD_eq_getElem?_getD, List.getElem?_eq_none (by rw [Qs]; omega)]; rfl
theorem lo_tab0 {p : Int} (hp : 2 ≤ p) (m : Nat) : Lo p (tab m fun _ => 0) := fun z hz => by
 simp only [tab, List.mem_map] at hz
 obtain ⟨_, _, rfl⟩ := hz
 omega
theorem lo_si' {p : Int} {l : List Int} (h : Lo p l) (k z : Int) (h0 : 0 ≤ z) (h1 : z < p) : Lo p (si l k z) := fun u hu => by
 rcases List.mem_or_eq_of_mem_set hu with hu | rfl
 ·exact h u hu
 ·exact ⟨h0, h1⟩
set_option maxRecDepth 10000 in
theorem rMul (P : FP) (mo : Value) (md : List Int) (x y : Int) (w : World) (hF : FV w P mo md) :
  Calls Tryz.prog 100 #[fv P mo, .int .i64 x, .int .i64 y] w (RetX w fun v _ => v = .int .i64 (inK P x * inK P y).1) := by
 have hp := P.hp
 have hM := P.hM
 have hp2 := hF.p
 have hm := hF.m
 have hq : P.p ^ P.M ≤ 256 := hF.q
 refine QS Tryz.func100 rfl rfl (Qc (Qb [0,1] rfl (BXA rfl wu rfl rfl ?_)))
 intro g w1 hE hB hg
 refine Qk rfl rfl (Qd (Qa (Qc (Qb [0,1,2,3] rfl (Vw rfl (ldA rfl Zf) ?_)))))
 refine mvV rfl rfl (C rfl wu rfl rfl Tryz.call106 (rDigs P mo md x _ (hF.ext hE)) ?_)
 rintro a w2 hE2 ⟨ha, hab⟩
 replace hE := hE.trans hE2
 replace hB := hB.ext hE2
 refine Qk rfl rfl (Qd (Qa (Qc (Qb [0,1,2,3] rfl (Vw rfl (ldA rfl Zf) ?_)))))
 refine mvV rfl rfl (C rfl wu rfl rfl Tryz.call106 (rDigs P mo md y _ (hF.ext hE)) ?_)
 rintro b w3 hE3 ⟨hb, hbb⟩
 replace hE := hE.trans hE3
 replace hB := hB.ext hE3
 refine Qk rfl rfl (Qd (Qa (Qc ?_)))
 have hai := (OwnI.ints ha).ext hE3
 have hbi := OwnI.ints hb
 have hmi := hF.ints.ext hE
 clear ha hb hab hbb hE2 hE3
 generalize inK P x = X at hai ⊢
 generalize inK P y = Y at hbi ⊢
 have hla := QZ P.p P.M X.1
 have hlb := QZ P.p P.M Y.1
 refine Qb [0,1,2,3,4,5] rfl (Qz rfl rfl Zl (Vw rfl (ldB rfl na3) ?_))
 refine Vw rfl (Kx rfl rfl) (Zd rfl rfl rfl (MKI (n := (2 * P.M - 1)) rfl wu rfl rfl QA ?_))
 intro c w4 hE4 hc hci hcb
 refine Qk rfl rfl (Qd (Qa (Qc (Qc ?_))))
 clear hci hcb
 refine Qb [0] rfl (Qk rfl rfl (Qd (Qa (Qf ?_))))
 refine Qv (fun q : Int × List Int => [(3, .pointer (some ⟨g, 0, none⟩)), (7, a), (8, b), (9, c), (10, .int .i64 q.1)])
  (fun q w' => 0 ≤ q.1 ∧ q.1 ≤ P.M ∧ Ext w3 w' ∧ OwnI w3.heap.size w' c 3 q.2 ∧ q.2.length = 2 * P.M - 1 ∧ Lo P.p q.2 ∧ pl P q.2 (2 * P.M - 1) = pe P X.v q.1.toNat * Y) (fun q => (P.M - q.1).toNat) (0, tab (2 * P.M - 1) fun _ => 0)
  ⟨rfl, rfl, rfl, rfl, rfl, trivial⟩ ⟨Int.le_refl _, by show (0 : Int) ≤ P.M; omega, hE4, hc, Qs _ _, lo_tab0 hp _, by show pl P _ _ = 0 * Y; rw [pl_first, zero_mul]⟩ ?_
 clear hc hE4
 rintro ⟨i, l⟩ w5 ⟨i0, i1, hE5, hc, hl, hlo, hpe⟩
 dsimp only at i0 i1 hE5 hc hl hlo hpe
 try dsimp only
 refine Qc (Qc (Qb [0,1,2,3] rfl (mvV rfl rfl (Qz rfl rfl Zl (Vw rfl (ldB rfl na3) ?_)))))
 refine Qy rfl rfl rfl (Qd (Qa (Qo rfl ?_ ?_)))
 ·intro hi
  simp at hi
  refine Qe (Qa (Qc (Qf (Qc (Qb [0] rfl (Qk rfl rfl (Qd (Qa (Qf ?_)))))))))
  refine Qv (fun q : Int × List Int => [(3, .pointer (some ⟨g, 0, none⟩)), (7, a), (8, b), (9, c), (10, .int .i64 i), (11, .int .i64 q.1)])
   (fun q w' => 0 ≤ q.1 ∧ q.1 ≤ P.M ∧ Ext w3 w' ∧ OwnI w3.heap.size w' c 3 q.2 ∧ q.2.length = 2 * P.M - 1 ∧ Lo P.p q.2 ∧ pl P q.2 (2 * P.M - 1) = pe P X.v i.toNat * Y + zK P (X.v i.toNat) * npow (xi P) i.toNat * pe P Y.v q.1.toNat) (fun q => (P.M - q.1).toNat) (0, l)
   ⟨rfl, rfl, rfl, rfl, rfl, rfl, trivial⟩ ⟨Int.le_refl _, by show (0 : Int) ≤ P.M; omega, hE5, hc, hl, hlo, by show pl P l _ = _ + _ * 0; rw [mul_zero, add_zero]; exact hpe⟩ ?_
  clear hc hE5 hl hlo hpe
  rintro ⟨j, l⟩ w6 ⟨j0, j1, hE6, hc, hl, hlo, hpe⟩
  dsimp only at j0 j1 hE6 hc hl hlo hpe
  have hci := OwnI.ints hc
  try dsimp only
  refine Qc (Qc (Qb [0,1,2,3] rfl (mvV rfl rfl (Qz rfl rfl Zl (Vw rfl (ldB rfl na3) ?_)))))
  refine Qy rfl rfl rfl (Qd (Qa (Qo rfl ?_ ?_)))
  ·intro hj
   simp at hj
   refine Qe (Qa (Qc (Qf ?_)))
   have g1 := gi_v X (j := i)
   have g2 := gi_v Y (j := j)
   have l1 := v_lo X i.toNat (by omega)
   have l2 := v_lo Y j.toNat (by omega)
   have l3 := Xr hlo (i := i + j) (by omega) (by omega)
   have m1 := Jh (a := X.v i.toNat) (b := Y.v j.toNat) (c := 256) (d := 256) l1.1 (by omega) l2.1 (by omega)
   have m2 : 0 ≤ gi (dig P.p P.M X.1) i * gi (dig P.p P.M Y.1) j ∧ gi (dig P.p P.M X.1) i * gi (dig P.p P.M Y.1) j ≤ 256 * 256 := m1
   have e0 : 0 ≤ (gi l (i + j) + X.v i.toNat * Y.v j.toNat) % P.p := Int.emod_nonneg _ (by omega)
   have e1 : (gi l (i + j) + X.v i.toNat * Y.v j.toNat) % P.p < P.p := Int.emod_lt_of_pos _ (by omega)
   refine Qx QK [0,1,2,3,4,5,6,7,8,9,10,11,12,13,14,15,16,17,18,19,20,21,22,23,24] (by kernel_rfl) ?_
   intro w7 hd _
   replace hE6 := hE6.trans hd
   replace hci := hci.ext hd
   replace hc := hc.ext hd
   refine mvV rfl rfl (mvV rfl rfl (mvV rfl rfl (Qw rfl rfl rfl (mvV rfl rfl (mvV rfl rfl (mvV rfl rfl (Qw rfl rfl rfl (Vw rfl (QO rfl rfl QA) ?_))))))))
   refine Vw rfl (ldI rfl na3) ?_
   refine mvV rfl rfl (mvV rfl rfl (Vw rfl (QO rfl rfl QA) ?_))
   refine Vw rfl (ldI rfl na3) ?_
   refine mvV rfl rfl (mvV rfl rfl (Vw rfl (QO rfl rfl QA) ?_))
   refine Vw rfl (ldI rfl na3) ?_
   refine Vw rfl (Kx rfl rfl) (Qw rfl rfl rfl (Qz rfl rfl QY (Vw rfl (ldB rfl na3) ?_)))
   refine Vw rfl (Qbe rfl rfl) (Vw rfl (QO rfl rfl QA) ?_)
   refine STI rfl wu rfl rfl sz3 (by intro h; kernel_rfl) ?_
   intro w8 hg8 hX8 hc8 hci8
   refine Qd (Qg (Qa ?_))
   rw [g1, g2] at hc8
   refine Qb [0,1,2] rfl (mvV rfl rfl (Qw rfl rfl rfl (Qk rfl rfl (Qd (Qi (j + 1, si l (i + j) ((gi l (i + j) + X.v i.toNat * Y.v j.toNat) % P.p)) ⟨rfl, rfl, rfl, rfl, rfl, rfl, trivial⟩ ⟨by show 0 ≤ j + 1; omega, by show j + 1 ≤ _; omega, hX8 _ (Nat.le_refl _) hE6, hc8, by rw [Zp]; exact hl, lo_si' hlo _ _ e0 e1, ?_⟩ (by show (P.M - (j + 1)).toNat < (P.M - j).toNat; omega))))))
   show pl P (l.set (i + j).toNat _) _ = _ + _ * pe P Y.v (j + 1).toNat
   have es := QcL (P := P) l (k := (i + j).toNat) (i := i.toNat) (j := j.toNat) (n := 2 * P.M - 1) (by omega) (by omega) (by omega) (u := (gi l (i + j) + X.v i.toNat * Y.v j.toNat) % P.p) (a := X.v i.toNat) (b := Y.v j.toNat) zK_step
   rw [pl, es, show (j + 1).toNat = j.toNat + 1 by omega, pe, mul_add, ← add_assoc, ← hpe]
   rfl
  ·intro hj
   simp at hj
   refine Qt (Ql (Qm (Qh (Qg (Qa (Qb [0,1,2] rfl (mvV rfl rfl (Qw rfl rfl rfl (Qk rfl rfl (Qd (Qi (i + 1, l) ⟨rfl, rfl, rfl, rfl, rfl, trivial⟩ ⟨by show 0 ≤ i + 1; omega, by show i + 1 ≤ _; omega, hE6, hc, hl, hlo, ?_⟩ (by show (P.M - (i + 1)).toNat < (P.M - i).toNat; omega))))))))))))
   show pl P l _ = pe P X.v (i + 1).toNat * Y
   rw [hpe, show j.toNat = P.M by omega, pe_self, show (i + 1).toNat = i.toNat + 1 by omega, pe, add_mul]
 ·intro hi
  simp at hi
  refine Qt (Ql (Qm (Qh (Qa (Qc (Qc ?_))))))
  rw [show i.toNat = P.M by omega, pe_self] at hpe
  clear hai hbi hla hlb
  refine Qb [0,1,2,3,4] rfl (Qz rfl rfl Zl (Vw rfl (ldB rfl na3) ?_))
  refine Vw rfl (Kx rfl rfl) (Zd rfl rfl rfl (Qk rfl rfl (Qd (Qa (Qf ?_)))))
  refine Qv (fun q : Int × List Int => [(3, .pointer (some ⟨g, 0, none⟩)), (9, c), (12, .int .i64 q.1)])
   (fun q w' => P.M - 1 ≤ q.1 ∧ q.1 ≤ 2 * P.M - 2 ∧ Ext w3 w' ∧ OwnI w3.heap.size w' c 3 q.2 ∧ q.2.length = 2 * P.M - 1 ∧ Lo P.p q.2 ∧ pl P q.2 (q.1.toNat + 1) = X * Y) (fun q => (q.1 + 1 - P.M).toNat) (2 * P.M - 2, l)
   ⟨rfl, rfl, rfl, trivial⟩ ⟨by show (P.M : Int) - 1 ≤ 2 * P.M - 2; omega, Int.le_refl _, hE5, hc, hl, hlo, by show pl P l ((2 * (P.M : Int) - 2).toNat + 1) = _; rw [show (2 * (P.M : Int) - 2).toNat + 1 = 2 * P.M - 1 by omega]; exact hpe⟩ ?_
  clear hc hE5 hl hlo hpe
  rintro ⟨i, l⟩ w6 ⟨i0, i1, hE6, hc, hl, hlo, hpe⟩
  dsimp only at i0 i1 hE6 hc hl hlo hpe
  try dsimp only
  refine Qc (Qc (Qb [0,1,2,3] rfl (mvV rfl rfl (Qz rfl rfl Zl (Vw rfl (ldB rfl na3) ?_)))))
  refine Vw rfl (Xb rfl rfl) (Qd (Qa (Qo rfl ?_ ?_)))
  ·intro hi
   simp at hi
   refine Qe (Qa (Qc (Qf (Qc ?_))))
   have hlm := hF.len (by omega)
   refine Qb [0] rfl (Qk rfl rfl (Qd (Qa (Qf ?_))))
   refine Qv (fun q : Int × List Int => [(3, .pointer (some ⟨g, 0, none⟩)), (9, c), (12, .int .i64 i), (13, .int .i64 q.1)])
    (fun q w' => 0 ≤ q.1 ∧ q.1 ≤ P.M ∧ Ext w3 w' ∧ OwnI w3.heap.size w' c 3 q.2 ∧ q.2.length = 2 * P.M - 1 ∧ Lo P.p q.2 ∧ gi q.2 i = gi l i ∧ pl P q.2 (i.toNat + 1) = X * Y + zK P (-gi l i) * npow (xi P) (i.toNat - P.M) * pe P P.md q.1.toNat) (fun q => (P.M - q.1).toNat) (0, l)
    ⟨rfl, rfl, rfl, rfl, trivial⟩ ⟨Int.le_refl _, by show (0 : Int) ≤ P.M; omega, hE6, hc, hl, hlo, rfl, by show pl P l _ = _ + _ * 0; rw [mul_zero, add_zero]; exact hpe⟩ ?_
   clear hc hE6
   rintro ⟨j, l2⟩ w7 ⟨j0, j1, hE7, hc, hl2, hlo2, hgi, hpe2⟩
   dsimp only at j0 j1 hE7 hc hl2 hlo2 hgi hpe2
   have hci := OwnI.ints hc
   try dsimp only
   refine Qc (Qc (Qb [0,1,2,3] rfl (mvV rfl rfl (Qz rfl rfl Zl (Vw rfl (ldB rfl na3) ?_)))))
   refine Qy rfl rfl rfl (Qd (Qa (Qo rfl ?_ ?_)))
   ·intro hj
    simp at hj
    refine Qe (Qa (Qc (Qf ?_)))
    have hlow := hF.low j.toNat
    have hmj : gi md j = P.md j.toNat := by rw [hF.mdf]; rfl
    have l1 := Xr hlo2 (i := i) (by omega) (by omega)
    have l2' := Xr hlo2 (i := i - P.M + j) (by omega) (by omega)
    have m1 := Jh (a := P.p - gi l2 i) (b := gi md j) (c := 256) (d := 256) (by omega) (by omega) (by omega) (by omega)
    have e0 : 0 ≤ (gi l2 (i - P.M + j) + (P.p - gi l2 i) * gi md j) % P.p := Int.emod_nonneg _ (by omega)
    have e1 : (gi l2 (i - P.M + j) + (P.p - gi l2 i) * gi md j) % P.p < P.p := Int.emod_lt_of_pos _ (by omega)
    have hM' := hmi.ext hE7
    refine Qx QK [0,1,2,3,4,5,6,7,8,9,10,11,12,13,14,15,16,17,18,19,20,21,22,23,24,25,26,27,28,29,30,31,32,33,34] (by kernel_rfl) ?_
    intro w8 hd _
    replace hE7 := hE7.trans hd
    replace hci := hci.ext hd
    replace hc := hc.ext hd
    replace hM' := hM'.ext hd
    refine mvV rfl rfl (mvV rfl rfl (Qz rfl rfl Zl (Vw rfl (ldB rfl na3) ?_)))
    refine Zd rfl rfl rfl (mvV rfl rfl (Qw rfl rfl rfl (mvV rfl rfl (mvV rfl rfl (Qz rfl rfl Zl (Vw rfl (ldB rfl na3) ?_))))))
    refine Zd rfl rfl rfl (mvV rfl rfl (Qw rfl rfl rfl (Vw rfl (QO rfl rfl QA) ?_)))
    refine Vw rfl (ldI rfl na3) ?_
    refine Qz rfl rfl QY (Vw rfl (ldB rfl na3) ?_)
    refine mvV rfl rfl (mvV rfl rfl (Vw rfl (QO rfl rfl QA) ?_))
    refine Vw rfl (ldI rfl na3) ?_
    refine Zd rfl rfl rfl (Qz rfl rfl Jm (Vw rfl (ldB rfl Zk (hB.ext hE7)) (mvV rfl rfl (Vw rfl (QO rfl rfl QA) ?_))))
    refine Vw rfl (ldI rfl na3) ?_
    refine Vw rfl (Kx rfl rfl) (Qw rfl rfl rfl (Qz rfl rfl QY (Vw rfl (ldB rfl na3) ?_)))
    refine Vw rfl (Qbe rfl rfl) (Vw rfl (QO rfl rfl QA) ?_)
    refine STI rfl wu rfl rfl sz3 (by intro h; kernel_rfl) ?_
    intro w9 hg9 hX9 hc9 hci9
    refine Qd (Qg (Qa (Qb [0,1,2] rfl (mvV rfl rfl (Qw rfl rfl rfl (Qk rfl rfl (Qd (Qi (j + 1, si l2 (i - P.M + j) ((gi l2 (i - P.M + j) + (P.p - gi l2 i) * gi md j) % P.p)) ⟨rfl, rfl, rfl, rfl, trivial⟩ ⟨by show 0 ≤ j + 1; omega, by show j + 1 ≤ _; omega, hX9 _ (Nat.le_refl _) hE7, hc9, by rw [Zp]; exact hl2, lo_si' hlo2 _ _ e0 e1, ?_, ?_⟩ (by show (P.M - (j + 1)).toNat < (P.M - j).toNat; omega)))))))))
    ·show gi (l2.set (i - P.M + j).toNat _) i = _
     rw [gi_getD, List.getD_eq_getElem?_getD, List.getElem?_set_ne (by omega)]
     exact hgi
    ·show pl P (l2.set (i - P.M + j).toNat _) _ = _ + _ * pe P P.md (j + 1).toNat
     have es := QcL (P := P) l2 (k := (i - P.M + j).toNat) (i := i.toNat - P.M) (j := j.toNat) (n := i.toNat + 1) (by omega) (by omega) (by omega) (u := (gi l2 (i - P.M + j) + (P.p - gi l i) * P.md j.toNat) % P.p) (a := -gi l i) (b := P.md j.toNat) zK_step2
     rw [hmj, hgi, pl, es, show (j + 1).toNat = j.toNat + 1 by omega, pe.eq_2 P P.md, mul_add, ← add_assoc, ← hpe2]
     rfl
   ·intro hj
    simp at hj
    refine Qt (Ql (Qm (Qh (Qg (Qa (Qb [0,1,2] rfl (mvV rfl rfl (Zd rfl rfl rfl (Qk rfl rfl (Qd (Qi (i - 1, l2) ⟨rfl, rfl, rfl, trivial⟩ ⟨by show (P.M : Int) - 1 ≤ i - 1; omega, by show i - 1 ≤ _; omega, hE7, hc, hl2, hlo2, ?_⟩ (by show (i - 1 + 1 - P.M).toNat < (i + 1 - P.M).toNat; omega))))))))))))
    show pl P l2 ((i - 1).toNat + 1) = _
    rw [show j.toNat = P.M by omega] at hpe2
    rw [show (i - 1).toNat + 1 = i.toNat by omega]
    exact pe_red l2 (m := i.toNat - P.M) (t := gi l i) (by omega) hgi hpe2
  ·intro hi
   simp at hi
   refine Qt (Ql (Qm (Qh (Qa (Qc ?_)))))
   rw [show i.toNat + 1 = P.M by omega] at hpe
   have hci := OwnI.ints hc
   have hts : Ints w6 (slv c 0 P.M) (l.take P.M) := by
    have h := hci.slv (lo := 0) (hi := P.M) (by omega) (by omega) (by omega)
    rw [show (0 : Int).toNat = 0 from rfl, List.drop_zero, show ((P.M : Int) - 0).toNat = P.M by omega] at h
    exact h
   have htl : (l.take P.M).length = P.M := by rw [List.length_take]; omega
   refine Qx QK [0,1,2,3,4,5,6] (by kernel_rfl) ?_
   intro w7 hd _
   replace hE6 := hE6.trans hd
   replace hci := hci.ext hd
   replace hts := hts.ext hd
   refine Vw rfl (ldA rfl Zf) ?_
   refine mvV rfl rfl (Qz rfl rfl Zl (Vw rfl (ldB rfl na3) ?_))
   refine Vw rfl (slH rfl rfl QA hci (by omega) (by simp; omega)) ?_
   refine C rfl wu rfl rfl Tryz.call107 (rVal P mo (slv c 0 P.M) _ _ hts ⟨hp, hp2⟩ (fun z hz => hlo z (List.mem_of_mem_take hz)) (by rw [htl]; omega) (by rw [htl]; omega)) ?_
   rintro _ w8 hE8 rfl
   refine Qk rfl rfl (Qd (Qa (Qq (Qj rfl rfl ?_))))
   exact ⟨(hE.trans hE6).trans hE8, by rw [val_pe (by omega) hlo, ← hpe]; rfl⟩
end Go.Proofs.YtcfbigmjjpknfaaGreatDoor
namespace Go.Proofs.YtcfbigmjjpknfaaGreatDoor
open Go Go.Sx Go.Pl Go.RowKit Go.Fd Go.Alg
end Go.Proofs.YtcfbigmjjpknfaaGreatDoor
namespace Go.Fd
open Go.Pl Go.Alg
variable {P : FP}
theorem tab_succ {α : Type} (n : Nat) (f : Nat → α) : tab (n + 1) f = tab n f ++ [f n] := by simp [tab, List.range_succ]
end Go.Fd
namespace Go.Proofs.YtcfbigmjjpknfaaGreatDoor
open Go Go.Sx Go.Pl Go.RowKit Go.Fd Go.Alg
end Go.Proofs.YtcfbigmjjpknfaaGreatDoor
namespace Go.Proofs.YtcfbigmjjpknfaaGreatDoor
open Go Go.Sx Go.Pl Go.RowKit Go.Fd Go.Alg
theorem KA {P : FP} : (1 : K P).1 = 1 := by
 have := P.q_two
 rw [k_one, ZF (by omega)]
set_option maxRecDepth 10000 in
theorem rInv (P : FP) (mo : Value) (md : List Int) (x : Int) (w : World) (hF : FV w P mo md) (hgen : ∃ g : K P, HasOrder g (n1 P)) (hx : inK P x ≠ 0) :
  Calls Tryz.prog 146 #[fv P mo, .int .i64 x] w (RetX w fun v _ => v = .int .i64 (invK P (inK P x)).1) := by
 obtain ⟨gen, hgen⟩ := hgen
 have hmul := Xn hgen hx
 have hq2 := P.q_two
 have hq := hF.q
 have hc0 : (invK P (inK P x)).1 ≠ 0 := fun e => by
  have h0 : invK P (inK P x) = 0 := Subtype.ext e
  rw [h0, mul_zero] at hmul
  exact JC hmul.symm
 have hcb := (invK P (inK P x)).2
 refine QD Tryz.func146 rfl rfl (Qc (Qb [0,1] rfl (BXA rfl wu rfl rfl ?_)))
 intro fb w1 hE hB hg
 refine Qk rfl rfl (Qd (Qa (Qc (Qc ?_))))
 have hFi := hF.ext hE
 refine Qb [0] rfl (Qk rfl rfl (Qd (Qa (Qf ?_))))
 refine Qv (fun y : Nat => [(2, .pointer (some ⟨fb, 0, none⟩)), (1, .int .i64 x), (5, .int .i64 y)])
  (fun y w' => 1 ≤ y ∧ (y : Int) ≤ (invK P (inK P x)).1 ∧ Ext w w' ∧ Blk w' fb 24 #[.int .i64 P.p, .int .i64 P.M, mo] ∧ ∀ z : Nat, 1 ≤ z → z < y → inK P x * inK P z ≠ 1) (fun y => (P.q - y).toNat) 1 ⟨rfl, rfl, rfl, trivial⟩ ⟨by omega, by omega, hE, hB, fun z h1 h2 => by omega⟩ ?_
 clear hE hB hFi
 rintro y w2 ⟨y0, y1, hE, hB, hno⟩
 have hFi := hF.ext hE
 try dsimp only
 refine Qc (Qc (Qb [0,1,2,3] rfl (mvV rfl rfl (Vw rfl (ldA rfl Zf hB) (C rfl wu rfl rfl Tryz.call17 (QcE P.p P.M mo _) ?_)))))
 rintro _ w3 hE3 rfl
 replace hE := hE.trans hE3
 replace hB := hB.ext hE3
 refine Qy rfl rfl rfl (Qd (Qa ?_))
 rw [hF.ord]
 refine QC rfl (by simp; omega) (Qe (Qa (Qc (Qf (Qc (Qb [0,1,2,3,4] rfl (Vw rfl (ldA rfl Zf hB) (mvV rfl rfl (mvV rfl rfl (C rfl wu rfl rfl Tryz.call100 (rMul P mo md x y _ (hF.ext hE)) ?_))))))))))
 rintro _ w4 hE4 rfl
 replace hE := hE.trans hE4
 replace hB := hB.ext hE4
 refine QU rfl rfl rfl (Qd (Qa (Qo rfl ?_ ?_)))
 ·intro h
  simp at h
  have h1 : inK P x * inK P y = 1 := Subtype.ext (h.trans KA.symm)
  have h2 := QcR h1 hmul
  have h3 : (inK P y).1 = y := by rw [ZF (by omega)]
  refine Qc (Qb [0,1] rfl (mvV rfl rfl (Qk rfl rfl (Qd (Qa (Qq (Qu (Qp (QE (Qu (Qp (Qj rfl rfl ?_))))))))))))
  exact ⟨hE, by rw [← h2, h3]⟩
 ·intro h
  simp at h
  refine Qe (Qg (Qa (Qb [0,1,2] rfl (mvV rfl rfl (Qw rfl rfl rfl (Qk rfl rfl (Qd ?_)))))))
  have hne : inK P x * inK P y ≠ 1 := fun e => h (by rw [e]; exact KA)
  have hlt : (y : Int) ≠ (invK P (inK P x)).1 := fun e => by
   rw [e, Zi] at hne
   exact hne hmul
  exact Qi (y + 1) ⟨rfl, rfl, rfl, trivial⟩ ⟨by omega, by omega, hE, hB, fun z h1 h2 => by
   by_cases e : z = y
   ·rw [e]; exact hne
   ·exact hno z h1 (by omega)⟩ (by omega)
theorem fv_of {p M : Int} {md : List Int} (h : OkF p M md) (mo : Value) : fv (fpOf p M md h.1.1 h.1.2.1) mo = .agg #[.int .i64 p, .int .i64 M, mo] := by
 have : (((M.toNat : Nat) : Int)) = M := by have := h.1.2.1; omega
 show Value.agg #[.int .i64 p, .int .i64 ((M.toNat : Nat) : Int), mo] = _
 rw [this]
theorem take_rows {L : List (List Int)} {i : Nat} (h : i < L.length) : L.take i ++ [L.getD i []] = L.take (i + 1) := by
 rw [List.take_succ_eq_append_getElem h, List.getD_eq_getElem?_getD, List.getElem?_eq_getElem h]; rfl
theorem si_si (l : List Int) (k : Int) (a b : Int) : si (si l k a) k b = si l k b := by simp [si]
set_option maxRecDepth 10000 in
theorem rCopy (u : Value) (L : List (List Int)) (_ : Nat) (w : World) (hu : LL w u L) (hL : ∀ i, i < L.length → (L.getD i []).length ≤ 65536) (hl : L.length ≤ 65536) :
  Calls Tryz.prog 144 #[u] w (RetX w fun r w' => LOX (List.range w.heap.size) w.heap.size w' r 22 L) := by
 obtain ⟨rows, hs, hrl, hrr⟩ := hu.row
 refine QL Tryz.func144 rfl rfl (Qc (Qb [0] rfl (Qk rfl rfl (Qd (Qa (Qc (Qb [0] rfl (Qk rfl rfl (Qd (Qa (Qc (Qc (Qb [0] rfl (Qk rfl rfl ?_))))))))))))))
 refine Qd (Qa (Qf ?_))
 refine Qv (fun p : Nat × Value => [(0, u), (3, p.2), (4, .int .i64 p.1)])
  (fun i w' => i.1 ≤ L.length ∧ Ext w w' ∧ LOX (List.range w.heap.size) w.heap.size w' i.2 22 (L.take i.1)) (fun i => L.length - i.1) (0, .slice none 0 0) ⟨rfl, rfl, rfl, trivial⟩ ⟨by omega, Ext.refl _, by rw [List.take_zero]; exact LOX.nil _ _ _ _⟩ ?_
 rintro ⟨i, out⟩ w2 ⟨i1, hE, ho⟩
 dsimp only at i1 ho
 have hsi := hs.ext hE
 try dsimp only
 refine Qc (Qc (Qb [0,1,2,3] rfl (mvV rfl rfl (mvV rfl rfl (Vw rfl (Zt rfl QN hsi) (Qy rfl rfl rfl (Qd (Qa ?_))))))))
 rw [hrl]
 refine Qo rfl ?_ ?_
 ·intro hc
  simp at hc
  obtain ⟨r, hr, hri⟩ := hrr i hc
  have hri2 := hri.ext hE
  have hrn := hL i hc
  have holt := ho.lt
  have hz0 := hE.size
  refine Qe (Qa (Qc (Qf ?_)))
  have hol : (L.take i).length = i := by rw [List.length_take]; omega
  refine Qb [0,1,2,3,4,5,6,7,8,9] rfl (mvV rfl rfl (BS0 rfl wu rfl QA ?_))
  intro gl w3 hE3 hgl hgl2
  have hz3 := hE3.size
  replace hE := hE.trans hE3
  replace hri2 := hri2.ext hE3
  replace hsi := hsi.ext hE3
  replace ho := ho.ext hE3
  refine mvV rfl rfl (mvV rfl rfl (Vw rfl (iad rfl rfl QN hsi (by omega) (by omega)) (Vw rfl (ldE rfl Zk hsi (by rw [Int.toNat_natCast]; exact hr)) (AP0 rfl wu rfl rfl rfl QA hri2 (Ext.refl _) (by omega) ?_))))
  intro c w4 hE4 hci hcb
  have hz4 := hE4.size
  replace hE := hE.trans hE4
  replace ho := ho.ext hE4
  refine BS (us := [c]) rfl wu rfl rfl rfl rfl QN (by intro q hq; obtain rfl : q = c := (by simpa using hq); exact hci.one) ?_
  intro sv w6 hE6 hsv _
  have hz6 := hE6.size
  refine APX rfl wu rfl rfl rfl QN rfl nofun (ho.ext hE6) (by omega) hsv.sl (Ext.refl _) (hci.ext hE6) (.inr ⟨fun e => by (rcases hcb with h | ⟨h, _⟩ <;> have := holt _ (e.symm.trans h) <;> omega), fun k hk hm => by (rcases hcb with h | ⟨h, _⟩ <;> rw [h] at hk <;> have := Option.some.inj hk <;> have := List.mem_range.1 hm <;> omega)⟩) (by omega) (by omega) ?_
  intro out2 w7 hg7 hX7 ho7
  refine Qk rfl rfl (Qd (Qg (Qa ?_)))
  rw [take_rows hc] at ho7
  refine Qb [0,1,2] rfl (mvV rfl rfl (Qw rfl rfl rfl (Qk rfl rfl (Qd ?_))))
  exact Qi (i + 1, out2) ⟨rfl, rfl, rfl, trivial⟩ ⟨by (try dsimp only); omega, hX7 w (Nat.le_refl _) (hE.trans hE6), ho7⟩ (by (try dsimp only); omega)
 ·intro hc
  simp at hc
  refine Qt (Ql (Qm (Qh (Qa (Qc (Qb [0,1] rfl (mvV rfl rfl (Qk rfl rfl (Qd (Qa (Qq (Qj rfl rfl ?_))))))))))))
  refine ⟨hE, ?_⟩
  rw [show i = L.length by omega, List.take_length] at ho
  exact ho
set_option maxRecDepth 10000 in
theorem rScale (P : FP) (mo : Value) (md : List Int) (a : Int) (u : Value) (n : Nat) (f : Nat → K P) (w : World) (hF : FV w P mo md) (hu : Ints w u (rowL P n f)) (hn : n ≤ 65536) :
  Calls Tryz.prog 145 #[fv P mo, .int .i64 a, u] w (RetX w fun r w' => OwnI w.heap.size w' r 3 (rowL P n fun j => inK P a * f j)) := by
 have hrl := QT (P := P) n f
 refine QS Tryz.func145 rfl rfl (Qc (Qb [0,1] rfl (BXA rfl wu rfl rfl ?_)))
 intro fb w1 hE hB hg
 refine Qk rfl rfl (Qd (Qa (Qc ?_)))
 have hui := hu.ext hE
 refine Qb [0,1,2,3] rfl (mvV rfl rfl (Vw rfl (Zh rfl QA hui) (MKI (n := n) rfl wu rfl rfl QA ?_)))
 intro ov w2 hE2 ho hoi hob
 refine Qk rfl rfl (Qd (Qa (Qc (Qc ?_))))
 have hsz := hE.size
 have hlt := hB.lt
 have hne : ov.ownBlock ≠ some fb := fun e => by
  rw [hob] at e
  have := Option.some.inj e
  omega
 replace hB := hB.ext hE2
 have ho' := Own.mono ho (B' := w.heap.size) (by omega)
 replace hE := hE.trans hE2
 rw [← Qbg n (fun j => (inK P a * f j).1) (fun _ => 0)] at ho'
 clear ho hoi hui
 refine Qb [0] rfl (Qk rfl rfl (Qd (Qa (Qf ?_))))
 refine Qv (fun i : Nat => [(3, .pointer (some ⟨fb, 0, none⟩)), (1, .int .i64 a), (2, u), (7, ov), (8, .int .i64 i)])
  (fun i w' => i ≤ n ∧ Ext w w' ∧ Blk w' fb 24 #[.int .i64 P.p, .int .i64 P.M, mo] ∧ OwnI w.heap.size w' ov 3 (upd n (fun j => (inK P a * f j).1) (fun _ => 0) i)) (fun i => n - i) 0 ⟨rfl, rfl, rfl, rfl, rfl, trivial⟩ ⟨by omega, hE, hB, ho'⟩ ?_
 clear hE hB ho'
 rintro i w3 ⟨i1, hE, hB, ho⟩
 have hui := hu.ext hE
 have hul := JL n (fun j => (inK P a * f j).1) (fun _ => (0 : Int)) i
 try dsimp only
 refine Qc (Qc (Qb [0,1,2,3] rfl (mvV rfl rfl (mvV rfl rfl (Vw rfl (Zh rfl QA hui) (Qy rfl rfl rfl (Qd (Qa ?_))))))))
 rw [hrl]
 refine Qo rfl ?_ ?_
 ·intro hc
  simp at hc
  refine Qe (Qa (Qc (Qf (Qx QK [0,1,2,3,4,5,6,7,8,9,10] (by kernel_rfl) ?_))))
  intro w4 hd _
  replace hE := hE.trans hd
  replace hB := hB.ext hd
  replace hui := hui.ext hd
  replace ho := ho.ext hd
  refine mvV rfl rfl (mvV rfl rfl (Vw rfl (ldA rfl Zf hB) (mvV rfl rfl (mvV rfl rfl (mvV rfl rfl (Vw rfl (QO rfl rfl QA hui (by omega) (by omega)) (Vw rfl (ldI rfl na3 hui) (C rfl wu rfl rfl Tryz.call100 (rMul P mo md a _ _ (hF.ext hE)) ?_))))))))
  rintro _ w5 hE5 rfl
  replace hE := hE.trans hE5
  replace hB := hB.ext hE5
  replace ho := Own.ext ho hE5
  have hoi := OwnI.ints ho
  refine Vw rfl (QO rfl rfl QA hoi (by omega) (by omega)) (STI rfl wu rfl rfl sz3 (by intro h; kernel_rfl) ?_)
  intro w7 hg7 hX7 ho7 hi7
  refine Qd (Qg (Qa ?_))
  rw [JY hc, show (inK P a * f i).1 = (fun j : Nat => (inK P a * f j).1) ((i : Int)).toNat by simp, Xg (by omega)] at ho7
  refine Qb [0,1,2] rfl (mvV rfl rfl (Qw rfl rfl rfl (Qk rfl rfl (Qd ?_))))
  exact Qi (i + 1) ⟨rfl, rfl, rfl, rfl, rfl, trivial⟩ ⟨by omega, hX7 _ (Nat.le_refl _) hE, hB.grown hg7 hne, ho7⟩ (by omega)
 ·intro hc
  simp at hc
  obtain rfl : i = n := by omega
  rw [Kb i _ _ (Int.le_refl _)] at ho
  refine Qt (Ql (Qm (Qh (Qa (Qc (Qb [0,1] rfl (mvV rfl rfl (Qk rfl rfl (Qd (Qa (Qq (Qj rfl rfl ?_))))))))))))
  exact ⟨hE, ho⟩
set_option maxRecDepth 10000 in
theorem rAddTo (P : FP) (mo : Value) (md : List Int) (v : Value) (a : Int) (u : Value) (n : Nat) (f g : Nat → K P) (w : World) (hF : FV w P mo md) (hv : Ints w v (rowL P n f)) (hu : Ints w u (rowL P n g)) (hn : n ≤ 65536) :
  Calls Tryz.prog 53 #[fv P mo, v, .int .i64 a, u] w (RetX w fun r w' => OwnI w.heap.size w' r 3 (rowL P n fun j => f j + inK P a * g j)) := by
 have hrl := QT (P := P) n f
 have hrl2 := QT (P := P) n g
 refine JW Tryz.func53 rfl rfl (Qc (Qb [0,1] rfl (BXA rfl wu rfl rfl ?_)))
 intro fb w1 hE hB hg
 refine Qk rfl rfl (Qd (Qa (Qc ?_)))
 have hvi := hv.ext hE
 refine Qb [0,1,2,3] rfl (mvV rfl rfl (Vw rfl (Zh rfl QA hvi) (MKI (n := n) rfl wu rfl rfl QA ?_)))
 intro ov w2 hE2 ho hoi hob
 refine Qk rfl rfl (Qd (Qa (Qc (Qc ?_))))
 have hsz := hE.size
 have hlt := hB.lt
 have hne : ov.ownBlock ≠ some fb := fun e => by
  rw [hob] at e
  have := Option.some.inj e
  omega
 replace hB := hB.ext hE2
 have ho' := Own.mono ho (B' := w.heap.size) (by omega)
 replace hE := hE.trans hE2
 rw [← Qbg n (fun j => (f j + inK P a * g j).1) (fun _ => 0)] at ho'
 clear ho hoi hvi
 refine Qb [0] rfl (Qk rfl rfl (Qd (Qa (Qf ?_))))
 refine Qv (fun i : Nat => [(4, .pointer (some ⟨fb, 0, none⟩)), (1, v), (2, .int .i64 a), (3, u), (9, ov), (10, .int .i64 i)])
  (fun i w' => i ≤ n ∧ Ext w w' ∧ Blk w' fb 24 #[.int .i64 P.p, .int .i64 P.M, mo] ∧ OwnI w.heap.size w' ov 3 (upd n (fun j => (f j + inK P a * g j).1) (fun _ => 0) i)) (fun i => n - i) 0 ⟨rfl, rfl, rfl, rfl, rfl, rfl, trivial⟩ ⟨by omega, hE, hB, ho'⟩ ?_
 clear hE hB ho'
 rintro i w3 ⟨i1, hE, hB, ho⟩
 have hvi := hv.ext hE
 have hul := JL n (fun j => (f j + inK P a * g j).1) (fun _ => (0 : Int)) i
 have hoi := OwnI.ints ho
 try dsimp only
 refine Qc (Qc (Qb [0,1,2,3] rfl (mvV rfl rfl (mvV rfl rfl (Vw rfl (Zh rfl QA hvi) (Qy rfl rfl rfl (Qd (Qa ?_))))))))
 rw [hrl]
 refine Qo rfl ?_ ?_
 ·intro hc
  simp at hc
  refine Qe (Qa (Qc (Qf (Qc (Qb [0,1,2,3,4,5,6,7] rfl (mvV rfl rfl (mvV rfl rfl (mvV rfl rfl (mvV rfl rfl (Vw rfl (QO rfl rfl QA hvi (by omega) (by omega)) (Vw rfl (ldI rfl na3 hvi) (Vw rfl (QO rfl rfl QA hoi (by omega) (by omega)) (STI rfl wu rfl rfl sz3 nofun ?_)))))))))))))
  intro w4 hg4 hX4 ho4 hi4
  refine Qd (Qa (Qc ?_))
  replace hE := hX4 _ (Nat.le_refl _) hE
  replace hB := hB.grown hg4 hne
  have hvi := hv.ext hE
  have hui := hu.ext hE
  refine Qb [0,1,2,3,4] rfl (mvV rfl rfl (mvV rfl rfl (Vw rfl (QO rfl rfl QA hui (by omega) (by omega)) (Vw rfl (ldI rfl na3 hui) (QG rfl rfl rfl (Qd (Qa ?_)))))))
  rw [Zu hc] at ho4
  rw [Zu hc]
  refine Qo rfl ?_ ?_
  ·intro h1
   simp at h1
   have hul4 : (si (upd n (fun j => (f j + inK P a * g j).1) (fun _ => (0 : Int)) i) (i : Int) (f i).1).length = n := by rw [si, List.length_set]; exact hul
   refine Qx QK [0,1,2,3,4,5,6,7,8,9,10,11,12,13,14,15,16] (by kernel_rfl) ?_
   intro w5 hd _
   replace hE := hE.trans hd
   replace hB := hB.ext hd
   replace hui := hui.ext hd
   replace hvi := hvi.ext hd
   replace ho4 := ho4.ext hd
   refine mvV rfl rfl (mvV rfl rfl (Vw rfl (ldA rfl Zf hB) (mvV rfl rfl (mvV rfl rfl (Vw rfl (QO rfl rfl QA hvi (by omega) (by omega)) (Vw rfl (ldI rfl na3 hvi) (Vw rfl (ldA rfl Zf hB) (mvV rfl rfl (mvV rfl rfl ?_)))))))))
   refine mvV rfl rfl (Vw rfl (QO rfl rfl QA hui (by omega) (by omega)) (Vw rfl (ldI rfl na3 hui) (C rfl wu rfl rfl Tryz.call100 (rMul P mo md a _ _ (hF.ext hE)) ?_)))
   rintro _ w6 hE6 rfl
   replace hE := hE.trans hE6
   replace hB := hB.ext hE6
   replace ho4 := Own.ext ho4 hE6
   refine C rfl wu rfl rfl Tryz.call99 (rAdd P mo md _ _ _ (hF.ext hE)) ?_
   rintro _ w7 hE7 rfl
   replace hE := hE.trans hE7
   replace hB := hB.ext hE7
   replace ho4 := Own.ext ho4 hE7
   have hoi4 := OwnI.ints ho4
   refine Vw rfl (QO rfl rfl QA hoi4 (by omega) (by omega)) (STI rfl wu rfl rfl sz3 (by intro h; kernel_rfl) ?_)
   intro w8 hg8 hX8 ho8 hi8
   refine Qd (Qg (Qa ?_))
   rw [JY hc, JY hc, Zi, si_si, show (f i + inK P a * g i).1 = (fun j : Nat => (f j + inK P a * g j).1) ((i : Int)).toNat by simp, Xg (by omega)] at ho8
   refine Qb [0,1,2] rfl (mvV rfl rfl (Qw rfl rfl rfl (Qk rfl rfl (Qd ?_))))
   exact Qi (i + 1) ⟨rfl, rfl, rfl, rfl, rfl, rfl, trivial⟩ ⟨by omega, hX8 _ (Nat.le_refl _) hE, hB.grown hg8 hne, ho8⟩ (by omega)
  ·intro h1
   simp at h1
   refine Qe (Qg (Qa ?_))
   have hg0 : g i = 0 := Subtype.ext h1
   have e : (f i).1 = (fun j : Nat => (f j + inK P a * g j).1) ((i : Int)).toNat := by
    simp only [Int.toNat_natCast]
    rw [hg0, mul_zero, add_zero]
   rw [e, Xg (by omega)] at ho4
   refine Qb [0,1,2] rfl (mvV rfl rfl (Qw rfl rfl rfl (Qk rfl rfl (Qd ?_))))
   exact Qi (i + 1) ⟨rfl, rfl, rfl, rfl, rfl, rfl, trivial⟩ ⟨by omega, hE, hB, ho4⟩ (by omega)
 ·intro hc
  simp at hc
  obtain rfl : i = n := by omega
  rw [Kb i _ _ (Int.le_refl _)] at ho
  refine Qt (Ql (Qm (Qh (Qa (Qc (Qb [0,1] rfl (mvV rfl rfl (Qk rfl rfl (Qd (Qa (Qq (Qj rfl rfl ?_))))))))))))
  exact ⟨hE, ho⟩
end Go.Proofs.YtcfbigmjjpknfaaGreatDoor
namespace Go.Sx
open Go Go.RowKit Go.Pl
theorem IntsX.less {X X' : List Nat} {w : World} {v : Value} {z : List Int} (h : IntsX X' w v z) (hX : ∀ k ∈ X, k ∈ X') : IntsX X w v z := ⟨h.1, h.2.imp id fun h4 k hk hx => h4 k hk (hX k hx)⟩
theorem LLX.less {X X' : List Nat} {w : World} {v : Value} {L : List (List Int)} (h : LLX X' w v L) (hX : ∀ k ∈ X, k ∈ X') : LLX X w v L := by
 obtain ⟨rows, h1, h2, h0, h3⟩ := h
 exact ⟨rows, h1, h2, h0.imp id fun h4 k hk hx => h4 k hk (hX k hx), fun i r zs a b => (h3 i r zs a b).less hX⟩
section
variable {P : Program} {N : Nat} {l : Env} {w : World} {ops : Array Oper} {dr : Bool} {Q : Act → World → Prop} {π : List Nat} {i d : Nat} {v : Value} {op : Op} {ty : TypeId} {pos : String} {after : Array Edge} {g : Option (Nat × Bool)}
variable {p x : Operand} {u : Int} {T : TypeId}
end
end Go.Sx
