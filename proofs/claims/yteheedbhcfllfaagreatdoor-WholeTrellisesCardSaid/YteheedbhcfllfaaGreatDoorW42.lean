import Derived.Test.YteheedbhcfllfaaGreatDoorW41
import Derived.Test.YteheedbhcfllfaaGreatDoorW27
import Derived.Test.YteheedbhcfllfaaGreatDoorW38
import Derived.Test.YteheedbhcfllfaaGreatDoorW40
import Derived.Test.YteheedbhcfllfaaGreatDoorW16
namespace Go.Ml
open Go.Pl
structure Undo (n : Nat) (order pl : List Int) : Prop where
 len : pl.length = n
 len2 : order.length = n
 p : ∀ x : Nat, x < n → 0 ≤ gi pl x ∧ gi pl x < n ∧ gi order (gi pl x) = x
 o : ∀ x : Nat, x < n → 0 ≤ gi order x ∧ gi order x < n ∧ gi pl (gi order x) = x
theorem Undo.mem {n : Nat} {order pl : List Int} (h : Undo n order pl) : ∀ x ∈ pl, 0 ≤ x ∧ x < (n : Int) := fun x hx => by
 obtain ⟨t, ht, rfl⟩ := List.getElem_of_mem hx
 have := h.p t (by rw [← h.len]; exact ht)
 have e : gi pl t = pl[t] := by simp [gi, List.getD_eq_getElem?_getD, ht]
 rw [e] at this
 exact ⟨this.1, this.2.1⟩
theorem Undo.memo {n : Nat} {order pl : List Int} (h : Undo n order pl) : ∀ x ∈ order, 0 ≤ x ∧ x < (n : Int) := fun x hx => by
 obtain ⟨t, ht, rfl⟩ := List.getElem_of_mem hx
 have := h.o t (by rw [← h.len2]; exact ht)
 have e : gi order t = order[t] := by simp [gi, List.getD_eq_getElem?_getD, ht]
 rw [e] at this
 exact ⟨this.1, this.2.1⟩
theorem Undo.nodup {n : Nat} {order pl : List Int} (h : Undo n order pl) : pl.Nodup := by
 rw [List.nodup_iff_pairwise_ne, List.pairwise_iff_getElem]
 intro i j hi hj hij e
 have e1 : gi pl i = pl[i] := by simp [gi, List.getD_eq_getElem?_getD, hi]
 have e2 : gi pl j = pl[j] := by simp [gi, List.getD_eq_getElem?_getD, hj]
 have h1 := (h.p i (by rw [← h.len]; exact hi)).2.2
 have h2 := (h.p j (by rw [← h.len]; exact hj)).2.2
 rw [e1, e] at h1
 rw [e2] at h2
 omega
end Go.Ml
namespace Go.Proofs.YteheedbhcfllfaaGreatDoor
open Go Go.Sx Go.Pl Go.RowKit Go.Fd Go.Alg
theorem Qdu {n : Nat} {order pl S : List Int} (h : Ml.Undo n order pl) (hp : S.Perm pl) (hz : ZoI S S.length) : AscIn n S := by
 have hnd : S.Nodup := hp.nodup_iff.2 h.nodup
 refine ⟨fun x hx => h.mem x (hp.mem_iff.1 hx), fun k h0 h1 => ?_⟩
 have e : (k : Int) - 1 = ((k - 1 : Nat) : Int) := by omega
 rw [e]
 have hle := hz (k - 1) k (by omega) h1
 have e1 : gi S ((k - 1 : Nat) : Int) = S[k - 1] := by simp [gi, List.getD_eq_getElem?_getD, show k - 1 < S.length by omega]
 have e2 : gi S (k : Int) = S[k] := by simp [gi, List.getD_eq_getElem?_getD, h1]
 rw [List.nodup_iff_pairwise_ne, List.pairwise_iff_getElem] at hnd
 have := hnd (k - 1) k (by omega) h1 (by omega)
 rw [e1, e2] at hle ⊢
 omega
set_option maxRecDepth 10000 in
theorem mdSet (lv : Value) (l : List Int) (n : Nat) (w : World) (hl : Ints w lv l) (ha : AscIn n l) :
  Calls Tryz.prog 41 #[lv, .int .i64 n] w (RetX w fun r _ => r = .bool true) := by
 have hle := hl.le
 refine QC Tryz.func41 rfl rfl (Qc (Qb [0] rfl (Qi rfl rfl (Qd (Qa (Qc (Qc (Qb [0,1,2] rfl (mvV rfl rfl (Vw rfl (Zk rfl Qy hl) (mvV rfl rfl (Qd (Qa (Qf ?_))))))))))))))
 refine Qu (fun k : Nat => [(0, lv), (1, .int .i64 n), (7, lv), (8, .int .i64 l.length), (9, .int .i64 k)]) (fun k w' => k ≤ l.length ∧ w' = w) (fun k => l.length - k) 0 ⟨rfl, rfl, rfl, rfl, rfl, trivial⟩ ⟨by omega, rfl⟩ ?_
 rintro k w3 ⟨k1, rfl⟩
 try dsimp only
 refine Qc (Qb [0] rfl (Qz rfl rfl rfl (Qd (Qa (Qc (Qq rfl ?_ ?_))))))
 ·intro hk
  simp at hk
  have hgi : gi l k = l[k]'hk := by simp [gi, List.getD_eq_getElem?_getD, hk]
  have hgb := ha.lo (gi l k) (by rw [hgi]; exact List.getElem_mem _)
  refine Qe (Qa (Qc (Qf (Qc (Qb [0,1,2,3,4] rfl (mvV rfl rfl (Vw rfl (QP rfl rfl Qy hl (by omega) (by omega)) (Vw rfl (ldI rfl na3 hl (Ext.refl _) (by omega) (by omega)) (Qi rfl rfl (Qi rfl rfl (Qd (Qa (Qc ?_)))))))))))))
  by_cases hk0 : k = 0
  ·skip
   refine Qb [0,1,2,3,4,5,6,7,8,9,10,11,12,13,14,15,16,17,18,19] rfl (mvV rfl rfl (Qz rfl rfl rfl (mvV rfl rfl (KB 16 false rfl (decide_eq_false (by omega)) (Vg rfl rfl rfl (mv rfl) (Vg rfl rfl rfl (mv rfl) (Vg rfl rfl rfl (Ko rfl rfl) (pkV rfl rfl rfl (mvV rfl rfl ?_)))))))))
   refine KB 21 false rfl (decide_eq_false (by omega)) (Vg rfl rfl rfl (mv rfl) (Vg rfl rfl rfl (Xd rfl rfl) (Vg rfl rfl rfl (mv rfl) (KB 24 false rfl (decide_eq_false (by omega)) (SK rfl rfl rfl rfl rfl (SK rfl rfl rfl rfl rfl (SK rfl rfl rfl rfl rfl (SK rfl rfl rfl rfl rfl (SK rfl rfl rfl rfl rfl ?_)))))))))
   refine SK rfl rfl rfl rfl rfl (SK rfl rfl rfl rfl rfl (Vg rfl rfl rfl (pk rfl rfl) (pkV rfl rfl rfl (Qd (Qa (Qo rfl (rfl) (Qe (Qg (Qa (Qb [0,1] rfl (Qw rfl rfl rfl (mvV rfl rfl ?_))))))))))))
   refine Qd ?_
   exact Qj (k + 1) ⟨rfl, rfl, rfl, rfl, rfl, trivial⟩ ⟨by omega, rfl⟩ (by omega)
  ·have hlt := ha.asc k (by omega) hk
   refine Qb [0,1,2,3,4,5,6,7,8,9,10,11,12,13,14,15,16,17,18,19] rfl (mvV rfl rfl (Qz rfl rfl rfl (mvV rfl rfl (KB 16 false rfl (decide_eq_false (by omega)) (Vg rfl rfl rfl (mv rfl) (Vg rfl rfl rfl (mv rfl) (Vg rfl rfl rfl (Ko rfl rfl) (pkV rfl rfl rfl (mvV rfl rfl ?_)))))))))
   refine KB 21 false rfl (decide_eq_false (by omega)) (Vg rfl rfl rfl (mv rfl) (Vg rfl rfl rfl (Xd rfl rfl) (Vg rfl rfl rfl (mv rfl) (KB 24 true rfl (decide_eq_true (by omega)) (Vg rfl rfl rfl (mv rfl) (Vg rfl rfl rfl (mv rfl) (Vg rfl rfl rfl (mv rfl) (Vg rfl rfl rfl (subI rfl rfl) (Vg rfl rfl rfl (QP rfl rfl Qy hl (by omega) (by omega)) ?_)))))))))
   refine Vg rfl rfl rfl (ldI rfl na3 hl (Ext.refl _) (by omega) (by omega)) (Vg rfl rfl rfl (Qas rfl rfl) (Vg rfl rfl rfl (pk rfl rfl) (pkV rfl rfl rfl (Qd (Qa (Qo rfl (by simp; omega) (Qe (Qg (Qa (Qb [0,1] rfl (Qw rfl rfl rfl (mvV rfl rfl ?_))))))))))))
   refine Qd ?_
   exact Qj (k + 1) ⟨rfl, rfl, rfl, rfl, rfl, trivial⟩ ⟨by omega, rfl⟩ (by omega)
 ·intro hk
  refine Qt (Ql (Qm (Qh (Qa (Qc (Qb [0] rfl (Qi rfl rfl (Qd (Qa (Qs (Qk rfl rfl ?_)))))))))))
  exact ⟨Ext.refl _, rfl⟩
set_option maxRecDepth 10000 in
theorem mdPermute (p M : Int) (mo v pv : Value) (md : List Int) (n : Nat) (L : List (List Int)) (order pl : List Int) (w : World) (hc : CdOk p M md n L) (hml : md.length ≤ 1000000) (hmd : Ints w mo md) (hL : LL w v L) (hp : Ints w pv pl) (hU : Ml.Undo n order pl) (hn : n ≤ 7) :
  Calls Tryz.prog 21 #[.agg #[.int .i64 p, .int .i64 M, mo, .int .i64 n, v], pv] w (RetX w fun r w' => ∃ mo' lv, r = .tuple #[.agg #[.int .i64 p, .int .i64 M, mo', .int .i64 n, lv], .int .i64 0] ∧ OwnI w.heap.size w' mo' 3 md ∧ LLB w.heap.size w' lv (Ml.canonM (opsP hc.P) (Ml.columnsM L order) n).1) := by
 have hv1 := hL.one
 have hm1 := hmd.one
 have hvc := QG hv1
 have hlen := hc.mv.len
 have hR := hc.rl
 have hpl := hU.len
 have hol := hU.len2
 obtain ⟨rs, hsl2, hrl, hrow⟩ := hL.row
 refine QC Tryz.func21 rfl rfl (Qc (Qb [0,1,2] rfl (BXA rfl wu rfl rfl ?_)))
 intro cb w1 hE1 hB hcb
 refine AL rfl wu rfl QcG ?_
 intro rb w2 hE2 hC hrb
 replace hB := hB.ext hE2
 refine Qi rfl rfl (Qd (Qa (Qc (Qc ?_))))
 have hE := hE1.trans hE2
 have hz1 := hE1.size
 refine Qb [0,1,2] rfl (Vw rfl (ldA rfl ZE hB) (C rfl wu rfl rfl Tryz.call16 (JK p M mo v md n L _ hc.ok (hmd.ext hE) (hL.ext hE) hc.mv hc.can hc.h1 hc.h2) ?_))
 rintro _ w3 hE3 rfl
 replace hB := hB.ext hE3
 replace hC := hC.ext hE3
 replace hE := hE.trans hE3
 refine Qi rfl rfl (Qd (Qa (Qc (Qb [0,1] rfl (mvV rfl rfl (QH rfl rfl rfl (Qd (Qa (Qo rfl (rfl) (Qe (Qa (Qc (Qc (Qb [0,1,2,3] rfl (mvV rfl rfl ?_)))))))))))))))
 refine C rfl wu rfl rfl Tryz.call40 (sqValues pv pl _ (hp.ext hE)) ?_
 rintro _ w4 hE4 ⟨sb, rfl, hS, hsb⟩
 replace hB := hB.ext hE4
 replace hC := hC.ext hE4
 replace hE := hE.trans hE4
 refine C rfl wu rfl rfl Tryz.call39 (sqSorted pv pl sb _ (hp.ext hE) hS (by omega)) ?_
 rintro sv w5 hE5 ⟨S, hSp, hSz, hSo⟩
 replace hB := hB.ext hE5
 replace hC := hC.ext hE5
 replace hE := hE.trans hE5
 refine Qi rfl rfl (Qd (Qa (Qc ?_)))
 have hSa := Qdu hU hSp hSz
 refine Qb [0,1,2,3,4,5,6,7,8,9,10,11] rfl (mvV rfl rfl (Vw rfl (Zk rfl Qy (hp.ext hE)) (Qx rfl rfl Za (Vw rfl (ldB rfl na3 hB) (QH rfl rfl rfl (mvV rfl rfl (KB 28 false rfl (decide_eq_false (by omega)) (Vg rfl rfl rfl (mv rfl) (Vg rfl rfl rfl (fad rfl Za) ?_)))))))))
 refine Vg rfl rfl rfl (ldB rfl na3 hB) (C rfl (wg rfl rfl) rfl rfl Tryz.call41 (mdSet sv S n _ (OwnI.ints hSo) hSa) ?_)
 rintro _ w6 hE6 rfl
 replace hB := hB.ext hE6
 replace hC := hC.ext hE6
 replace hE := hE.trans hE6
 refine Vg rfl rfl rfl (notB rfl) (pkV rfl rfl rfl (Qd (Qa (Qo rfl (rfl) (Qe (Qa (Qc ?_)))))))
 have hz6 := hE.size
 have hlC6 := hC.lt
 refine Qb [0,1,2,3,4] rfl (Qx rfl rfl Za (Vw rfl (ldB rfl na3 hB) (Vw rfl (bld rfl (bd80_0 (.int .i64 n) rfl)) (AL rfl wu rfl Qbp ?_))))
 intro ob w7 hE7 hO hob
 refine STB (vs := [.int .i64 n, .slice none 0 0]) (cs' := [.int .i64 n, .slice none 0 0]) rfl wu rfl rfl rfl Kc nofun (by assumption) (by first | exact oc2 | exact oc3 | exact oc5 | (simp [Value.oneCell']; done)) rfl rfl rfl ?_
 intro w8 hg8 hX8 hO8
 refine Qd (Qa (Qc (Qc ?_)))
 have hE8 := hX8 w6 hob hE7
 refine Qb [0,1,2,3] rfl (Qx rfl rfl ZI (Vw rfl (ldB rfl ZC (hB.ext hE8)) (Vw rfl (ZD rfl QS ((hsl2.ext hE).ext hE8)) (mvV rfl rfl (Qd (Qa (Qf ?_)))))))
 have hlO := hO8.lt
 refine Qu (fun s : Nat × Value × List Value => [(1, pv), (2, .pointer (some ⟨cb, 0, none⟩)), (4, .pointer (some ⟨rb, 0, none⟩)), (8, .pointer (some ⟨ob, 0, none⟩)), (40, v), (41, .int .i64 rs.length), (42, .int .i64 s.1)])
  (fun s w' => s.1 ≤ L.length ∧ Ext w6 w' ∧ w8.heap.size ≤ w'.heap.size ∧ Blk w' ob 80 #[.int .i64 n, s.2.1] ∧ OM w8.heap.size w' s.2.1 22 3 s.2.2 (Ml.columnsM (L.take s.1) order)) (fun s => L.length - s.1) (0, .slice none 0 0, []) ⟨rfl, rfl, rfl, rfl, rfl, rfl, rfl, trivial⟩ ⟨by omega, hE8, Nat.le_refl _, hO8, OM.nil _ _ _ _⟩ ?_
 clear hO8 hO
 rintro ⟨i, ov, rws⟩ wi ⟨i1, hEi, hzi, hOi, hom⟩
 dsimp only at i1 hEi hzi hOi hom
 have hEwi := hE.trans hEi
 try dsimp only
 refine Qc (Qb [0] rfl (Qz rfl rfl rfl (Qd (Qa (Qc (Qq rfl ?_ ?_))))))
 ·intro hc2
  simp at hc2
  obtain ⟨r, hri, hrr⟩ := hrow i (by omega)
  have hrlen := hR.get (i := i) (by omega)
  have hml2 : (Ml.columnsM (L.take i) order).length ≤ L.length := by simp [Ml.columnsM]; omega
  refine Qe (Qa (Qc (Qf (Qc (Qb [0,1,2] rfl (Vw rfl (iad rfl rfl QS (hsl2.ext hEwi) (by omega) (by omega)) (Vw rfl (ldE rfl Zl (hsl2.ext hEwi) (by rw [Int.toNat_natCast]; exact hri) (Ext.refl _)) (Qi rfl rfl (Qd (Qa (Qc (Qb [0,1,2,3] rfl (Qx rfl rfl Za (Vw rfl (ldB rfl na3 (hB.ext hEi)) (MKI (n := n) rfl wu rfl rfl Qy ?_)))))))))))))))
  intro xv wa hEa hxa hxi hxb
  refine Qi rfl rfl (Qd (Qa (Qc (Qc ?_))))
  have hx0 : OwnI wi.heap.size wa xv 3 (tab n fun t => if gi order t < (0 : Nat) then gi (L.getD i []) (gi order t) else 0) := by
   have e : ∀ t, t < n → (if gi order t < ((0 : Nat) : Int) then gi (L.getD i []) (gi order t) else 0) = 0 := fun t ht => if_neg (by have := (hU.o t ht).1; omega)
   rw [QB e]
   exact hxa
  refine Qb [0,1,2] rfl (mvV rfl rfl (Vw rfl (Zk rfl Qy ((hp.ext hEwi).ext hEa)) (mvV rfl rfl (Qd (Qa (Qf ?_))))))
  refine Qu (fun k : Nat => [(1, pv), (2, .pointer (some ⟨cb, 0, none⟩)), (4, .pointer (some ⟨rb, 0, none⟩)), (8, .pointer (some ⟨ob, 0, none⟩)), (10, r), (11, xv), (40, v), (41, .int .i64 rs.length), (42, .int .i64 i), (49, pv), (50, .int .i64 pl.length), (51, .int .i64 k)])
   (fun k w' => k ≤ pl.length ∧ Ext wi w' ∧ OwnI wi.heap.size w' xv 3 (tab n fun t => if gi order t < k then gi (L.getD i []) (gi order t) else 0)) (fun k => pl.length - k) 0 ⟨rfl, rfl, rfl, rfl, rfl, rfl, rfl, rfl, rfl, rfl, rfl, rfl, trivial⟩ ⟨by omega, hEa, hx0⟩ ?_
  clear hxa hxi hEa hx0
  rintro k wk ⟨k1, hEk, hxo⟩
  have hpk := (hp.ext hEwi).ext hEk
  have hrk := hrr.ext (hEwi.trans hEk)
  have hxi := OwnI.ints hxo
  try dsimp only
  refine Qc (Qb [0] rfl (Qz rfl rfl rfl (Qd (Qa (Qc (Qq rfl ?_ ?_))))))
  ·intro hk
   simp at hk
   obtain ⟨u1, u2, u3⟩ := hU.p k (by omega)
   obtain ⟨y, hy⟩ : ∃ y : Nat, gi pl k = y := ⟨(gi pl k).toNat, by omega⟩
   rw [hy] at u1 u2 u3
   refine Qe (Qa (Qc (Qf (Qc (Qb [0,1,2,3,4] rfl (mvV rfl rfl (Vw rfl (QP rfl rfl Qy hpk (by omega) (by omega)) (Vw rfl (ldI rfl na3 hpk (Ext.refl _) (by omega) (by omega)) (Qi rfl rfl (Qi rfl rfl (Qd (Qa ?_))))))))))))
   rw [hy]
   refine Qb [0,1,2,3,4,5,6,7] rfl (mvV rfl rfl (mvV rfl rfl (mvV rfl rfl (mvV rfl rfl (Vw rfl (QP rfl rfl Qy hrk (by omega) (by omega)) (Vw rfl (ldI rfl na3 hrk (Ext.refl _) (by omega) (by omega)) (Vw rfl (QP rfl rfl Qy hxi (by omega) (by rw [Qp]; omega)) (STI rfl wu rfl rfl sz3 nofun ?_ (ho := hxo) (h0 := by omega) (h1 := by rw [Qp]; omega)))))))))
   intro wl hgl hXl hOl hIl
   refine Qd (Qg (Qa (Qb [0,1] rfl (Qw rfl rfl rfl (mvV rfl rfl (Qd (Qj (k + 1) ⟨rfl, rfl, rfl, rfl, rfl, rfl, rfl, rfl, rfl, rfl, rfl, rfl, trivial⟩ ⟨by omega, hXl wi (Nat.le_refl _) hEk, ?_⟩ (by omega))))))))
   rw [ZS] at hOl
   have e : ∀ t, t < n → (if t = ((y : Nat) : Int).toNat then gi (L.getD i []) k else if gi order t < k then gi (L.getD i []) (gi order t) else 0) = if gi order t < ((k + 1 : Nat) : Int) then gi (L.getD i []) (gi order t) else 0 := fun t ht => by
    obtain ⟨o1, o2, o3⟩ := hU.o t ht
    rw [Int.toNat_natCast]
    by_cases e : t = y
    ·rw [if_pos e, e, u3, if_pos (by omega)]
    ·have hne : gi order t ≠ k := fun h => e (by rw [h, hy] at o3; omega)
     rw [if_neg e]
     by_cases h : gi order t < k
     ·rw [if_pos h, if_pos (by omega)]
     ·rw [if_neg h, if_neg (by omega)]
   rw [QB e] at hOl
   exact hOl
  ·intro hk
   simp at hk
   obtain rfl : k = pl.length := by omega
   have ex : (tab n fun t => if gi order t < (pl.length : Int) then gi (L.getD i []) (gi order t) else 0) = order.map fun j => gi (L.getD i []) j := by
    refine List.ext_getElem (by simp [Qp, hol]) fun j h1 h2 => ?_
    rw [Qp] at h1
    have h3 := Zb (f := fun t => if gi order t < (pl.length : Int) then gi (L.getD i []) (gi order t) else (0 : Int)) h1
    rw [List.getElem?_eq_getElem (by rw [Qp]; exact h1)] at h3
    rw [Option.some.inj h3, if_pos (by have := (hU.o j h1).2.1; omega), List.getElem_map]
    simp [gi, List.getD_eq_getElem?_getD, show j < order.length by omega]
   rw [ex] at hxo
   have hbk := hom.bk
   have hzk := hEk.size
   refine Qt (Ql (Qm (Qh (Qa (Qb [0,1,2,3,4,5,6] rfl (Qx rfl rfl Zg (Vw rfl (ldB rfl ZC (hOi.ext hEk)) (mvV rfl rfl (BS (us := [xv]) rfl wu rfl rfl rfl rfl QS (by have := (OwnI.ints hxo).one; intro u hu; rw [List.mem_singleton.1 hu]; exact this) ?_)))))))))
   intro tv wm hEm htv htb
   replace hom := (hom.ext hEk).ext hEm
   have hOm := (hOi.ext hEk).ext hEm
   have hzm := hEm.size
   refine APOM (w1 := wi) rfl wu rfl rfl rfl QS nofun hom htv.sl (OwnI.ext hxo hEm) (fun k hk => (hbk k hk).2) (Nat.le_refl _) (by omega) (by omega) (by omega) ?_
   intro ov2 wn hgn homn hbn
   replace hgn : wm.grownBy wn ov.ownBlock := hgn
   refine Qx rfl rfl Zg ?_
   have hOn : Blk wn ob 80 #[.int .i64 n, ov] := hOm.grown hgn (fun e => by have := (hbk ob (QN.2 (.inl e))).1; omega)
   have h21 := homn.own.sl.one
   refine STB (k := 1) (n := 1) (vs := [ov2]) (cs := [.int .i64 n, ov]) (cs' := [.int .i64 n, ov2]) rfl wu rfl rfl (QG h21) sv25 nofun hOn (by intro v hv; simp only [List.mem_cons, List.not_mem_nil, or_false] at hv; rcases hv with rfl; exact h21) rfl rfl rfl ?_
   intro we hge hXe hOe
   refine Qd (Qg (Qa (Qb [0,1] rfl (Qw rfl rfl rfl (mvV rfl rfl (Qd (Qj (i + 1, ov2, rws ++ [xv]) ⟨rfl, rfl, rfl, rfl, rfl, rfl, rfl, trivial⟩ ⟨by dsimp only; omega, hXe w6 hob (((hEi.trans hEk).trans hEm).grown hgn hom.own hE8.size), by have := hgn.size; have := hge.size; omega, hOe, ?_⟩ (by dsimp only; omega))))))))
   dsimp only
   rw [Ml.columnsM_step (by omega)]
   exact homn.gr (X := [ob]) (Gr.of_grown hge (fun j e => by simp [Option.some.inj e])) (fun k hk e => by have := (homn.bk k hk).1; have := List.mem_singleton.1 e; omega)
 ·intro hc2
  simp at hc2
  obtain rfl : i = L.length := by omega
  rw [List.take_length] at hom
  have hMV2 : MV hc.P n (Ml.columnsM L order) := by
   have := MV.cols hc.mv (set := order) (by omega) hU.memo
   rw [hol] at this
   exact this
  have hzE := hEwi.size
  refine Qt (Ql (Qm (Qh (Qa (Qc (Qb [0,1,2,3,4,5,6,7] rfl (Qx rfl rfl Jk (Vw rfl (ldA rfl Zr (hB.ext hEi)) (Vw rfl (ldA rfl JV hOi) (C rfl wu rfl rfl Tryz.call42 (cdNew p M mo ov md n (Ml.columnsM L order) _ hc.ok (hmd.ext hEwi) hml hom.llb.ll hMV2 hc.h1 hc.h2) ?_))))))))))
  rintro _ w9 hE9 ⟨mo', lv, rfl, hmo', hlv⟩
  refine QI rfl rfl rfl (QI rfl rfl rfl ?_)
  have hm5 := (OwnI.ints hmo').one
  have hl5 := hlv.one
  refine STB (vs := [.int .i64 p, .int .i64 M, mo', .int .i64 n, lv]) (cs' := [.int .i64 p, .int .i64 M, mo', .int .i64 n, lv]) rfl wu rfl rfl rfl Qb1 nofun ((hC.ext hEi).ext hE9) oc5 rfl rfl rfl ?_
  intro wz hgz hXz hCz
  refine Qi rfl rfl (Qd (Qa (Qs ?_)))
  have hGz : Gr [rb] w9 wz := Gr.of_grown hgz (fun k hk => by simp [Option.some.inj hk])
  have hrbi : rb < wi.heap.size := (hC.ext hEi).lt
  refine QK rfl rfl rfl ZE hCz rfl ?_
  exact ⟨hXz w (by omega) (hEwi.trans hE9), mo', lv, rfl, Own.mono (Own.gr hmo' hGz (fun k hk e => by have := (Own.lt hmo' k hk).1; have := List.mem_singleton.1 e; omega)) hzE, (hlv.gr hGz (fun k hk => by rw [List.mem_singleton.1 hk]; exact hrbi)).mono hzE⟩
end Go.Proofs.YteheedbhcfllfaaGreatDoor
namespace Go.Ml
open Go.Pl
variable {n : Nat}
theorem gi_el {l : List Int} {i : Nat} (h : i < l.length) : gi l i = l[i] := by simp [gi, List.getD_eq_getElem?_getD, h]
theorem OrdOk.nodup {l : List Int} (h : OrdOk n l) : l.Nodup := by
 rw [List.nodup_iff_pairwise_ne, List.pairwise_iff_getElem]
 intro i j hi hj hij e
 have := Jg.1 (h.new j hj)
 rw [gi_el hj, ← e] at this
 exact this (List.mem_take_iff_getElem.2 ⟨i, by omega, rfl⟩)
theorem OrdOk.mem {l : List Int} (h : OrdOk n l) (hn : n < 8) {y : Nat} (hy : y < n) : (y : Int) ∈ l := by
 rw [← mskL_bit (fun x hx => (h.lo x hx).1)]
 have hf := h.full hn
 have hlt := h.take_lt l.length
 rw [List.take_length] at hlt
 have key : ∀ n : Nat, n < 8 → ∀ y : Nat, y < n → (2 ^ n - 1) / 2 ^ y % 2 = 1 := by decide +kernel
 have := key n hn y hy
 rw [show 2 ^ n - 1 = mskL l by omega] at this
 exact this
def posL (n : Nat) (l : List Int) : List Int := tab n fun y => ((l.idxOf (y : Int) : Nat) : Int)
theorem OrdOk.undo {l : List Int} (h : OrdOk n l) (hn : n < 8) : Undo n l (posL n l) := by
 have hg : ∀ x : Nat, x < n → gi (posL n l) x = ((l.idxOf (x : Int) : Nat) : Int) := fun x hx => by rw [posL, Zw (by omega) (by omega), Int.toNat_natCast]
 have hi : ∀ x : Nat, x < n → l.idxOf (x : Int) < l.length := fun x hx => List.idxOf_lt_length_iff.2 (h.mem hn hx)
 refine ⟨Qp _ _, h.len, fun x hx => ?_, fun x hx => ?_⟩
 ·have h1 := hi x hx
  have h2 := h.len
  rw [hg x hx]
  refine ⟨by omega, by omega, ?_⟩
  rw [gi_el h1]
  exact List.getElem_idxOf h1
 ·have h1 : x < l.length := by rw [h.len]; exact hx
  obtain ⟨g1, g2⟩ := h.get h1
  refine ⟨g1, g2, ?_⟩
  obtain ⟨y, hy⟩ : ∃ y : Nat, gi l x = y := ⟨(gi l x).toNat, by omega⟩
  rw [hy, hg y (by omega), ← hy, gi_el h1, h.nodup.idxOf_getElem x h1]
end Go.Ml
namespace Go.Proofs.YteheedbhcfllfaaGreatDoor
open Go Go.Sx Go.Pl Go.RowKit Go.Fd Go.Alg
set_option maxRecDepth 10000 in
theorem orCheck (p M : Int) (mo v : Value) (md : List Int) (n : Nat) (L : List (List Int)) (ov tv : Value) (l t : List Int) (w : World) (hc : CdOk p M md n L) (hn : n ≤ 7) (hmd : Ints w mo md) (hL : LL w v L) (ho : Ints w ov l) (ht : Ints w tv t) (hl : Ml.OrdOk n l) (hT : Ml.TabTo (opsP hc.P) L n (2 ^ n) t) (hw : Ml.wdL (opsP hc.P) L n l l.length = gi t ((2 ^ n - 1 : Nat) : Int)) :
  Calls Tryz.prog 7 #[.agg #[.int .i64 p, .int .i64 M, mo, .int .i64 n, v], ov, tv] w (RetX w fun r _ => r = .int .i64 0) := by
 have hv1 := hL.one
 have hm1 := hmd.one
 have hlen := hT.len
 obtain ⟨Q, hQ⟩ : ∃ Q : Nat, Q = 2 ^ n := ⟨_, rfl⟩
 have h2p : 0 < Q := hQ ▸ Nat.pow_pos (by decide)
 have h2n : Q ≤ 128 := hQ ▸ Nat.pow_le_pow_right (by decide) hn
 rw [← hQ] at hlen hw
 refine QT Tryz.func7 rfl rfl (Qc (Qb [0,1] rfl (BXA rfl wu rfl rfl ?_)))
 intro cb w1 hE hB hcb
 refine Qi rfl rfl (Qd (Qa (Qc (Qc (Qb [0,1,2] rfl (Vw rfl (ldA rfl ZE hB) (C rfl wu rfl rfl Tryz.call16 (JK p M mo v md n L _ hc.ok (hmd.ext hE) (hL.ext hE) hc.mv hc.can hc.h1 hc.h2) ?_)))))))
 rintro _ w2 hE2 rfl
 replace hB := hB.ext hE2
 replace hE := hE.trans hE2
 refine Qi rfl rfl (Qd (Qa (Qc (Qb [0,1] rfl (mvV rfl rfl (QH rfl rfl rfl (Qd (Qa (Qo rfl (rfl) (Qe (Qa (Qc (Qc (Qb [0,1,2] rfl (Qx rfl rfl Za ?_)))))))))))))))
 refine Vw rfl (ldB rfl na3 hB) (ZA rfl rfl rfl (Qd (Qa (Qo rfl (by simp; omega) (Qe (Qa (Qc (Qc (Qb [0,1,2,3] rfl (Vw rfl (ldA rfl ZE hB) (mvV rfl rfl (C rfl wu rfl rfl Tryz.call18 (Kz p M mo v md n L ov l _ hc (hmd.ext hE) (hL.ext hE) (ho.ext hE)) ?_))))))))))))
 intro r w3 hE3 hr
 replace hB := hB.ext hE3
 replace hE := hE.trans hE3
 obtain ⟨rfl, _⟩ := hr.resolve_right (fun h => h.2 hl)
 refine Qi rfl rfl (Qd (Qa (Qc (Qb [0,1] rfl (mvV rfl rfl (QH rfl rfl rfl (Qd (Qa (Qo rfl (rfl) (Qe (Qa (Qc (Qc (Qb [0,1,2,3,4,5] rfl (mvV rfl rfl ?_)))))))))))))))
 refine Vw rfl (Zk rfl Qy (ht.ext hE)) (Qx rfl rfl Za (Vw rfl (ldB rfl na3 hB) (Vw rfl (shlN K64.i rfl rfl (by omega)) (QH rfl rfl rfl (Qd (Qa (Qo rfl (by simp [hlen, hQ]) (Qe (Qa (Qc (Qc (Qb [0,1,2,3,4,5,6] rfl (Vw rfl (ldA rfl ZE hB) ?_)))))))))))))
 refine C rfl wu rfl rfl Tryz.call17 (Qc2 p M mo v md n L _ hc hn (hmd.ext hE) (hL.ext hE)) ?_
 rintro _ w4 hE4 ⟨dv, tv2, t2, rfl, hd, ht2, hT2⟩
 replace hB := hB.ext hE4
 replace hE := hE.trans hE4
 refine mvV rfl rfl (QI rfl rfl rfl (QI rfl rfl rfl (Qi rfl rfl (Qi rfl rfl (Qd (Qa (Qc ?_)))))))
 obtain rfl := hT2.uniq hT
 have hcast : (t2.length : Int) - 1 = ((Q - 1 : Nat) : Int) := by omega
 have ht2i := OwnI.ints ht2
 have htE := ht.ext hE
 refine QA QM [0,1,2,3,4,5,6,7,8,9,10,11,12,13,14,15] (by kernel_rfl) ?_
 intro w5 hd5 _
 replace hE := hE.trans hd5
 replace hB := hB.ext hd5
 replace ht2i := ht2i.ext hd5
 replace htE := htE.ext hd5
 refine mvV rfl rfl (mvV rfl rfl (C rfl wu rfl rfl Tryz.call19 (sEqual tv tv2 t2 t2 _ htE ht2i) ?_))
 rintro _ w6 hE6 rfl
 replace hB := hB.ext hE6
 replace hE := hE.trans hE6
 replace htE := htE.ext hE6
 refine ZW rfl rfl (mvV rfl rfl (KB 40 false rfl (by simp) (Vg rfl rfl rfl (mv rfl) (Vg rfl rfl rfl (mv rfl) (Vg rfl rfl rfl (Zk rfl Qy htE) (Vg rfl rfl rfl (subI rfl rfl) ?_))))))
 rw [hcast]
 refine Vg rfl rfl rfl (QP rfl rfl Qy htE (by omega) (by omega)) (Vg rfl rfl rfl (ldI rfl na3 htE (Ext.refl _) (by omega) (by omega)) (Vg rfl rfl rfl (ldA rfl ZE hB) (Vg rfl rfl rfl (mv rfl) (C rfl (wg rfl rfl) rfl rfl Tryz.call20 (orWidth p M mo v md n L ov l _ hc hn (hmd.ext hE) (hL.ext hE) (ho.ext hE) hl) ?_))))
 rintro _ w7 hE7 rfl
 replace hE := hE.trans hE7
 refine Vg rfl rfl rfl (neqI rfl rfl) (pkV rfl rfl rfl (Qd (Qa (Qo rfl (by simp [hw]) (Qe (Qa (Qc (Qb [0] rfl (Qi rfl rfl (Qd (Qa (Qs (Qk rfl rfl ?_)))))))))))))
 exact ⟨hE, rfl⟩
set_option maxRecDepth 10000 in
theorem orReorder (p M : Int) (mo v : Value) (md : List Int) (n : Nat) (L : List (List Int)) (ov : Value) (l : List Int) (w : World) (hc : CdOk p M md n L) (hml : md.length ≤ 1000000) (hn : n ≤ 7) (hmd : Ints w mo md) (hL : LL w v L) (ho : Ints w ov l) (hl : Ml.OrdOk n l) :
  Calls Tryz.prog 9 #[.agg #[.int .i64 p, .int .i64 M, mo, .int .i64 n, v], ov] w (RetX w fun r w' => ∃ mo' lv, r = .tuple #[.agg #[.int .i64 p, .int .i64 M, mo', .int .i64 n, lv], .int .i64 0] ∧ OwnI w.heap.size w' mo' 3 md ∧ LLB w.heap.size w' lv (Ml.canonM (opsP hc.P) (Ml.columnsM L l) n).1) := by
 have hv1 := hL.one
 have hm1 := hmd.one
 have hU := hl.undo (show n < 8 by omega)
 have hll := hl.len
 refine QC Tryz.func9 rfl rfl (Qc (Qb [0,1,2] rfl (BXA rfl wu rfl rfl ?_)))
 intro cb w1 hE1 hB hcb
 refine AL rfl wu rfl QcG ?_
 intro rb w2 hE2 hC hrb
 replace hB := hB.ext hE2
 refine Qi rfl rfl (Qd (Qa (Qc (Qc ?_))))
 have hE := hE1.trans hE2
 have hz1 := hE1.size
 refine Qb [0,1,2,3] rfl (Vw rfl (ldA rfl ZE hB) (mvV rfl rfl (C rfl wu rfl rfl Tryz.call18 (Kz p M mo v md n L ov l _ hc (hmd.ext hE) (hL.ext hE) (ho.ext hE)) ?_)))
 intro r w3 hE3 hr
 replace hB := hB.ext hE3
 replace hC := hC.ext hE3
 replace hE := hE.trans hE3
 obtain ⟨rfl, _⟩ := hr.resolve_right (fun h => h.2 hl)
 refine Qi rfl rfl (Qd (Qa (Qc (Qb [0,1] rfl (mvV rfl rfl (QH rfl rfl rfl (Qd (Qa (Qo rfl (rfl) (Qe (Qa (Qc (Qb [0,1,2,3] rfl (Qx rfl rfl Za ?_))))))))))))))
 refine Vw rfl (ldB rfl na3 hB) (MKI (n := n) rfl wu rfl rfl Qy ?_)
 intro pv w4 hE4 hp hi hpb
 refine Qi rfl rfl (Qd (Qa (Qc (Qc ?_))))
 have hp0 : OwnI w3.heap.size w4 pv 3 (tab n fun y => if l.idxOf (y : Int) < 0 then ((l.idxOf (y : Int) : Nat) : Int) else 0) := hp
 refine Qb [0,1,2] rfl (mvV rfl rfl (Vw rfl (Zk rfl Qy ((ho.ext hE).ext hE4)) (mvV rfl rfl (Qd (Qa (Qf ?_))))))
 refine Qu (fun i : Nat => [(2, .pointer (some ⟨cb, 0, none⟩)), (4, .pointer (some ⟨rb, 0, none⟩)), (7, pv), (20, ov), (21, .int .i64 l.length), (22, .int .i64 i)])
  (fun i w' => i ≤ l.length ∧ Ext w3 w' ∧ OwnI w3.heap.size w' pv 3 (tab n fun y => if l.idxOf (y : Int) < i then ((l.idxOf (y : Int) : Nat) : Int) else 0)) (fun i => l.length - i) 0 ⟨rfl, rfl, rfl, rfl, rfl, rfl, trivial⟩ ⟨by omega, hE4, hp0⟩ ?_
 clear hp hp0 hi hE4
 rintro i w5 ⟨i1, hX, hp⟩
 have hoi := (ho.ext hE).ext hX
 try dsimp only
 refine Qc (Qb [0] rfl (Qz rfl rfl rfl (Qd (Qa (Qc (Qq rfl ?_ ?_))))))
 ·intro hi
  simp at hi
  obtain ⟨g1, g2⟩ := hl.get hi
  obtain ⟨y, hy⟩ : ∃ y : Nat, gi l i = y := ⟨(gi l i).toNat, by omega⟩
  have hyi : l.idxOf (y : Int) = i := by
   rw [← hy, Ml.gi_el hi]
   exact hl.nodup.idxOf_getElem i hi
  refine Qe (Qa (Qc (Qf (Qc (Qb [0,1,2,3,4] rfl (mvV rfl rfl (Vw rfl (QP rfl rfl Qy hoi (by omega) (by omega)) (Vw rfl (ldI rfl na3 hoi (Ext.refl _) (by omega) (by omega)) (Qi rfl rfl (Qi rfl rfl (Qd (Qa ?_))))))))))))
  rw [hy]
  refine Qb [0,1,2,3,4] rfl (mvV rfl rfl (mvV rfl rfl (mvV rfl rfl (Vw rfl (QP rfl rfl Qy (OwnI.ints hp) (by omega) (by rw [Qp]; omega)) (STI rfl wu rfl rfl sz3 nofun ?_ (ho := hp) (h0 := by omega) (h1 := by rw [Qp]; omega))))))
  intro w6 hg6 hX6 ho6 hi6
  rw [ZS] at ho6
  refine Qd (Qg (Qa (Qb [0,1] rfl (Qw rfl rfl rfl (mvV rfl rfl (Qd ?_))))))
  have e : ∀ t, t < n → (if t = ((y : Nat) : Int).toNat then (i : Int) else if l.idxOf (t : Int) < i then ((l.idxOf (t : Int) : Nat) : Int) else 0) = if l.idxOf (t : Int) < i + 1 then ((l.idxOf (t : Int) : Nat) : Int) else 0 := fun t ht => by
   rw [Int.toNat_natCast]
   by_cases e : t = y
   ·rw [if_pos e, e, hyi, if_pos (by omega)]
   ·have hne : l.idxOf (t : Int) ≠ i := fun h => e (by
     have h1 : l.idxOf (t : Int) < l.length := by omega
     have h2 := List.getElem_idxOf h1
     simp only [h] at h2
     rw [← Ml.gi_el hi, hy] at h2
     omega)
    rw [if_neg e]
    by_cases h : l.idxOf (t : Int) < i
    ·rw [if_pos h, if_pos (by omega)]
    ·rw [if_neg h, if_neg (by omega)]
  rw [QB e] at ho6
  exact Qj (i + 1) ⟨rfl, rfl, rfl, rfl, rfl, rfl, trivial⟩ ⟨by omega, hX6 w3 (Nat.le_refl _) hX, ho6⟩ (by omega)
 ·intro hi
  simp at hi
  obtain rfl : i = l.length := by omega
  have e : ∀ y, y < n → (if l.idxOf (y : Int) < l.length then ((l.idxOf (y : Int) : Nat) : Int) else 0) = ((l.idxOf (y : Int) : Nat) : Int) := fun y hy => if_pos (List.idxOf_lt_length_iff.2 (hl.mem (by omega) hy))
  rw [QB e] at hp
  have hpi : Ints w5 pv (Ml.posL n l) := OwnI.ints hp
  replace hE := hE.trans hX
  have hzE := hE.size
  refine Qt (Ql (Qm (Qh (Qa (Qc (Qb [0,1,2,3,4,5,6] rfl (Vw rfl (ldA rfl ZE (hB.ext hX)) (mvV rfl rfl (C rfl wu rfl rfl Tryz.call21 (mdPermute p M mo v pv md n L l (Ml.posL n l) _ hc hml (hmd.ext hE) (hL.ext hE) hpi hU hn) ?_)))))))))
  rintro _ w9 hE9 ⟨mo', lv, rfl, hmo', hlv⟩
  refine QI rfl rfl rfl (QI rfl rfl rfl ?_)
  have hm5 := (OwnI.ints hmo').one
  have hl5 := hlv.one
  refine STB (vs := [.int .i64 p, .int .i64 M, mo', .int .i64 n, lv]) (cs' := [.int .i64 p, .int .i64 M, mo', .int .i64 n, lv]) rfl wu rfl rfl rfl Qb1 nofun ((hC.ext hX).ext hE9) oc5 rfl rfl rfl ?_
  intro wz hgz hXz hCz
  refine Qi rfl rfl (Qd (Qa (Qs ?_)))
  have hGz : Gr [rb] w9 wz := Gr.of_grown hgz (fun k hk => by simp [Option.some.inj hk])
  have hrbi : rb < w5.heap.size := (hC.ext hX).lt
  refine QK rfl rfl rfl ZE hCz rfl ?_
  exact ⟨hXz w (by omega) (hE.trans hE9), mo', lv, rfl, Own.mono (Own.gr hmo' hGz (fun k hk e => by have := (Own.lt hmo' k hk).1; have := List.mem_singleton.1 e; omega)) hzE, (hlv.gr hGz (fun k hk => by rw [List.mem_singleton.1 hk]; exact hrbi)).mono hzE⟩
end Go.Proofs.YteheedbhcfllfaaGreatDoor
namespace Go.Fd
open Go.Pl Go.Alg Go.Proofs.YteheedbhcfllfaaGreatDoor
variable {P : FP}
theorem Rr.ind {a n : Nat} {G : Nat → Nat → K P} {pv : Nat → Nat} (h : Rr a n G pv) : Ind a n G := fun x hx i hi => by
 have := h.coef (v := fun _ => 0) (x := x) (fun j hj => (hx j hj).symm) hi
 exact this.symm
theorem Qcu {L : List (List Int)} {l : List Int} {r j : Nat} (hr : r < L.length) (hj : j < l.length) : kM P (Ml.columnsM L l) r j = cvec P L (gi l j) r := by
 rw [kM, cvec]
 congr 1
 simp [Ml.rw, Ml.columnsM, gi, List.getD_eq_getElem?_getD, hr, hj]
theorem Xw {a n : Nat} {M : Nat → Nat → K P} {i j : Nat} (hi : i < a) (hj : j < n) : cvec P (matL P a n M) j i = M i j := by
 rw [cvec, Jo hi, JB hj]
theorem canon_fix (hgen : ∃ g : K P, HasOrder g (n1 P)) {a n : Nat} {M : Nat → Nat → K P} {pv : Nat → Nat} (h : Rr a n M pv) : (Ml.canonM (opsP P) (matL P a n M) n).1 = matL P a n M := by
 obtain ⟨a', M', pv', h1, h2⟩ := Ju hgen a n M
 obtain ⟨_, em⟩ := Red.same (fun e => Ji e) h h2
 rw [h1]
 exact em
theorem matL_in {a n : Nat} {M : Nat → Nat → K P} : ∀ l ∈ matL P a n M, l.length = n ∧ InR P l := fun l hl => by
 obtain ⟨t, ht, rfl⟩ := List.getElem_of_mem hl
 have e : (matL P a n M)[t] = rowL P n (M t) := by simp [matL, tab]
 rw [e]
 refine ⟨QX _ _, fun x hx => ?_⟩
 obtain ⟨j, hj, rfl⟩ := List.getElem_of_mem hx
 have := rowL_all (P := P) n (M t) j hj
 rw [XJ hj] at this
 exact this
theorem QbV : ∀ n : Nat, n < 8 → ∀ m : Nat, m < 2 ^ n → ∀ i : Nat, i < n → (2 ^ n - 1 - m) / 2 ^ i % 2 = 1 - m / 2 ^ i % 2 := by decide +kernel
theorem QbF {p M : Int} {md : List Int} {n : Nat} {L : List (List Int)} (hc : CdOk p M md n L) (hn : n < 8) {l : List Int} (hl : Ml.OrdOk n l) :
  ∃ hc' : CdOk p M md n (Ml.canonM (opsP hc.P) (Ml.columnsM L l) n).1, hc'.P = hc.P ∧ (Ml.canonM (opsP hc.P) (Ml.columnsM L l) n).1.length = L.length ∧
   ∀ X Y : List Int, (∀ x ∈ X, ∃ j : Nat, j < n ∧ (j : Int) ∈ Y ∧ gi l j = x) → (∀ y ∈ Y, ∃ j : Nat, j < n ∧ y = j ∧ gi l j ∈ X) → Ml.rankM (opsP hc.P) (Ml.canonM (opsP hc.P) (Ml.columnsM L l) n).1 Y = Ml.rankM (opsP hc.P) L X := by
 have hgen : ∃ g : K hc.P, HasOrder g (n1 hc.P) := hc.ok.gen
 have hll := hl.len
 have hlo := hl.lo
 have hMA : MV hc.P n (Ml.columnsM L l) := by
  have := MV.cols hc.mv (set := l) (by omega) hlo
  rw [hll] at this
  exact this
 have hAl : (Ml.columnsM L l).length = L.length := by simp [Ml.columnsM]
 have hAR : Ml.RL n (Ml.columnsM L l) := fun r hr => by have := hMA.row r hr; omega
 have hAm := Qcq (P := hc.P) hAR hMA.el
 rw [hAl] at hAm
 obtain ⟨a, G, pv, h1, ham, hRr, hSp⟩ := Ju hgen L.length n (kM hc.P (Ml.columnsM L l))
 rw [← hAm] at h1
 have hcan : (Ml.canonM (opsP hc.P) (Ml.columnsM L l) n).1 = matL hc.P a n G := by rw [h1]
 have hLm := Qcq (P := hc.P) hc.rl hc.inr
 obtain ⟨a0, G0, pv0, g1, g2⟩ := Ju hgen L.length n (kM hc.P L)
 have e0 : matL hc.P a0 n G0 = L := by
  have := hc.can
  rw [show Ml.canonM (opsP (fpOf p M md hc.ok.1.1 hc.ok.1.2.1)) L n = Ml.canonM (opsP hc.P) L n from rfl] at this
  rw [← hLm] at g1
  rw [g1] at this
  exact this
 have ha0 : a0 = L.length := by rw [← e0, QQ]
 subst ha0
 have hk0 : ∀ i j, i < L.length → j < n → G0 i j = kM hc.P L i j := fun i j hi hj => by
  rw [← kM_matL (P := hc.P) (M := G0) hi hj, e0]
 have hindL : Ind L.length n (kM hc.P L) := fun x hx i hi => (Rr.ind g2.2.1) x (fun j hj => by rw [← hx j hj]; exact QO fun t ht => by rw [hk0 t j ht hj]) i hi
 have hU := hl.undo hn
 have hindA : Ind L.length n (kM hc.P (Ml.columnsM L l)) := fun x hx => hindL x fun y hy => by
  obtain ⟨u1, u2, u3⟩ := hU.p y hy
  obtain ⟨j, hj⟩ : ∃ j : Nat, gi (Ml.posL n l) y = j := ⟨(gi (Ml.posL n l) y).toNat, by omega⟩
  rw [hj] at u2 u3
  rw [← hx j (by omega)]
  exact QO fun t ht => by rw [Qcu ht (by omega), u3]; rfl
 have hak : a = L.length := ind_size (KO hgen) (fun e => Ji e) (Rr.ind hRr) hindA (fun i hi => (hSp _).1 (Sp.row hi)) (fun i hi => (hSp _).2 (Sp.row hi))
 have hlen' : (matL hc.P a n G).length = L.length := by rw [QQ, hak]
 have hMV' : MV hc.P n (matL hc.P a n G) := ⟨hc.mv.n0, hc.mv.n1, by rw [hlen']; exact hc.mv.len, fun r hr => by rw [(matL_in r hr).1], fun r hr => (matL_in r hr).2⟩
 have hc' : CdOk p M md n (matL hc.P a n G) := ⟨hc.ok, hMV', canon_fix hgen hRr, hc.h1, hc.h2⟩
 rw [hcan]
 refine ⟨hc', rfl, hlen', fun X Y hXY hYX => ?_⟩
 have hr' : Ml.RL n (matL hc.P a n G) := hc'.rl
 have hin' : ∀ r ∈ matL hc.P a n G, InR hc.P r := hc'.inr
 have hT0 : ∀ i, i < a → ∃ x : Nat → K hc.P, ∀ j, j < n → G i j = sm L.length fun r => x r * kM hc.P (Ml.columnsM L l) r j := fun i hi => (hSp _).1 (Sp.row hi)
 have hS0 : ∀ r, r < L.length → ∃ x : Nat → K hc.P, ∀ j, j < n → kM hc.P (Ml.columnsM L l) r j = sm a fun i => x i * G i j := fun r hr => (hSp _).2 (Sp.row hr)
 obtain ⟨T, hT⟩ : ∃ T : Nat → Nat → K hc.P, ∀ i, i < a → ∀ j, j < n → G i j = sm L.length fun r => T i r * kM hc.P (Ml.columnsM L l) r j := ⟨fun i => if h : i < a then Classical.choose (hT0 i h) else fun _ => 0, fun i hi => by
  dsimp only
  rw [dif_pos hi]
  exact Classical.choose_spec (hT0 i hi)⟩
 obtain ⟨S, hS⟩ : ∃ S : Nat → Nat → K hc.P, ∀ r, r < L.length → ∀ j, j < n → kM hc.P (Ml.columnsM L l) r j = sm a fun i => S r i * G i j := ⟨fun r => if h : r < L.length then Classical.choose (hS0 r h) else fun _ => 0, fun r hr => by
  dsimp only
  rw [dif_pos hr]
  exact Classical.choose_spec (hS0 r hr)⟩
 have hTc : ∀ j, j < n → ∀ i, i < a → ap L.length T (cvec hc.P L (gi l j)) i = G i j := fun j hj i hi => by
  rw [hT i hi j hj]
  exact QO fun r hr => by rw [Qcu hr (by omega)]
 have hSc : ∀ j, j < n → ∀ r, r < L.length → ap a S (cvec hc.P (matL hc.P a n G) j) r = cvec hc.P L (gi l j) r := fun j hj r hr => by
  rw [← Qcu hr (by omega), hS r hr j hj]
  exact QO fun i hi => by rw [Xw hi hj]
 have hST : ∀ j, j < n → ∀ r, r < L.length → ap a S (ap L.length T (cvec hc.P L (gi l j))) r = cvec hc.P L (gi l j) r := fun j hj r hr => by
  rw [← hSc j hj r hr]
  exact QO fun i hi => by rw [hTc j hj i hi, Xw hi hj]
 have hTS : ∀ j, j < n → ∀ i, i < a → ap L.length T (ap a S (cvec hc.P (matL hc.P a n G) j)) i = cvec hc.P (matL hc.P a n G) j i := fun j hj i hi => by
  rw [Xw hi hj, ← hTc j hj i hi]
  exact QO fun r hr => by rw [hSc j hj r hr]
 have hXlo : ∀ x ∈ X, 0 ≤ x ∧ x < (n : Int) := fun x hx => by
  obtain ⟨j, hj, _, rfl⟩ := hXY x hx
  exact hl.get (by omega)
 have hYlo : ∀ y ∈ Y, 0 ≤ y ∧ y < (n : Int) := fun y hy => by
  obtain ⟨j, hj, rfl, _⟩ := hYX y hy
  omega
 have hma : (matL hc.P a n G).length = a := QQ _ _ _
 refine Nat.le_antisymm ?_ ?_
 ·refine rank_le hgen hr' hin' hc.rl hc.inr hYlo hXlo (T := S) (S := T) (fun y hy => ?_) (fun y hy i hi => ?_)
  ·obtain ⟨j, hj, rfl, hx⟩ := hYX y hy
   exact ⟨gi l j, hx, fun i hi => by rw [hma]; exact (hSc j hj i hi).symm⟩
  ·obtain ⟨j, hj, rfl, hx⟩ := hYX y hy
   rw [hma] at hi ⊢
   exact hTS j hj i hi
 ·refine rank_le hgen hc.rl hc.inr hr' hin' hXlo hYlo (T := T) (S := S) (fun x hx => ?_) (fun x hx i hi => ?_)
  ·obtain ⟨j, hj, hy, rfl⟩ := hXY x hx
   exact ⟨j, hy, fun i hi => by rw [hma] at hi; rw [hTc j hj i hi, Xw hi hj]⟩
  ·obtain ⟨j, hj, hy, rfl⟩ := hXY x hx
   rw [hma]
   exact hST j hj i hi
def maxL (p : List Int) : Nat → Int
 | 0 => 0
 | i + 1 => max (maxL p i) (gi p i)
theorem Qcp {l : List Int} {i : Nat} {x : Int} (hi : i ≤ l.length) : x ∈ l.take i ↔ ∃ j : Nat, j < i ∧ gi l j = x := by
 rw [List.mem_take_iff_getElem]
 constructor
 ·rintro ⟨j, hj, rfl⟩
  exact ⟨j, by omega, XJ (by omega)⟩
 ·rintro ⟨j, hj, rfl⟩
  exact ⟨j, by omega, (XJ (by omega)).symm⟩
theorem QdA {p M : Int} {md : List Int} {n : Nat} {L : List (List Int)} (hc : CdOk p M md n L) (hn : n < 8) {l : List Int} (hl : Ml.OrdOk n l) :
  maxL (Ml.profL (opsP hc.P) (Ml.canonM (opsP hc.P) (Ml.columnsM L l) n).1 n) (n + 1) = Ml.wdL (opsP hc.P) L n l l.length := by
 have hgen : ∃ g : K hc.P, HasOrder g (n1 hc.P) := hc.ok.gen
 obtain ⟨hc', _, hlen', hrank⟩ := QbF hc hn hl
 have hll := hl.len
 have hpos : ∀ (j : Nat), j < n → ∃ x : Nat, gi l j = x ∧ x < n := fun j hj => by
  have := hl.get (i := j) (by omega)
  exact ⟨(gi l j).toNat, by omega, by omega⟩
 have hb : ∀ i, i ≤ n → ∀ x : Nat, (Ml.mskL (l.take i) / 2 ^ x % 2 = 1 ↔ ∃ j : Nat, j < i ∧ gi l j = x) := fun i hi x => by
  rw [Ml.mskL_bit (fun y hy => (hl.lo y (List.mem_of_mem_take hy)).1), Qcp (by omega)]
 have hinj : ∀ j j' : Nat, j < n → j' < n → gi l j = gi l j' → j = j' := fun j j' hj hj' e => by
  have h1 := (hl.undo hn).o j hj
  have h2 := (hl.undo hn).o j' hj'
  rw [e, h2.2.2] at h1
  omega
 have hp : ∀ i, i ≤ n → gi (Ml.profL (opsP hc.P) (Ml.canonM (opsP hc.P) (Ml.columnsM L l) n).1 n) i = Ml.dmM (opsP hc.P) L n (Ml.mskL (l.take i)) := fun i hi => by
  rw [Ml.profL, Zw (by omega) (by omega), Int.toNat_natCast, hlen', Ml.dmM, Ml.rkM, Ml.rkM]
  have r1 := hrank (Ml.bitsL n (Ml.mskL (l.take i))) (Ml.spanL 0 i) (fun x hx => by
   obtain ⟨y, hy, hbit, rfl⟩ := Ml.bitsL_mem.1 hx
   obtain ⟨j, hj, e⟩ := (hb i hi y).1 hbit
   exact ⟨j, by omega, Ml.spanL_mem.2 ⟨j, Nat.zero_le _, hj, rfl⟩, e⟩) (fun y hy => by
   obtain ⟨j, _, hj, rfl⟩ := Ml.spanL_mem.1 hy
   obtain ⟨x, hx, hxn⟩ := hpos j (by omega)
   exact ⟨j, by omega, rfl, by rw [hx]; exact Ml.bitsL_mem.2 ⟨x, hxn, (hb i hi x).2 ⟨j, hj, hx⟩, rfl⟩⟩)
  have r2 := hrank (Ml.bitsL n (2 ^ n - 1 - Ml.mskL (l.take i))) (Ml.spanL i n) (fun x hx => by
   obtain ⟨y, hy, hbit, rfl⟩ := Ml.bitsL_mem.1 hx
   rw [QbV n hn _ (hl.take_lt i) y hy] at hbit
   obtain ⟨u1, u2, u3⟩ := (hl.undo hn).p y hy
   obtain ⟨j, hj⟩ : ∃ j : Nat, gi (Ml.posL n l) y = j := ⟨(gi (Ml.posL n l) y).toNat, by omega⟩
   rw [hj] at u2 u3
   refine ⟨j, by omega, Ml.spanL_mem.2 ⟨j, Classical.byContradiction fun h => ?_, by omega, rfl⟩, u3⟩
   have := (hb i hi y).2 ⟨j, by omega, u3⟩
   omega) (fun y hy => by
   obtain ⟨j, hj1, hj2, rfl⟩ := Ml.spanL_mem.1 hy
   obtain ⟨x, hx, hxn⟩ := hpos j hj2
   have h10 := QbV n hn _ (hl.take_lt i) x hxn
   have : ¬ Ml.mskL (l.take i) / 2 ^ x % 2 = 1 := fun h => by
    obtain ⟨j', hj', e⟩ := (hb i hi x).1 h
    have := hinj j j' hj2 (by omega) (by rw [hx, e])
    omega
   exact ⟨j, hj2, rfl, by rw [hx]; exact Ml.bitsL_mem.2 ⟨x, hxn, by rw [h10]; omega, rfl⟩⟩)
  rw [r1, r2]
 have h0 : Ml.dmM (opsP hc.P) L n (Ml.mskL (l.take 0)) ≤ 0 := by
  have e : Ml.rkM (opsP hc.P) L n (Ml.mskL (l.take 0)) = 0 := by
   rw [List.take_zero, Ml.mskL, List.foldl_nil, Ml.rkM, Ml.bitsL_zero n hn]; rfl
  have h2 : Ml.rkM (opsP hc.P) L n (2 ^ n - 1 - Ml.mskL (l.take 0)) ≤ L.length := rank_rows hgen hc.rl hc.inr (fun x hx => by
   obtain ⟨i, hi, _, rfl⟩ := Ml.bitsL_mem.1 hx
   omega)
  rw [Ml.dmM, e]
  omega
 have key : ∀ i, i ≤ n → maxL (Ml.profL (opsP hc.P) (Ml.canonM (opsP hc.P) (Ml.columnsM L l) n).1 n) (i + 1) = Ml.wdL (opsP hc.P) L n l i := by
  intro i
  induction i with
  | zero =>
   intro hi
   rw [maxL, maxL, hp 0 hi, Ml.wdL]
   omega
  | succ i ih =>
   intro hi
   rw [maxL, ih (by omega), hp (i + 1) hi, Ml.wdL]
 rw [key n (Nat.le_refl _), hll]
end Go.Fd
