import Derived.Test.YteheedbhcfllfaaGreatDoorW32
import Derived.Test.YteheedbhcfllfaaGreatDoorW37
import Derived.Test.YteheedbhcfllfaaGreatDoorW42
namespace Go.Proofs.YteheedbhcfllfaaGreatDoor
open Go Go.Sx Go.Pl Go.RowKit Go.Fd Go.Alg
theorem widSplit {r : Value} {x : Int} {A : Prop} (h : (r = .tuple #[.int .i64 x, .int .i64 0] ∧ A) ∨ (r = .tuple #[.int .i64 0, .int .i64 5] ∧ ¬ A)) : ∃ e1 e2 : Int, r = .tuple #[.int .i64 e1, .int .i64 e2] ∧ ((e1 = x ∧ e2 = 0 ∧ A) ∨ (e1 = 0 ∧ e2 = 5 ∧ ¬ A)) := by
 rcases h with ⟨h1, h2⟩ | ⟨h1, h2⟩
 ·exact ⟨_, _, h1, .inl ⟨rfl, rfl, h2⟩⟩
 ·exact ⟨_, _, h1, .inr ⟨rfl, rfl, h2⟩⟩
set_option maxRecDepth 10000 in
theorem Xb (p M : Int) (mo v ov : Value) (md : List Int) (N : Int) (L : List (List Int)) (l : List Int) (w : World) (hmd : Ints w mo md) (hL : LL w v L) (ho : Ints w ov l) :
  Calls Tryz.prog 3 #[.agg #[.int .i64 p, .int .i64 M, mo, .int .i64 N, v], ov] w (RetX w fun r _ => r = .bool true) := by
 have hv1 := hL.one
 have hm1 := hmd.one
 refine QC Tryz.func3 rfl rfl (Qc (Qb [0,1] rfl (BXA rfl wu rfl rfl ?_)))
 intro cb w1 hE hB hcb
 refine Qi rfl rfl (Qd (Qa (Qc (Qc (Qb [0,1] rfl (C rfl wu rfl rfl Tryz.call4 (alvTrue _) ?_))))))
 rintro _ w2 hE2 rfl
 replace hB := hB.ext hE2
 replace hE := hE.trans hE2
 refine ZW rfl rfl (Qd (Qa (Qo rfl (rfl) (Qe (Qa (Qc (Qc (Qb [0,1,2] rfl (Vw rfl (ldA rfl ZE hB) (C rfl wu rfl rfl Tryz.call5 (ftFew p M mo v md N L _ (hmd.ext hE) (hL.ext hE)) ?_))))))))))
 rintro _ w3 hE3 ⟨b, rfl, hb⟩
 replace hB := hB.ext hE3
 replace hE := hE.trans hE3
 refine ZW rfl rfl (Qd (Qa (Qq rfl ?_ ?_)))
 ·intro hf
  refine Qc (Qb [0] rfl (Qi rfl rfl (Qd (Qa (Qs (Qn (Qk rfl rfl ?_)))))))
  exact ⟨hE, rfl⟩
 intro hf
 obtain ⟨n, rfl, hc, hn⟩ := hb (by simpa using hf)
 have hml : md.length ≤ 1000000 := by
  have hS := hc.ok.1
  by_cases h1 : M = 1
  ·rw [hS.2.2.2.2.2.1 h1]; decide
  ·have := (hS.2.2.2.2.2.2 h1).1
   have := hS.2.2.1
   omega
 refine Qe (Qa (Qc (Qb [0,1,2,3,4,5,6,7,8] rfl (Vw rfl (ldA rfl ZE hB) (C rfl wu rfl rfl Tryz.call6 (orBest p M mo v md n L _ hc hn (hmd.ext hE) (hL.ext hE)) ?_)))))
 rintro _ w4 hE4 ⟨bv, tv, bl, t, rfl, hbi, hti, hbo, hT, hbw⟩
 replace hB := hB.ext hE4
 replace hE := hE.trans hE4
 refine mvV rfl rfl (QI rfl rfl rfl (QI rfl rfl rfl (QI rfl rfl rfl (Qi rfl rfl (Qi rfl rfl (Qi rfl rfl (Qd (Qa (Qc (Qc (Qb [0,1,2,3,4,5,6,7,8] rfl (mvV rfl rfl ?_))))))))))))
 refine QH rfl rfl rfl (mvV rfl rfl (KB 32 false rfl (rfl) (Vg rfl rfl rfl (ldA rfl ZE hB) (Vg rfl rfl rfl (mv rfl) (Vg rfl rfl rfl (mv rfl) (C rfl (wg rfl rfl) rfl rfl Tryz.call7 (orCheck p M mo v md n L bv tv bl t _ hc hn (hmd.ext hE) (hL.ext hE) hbi hti hbo hT hbw) ?_))))))
 rintro _ w5 hE5 rfl
 replace hB := hB.ext hE5
 replace hE := hE.trans hE5
 replace hbi := hbi.ext hE5
 refine Vg rfl rfl rfl (neqI rfl rfl) (pkV rfl rfl rfl (Qd (Qa (Qo rfl (rfl) (Qe (Qa (Qc (Qb [0,1,2,3,4,5,6,7] rfl (Vw rfl (ldA rfl ZE hB) (mvV rfl rfl (C rfl wu rfl rfl Tryz.call8 (Qc1 p M mo v md n L bv bl _ hc hn (hmd.ext hE) (hL.ext hE) hbi) ?_)))))))))))
 intro r w6 hE6 hr
 replace hB := hB.ext hE6
 replace hE := hE.trans hE6
 obtain ⟨rfl, _⟩ := hr.resolve_right (fun h => h.2 hbo)
 refine mvV rfl rfl (QI rfl rfl rfl (QI rfl rfl rfl (Qi rfl rfl (Qi rfl rfl (Qd (Qa (Qc (Qb [0,1,2,3,4,5,6,7] rfl (Vw rfl (ldA rfl ZE hB) (mvV rfl rfl (C rfl wu rfl rfl Tryz.call8 (Qc1 p M mo v md n L ov l _ hc hn (hmd.ext hE) (hL.ext hE) (ho.ext hE)) ?_)))))))))))
 intro r2 w7 hE7 hr2
 replace hB := hB.ext hE7
 replace hE := hE.trans hE7
 obtain ⟨e1, e2, rfl, hq⟩ := widSplit hr2
 refine mvV rfl rfl (QI rfl rfl rfl (QI rfl rfl rfl (Qi rfl rfl (Qi rfl rfl (Qd (Qa (Qc (Qc ?_))))))))
 clear hr2
 rcases hq with ⟨rfl, rfl, hlo⟩ | ⟨rfl, rfl, hlo⟩
 rotate_left
 ·skip
  refine Qb [0,1,2,3,4,5] rfl (mvV rfl rfl (QH rfl rfl rfl (mvV rfl rfl (KB 53 false rfl (rfl) (Vg rfl rfl rfl (mv rfl) (Vg rfl rfl rfl (neqI rfl rfl) (pkV rfl rfl rfl (Qd (Qa (QD rfl (rfl) ?_))))))))))
  refine Qc (Qb [0,1,2,3,4,5,6] rfl (mvV rfl rfl (QR rfl rfl rfl (mvV rfl rfl (KB 59 true rfl (rfl) (Vg rfl rfl rfl (mv rfl) (Vg rfl rfl rfl (KU rfl rfl) (pkV rfl rfl rfl (Qi rfl rfl ?_)))))))))
  refine Qd (Qa (Qs (Qn (Qk rfl rfl ?_))))
  exact ⟨hE, rfl⟩
 refine Qb [0,1,2,3,4,5] rfl (mvV rfl rfl (QH rfl rfl rfl (mvV rfl rfl (KB 53 false rfl (rfl) (Vg rfl rfl rfl (mv rfl) (Vg rfl rfl rfl (neqI rfl rfl) (pkV rfl rfl rfl (Qd (Qa (Qo rfl (rfl) ?_))))))))))
 refine Qe (Qa (Qc ?_))
 have hle := hT.best_le (by omega) hlo
 rw [← hbw] at hle
 obtain ⟨hc', hP', _, _⟩ := QbF hc (by omega) hlo
 have hpw := QdA hc (by omega) hlo
 refine Qb [0,1,2,3,4,5,6,7,8] rfl (Vw rfl (ldA rfl ZE hB) (mvV rfl rfl (C rfl wu rfl rfl Tryz.call9 (orReorder p M mo v md n L ov l _ hc hml hn (hmd.ext hE) (hL.ext hE) (ho.ext hE) hlo) ?_)))
 rintro _ w8 hE8 ⟨mo', lv, rfl, hmo', hlv⟩
 have hm5 := (OwnI.ints hmo').one
 have hl5 := hlv.one
 refine mvV rfl rfl (QI rfl rfl rfl (QI rfl rfl rfl (AL rfl wu rfl QcG ?_)))
 intro rb w9 hE9 hR hrb
 refine STB (vs := [.int .i64 p, .int .i64 M, mo', .int .i64 n, lv]) (cs' := [.int .i64 p, .int .i64 M, mo', .int .i64 n, lv]) rfl wu rfl rfl rfl Qb1 nofun hR oc5 rfl rfl rfl ?_
 intro w10 hg10 hX10 hR10
 refine Qi rfl rfl (Qd (Qa (Qc ?_)))
 have hE10 := hX10 w8 hrb hE9
 replace hE := (hE.trans hE8).trans hE10
 have hmo10 := OwnI.ints (OwnI.ext hmo' hE10)
 have hlv10 := (hlv.ext hE10).ll
 refine Qb [0,1,2,3,4,5,6] rfl (Vw rfl (ldA rfl ZE hR10) (C rfl wu rfl rfl Tryz.call10 (trProfile p M mo' lv md n _ _ hc' hmo10 hlv10) ?_))
 rintro _ w11 hE11 ⟨pv, rfl, hpv⟩
 refine mvV rfl rfl (QI rfl rfl rfl (QI rfl rfl rfl (Qi rfl rfl (Qi rfl rfl (Qd (Qa (Qc ?_)))))))
 rw [hP'] at hpv
 replace hE := hE.trans hE11
 have hpi := OwnI.ints hpv
 have hpl : (Ml.profL (opsP hc.P) (Ml.canonM (opsP hc.P) (Ml.columnsM L l) n).1 n).length = n + 1 := Qp _ _
 refine Qb [0] rfl (Qi rfl rfl (Qd (Qa (Qc (Qc (Qb [0,1,2] rfl (mvV rfl rfl (Vw rfl (Zk rfl Qy hpi) (mvV rfl rfl (Qd (Qa (Qf ?_))))))))))))
 rw [hpl]
 refine Qu (fun i : Nat => [(8, .int .i64 (Ml.wdL (opsP hc.P) L n bl bl.length)), (10, .int .i64 (Ml.wdL (opsP hc.P) L n l l.length)), (13, .int .i64 0), (15, .int .i64 0), (16, .int .i64 (maxL (Ml.profL (opsP hc.P) (Ml.canonM (opsP hc.P) (Ml.columnsM L l) n).1 n) i)), (74, pv), (75, .int .i64 (n + 1 : Nat)), (76, .int .i64 i)])
  (fun i w' => i ≤ n + 1 ∧ w' = w11) (fun i => n + 1 - i) 0 ⟨rfl, rfl, rfl, rfl, rfl, rfl, rfl, rfl, trivial⟩ ⟨by omega, rfl⟩ ?_
 rintro i w12 ⟨i1, rfl⟩
 try dsimp only
 refine Qc (Qb [0] rfl (Qz rfl rfl rfl (Qd (Qa (Qc (Qq rfl ?_ ?_))))))
 ·intro hi
  simp at hi
  refine Qe (Qa (Qc (Qf (Qc (Qb [0,1,2] rfl (Vw rfl (QP rfl rfl Qy hpi (by omega) (by rw [hpl]; omega)) (Vw rfl (ldI rfl na3 hpi (Ext.refl _) (by omega) (by rw [hpl]; omega)) (Qi rfl rfl (Qd (Qa (Qb [0,1,2,3] rfl (mvV rfl rfl (mvV rfl rfl (Vw rfl (maxI rfl rfl) ?_))))))))))))))
  refine Qi rfl rfl (Qd (Qg (Qa (Qb [0,1] rfl (Qw rfl rfl rfl (mvV rfl rfl (Qd ?_)))))))
  exact Qj (i + 1) ⟨rfl, rfl, rfl, rfl, rfl, rfl, rfl, rfl, trivial⟩ ⟨by omega, rfl⟩ (by omega)
 ·intro hi
  simp at hi
  obtain rfl : i = n + 1 := by omega
  refine Qt (Ql (Qm (Qh (Qa (Qc ?_)))))
  rw [hpw]
  refine Qb [0,1,2,3,4,5,6,7,8,9,10,11,12,13,14,15,16] rfl (mvV rfl rfl (QR rfl rfl rfl (mvV rfl rfl (KB 86 true rfl (rfl) (Vg rfl rfl rfl (mv rfl) (Vg rfl rfl rfl (KU rfl rfl) (pkV rfl rfl rfl (mvV rfl rfl (KB 90 true rfl (rfl) ?_)))))))))
  refine Vg rfl rfl rfl (mv rfl) (Vg rfl rfl rfl (mv rfl) (Vg rfl rfl rfl (Qas rfl rfl) (pkV rfl rfl rfl (mvV rfl rfl (KB 95 true rfl (decide_eq_true hle) (Vg rfl rfl rfl (mv rfl) (Vg rfl rfl rfl (mv rfl) (Vg rfl rfl rfl (KU rfl rfl) (pkV rfl rfl rfl ?_)))))))))
  refine Qi rfl rfl (Qd (Qa (Qs (Qk rfl rfl ?_))))
  exact ⟨hE, by simp⟩
end Go.Proofs.YteheedbhcfllfaaGreatDoor
