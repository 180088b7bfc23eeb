import Derived.Test.YtcfbigmjjpknfaaGreatDoorW24
import Derived.Test.YtcfbigmjjpknfaaGreatDoorW17
import Derived.Test.YtcfbigmjjpknfaaGreatDoorW10
import Derived.Test.YtcfbigmjjpknfaaGreatDoorW00
import Derived.Test.YtcfbigmjjpknfaaGreatDoorW16
namespace Go.Ml
open Go.Pl
def simR : List (List Int) := [[0, 0, 0, 1, 1, 1, 1], [0, 1, 1, 0, 0, 1, 1], [1, 0, 1, 0, 1, 0, 1]]
def simL (i k : Nat) : List (List Int) := (List.range 3).map fun t => if t < i then simR.getD t [] else if t = i then (simR.getD t []).take k else []
theorem simL_row : ∀ i : Nat, i < 3 → simL i 7 = simL (i + 1) 0 := by decide
theorem simL_step : ∀ i : Nat, i < 3 → ∀ k : Nat, k < 7 → simL i (k + 1) = (simL i k).set i ((simL i k).getD i [] ++ [gi (pts.getD k []) i]) := by decide
theorem simL_len (i k : Nat) : (simL i k).length = 3 := by simp [simL]
theorem simL_small : ∀ i : Nat, i < 3 → ∀ k : Nat, k < 7 → ((simL i k).getD i []).length ≤ 7 := by decide
theorem pts_len : ∀ k : Nat, k < 7 → (pts.getD k []).length = 3 := by decide
end Go.Ml
namespace Go.Proofs.YtcfbigmjjpknfaaGreatDoor
open Go Go.Sx Go.Pl Go.RowKit Go.Fd Go.Alg
theorem sim_mv : MV P2 7 simG := ⟨by decide, by decide, by decide, by decide, by decide⟩
theorem simC_mv : MV P2 7 simC := ⟨by decide, by decide, by decide, by decide, by decide⟩
theorem ham_mv : MV P2 7 hamG := ⟨by decide, by decide, by decide, by decide, by decide⟩
set_option maxRecDepth 10000 in
theorem clSimplex (w : World) :
  Calls Tryz.prog 172 #[.agg f2.toArray, .int .i64 3] w (RetX w fun r w' => ∃ mo lv, r = .tuple #[.agg #[.int .i64 2, .int .i64 1, mo, .int .i64 7, lv], .int .i64 0] ∧ OwnI w.heap.size w' mo 3 [] ∧ LLB w.heap.size w' lv simC) := by
 refine QD Tryz.func172 rfl rfl (Qc (Qb [0,1,2] rfl (BXA rfl wu rfl rfl ?_)))
 intro fb w1 hE1 hF hfb
 refine AL rfl wu rfl Qc5 ?_
 intro rb w2 hE2 hC hrb
 replace hF := hF.ext hE2
 refine Qk rfl rfl (Qd (Qa (Qc ?_)))
 have hE := hE1.trans hE2
 have hz1 := hE1.size
 have hlC := hC.lt
 refine Qb [0,1,2,3,4,5,6,7] rfl (Vw rfl (ldA rfl Zf hF) (mvV rfl rfl (C rfl wu rfl rfl Tryz.call261 (clPoints _) ?_)))
 rintro _ w3 hE3 ⟨pv, prs, rfl, hpm⟩
 refine mvV rfl rfl (QI rfl rfl rfl (QI rfl rfl rfl (Qk rfl rfl (Qk rfl rfl (Qd (Qa (Qc (Qc ?_))))))))
 replace hF := hF.ext hE3
 replace hC := hC.ext hE3
 replace hE := hE.trans hE3
 have hz3 := hE.size
 have hz23 := hE3.size
 refine Qb [0,1] rfl (mvV rfl rfl (QG rfl rfl rfl (Qd (Qa (Qn rfl (rfl) (Qe (Qa (Qc ?_))))))))
 have hpl : prs.length = 7 := hpm.len
 have hp7 : Ml.pts.length = 7 := rfl
 have hbp := hpm.bk
 refine Qb [0,1,2,3,4,5,6] rfl (mvV rfl rfl (Vw rfl (Zt rfl QN hpm.own.sl) (mvV rfl rfl (MK (n := 3) rfl wu rfl rfl QN rfl ?_ (hby := by omega) (hn := by decide)))))
 intro mh w4 hE4 hmo hmb
 have hm1 := hmo.sl.one
 rw [hpl]
 refine Vw rfl (bld rfl (QdE 7 mh (QB hm1))) (AL rfl wu rfl KW ?_)
 intro mb w5 hE5 hM hmb5
 refine STB (vs := [.int .i64 7, mh]) (cs' := [.int .i64 7, mh]) rfl wu rfl rfl rfl JN nofun hM oc2 rfl rfl rfl ?_
 intro w6 hg6 hX6 hM6
 refine Qd (Qa (Qc (Qc ?_)))
 have hE46 := hX6 w4 hmb5 hE5
 have hE36 := hE4.trans hE46
 have hom6 : OM w3.heap.size w6 mh 22 3 (List.replicate 3 (.slice none 0 0)) (Ml.simL 0 0) := by
  refine ⟨hmo.ext hE46, rfl, fun i r zs a b => ?_, fun i r k a hk => ?_, fun i j r r' k a b hk hk' => ?_⟩
  ·obtain rfl := List.eq_of_mem_replicate (List.mem_of_getElem? a)
   have : zs = [] := by
    have hb := List.mem_of_getElem? b
    have e : Ml.simL 0 0 = [[], [], []] := by decide
    rw [e] at hb
    simp at hb
    exact hb
   rw [this]
   exact OwnI.nil _ _ _
  ·obtain rfl := List.eq_of_mem_replicate (List.mem_of_getElem? a)
   cases hk
  ·obtain rfl := List.eq_of_mem_replicate (List.mem_of_getElem? a)
   cases hk
 refine Qb [0,1,2,3] rfl (Qz rfl rfl QR (Vw rfl (ldB rfl Zm hM6) (Vw rfl (Zt rfl QN hom6.own.sl) (mvV rfl rfl (Qd (Qa (Qf ?_)))))))
 rw [List.length_replicate]
 refine Qv (fun s : Nat × List Value => [(2, .pointer (some ⟨fb, 0, none⟩)), (4, .pointer (some ⟨rb, 0, none⟩)), (6, pv), (8, .pointer (some ⟨mb, 0, none⟩)), (29, .int .i64 3), (30, .int .i64 s.1)]) (fun s w' => s.1 ≤ 3 ∧ Ext w3 w' ∧ w6.heap.size ≤ w'.heap.size ∧ Blk w' mb 39 #[.int .i64 7, mh] ∧ OM w3.heap.size w' mh 22 3 s.2 (Ml.simL s.1 0)) (fun s => 3 - s.1) (0, List.replicate 3 (.slice none 0 0)) ⟨rfl, rfl, rfl, rfl, rfl, rfl, trivial⟩ ⟨by omega, hE36, Nat.le_refl _, hM6, hom6⟩ ?_
 clear hom6 hmo hM
 rintro ⟨i, rws⟩ wi ⟨i1, hEi, hzi, hMi, homi⟩
 dsimp only at i1 hEi hMi homi
 try dsimp only
 refine Qc (Qb [0] rfl (Qy rfl rfl rfl (Qd (Qa (Qc (Qo rfl ?_ ?_))))))
 ·intro hc0
  simp at hc0
  have hc : i < 3 := by omega
  refine Qe (Qa (Qc (Qf (Qc (Qb [0,1] rfl (mvV rfl rfl (Qk rfl rfl (Qd (Qa (Qc (Qb [0,1,2] rfl (mvV rfl rfl (Vw rfl (Zt rfl QN (hpm.ext hEi).own.sl) (mvV rfl rfl (Qd (Qa (Qf ?_)))))))))))))))))
  rw [hpl]
  refine Qv (fun s : Nat × List Value => [(2, .pointer (some ⟨fb, 0, none⟩)), (4, .pointer (some ⟨rb, 0, none⟩)), (6, pv), (8, .pointer (some ⟨mb, 0, none⟩)), (9, .int .i64 i), (29, .int .i64 3), (30, .int .i64 i), (33, pv), (34, .int .i64 7), (35, .int .i64 s.1)]) (fun s w' => s.1 ≤ 7 ∧ Ext w3 w' ∧ w6.heap.size ≤ w'.heap.size ∧ Blk w' mb 39 #[.int .i64 7, mh] ∧ OM w3.heap.size w' mh 22 3 s.2 (Ml.simL i s.1)) (fun s => 7 - s.1) (0, rws) ⟨rfl, rfl, rfl, rfl, rfl, rfl, rfl, rfl, rfl, rfl, trivial⟩ ⟨by omega, hEi, hzi, hMi, homi⟩ ?_
  clear homi hMi hzi hEi
  clear rws
  rintro ⟨k, rws⟩ wk ⟨k1, hEk, hzk, hMk, homk⟩
  dsimp only at k1 hEk hMk homk
  try dsimp only
  refine Qc (Qb [0] rfl (Qy rfl rfl rfl (Qd (Qa (Qc (Qo rfl ?_ ?_))))))
  ·intro hk0
   simp at hk0
   have hk : k < 7 := by omega
   have hsl := Ml.simL_len i k
   have hrl := homk.len
   obtain ⟨r, hri, hro⟩ := homk.get (i := i) (by omega)
   obtain ⟨q, hqk, hqo⟩ := hpm.get (i := k) (by show k < 7; exact hk)
   have hql := Ml.pts_len k hk
   have hpe := hpm.ext hEk
   have hsm := Ml.simL_small i hc k hk
   refine Qe (Qa (Qc (Qf (Qc (Qb [0,1,2] rfl (Vw rfl (iad rfl rfl QN hpe.own.sl (by omega) (by omega)) (Vw rfl (ldE rfl Zk hpe.own.sl (by rw [Int.toNat_natCast]; exact hqk) (Ext.refl _)) (Qk rfl rfl (Qd (Qa ?_))))))))))
   have hqe := (OwnI.ints hqo).ext hEk
   have hrlt := Own.lt hro
   have hXm : mb ∉ r.ownBlock.toList := fun h => homk.notin hMk (by decide) (by decide) (QQ.2 (.inr ⟨r, List.mem_of_getElem? hri, by simpa using h⟩))
   have hXv : ∀ k, mh.ownBlock = some k → k ∉ r.ownBlock.toList := fun k hk h => homk.out i r k hri (by simpa using h) hk
   have hXq : ∀ k, q.ownBlock = some k → k ∉ r.ownBlock.toList := fun j hj h => by
    have := (Own.lt hqo j hj).2
    have := (hrlt j (by simpa using h)).1
    omega
   refine Qcw r.ownBlock.toList QK [0,1,2,3,4,5,6,7,8,9,10,11,12,13,14,15] (by kernel_rfl) ?_
   intro w7 hd _
   replace hMk := hMk.ext hd
   replace homk := homk.ext hd
   replace hqe := hqe.ext hd
   replace hro := OwnI.ext hro hd
   have hbk7 := homk.bk
   refine VZm rfl wu rfl rfl rfl (fad rfl QR) (VZx rfl wu rfl rfl (yB rfl Zm hMk hXm) (VZm rfl wu rfl rfl rfl (mv rfl) (VZm rfl wu rfl rfl rfl (fad rfl QR) (VZx rfl wu rfl rfl (yB rfl Zm hMk hXm) (VZm rfl wu rfl rfl rfl (mv rfl) (VZm rfl wu rfl rfl rfl (iad rfl rfl QN homk.own.sl (by omega) (by omega)) (VZx rfl wu rfl rfl (yE rfl Zk homk.own.sl (by rw [Int.toNat_natCast]; exact hri) hXv) (VZm rfl wu rfl rfl rfl (mv rfl) (VZm rfl wu rfl rfl rfl (mv rfl) ?_)))))))))
   refine VZm rfl wu rfl rfl rfl (QO rfl rfl QA hqe (by omega) (by omega)) (VZx rfl wu rfl rfl (yI rfl na3 hqe hXq (by omega) (by omega)) (Qaz rfl (BSI (zs := [gi (Ml.pts.getD k []) i]) rfl wu rfl rfl rfl rfl QA ?_)))
   intro bv w8 hE8 hbo hbi hbb
   refine wz_in (.inr (Gr.of_ext hE8)) (Qaz rfl (API rfl wu rfl rfl rfl QA nofun ?_ (ho := OwnI.ext hro hE8) (hB := by have := hE8.size; have := hd.size; have := hEk.size; omega) (hs := hbi) (hE := Ext.refl _) (hlen := by simp only [List.length_cons, List.length_nil]; omega)))
   intro r2 w9 hg9 hX9 hro9 hri9 hrb9
   refine wz_in (.inr (Gr.of_grown hg9 (fun k hk => by simp [hk]))) ?_
   have hr21 := hri9.one
   refine VZm rfl wu rfl rfl rfl (iad rfl rfl QN homk.own.sl (by omega) (by omega)) ?_
   have hown9 : Own w3.heap.size w9 mh 22 rws := Own.gr (homk.own.ext hE8) (Gr.of_grown hg9 (X := r.ownBlock.toList) (fun k hk => by simp [hk])) hXv
   refine Qaz rfl (ST rfl wu rfl rfl sz22 hr21 nofun ?_ hown9 (by omega) (by omega))
   intro w10 hg10 ho10
   refine wz_in (.inl (by kernel_rfl)) (wz_nil ?_)
   rw [Int.toNat_natCast] at ho10
   have hG9 : Gr r.ownBlock.toList w8 w9 := Gr.of_grown hg9 (fun k hk => by simp [hk])
   have homf := (homk.ext hE8).put2 hri hG9 hg10 ho10 hro9 (hrb9.imp id (fun e j hj => by rw [e] at hj; have := Option.some.inj hj; omega))
   rw [← Ml.simL_step i hc k hk] at homf
   have hmX : mb ∉ bks mh rws := homk.notin hMk (by decide) (by decide)
   have hM10 : Blk w10 mb 39 #[.int .i64 7, mh] := ((hMk.ext hE8).gr hG9 hXm).grown hg10 (fun e => hmX (QQ.2 (.inl e)))
   have hE10 : Ext w3 w10 := ((((hEk.trans hd).trans hE8).grownI hg9 (OwnI.ext hro hE8) (Nat.le_refl _))).grown hg10 hown9 (Nat.le_refl _)
   refine Qg (Qa (Qb [0,1] rfl (Qw rfl rfl rfl (mvV rfl rfl (Qd ?_)))))
   exact Qi (k + 1, rws.set i r2) ⟨rfl, rfl, rfl, rfl, rfl, rfl, rfl, rfl, rfl, rfl, trivial⟩ ⟨by dsimp only; omega, hE10, by have := hE8.size; have := hd.size; have := hg9.size; have := hg10.size; omega, hM10, homf⟩ (by dsimp only; omega)
  ·intro hk
   simp at hk
   obtain rfl : k = 7 := by omega
   rw [Ml.simL_row i hc] at homk
   refine Qt (Ql (Qm (Qh (Qg (Qa (Qb [0,1] rfl (Qw rfl rfl rfl (mvV rfl rfl (Qd ?_)))))))))
   exact Qi (i + 1, rws) ⟨rfl, rfl, rfl, rfl, rfl, rfl, trivial⟩ ⟨by dsimp only; omega, hEk, hzk, hMk, homk⟩ (by dsimp only; omega)
 ·intro hc
  simp at hc
  obtain rfl : i = 3 := by omega
  have he : Ml.simL 3 0 = simG := by decide
  rw [he] at homi
  refine Qt (Ql (Qm (Qh (Qa (Qc (Qb [0,1,2,3,4,5,6] rfl (Vw rfl (ldA rfl Zf (hF.ext hEi)) (Vw rfl (ldA rfl ZP hMi) (C rfl wu rfl rfl Tryz.call40 (cdNew 2 1 (.slice none 0 0) mh [] 7 simG _ ok2 (Ints.nil _) (by decide) homi.ll sim_mv (by decide) (by decide)) ?_)))))))))
  rintro _ w7 hE7 ⟨mo, lv, rfl, hmo, hlv⟩
  refine QI rfl rfl rfl (QI rfl rfl rfl ?_)
  have hmo1 := (OwnI.ints hmo).one
  have hlv1 := hlv.one
  refine STB (vs := [.int .i64 2, .int .i64 1, mo, .int .i64 7, lv]) (cs' := [.int .i64 2, .int .i64 1, mo, .int .i64 7, lv]) rfl wu rfl rfl rfl QbS nofun ((hC.ext hEi).ext hE7) oc5 rfl rfl rfl ?_
  intro w8 hg8 hX8 hC8
  refine Qk rfl rfl (Qd (Qa (Qq ?_)))
  have hG8 : Gr [rb] w7 w8 := Gr.of_grown hg8 (fun k hk => by simp [Option.some.inj hk])
  have hzi3 := hEi.size
  refine QJ rfl rfl rfl Jx hC8 rfl ?_
  have hcn : (Ml.canonM (opsP P2) simG 7).1 = simC := sim_can
  exact ⟨hX8 w (by omega) ((hE.trans hEi).trans hE7), mo, lv, rfl, Own.mono (Own.gr hmo hG8 (fun k hk e => by have := (Own.lt hmo k hk).1; have := List.mem_singleton.1 e; omega)) (by omega), by rw [← hcn]; exact (hlv.gr hG8 (fun k hk => by rw [List.mem_singleton.1 hk]; omega)).mono (by omega)⟩
set_option maxRecDepth 10000 in
theorem clHamming (w : World) :
  Calls Tryz.prog 170 #[.agg f2.toArray, .int .i64 3] w (RetX w fun r w' => ∃ mo lv, r = .tuple #[.agg #[.int .i64 2, .int .i64 1, mo, .int .i64 7, lv], .int .i64 0] ∧ OwnI w.heap.size w' mo 3 [] ∧ LLB w.heap.size w' lv hamG) := by
 refine QD Tryz.func170 rfl rfl (Qc (Qb [0,1,2] rfl (BXA rfl wu rfl rfl ?_)))
 intro fb w1 hE1 hF hfb
 refine AL rfl wu rfl Qc5 ?_
 intro rb w2 hE2 hC hrb
 replace hF := hF.ext hE2
 refine Qk rfl rfl (Qd (Qa (Qc ?_)))
 have hE := hE1.trans hE2
 have hz1 := hE1.size
 have hlC := hC.lt
 refine Qb [0,1,2,3,4,5,6,7,8] rfl (Vw rfl (ldA rfl Zf hF) (mvV rfl rfl (C rfl wu rfl rfl Tryz.call172 (clSimplex _) ?_)))
 rintro _ w3 hE3 ⟨mo, lv, rfl, hmo, hlv⟩
 refine mvV rfl rfl (QI rfl rfl rfl (QI rfl rfl rfl ?_))
 have hm1 := (OwnI.ints hmo).one
 have hl1 := hlv.one
 refine AL rfl wu rfl Qc5 ?_
 intro cb w4 hE4 hB hcb
 refine STB (vs := [.int .i64 2, .int .i64 1, mo, .int .i64 7, lv]) (cs' := [.int .i64 2, .int .i64 1, mo, .int .i64 7, lv]) rfl wu rfl rfl rfl QbS nofun hB oc5 rfl rfl rfl ?_
 intro w5 hg5 hX5 hB5
 refine Qk rfl rfl (Qd (Qa (Qc (Qc ?_))))
 have hE5 := hX5 w3 hcb hE4
 have hE35 := hE3.trans hE5
 replace hC := hC.ext hE35
 replace hE := hE.trans hE35
 have hz5 := hE35.size
 have hmo5 := OwnI.ext hmo hE5
 have hlv5 := hlv.ext hE5
 refine Qb [0,1] rfl (mvV rfl rfl (QG rfl rfl rfl (Qd (Qa (Qn rfl (rfl) (Qe (Qa (Qc (Qb [0,1,2,3,4,5] rfl (Vw rfl (ldA rfl Jx hB5) (C rfl wu rfl rfl Tryz.call201 (cdDual 2 1 mo lv [] 7 simC _ ok2 (OwnI.ints hmo5) (by decide) hlv5.ll simC_mv simC_can (by decide) (by decide)) ?_)))))))))))
 rintro _ w6 hE6 ⟨mo2, kv, rfl, hmo6, hkv⟩
 refine QI rfl rfl rfl (QI rfl rfl rfl ?_)
 have hm2 := (OwnI.ints hmo6).one
 have hk1 := hkv.one
 refine STB (vs := [.int .i64 2, .int .i64 1, mo2, .int .i64 7, kv]) (cs' := [.int .i64 2, .int .i64 1, mo2, .int .i64 7, kv]) rfl wu rfl rfl rfl QbS nofun (hC.ext hE6) oc5 rfl rfl rfl ?_
 intro w7 hg7 hX7 hC7
 refine Qk rfl rfl (Qd (Qa (Qq ?_)))
 have hG7 : Gr [rb] w6 w7 := Gr.of_grown hg7 (fun k hk => by simp [Option.some.inj hk])
 refine QJ rfl rfl rfl Jx hC7 rfl ?_
 have hkk : Ml.kernelM (opsP P2) simC 7 = hamG := ham_ker
 exact ⟨hX7 w (by omega) (hE.trans hE6), mo2, kv, rfl, Own.mono (Own.gr hmo6 hG7 (fun k hk e => by have := (Own.lt hmo6 k hk).1; have := List.mem_singleton.1 e; omega)) (by omega), by rw [← hkk]; exact (hkv.gr hG7 (fun k hk => by rw [List.mem_singleton.1 hk]; omega)).mono (by omega)⟩
end Go.Proofs.YtcfbigmjjpknfaaGreatDoor
namespace Go.Proofs.YtcfbigmjjpknfaaGreatDoor
open Go Go.Sx Go.Pl Go.RowKit Go.Fd Go.Alg
def ixI (o : Option Nat) : Int := match o with
 | none => -1
 | some k => k
set_option maxRecDepth 10000 in
theorem XE (F : FuncId) (pred : Int → Bool) (hcall : ∀ args w, (callFunc F args).run Tryz.prog w = .ok (.enter F args) w) (v : Value) (zs : List Int) (w : World) (hu : Ints w v zs) (hF : ∀ x w', Calls Tryz.prog F #[.int .i64 x] w' (RetX w' fun r _ => r = .bool (pred x))) :
  Calls Tryz.prog 58 #[v, .func (.func F) #[] #[]] w (RetX w fun r _ => r = .int .i64 (ixI (zs.findIdx? pred))) := by
 have hle := hu.le
 refine QD Tryz.func58 rfl rfl (Qc (Qb [0] rfl (Qk rfl rfl (Qd (Qa (Qc (Qc (Qb [0,1,2] rfl (mvV rfl rfl (Vw rfl (Zh rfl QA hu) (mvV rfl rfl (Qd (Qa (Qf ?_))))))))))))))
 refine Qv (fun i : Nat => [(0, v), (1, .func (.func F) #[] #[]), (7, .int .i64 zs.length), (8, .int .i64 i)]) (fun i w' => i ≤ zs.length ∧ Ext w w' ∧ ∀ j : Nat, j < i → pred (gi zs j) = false) (fun i => zs.length - i) 0 ⟨rfl, rfl, rfl, rfl, trivial⟩ ⟨by omega, Ext.refl _, fun j hj => by omega⟩ ?_
 rintro i w2 ⟨i1, hE, hno⟩
 have hui := hu.ext hE
 try dsimp only
 refine Qc (Qb [0] rfl (Qy rfl rfl rfl (Qd (Qa (Qc (Qo rfl ?_ ?_))))))
 ·intro hc
  simp at hc
  have hgi : gi zs i = zs[i]'(by omega) := by simp [gi, List.getD_eq_getElem?_getD, show i < zs.length by omega]
  refine Qe (Qa (Qc (Qf (Qc (Qb [0,1] rfl (mvV rfl rfl (Qk rfl rfl (Qd (Qa (Qc (Qb [0,1,2,3,4,5] rfl (mvV rfl rfl (mvV rfl rfl (mvV rfl rfl (Vw rfl (QO rfl rfl QA hui (by omega) (by omega)) ?_)))))))))))))))
  refine Vw rfl (ldI rfl na3 hui (Ext.refl _) (by omega) (by omega)) (CVX (fs := []) (cs := []) (vs := [.int .i64 (gi zs i)]) rfl wu rfl rfl rfl hcall (hF (gi zs i) _) ?_)
  rintro _ w3 hE3 rfl
  refine Qd (Qa (Qo rfl ?_ ?_))
  ·intro he
   refine Qc (Qb [0,1] rfl (mvV rfl rfl (Qk rfl rfl (Qd (Qa (Qq (Qu (Qp (QE (Qu (Qp (Qj rfl rfl ?_))))))))))))
   refine ⟨hE.trans hE3, ?_⟩
   have : zs.findIdx? pred = some i := List.findIdx?_eq_some_iff_getElem.2 ⟨by omega, by rw [← hgi]; exact he, fun j hj => by
    have := hno j hj
    have e : gi zs j = zs[j]'(by omega) := by simp [gi, List.getD_eq_getElem?_getD, show j < zs.length by omega]
    rw [e] at this
    simp [this]⟩
   rw [this]
   rfl
  ·intro he
   refine Qe (Qg (Qa (Qb [0,1] rfl (Qw rfl rfl rfl (mvV rfl rfl (Qd (Qi (i + 1) ⟨rfl, rfl, rfl, rfl, trivial⟩ ⟨by omega, hE.trans hE3, fun j hj => ?_⟩ (by omega))))))))
   by_cases e : j = i
   ·subst e; exact he
   ·exact hno j (by omega)
 ·intro hc
  simp at hc
  refine Qt (Ql (Qm (Qh (Qa (Qc (Qb [0] rfl (Qk rfl rfl (Qd (Qa (Qq (Qj rfl rfl ?_)))))))))))
  refine ⟨hE, ?_⟩
  have : zs.findIdx? pred = none := List.findIdx?_eq_none_iff.2 fun x hx => by
   obtain ⟨j, hj, e⟩ := List.getElem_of_mem hx
   have h := hno j (by omega)
   have e2 : gi zs j = zs[j]'hj := by simp [gi, List.getD_eq_getElem?_getD, hj]
   rw [e2, e] at h
   exact h
  rw [this]
  rfl
theorem isNz (x : Int) (w : World) : Calls Tryz.prog 308 #[.int .i64 x] w (RetX w fun r _ => r = .bool (decide (x ≠ 0))) := by
 refine QL Tryz.func308 rfl rfl (Qc (Qb [0] rfl (Qk rfl rfl (Qd (Qa (Qc (Qb [0,1,2] rfl (mvV rfl rfl (QG rfl rfl rfl (Qk rfl rfl (Qd (Qa (Qq ?_)))))))))))))
 refine Qj rfl rfl ?_
 exact ⟨Ext.refl _, rfl⟩
set_option maxRecDepth 10000 in
theorem isColumn (p M : Int) (mo v : Value) (n : Nat) (G : List (List Int)) (i : Nat) (w : World) (_ : mo.oneCell' = true) (hG : LL w v G) (hR : Ml.RL n G) (hi : i < n) (hg : G.length ≤ 100000) :
  Calls Tryz.prog 237 #[.agg #[.int .i64 p, .int .i64 M, mo, .int .i64 n, v], .int .i64 i] w (RetX w fun r w' => OwnI w.heap.size w' r 3 (Ml.colM G i) ∧ r.ownBlock ≠ none) := by
 have hv1 := hG.one
 obtain ⟨rs, hsl, hrl, hrow⟩ := hG.row
 refine QD Tryz.func237 rfl rfl (Qc (Qb [0,1] rfl (BXA rfl wu rfl rfl ?_)))
 intro cb w1 hE1 hC hcb
 refine Qk rfl rfl (Qd (Qa (Qc ?_)))
 have hs1 := hsl.ext hE1
 refine Qb [0,1,2,3,4] rfl (Qz rfl rfl ZE (Vw rfl (ldB rfl Zm hC) (Vw rfl (Zt rfl QN hs1) (MKI (n := rs.length) rfl wu rfl rfl QA ?_))))
 intro ov w2 hE2 ho hoi hob
 refine Qk rfl rfl (Qd (Qa (Qc (Qc ?_))))
 replace hC := hC.ext hE2
 replace hs1 := hs1.ext hE2
 refine Qb [0,1,2,3] rfl (Qz rfl rfl ZE (Vw rfl (ldB rfl Zm hC) (Vw rfl (Zt rfl QN hs1) (mvV rfl rfl (Qd (Qa (Qf ?_)))))))
 refine Qv (fun k : Nat => [(1, .int .i64 i), (5, ov), (13, v), (14, .int .i64 rs.length), (15, .int .i64 k)])
  (fun k w' => k ≤ G.length ∧ Ext w w' ∧ OwnI w1.heap.size w' ov 3 (tab rs.length fun t => if t < k then gi (G.getD t []) i else 0)) (fun k => G.length - k) 0 ⟨rfl, rfl, rfl, rfl, rfl, trivial⟩ ⟨by omega, hE1.trans hE2, by simpa using ho⟩ ?_
 clear ho hoi hs1 hC
 rintro k w3 ⟨k1, hE, ho⟩
 have hs3 := hsl.ext hE
 try dsimp only
 refine Qc (Qb [0] rfl (Qy rfl rfl rfl (Qd (Qa (Qc (Qo rfl ?_ ?_))))))
 ·intro hc
  simp at hc
  obtain ⟨r, hri, hrr⟩ := hrow k (by omega)
  have hrk := hR.get (i := k) (by omega)
  have hrr3 := hrr.ext hE
  have hoi := OwnI.ints ho
  refine Qe (Qa (Qc (Qf (Qc (Qb [0,1,2,3,4] rfl (mvV rfl rfl (Vw rfl (iad rfl rfl QN hs3 (by omega) (by omega)) (Vw rfl (ldE rfl Zk hs3 (by rw [Int.toNat_natCast]; exact hri) (Ext.refl _)) (Qk rfl rfl (Qk rfl rfl (Qd (Qa (Qb [0,1,2,3,4,5,6,7] rfl (mvV rfl rfl ?_))))))))))))))
  refine mvV rfl rfl (mvV rfl rfl (mvV rfl rfl (Vw rfl (QO rfl rfl QA hrr3 (by omega) (by omega)) (Vw rfl (ldI rfl na3 hrr3 (Ext.refl _) (by omega) (by omega)) (Vw rfl (QO rfl rfl QA hoi (by omega) (by rw [Qs]; omega)) (STI rfl wu rfl rfl sz3 nofun ?_ (ho := ho) (h0 := by omega) (h1 := by rw [Qs]; omega)))))))
  intro w4 hg4 hX4 hO4 hI4
  refine Qd (Qg (Qa (Qb [0,1] rfl (Qw rfl rfl rfl (mvV rfl rfl (Qd (Qi (k + 1) ⟨rfl, rfl, rfl, rfl, rfl, trivial⟩ ⟨by omega, hX4 w hE1.size hE, ?_⟩ (by omega))))))))
  rw [Jt] at hO4
  have e : (tab rs.length fun t => if t = ((k : Int)).toNat then gi (G.getD k []) i else if t < k then gi (G.getD t []) i else 0) = tab rs.length fun t => if t < k + 1 then gi (G.getD t []) i else 0 := QF fun j hj => by
   rw [Int.toNat_natCast]
   by_cases e : j = k
   ·subst e
    rw [if_pos rfl, if_pos (by omega)]
   ·rw [if_neg e]
    by_cases h : j < k
    ·rw [if_pos h, if_pos (show j < k + 1 by omega)]
    ·rw [if_neg h, if_neg (by omega)]
  rw [← e]
  exact hO4
 ·intro hc
  simp at hc
  refine Qt (Ql (Qm (Qh (Qa (Qc (Qb [0,1] rfl (mvV rfl rfl (Qk rfl rfl (Qd (Qa (Qq (Qj rfl rfl ?_))))))))))))
  have e : (tab rs.length fun t => if t < k then gi (G.getD t []) i else 0) = Ml.colM G i := by
   rw [hrl]
   refine List.ext_getElem (by rw [Qs, Ml.colM_length]) fun j h1 h2 => ?_
   rw [Qs] at h1
   have h3 := Za (f := fun t => if t < k then gi (G.getD t []) i else (0 : Int)) h1
   rw [List.getElem?_eq_getElem (by rw [Qs]; exact h1)] at h3
   rw [Option.some.inj h3, if_pos (by omega)]
   simp [Ml.colM, List.getD_eq_getElem?_getD, h1]
  rw [← e]
  exact ⟨hE, Own.mono ho hE1.size, by rw [hob]; simp⟩
end Go.Proofs.YtcfbigmjjpknfaaGreatDoor
namespace Go.Proofs.YtcfbigmjjpknfaaGreatDoor
open Go Go.Sx Go.Pl Go.RowKit Go.Fd Go.Alg
structure BA (B bb : Nat) (w : World) (g rv pv : Value) (rows : List Value) (R : List (List Int)) (ps : List Nat) : Prop where
 blk : Blk w bb 245 #[g, rv, pv]
 om : OM B w rv 22 3 rows R
 ow : OwnI B w pv 3 (ps.map Int.ofNat)
 pX : ∀ k, pv.ownBlock = some k → k ∉ bks rv rows
 hB : B ≤ bb
def baX (bb : Nat) (rv pv : Value) (rows : List Value) : List Nat := bb :: (bks rv rows ++ pv.ownBlock.toList)
theorem ZM {bb k : Nat} {rv pv : Value} {rows : List Value} : k ∈ baX bb rv pv rows ↔ k = bb ∨ k ∈ bks rv rows ∨ pv.ownBlock = some k := by
 simp [baX]
section
variable {B bb : Nat} {w w' : World} {g rv pv : Value} {rows : List Value} {R : List (List Int)} {ps : List Nat}
theorem BA.gr {X : List Nat} (h : BA B bb w g rv pv rows R ps) (hg : Gr X w w') (hX : ∀ k ∈ baX bb rv pv rows, k ∉ X) : BA B bb w' g rv pv rows R ps :=
 ⟨h.blk.gr hg (hX bb (ZM.2 (.inl rfl))), h.om.gr hg (fun k hk => hX k (ZM.2 (.inr (.inl hk)))), Own.gr h.ow hg (fun k hk => hX k (ZM.2 (.inr (.inr hk)))), h.pX, h.hB⟩
theorem BA.ext (h : BA B bb w g rv pv rows R ps) (hE : Ext w w') : BA B bb w' g rv pv rows R ps := h.gr (Gr.of_ext (X := []) hE) (by simp)
theorem BA.lt (h : BA B bb w g rv pv rows R ps) : ∀ k ∈ baX bb rv pv rows, B ≤ k ∧ k < w.heap.size := fun k hk => by
 rcases ZM.1 hk with rfl | hk | hk
 ·exact ⟨h.hB, h.blk.lt⟩
 ·exact h.om.bk k hk
 ·exact Own.lt h.ow k hk
theorem BA.bX (h : BA B bb w g rv pv rows R ps) : bb ∉ bks rv rows := h.om.notin h.blk (by decide) (by decide)
theorem BA.bP (h : BA B bb w g rv pv rows R ps) : pv.ownBlock ≠ some bb := fun e => by
 obtain ⟨c, hc⟩ := Own.ty h.ow e
 have hb := h.blk
 rw [Blk, hc] at hb
 simp only [Option.some.injEq, Obj.cells.injEq] at hb
 exact absurd hb.2.1 (by decide)
end
def InR (P : FP) (v : List Int) : Prop := ∀ x ∈ v, 0 ≤ x ∧ x < P.q
theorem InR.get {P : FP} {v : List Int} (h : InR P v) {k : Int} (h0 : 0 ≤ k) (h1 : k < v.length) : 0 ≤ gi v k ∧ gi v k < P.q := by
 refine h _ ?_
 have : gi v k = v[k.toNat]'(by omega) := by simp [gi, List.getD_eq_getElem?_getD, show k.toNat < v.length by omega]
 rw [this]
 exact List.getElem_mem _
theorem InR.tab {P : FP} {n : Nat} {f : Nat → Int} (h : ∀ i, i < n → 0 ≤ f i ∧ f i < P.q) : InR P (Pl.tab n f) := fun x hx => by
 obtain ⟨i, hi, rfl⟩ := List.getElem_of_mem hx
 rw [Qs] at hi
 have := Za (f := f) hi
 rw [List.getElem?_eq_getElem (by rw [Qs]; exact hi)] at this
 rw [Option.some.inj this]
 exact h i hi
theorem InR.sub {P : FP} {v row : List Int} {x : Int} : InR P (Ml.subRow (opsP P) v x row) := InR.tab fun i _ => (inK P (gi v i) + inK P ((opsP P).ng ((opsP P).mu x (gi row i)))).2
theorem InR.redFold {P : FP} {R : List (List Int)} {ps : List Nat} {v : List Int} (h : InR P v) : ∀ i, InR P (Ml.redFold (opsP P) R ps v i)
 | 0 => h
 | i + 1 => by
  rw [Ml.redFold_succ, Ml.redStep]
  split
  ·exact InR.redFold h i
  ·exact InR.sub
theorem sub_ops {P : FP} {x y z : Int} : (inK P x + -inK P (inK P y * inK P z).1).1 = (opsP P).ad x ((opsP P).ng ((opsP P).mu y z)) := by
 show _ = (inK P x + inK P (-inK P (inK P y * inK P z).1).1).1
 simp only [Zi]
set_option maxRecDepth 20000 in
theorem isAdd (P : FP) (g rv pv v : Value) (bb B : Nat) (rows : List Value) (R : List (List Int)) (ps : List Nat) (zs : List Int) (w0 w : World) (hG : GFV w0 P g) (hE0 : Ext w0 w) (hB0 : w0.heap.size ≤ B) (hBw : B ≤ w.heap.size) (hba : BA B bb w g rv pv rows R ps) (hv : OwnI B w v 3 zs) (hvX : ∀ k, v.ownBlock = some k → k ∉ baX bb rv pv rows)
  (hok : Ml.BasOk zs.length R ps) (hz : InR P zs) (hRl : R.length ≤ 100000) (hzl : zs.length ≤ 100000) :
  Calls Tryz.prog 236 #[.pointer (some ⟨bb, 0, none⟩), v] w (RetG (baX bb rv pv rows ++ v.ownBlock.toList) w fun r w' => r = .bool (Ml.basAdd (opsP P) R ps zs).2.2 ∧
   ∃ rv' pv' rows', BA B bb w' g rv' pv' rows' (Ml.basAdd (opsP P) R ps zs).1 (Ml.basAdd (opsP P) R ps zs).2.1 ∧ ∀ k ∈ baX bb rv' pv' rows', k ∈ baX bb rv pv rows ∨ w.heap.size ≤ k) := by
 have hg1 := hG.one
 have hrl := hba.om.len
 have hpl := hok.len
 have hpm : (ps.map Int.ofNat).length = ps.length := by simp
 have hvlt := Own.lt hv
 have hblt := hba.lt
 have hvX' : ∀ k ∈ baX bb rv pv rows, k ∉ v.ownBlock.toList := fun k hk h => hvX k (by simpa using h) hk
 have hX0 : ∀ k ∈ v.ownBlock.toList, w0.heap.size ≤ k := fun k hk => by
  have := (hvlt k (by simpa using hk)).1
  omega
 refine QD Tryz.func236 rfl rfl (Qc (Qb [0] rfl (Qk rfl rfl (Qd (Qa (Qc (Qc (Qb [0,1,2,3,4,5] rfl (mvV rfl rfl (QM rfl rfl (Qz rfl rfl Qcj (Vw rfl (ldB rfl Zm hba.blk) ?_))))))))))))
 refine Vw rfl (Zt rfl QN hba.om.own.sl) (mvV rfl rfl (Qd (Qa (Qf ?_))))
 refine Qv (fun i : Nat => [(0, .pointer (some ⟨bb, 0, none⟩)), (1, v), (16, rv), (17, .int .i64 rows.length), (18, .int .i64 i)])
  (fun i w' => i ≤ R.length ∧ Gr v.ownBlock.toList w w' ∧ OwnI B w' v 3 (Ml.redFold (opsP P) R ps zs i)) (fun i => R.length - i) 0 ⟨rfl, rfl, rfl, rfl, rfl, trivial⟩ ⟨by omega, Gr.refl _ _, hv⟩ ?_
 rintro i w1 ⟨i1, hGr, hvi⟩
 have hb1 := hba.gr hGr hvX'
 have hE1 := hGr.ext hE0 hX0
 have hfl := Ml.redFold_length (o := opsP P) (R := R) (ps := ps) (v := zs) i
 have hvr := OwnI.ints hvi
 try dsimp only
 refine Qc (Qb [0] rfl (Qy rfl rfl rfl (Qd (Qa (Qc (Qo rfl ?_ ?_))))))
 ·intro hc
  simp at hc
  have hiR : i < R.length := by omega
  obtain ⟨r, hri, hor⟩ := hb1.om.get hiR
  have hrlen := hok.rl.get hiR
  have hpi : ps.getD i 0 < zs.length := hok.lt _ (by rw [List.getD_eq_getElem?_getD, List.getElem?_eq_getElem (by omega)]; exact List.getElem_mem _)
  have hpo := OwnI.ints hb1.ow
  refine Qe (Qa (Qc (Qf (Qc (Qb [0,1,2,3,4] rfl (mvV rfl rfl (Vw rfl (iad rfl rfl QN hb1.om.own.sl (by omega) (by omega)) (Vw rfl (ldE rfl Zk hb1.om.own.sl (by rw [Int.toNat_natCast]; exact hri) (Ext.refl _)) (Qk rfl rfl (Qk rfl rfl (Qd (Qa (Qc (Qb [0,1,2,3,4,5,6,7,8,9,10] rfl (mvV rfl rfl ?_)))))))))))))))
  refine mvV rfl rfl (QM rfl rfl (Qz rfl rfl Qci (Vw rfl (ldB rfl Zk hb1.blk) (mvV rfl rfl (Vw rfl (QO rfl rfl QA hpo (by omega) (by omega)) (Vw rfl (ldI rfl na3 hpo (Ext.refl _) (by omega) (by omega)) ?_))))))
  rw [Ml.gi_ofNat (by omega)]
  refine Vw rfl (QO rfl rfl QA hvr (by omega) (by omega)) (Vw rfl (ldI rfl na3 hvr (Ext.refl _) (by omega) (by omega)) (Qk rfl rfl (Qd (Qa (Qc (Qb [0,1] rfl (mvV rfl rfl (QG rfl rfl rfl (Qd (Qa (Qo rfl ?_ ?_)))))))))))
  ·intro hx
   have hx' : gi (Ml.redFold (opsP P) R ps zs i) (ps.getD i 0 : Nat) ≠ 0 := by simpa using hx
   generalize hxd : gi (Ml.redFold (opsP P) R ps zs i) (ps.getD i 0 : Nat) = x at *
   have hstep : Ml.redFold (opsP P) R ps zs (i + 1) = Ml.subRow (opsP P) (Ml.redFold (opsP P) R ps zs i) x (R.getD i []) := by
    rw [Ml.redFold_succ, Ml.redStep, hxd, if_neg hx']
    rfl
   generalize Ml.redFold (opsP P) R ps zs i = zi at *
   refine Qc (Qb [0,1,2] rfl (mvV rfl rfl (Vw rfl (Zh rfl QA (OwnI.ints hor)) (mvV rfl rfl (Qd (Qa (Qf ?_)))))))
   refine Qv (fun j : Nat => [(0, .pointer (some ⟨bb, 0, none⟩)), (1, v), (5, .int .i64 i), (6, r), (7, .int .i64 x), (16, rv), (17, .int .i64 rows.length), (18, .int .i64 i), (35, r), (36, .int .i64 (R.getD i []).length), (37, .int .i64 j)])
    (fun j w' => j ≤ zi.length ∧ Gr v.ownBlock.toList w w' ∧ OwnI B w' v 3 (tab zi.length fun t => if t < j then (opsP P).ad (gi zi t) ((opsP P).ng ((opsP P).mu x (gi (R.getD i []) t))) else gi zi t)) (fun j => zi.length - j) 0 ⟨rfl, rfl, rfl, rfl, rfl, rfl, rfl, rfl, rfl, rfl, rfl, trivial⟩ ⟨by omega, hGr, by simpa using (ge_tab (l := zi) rfl) ▸ hvi⟩ ?_
   clear hGr hvi hvr hb1 hE1 hpo hor
   rintro j w2 ⟨j1, hGr, hvj⟩
   have hb2 := hba.gr hGr hvX'
   have hE2 := hGr.ext hE0 hX0
   have hvr := OwnI.ints hvj
   have hor := OwnI.ints (hb2.om.row i r (R.getD i []) hri (getD_some hiR))
   try dsimp only
   refine Qc (Qb [0] rfl (Qy rfl rfl rfl (Qd (Qa (Qc (Qo rfl ?_ ?_))))))
   ·intro hj
    replace hj := of_decide_eq_true hj
    have hgz : gi (tab zi.length fun t => if t < j then (opsP P).ad (gi zi t) ((opsP P).ng ((opsP P).mu x (gi (R.getD i []) t))) else gi zi t) j = gi zi j := by
     rw [ZO (by omega) (by omega), Int.toNat_natCast, if_neg (by omega)]
    refine Qe (Qa (Qc (Qf (Qc (Qb [0,1,2,3,4] rfl (mvV rfl rfl (Vw rfl (QO rfl rfl QA hor (by omega) (by omega)) (Vw rfl (ldI rfl na3 hor (Ext.refl _) (by omega) (by omega)) (Qk rfl rfl (Qk rfl rfl (Qd (Qa (Qx QK [0,1,2,3,4,5,6,7,8,9,10,11,12,13,14,15,16,17,18,19] (by kernel_rfl) ?_)))))))))))))
    intro w3 hd _
    replace hvj := hvj.ext hd
    replace hvr := hvr.ext hd
    replace hE2 := hE2.trans hd
    replace hb2 := hb2.ext hd
    refine mvV rfl rfl (mvV rfl rfl (mvV rfl rfl (QM rfl rfl (Qz rfl rfl QaW (Vw rfl (ldB rfl KZ hb2.blk) (mvV rfl rfl (mvV rfl rfl (Vw rfl (QO rfl rfl QA hvr (by omega) (by rw [Qs]; omega)) (Vw rfl (ldI rfl na3 hvr (Ext.refl _) (by omega) (by rw [Qs]; omega)) ?_)))))))))
    rw [hgz]
    refine mvV rfl rfl (QM rfl rfl (Qz rfl rfl QaW (Vw rfl (ldB rfl KZ hb2.blk) (mvV rfl rfl (mvV rfl rfl (C rfl wu rfl rfl Tryz.call61 (gMul P g x _ _ (hG.ext hE2)) ?_))))))
    rintro _ w4 hE4 rfl
    replace hE2 := hE2.trans hE4
    refine C rfl wu rfl rfl Tryz.call306 (gSub P g (gi zi j) _ _ (hG.ext hE2)) ?_
    rintro _ w5 hE5 rfl
    replace hE2 := hE2.trans hE5
    replace hvj := OwnI.ext (OwnI.ext hvj hE4) hE5
    replace hvr := (hvr.ext hE4).ext hE5
    refine Vw rfl (QO rfl rfl QA hvr (by omega) (by rw [Qs]; omega)) (STI rfl wu rfl rfl sz3 (by intro h; kernel_rfl) ?_ (ho := hvj) (h0 := by omega) (h1 := by rw [Qs]; omega))
    intro w6 hg6 hX6 hO6 hI6
    refine Qd (Qg (Qa (Qb [0,1] rfl (Qw rfl rfl rfl (mvV rfl rfl (Qd (Qi (j + 1) ⟨rfl, rfl, rfl, rfl, rfl, rfl, rfl, rfl, rfl, rfl, rfl, trivial⟩ ⟨by omega, (((hGr.trans (Gr.of_ext hd)).trans (Gr.of_ext hE4)).trans (Gr.of_ext hE5)).trans (Gr.of_grown hg6 (fun k hk => by simp [hk])), ?_⟩ (by omega))))))))
    rw [Jt, sub_ops] at hO6
    have e : (tab zi.length fun t => if t = ((j : Int)).toNat then (opsP P).ad (gi zi j) ((opsP P).ng ((opsP P).mu x (gi (R.getD i []) j))) else if t < j then (opsP P).ad (gi zi t) ((opsP P).ng ((opsP P).mu x (gi (R.getD i []) t))) else gi zi t) = tab zi.length fun t => if t < j + 1 then (opsP P).ad (gi zi t) ((opsP P).ng ((opsP P).mu x (gi (R.getD i []) t))) else gi zi t := QF fun t ht => by
     rw [Int.toNat_natCast]
     by_cases e : t = j
     ·subst e
      rw [if_pos rfl, if_pos (by omega)]
     ·rw [if_neg e]
      by_cases h : t < j
      ·rw [if_pos h, if_pos (show t < j + 1 by omega)]
      ·rw [if_neg h, if_neg (by omega)]
    rw [← e]
    exact hO6
   ·intro hj
    replace hj := of_decide_eq_false hj
    obtain rfl : j = zi.length := by omega
    refine Qt (Ql (Qm (Qh (Qg (Qa (Qb [0,1] rfl (Qw rfl rfl rfl (mvV rfl rfl (Qd (Qi (i + 1) ⟨rfl, rfl, rfl, rfl, rfl, trivial⟩ ⟨by omega, hGr, ?_⟩ (by omega)))))))))))
    have e : (tab zi.length fun t => if t < zi.length then (opsP P).ad (gi zi t) ((opsP P).ng ((opsP P).mu x (gi (R.getD i []) t))) else gi zi t) = Ml.subRow (opsP P) zi x (R.getD i []) := QF fun t ht => if_pos ht
    rw [hstep, ← e]
    exact hvj
  ·intro hx
   have hx' : gi (Ml.redFold (opsP P) R ps zs i) (ps.getD i 0 : Nat) = 0 := by simpa using hx
   refine Qe (Qg (Qa (Qb [0,1] rfl (Qw rfl rfl rfl (mvV rfl rfl (Qd (Qi (i + 1) ⟨rfl, rfl, rfl, rfl, rfl, trivial⟩ ⟨by omega, hGr, ?_⟩ (by omega))))))))
   rw [Ml.redFold_succ, Ml.redStep, if_pos hx']
   exact hvi
 ·intro hc
  simp at hc
  obtain rfl : i = R.length := by omega
  have hzi := InR.redFold (R := R) (ps := ps) hz R.length
  have hcs := Ml.basAdd_cases (o := opsP P) R ps zs
  have hsub : ∀ k ∈ v.ownBlock.toList, k ∈ baX bb rv pv rows ++ v.ownBlock.toList := fun k hk => List.mem_append_right _ hk
  refine Qt (Ql (Qm (Qh (Qa (Qc (Qb [0,1,2] rfl (mvV rfl rfl (C rfl wu rfl rfl Tryz.call58 (XE 308 (fun x => decide (x ≠ 0)) Tryz.call308 v _ _ hvr (fun x w' => isNz x w')) ?_))))))))
  rintro _ w2 hE2 rfl
  refine Qk rfl rfl (Qd (Qa (Qc (Qc ?_))))
  have hGr2 := hGr.trans (Gr.of_ext hE2)
  have hb2 := hb1.ext hE2
  have hv2 := OwnI.ext hvi hE2
  have hE02 := hE1.trans hE2
  rcases hcs with ⟨hl, hba2⟩ | ⟨k, hl, hba2⟩
  ·have hl' : (Ml.redFold (opsP P) R ps zs R.length).findIdx? (fun x => decide (x ≠ 0)) = none := hl
   rw [hl', hba2]
   refine Qb [0,1] rfl (mvV rfl rfl (Qy rfl rfl rfl (Qd (Qa (QC rfl (rfl) (Qc (Qb [0] rfl (Qk rfl rfl (Qd (Qa (Qq (Qp (Qj rfl rfl ?_)))))))))))))
   exact ⟨hGr2.mono hsub, rfl, rv, pv, rows, hb2, fun k hk => .inl hk⟩
  ·have hl' : (Ml.redFold (opsP P) R ps zs R.length).findIdx? (fun x => decide (x ≠ 0)) = some k := hl
   obtain ⟨hk1, hk2⟩ := Ml.lead_some hl
   have hzd : Ml.redV (opsP P) R ps zs = Ml.redFold (opsP P) R ps zs R.length := rfl
   rw [hl', hba2]
   rw [hzd] at hk1 hk2 ⊢
   generalize Ml.redFold (opsP P) R ps zs R.length = zi at *
   have hvr2 := OwnI.ints hv2
   have hkin := hzi.get (k := k) (by omega) (by omega)
   have hkK : inK P (gi zi k) ≠ 0 := fun e => by
    rw [ZF hkin] at e
    exact hk2 (congrArg Subtype.val e)
   have hiv : (opsP P).iv (gi zi k) = (invK P (inK P (gi zi k))).1 := by
    show (if inK P (gi zi k) = 0 then 1 else (invK P (inK P (gi zi k))).1) = _
    rw [if_neg hkK]
   rw [hiv]
   refine Qb [0,1] rfl (mvV rfl rfl (Qy rfl rfl rfl (Qd (Qa (Qn rfl (by show decide ((k : Int) < 0) = false; exact decide_eq_false (by omega)) (Qe (Qa (Qc (Qx QK [0,1,2,3,4,5,6,7,8,9,10,11,12,13] (by kernel_rfl) ?_)))))))))
   intro w3 hd _
   replace hv2 := hv2.ext hd
   replace hvr2 := hvr2.ext hd
   replace hE02 := hE02.trans hd
   replace hb2 := hb2.ext hd
   refine mvV rfl rfl (QM rfl rfl (Qz rfl rfl QaW (Vw rfl (ldB rfl KZ hb2.blk) (mvV rfl rfl (mvV rfl rfl (Vw rfl (QO rfl rfl QA hvr2 (by simp [ixI]) (by simp [ixI]; omega)) (Vw rfl (ldI rfl na3 hvr2 (Ext.refl _) (by simp [ixI]) (by simp [ixI]; omega)) (C rfl wu rfl rfl Tryz.call60 (gInv P g (gi zi k) _ (hG.ext hE02)) ?_))))))))
   rintro _ w4 hE4 rfl
   rw [if_neg hkK]
   refine mvV rfl rfl (QI rfl rfl rfl (QI rfl rfl rfl (Qk rfl rfl (Qk rfl rfl (Qd (Qa (Qc ?_)))))))
   have hE04 := hE02.trans hE4
   replace hb2 := hb2.ext hE4
   replace hv2 := OwnI.ext hv2 hE4
   replace hvr2 := hvr2.ext hE4
   have hGr4 := (hGr2.trans (Gr.of_ext hd)).trans (Gr.of_ext hE4)
   generalize (invK P (inK P (gi zi k))).1 = iv
   refine Qx QK [0,1,2,3,4,5,6,7,8,9,10,11,12,13,14,15,16] (by kernel_rfl) ?_
   intro w5 hd5 _
   replace hv2 := hv2.ext hd5
   replace hvr2 := hvr2.ext hd5
   replace hE04 := hE04.trans hd5
   replace hb2 := hb2.ext hd5
   refine mvV rfl rfl (mvV rfl rfl (QM rfl rfl (Qz rfl rfl Qcj (Vw rfl (ldB rfl Zm hb2.blk) (mvV rfl rfl (QM rfl rfl (Qz rfl rfl QaW (Vw rfl (ldB rfl KZ hb2.blk) (mvV rfl rfl ?_)))))))))
   refine mvV rfl rfl ?_
   have hpw5 := fun j hj => (Own.lt hb2.ow j hj).2
   refine C rfl wu rfl rfl Tryz.call246 (Qb5 P g v iv zi _ (hG.ext hE04) hvr2 (by omega)) ?_
   rintro nr w6 hE6 ⟨hnr, hnb⟩
   refine BS (us := [nr]) rfl wu rfl rfl rfl rfl QN (by have := (OwnI.ints hnr).one; intro u hu; rw [List.mem_singleton.1 hu]; exact this) ?_
   intro tv w7 hE7 htv htb
   have hz6 := hE6.size
   have hz7 := hE7.size
   have hb5 := hb2.om.bk
   replace hb2 := (hb2.ext hE6).ext hE7
   refine APOM (w1 := w5) rfl wu rfl rfl rfl QN (by intro h h2; exact absurd h2 (by decide +kernel)) hb2.om htv.sl (OwnI.ext hnr hE7) (fun k hk => (hb5 k hk).2) (Nat.le_refl _) (by have := hGr4.size; have := hd5.size; omega) (by have := hGr4.size; have := hd5.size; omega) (by omega) ?_
   intro rv2 w8 hg8 hom8 hvb8
   replace hg8 : w7.grownBy w8 rv.ownBlock := hg8
   replace hvb8 : rv2.ownBlock = rv.ownBlock ∨ rv2.ownBlock = some w7.heap.size := hvb8
   refine QM rfl rfl (Qz rfl rfl Qcj ?_)
   have hG8 : Gr (baX bb rv pv rows) w7 w8 := Gr.of_grown hg8 (fun k hk => ZM.2 (.inr (.inl (QQ.2 (.inl hk)))))
   have hbk8 : Blk w8 bb 245 #[g, rv, pv] := hb2.blk.grown hg8 (fun e => hb2.bX (QQ.2 (.inl e)))
   have ho8 : OwnI B w8 pv 3 (ps.map Int.ofNat) := Own.gr (X := rv.ownBlock.toList) hb2.ow (Gr.of_grown hg8 (fun k hk => by simp [hk])) (fun k hk e => hb2.pX k hk (QQ.2 (.inl (by simpa using e))))
   have hr21 := hom8.own.sl.one
   refine STB (k := 1) (n := 1) (vs := [rv2]) (cs := [g, rv, pv]) (cs' := [g, rv2, pv]) rfl wu rfl rfl (QB hr21) sv25 (by intro h; kernel_rfl) hbk8 (by intro v hv; simp only [List.mem_cons, List.not_mem_nil, or_false] at hv; rcases hv with rfl; exact hr21) rfl rfl rfl ?_
   intro w9 hg9 hX9 hb9
   refine Qd (Qa (Qc ?_))
   have hom9 : OM B w9 rv2 22 3 (rows ++ [nr]) (R ++ [Ml.scaleR (opsP P) iv zi]) := hom8.gr (X := [bb]) (Gr.of_grown hg9 (fun k e => by simp [Option.some.inj e])) (fun k hk e => hom8.notin hbk8 (by decide) (by decide) (by rw [← List.mem_singleton.1 e]; exact hk))
   have ho9 : OwnI B w9 pv 3 (ps.map Int.ofNat) := Own.gr (X := [bb]) ho8 (Gr.of_grown hg9 (fun k e => by simp [Option.some.inj e])) (fun k hk e => hb2.bP (by rw [← List.mem_singleton.1 e]; exact hk))
   have hz4 := hGr4.size
   have hz5 := hd5.size
   have hpl2 := Own.lt hb2.ow
   have hnlt := Own.lt hnr
   have hpx9 : ∀ j, pv.ownBlock = some j → j ∉ bks rv2 (rows ++ [nr]) := fun j hj h => by
    rcases Qco hvb8 h with h | h | h
    ·exact hb2.pX j hj h
    ·have := hpw5 j hj
     have := (hnlt j h).1
     omega
    ·have := hpw5 j hj
     omega
   refine Qb [0,1,2,3,4,5,6,7,8,9,10] rfl (mvV rfl rfl (mvV rfl rfl (QM rfl rfl (Qz rfl rfl Qci (Vw rfl (ldB rfl Zk hb9) (mvV rfl rfl (BSI (zs := [(k : Int)]) rfl wu rfl rfl rfl rfl QA ?_)))))))
   intro kv w10 hE10 hko hki hkb
   replace hb9 := hb9.ext hE10
   replace hom9 := hom9.ext hE10
   replace ho9 := OwnI.ext ho9 hE10
   have hz10 := hE10.size
   have hb10 := hom9.bk
   refine API rfl wu rfl rfl rfl QA nofun ?_ (ho := ho9) (hB := by have := hg8.size; have := hg9.size; omega) (hs := hki) (hE := Ext.refl _) (hlen := by simp only [List.length_map, List.length_cons, List.length_nil]; omega)
   intro pv3 w11 hg11 hX11 ho11 hi11 hpb11
   replace hg11 : w10.grownBy w11 pv.ownBlock := hg11
   replace hpb11 : pv3.ownBlock = pv.ownBlock ∨ pv3.ownBlock = some w10.heap.size := hpb11
   refine QM rfl rfl (Qz rfl rfl Qci ?_)
   have hb11 : Blk w11 bb 245 #[g, rv2, pv] := hb9.grown hg11 hb2.bP
   have hom11 := hom9.gr (X := pv.ownBlock.toList) (Gr.of_grown hg11 (fun j e => by simp [e])) (fun j hj e => hpx9 j (by simpa using e) hj)
   have hp31 := (OwnI.ints ho11).one
   refine STB (k := 2) (n := 1) (vs := [pv3]) (cs := [g, rv2, pv]) (cs' := [g, rv2, pv3]) rfl wu rfl rfl (QB hp31) sv22 nofun hb11 (by intro v hv; simp only [List.mem_cons, List.not_mem_nil, or_false] at hv; rcases hv with rfl; exact hp31) rfl rfl rfl ?_
   intro w12 hg12 hX12 hb12
   refine Qd (Qa (Qc (Qb [0] rfl (Qk rfl rfl (Qd (Qa (Qq (Qj rfl rfl ?_))))))))
   have hom12 := hom11.gr (X := [bb]) (Gr.of_grown hg12 (fun j e => by simp [Option.some.inj e])) (fun j hj e => hom11.notin hb11 (by decide) (by decide) (by rw [← List.mem_singleton.1 e]; exact hj))
   have hp3b : pv3.ownBlock ≠ some bb := fun e => by
    obtain ⟨c, hc⟩ := Own.ty ho11 e
    have hb := hb11
    rw [Blk, hc] at hb
    simp only [Option.some.injEq, Obj.cells.injEq] at hb
    exact absurd hb.2.1 (by decide)
   have ho12 := Own.gr (X := [bb]) ho11 (Gr.of_grown hg12 (fun j e => by simp [Option.some.inj e])) (fun j hj e => hp3b (by rw [← List.mem_singleton.1 e]; exact hj))
   have e2 : (ps ++ [k]).map Int.ofNat = ps.map Int.ofNat ++ [(k : Int)] := by simp
   have hpx11 : ∀ j, pv3.ownBlock = some j → j ∉ bks rv2 (rows ++ [nr]) := fun j hj h => by
    rcases hpb11 with e | e
    ·exact hpx9 j (by rw [← e]; exact hj) h
    ·rw [e] at hj
     have := Option.some.inj hj
     have := (hb10 j h).2
     omega
   have hGa : Gr (baX bb rv pv rows ++ v.ownBlock.toList) w w7 := (((hGr4.trans (Gr.of_ext hd5)).trans (Gr.of_ext hE6)).trans (Gr.of_ext hE7)).mono hsub
   have hGb : Gr (baX bb rv pv rows ++ v.ownBlock.toList) w7 w9 := (hG8.mono fun j hj => List.mem_append_left _ hj).trans (Gr.of_grown hg9 (fun j hj => List.mem_append_left _ (ZM.2 (.inl (Option.some.inj hj).symm))))
   have hGc : Gr (baX bb rv pv rows ++ v.ownBlock.toList) w9 w12 := ((Gr.of_ext hE10).trans (Gr.of_grown hg11 (fun j hj => List.mem_append_left _ (ZM.2 (.inr (.inr hj)))))).trans (Gr.of_grown hg12 (fun j hj => List.mem_append_left _ (ZM.2 (.inl (Option.some.inj hj).symm))))
   refine ⟨(hGa.trans hGb).trans hGc, rfl, rv2, pv3, rows ++ [nr], ⟨hb12, hom12, by rw [e2]; exact ho12, hpx11, hba.hB⟩, fun j hj => ?_⟩
   rcases ZM.1 hj with rfl | hj | hj
   ·exact .inl (ZM.2 (.inl rfl))
   ·rcases Qco hvb8 hj with h | h | h
    ·exact .inl (ZM.2 (.inr (.inl h)))
    ·have := (hnlt j h).1
     exact .inr (by omega)
    ·exact .inr (by omega)
   ·rcases hpb11 with e | e
    ·exact .inl (ZM.2 (.inr (.inr (by rw [← e]; exact hj))))
    ·rw [e] at hj
     have := Option.some.inj hj
     exact .inr (by have := hGa.size; have := hGb.size; omega)
end Go.Proofs.YtcfbigmjjpknfaaGreatDoor
