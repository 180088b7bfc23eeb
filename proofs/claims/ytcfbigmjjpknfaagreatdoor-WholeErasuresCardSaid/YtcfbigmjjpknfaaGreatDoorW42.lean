import Derived.Test.YtcfbigmjjpknfaaGreatDoorW41
import Derived.Test.YtcfbigmjjpknfaaGreatDoorW17
import Derived.Test.YtcfbigmjjpknfaaGreatDoorW16
import Derived.Test.YtcfbigmjjpknfaaGreatDoorW32
import Derived.Test.YtcfbigmjjpknfaaGreatDoorW37
import Derived.Test.YtcfbigmjjpknfaaGreatDoorW39
import Derived.Test.YtcfbigmjjpknfaaGreatDoorW40
namespace Go.Proofs.YtcfbigmjjpknfaaGreatDoor
open Go Go.Sx Go.Pl Go.RowKit Go.Fd Go.Alg
theorem Qat {P : FP} (hgen : ∃ g : K P, HasOrder g (n1 P)) {L : List (List Int)} {n a : Nat} {M : Nat → Nat → K P} {pv : Nat → Nat} (hR : RlIn P n L) (h : Red P L.length n (kM P L) a M pv) : Ml.canonM (opsP P) L n = (matL P a n M, (List.range a).map pv) := by
 obtain ⟨a', M', pv', e, _, hR', hS'⟩ := ZH hgen L.length n (kM P L)
 rw [← hR.mat] at e
 obtain ⟨_, hRr, hS⟩ := h
 obtain ⟨ea, hq⟩ := hR'.uniq (fun e => JC e) hRr (fun i hi => (hS _).2 ((hS' _).1 (Sp.row hi))) (fun i hi => (hS' _).2 ((hS _).1 (Sp.row hi)))
 subst ea
 rw [e]
 congr 1
 ·exact Zs fun i j hi hj => (hq i hi).2 j hj
 ·exact List.map_congr_left fun i hi => (hq i (List.mem_range.1 hi)).1
set_option maxRecDepth 10000 in
theorem rNull (P : FP) (mo : Value) (md : List Int) (u : Value) (L : List (List Int)) (n : Nat) (w : World) (hF : FV w P mo md) (hgen : ∃ g : K P, HasOrder g (n1 P)) (hL : LL w u L) (hR : RlIn P n L) (hm : L.length ≤ 256) (hn : n ≤ 256) :
  Calls Tryz.prog 37 #[fv P mo, u, .int .i64 n] w (RetX w fun r w' => LL w' r (Ml.kernelM (opsP P) L n)) := by
 refine QS Tryz.func37 rfl rfl (Qc (Qb [0,1] rfl (BXA rfl wu rfl rfl ?_)))
 intro fb w1 hE hB hg
 refine Qk rfl rfl (Qd (Qa (Qc (Qb [0,1,2,3,4,5,6,7,8] rfl (Vw rfl (ldA rfl Zf hB) (mvV rfl rfl (mvV rfl rfl (C rfl wu rfl rfl Tryz.call64 (QcH P mo md u L.length n (kM P L) _ (hF.ext hE) hgen (by rw [← hR.mat]; exact hL.ext hE) (by omega) (by omega)) ?_))))))))
 rintro _ w2 hE2 ⟨lv, pvv, a, M, pv, rfl, hlv, hpv, hRed⟩
 replace hB := hB.ext hE2
 replace hE := hE.trans hE2
 refine mvV rfl rfl (QI rfl rfl rfl (QI rfl rfl rfl (Qk rfl rfl (Qk rfl rfl (Qd (Qa (Qc ?_)))))))
 have hcan := Qat hgen hR hRed
 have hke : Ml.kernelM (opsP P) L n = (Ml.canonM (opsP P) (Ml.kerRows (opsP P) (matL P a n M) ((List.range a).map pv) n n) n).1 := by rw [Ml.kernelM_eq, hcan]
 obtain ⟨_, hRr, _⟩ := hRed
 have hpl : (tab a fun i => ((pv i : Nat) : Int)).length = a := Qs _ _
 have hpg : ∀ i : Nat, i < a → gi (tab a fun i => ((pv i : Nat) : Int)) i = pv i := fun i hi => by rw [ZO (by omega) (by omega), Int.toNat_natCast]
 have hpsl : ((List.range a).map pv).length = a := by simp
 have hpsg : ∀ i : Nat, i < a → ((List.range a).map pv).getD i 0 = pv i := fun i hi => by simp [List.getD_eq_getElem?_getD, hi]
 have hps : ∀ p ∈ (List.range a).map pv, p < n := fun p hp => by
  obtain ⟨i, hi, rfl⟩ := List.mem_map.1 hp
  exact hRr.lt i (List.mem_range.1 hi)
 have han := Rr.few hRr
 have hmr : ∀ i, i < a → Ml.rw (matL P a n M) i = rowL P n (M i) := fun i hi => ZY hi
 have hlvl := hlv.ll
 obtain ⟨rs, hsl, hrl, hrow⟩ := hlvl.row
 rw [QP] at hrl
 have hF2 := hF.ext hE
 refine Qb [0,1,2] rfl (mvV rfl rfl (MKI (n := n) rfl wu rfl rfl QA ?_))
 intro xv w3 hE3 hxa hxi hxb
 refine Qk rfl rfl (Qd (Qa (Qc (Qc (Qb [0] rfl (Qk rfl rfl (Qd (Qa (Qf ?_)))))))))
 refine Qv (fun s : Nat × List Int => [(2, .int .i64 n), (3, .pointer (some ⟨fb, 0, none⟩)), (7, lv), (8, pvv), (9, xv), (10, .int .i64 s.1)])
  (fun s w' => s.1 ≤ n ∧ Ext w2 w' ∧ OwnI w2.heap.size w' xv 3 s.2 ∧ s.2.length = n ∧ ∀ j : Nat, j < s.1 → gi s.2 j = -1) (fun s => n - s.1) (0, tab n fun _ => 0) ⟨rfl, rfl, rfl, rfl, rfl, rfl, trivial⟩ ⟨by dsimp only; omega, hE3, hxa, Qs _ _, fun j hj => by dsimp only at hj; omega⟩ ?_
 clear hE3 hxa hxi
 rintro ⟨i, zs⟩ w4 ⟨i1, hX, hxo, hzl, hz⟩
 dsimp only at i1 hX hxo hzl hz
 try dsimp only
 refine Qc (Qc (Qb [0,1,2] rfl (mvV rfl rfl (mvV rfl rfl (Qy rfl rfl rfl (Qd (Qa (Qo rfl ?_ ?_))))))))
 ·intro hc
  simp at hc
  refine Qe (Qa (Qc (Qf (Qb [0,1,2,3] rfl (mvV rfl rfl (mvV rfl rfl (Vw rfl (QO rfl rfl QA (OwnI.ints hxo) (by omega) (by omega)) (STI rfl wu rfl rfl sz3 nofun ?_ (ho := hxo) (h0 := by omega) (h1 := by omega)))))))))
  intro w5 hg5 hX5 hxo5 hxi5
  refine Qd (Qg (Qa (Qb [0,1,2] rfl (mvV rfl rfl (Qw rfl rfl rfl (Qk rfl rfl (Qd (Qi (i + 1, si zs i (-1)) ⟨rfl, rfl, rfl, rfl, rfl, rfl, trivial⟩ ⟨by dsimp only; omega, hX5 w2 (Nat.le_refl _) hX, hxo5, by dsimp only; rw [Zp]; exact hzl, fun j hj => ?_⟩ (by dsimp only; omega)))))))))
  dsimp only at hj ⊢
  rw [QbE (by omega)]
  split
  ·rfl
  ·exact hz j (by omega)
 intro hc
 simp at hc
 have ein : i = n := by omega
 rw [ein] at hz
 clear hc i1 ein
 refine Qt (Ql (Qm (Qh (Qa (Qc (Qc (Qb [0] rfl (Qk rfl rfl (Qd (Qa (Qf ?_)))))))))))
 refine Qv (fun s : Nat × List Int => [(2, .int .i64 n), (3, .pointer (some ⟨fb, 0, none⟩)), (7, lv), (8, pvv), (9, xv), (11, .int .i64 s.1)])
  (fun s w' => s.1 ≤ a ∧ Ext w2 w' ∧ OwnI w2.heap.size w' xv 3 s.2 ∧ s.2.length = n ∧ ∀ j : Nat, j < n → (0 ≤ gi s.2 j ↔ ∃ t, t < s.1 ∧ pv t = j)) (fun s => a - s.1) (0, zs) ⟨rfl, rfl, rfl, rfl, rfl, rfl, trivial⟩ ⟨by dsimp only; omega, hX, hxo, hzl, fun j hj => by
   dsimp only
   rw [hz j hj]
   exact ⟨fun h => by omega, fun ⟨t, ht, _⟩ => by omega⟩⟩ ?_
 clear hX hxo hzl hz
 clear zs
 rintro ⟨i, zs⟩ w4 ⟨i1, hX, hxo, hzl, hz⟩
 dsimp only at i1 hX hxo hzl hz
 have hpi := hpv.ext hX
 try dsimp only
 refine Qc (Qc (Qb [0,1,2,3] rfl (mvV rfl rfl (mvV rfl rfl (Vw rfl (Zh rfl QA hpi) (Qy rfl rfl rfl (Qd (Qa ?_))))))))
 rw [hpl]
 refine Qo rfl ?_ ?_
 ·intro hc
  simp at hc
  have hlt := hRr.lt i hc
  refine Qe (Qa (Qc (Qf (Qb [0,1,2,3,4,5,6,7] rfl (mvV rfl rfl (mvV rfl rfl (mvV rfl rfl (Vw rfl (QO rfl rfl QA hpi (by omega) (by omega)) (Vw rfl (ldI rfl na3 hpi (Ext.refl _) (by omega) (by omega)) (mvV rfl rfl ?_))))))))))
  rw [hpg i hc]
  refine Vw rfl (QO rfl rfl QA (OwnI.ints hxo) (by omega) (by omega)) (STI rfl wu rfl rfl sz3 nofun ?_ (ho := hxo) (h0 := by omega) (h1 := by omega))
  intro w5 hg5 hX5 hxo5 hxi5
  refine Qd (Qg (Qa (Qb [0,1,2] rfl (mvV rfl rfl (Qw rfl rfl rfl (Qk rfl rfl (Qd (Qi (i + 1, si zs (pv i : Nat) i) ⟨rfl, rfl, rfl, rfl, rfl, rfl, trivial⟩ ⟨by dsimp only; omega, hX5 w2 (Nat.le_refl _) hX, hxo5, by dsimp only; rw [Zp]; exact hzl, fun j hj => ?_⟩ (by dsimp only; omega)))))))))
  dsimp only
  rw [QbE (by omega)]
  by_cases e : j = pv i
  ·rw [if_pos e]
   exact ⟨fun _ => ⟨i, by omega, e.symm⟩, fun _ => by omega⟩
  ·rw [if_neg e, hz j hj]
   exact ⟨fun ⟨t, ht, et⟩ => ⟨t, by omega, et⟩, fun ⟨t, ht, et⟩ => ⟨t, by
    have : t ≠ i := fun h => e (by rw [← et, h])
    omega, et⟩⟩
 intro hc
 simp at hc
 have eia : i = a := by omega
 rw [eia] at hz
 clear hc i1 eia
 refine Qt (Ql (Qm (Qh (Qa (Qc (Qb [0] rfl (Qk rfl rfl (Qd (Qa (Qc (Qc (Qb [0] rfl (Qk rfl rfl (Qd (Qa (Qf ?_))))))))))))))))
 refine Qv (fun s : Nat × Value × List Value => [(2, .int .i64 n), (3, .pointer (some ⟨fb, 0, none⟩)), (7, lv), (8, pvv), (9, xv), (12, s.2.1), (13, .int .i64 s.1)])
  (fun s w' => s.1 ≤ n ∧ Ext w4 w' ∧ OM w4.heap.size w' s.2.1 22 3 s.2.2 (Ml.kerRows (opsP P) (matL P a n M) ((List.range a).map pv) n s.1)) (fun s => n - s.1) (0, .slice none 0 0, []) ⟨rfl, rfl, rfl, rfl, rfl, rfl, rfl, trivial⟩ ⟨by dsimp only; omega, Ext.refl _, OM.nil _ _ _ _⟩ ?_
 rintro ⟨c, ov, rws⟩ wi ⟨c1, hEi, hom⟩
 dsimp only at c1 hEi hom
 have hpi := hpi.ext hEi
 have hxi := (OwnI.ints hxo).ext hEi
 try dsimp only
 refine Qc (Qc (Qb [0,1,2] rfl (mvV rfl rfl (mvV rfl rfl (Qy rfl rfl rfl (Qd (Qa (Qo rfl ?_ ?_))))))))
 rotate_left
 ·intro hc
  simp at hc
  have ecn : c = n := by omega
  rw [ecn] at hom
  have hkr := RlIn.ker (P := P) (R := matL P a n M) hps n (Nat.le_refl _)
  have hkl := Ml.kerRows_length (o := opsP P) (rows := matL P a n M) (ps := (List.range a).map pv) (cols := n) (c := n)
  have hEw := (hE.trans hX).trans hEi
  refine Qt (Ql (Qm (Qh (Qa (Qc (Qb [0,1,2,3,4,5,6,7] rfl (Vw rfl (ldA rfl Zf ((hB.ext hX).ext hEi)) (mvV rfl rfl (mvV rfl rfl (C rfl wu rfl rfl Tryz.call64 (QcH P mo md ov _ n (kM P _) _ ((hF2.ext hX).ext hEi) hgen (by rw [← hkr.mat]; exact hom.ll) (by omega) (by omega)) ?_))))))))))
  rintro _ w6 hE6 ⟨lv2, pvv2, a2, M2, pv2, rfl, hlv2, hpv2, hRed2⟩
  refine mvV rfl rfl (QI rfl rfl rfl (QI rfl rfl rfl (Qk rfl rfl (Qd (Qa (Qc (Qb [0,1] rfl (mvV rfl rfl (Qk rfl rfl (Qd (Qa (Qq (Qj rfl rfl ?_)))))))))))))
  refine ⟨hEw.trans hE6, ?_⟩
  rw [hke, Qat hgen hkr hRed2]
  exact hlv2.ll
 intro hc
 simp at hc
 have hzc := hz c hc
 refine Qe (Qa (Qc (Qf (Qc (Qc (Qb [0,1,2,3,4] rfl (mvV rfl rfl (mvV rfl rfl (Vw rfl (QO rfl rfl QA hxi (by omega) (by omega)) (Vw rfl (ldI rfl na3 hxi (Ext.refl _) (by omega) (by omega)) (Vw rfl (Xb rfl rfl) (Qd (Qa (Qo rfl ?_ ?_))))))))))))))
 ·intro hin
  have hin := of_decide_eq_true hin
  obtain ⟨t, ht, et⟩ := hzc.1 hin
  have hmem : c ∈ (List.range a).map pv := List.mem_map.2 ⟨t, List.mem_range.2 ht, et⟩
  refine Qt (Ql (Qh (Qa (Qb [0,1,2] rfl (mvV rfl rfl (Qw rfl rfl rfl (Qk rfl rfl (Qd (Qi (c + 1, ov, rws) ⟨rfl, rfl, rfl, rfl, rfl, rfl, rfl, trivial⟩ ⟨by dsimp only; omega, hEi, ?_⟩ (by dsimp only; omega))))))))))
  dsimp only
  rw [Ml.kerRows_yes hmem]
  exact hom
 ·intro hin
  have hin := of_decide_eq_false hin
  have hmem : c ∉ (List.range a).map pv := fun h => by
   obtain ⟨t, ht, et⟩ := List.mem_map.1 h
   exact hin (hzc.2 ⟨t, List.mem_range.1 ht, et⟩)
  have hbk := hom.bk
  refine Qe (Qa (Qc (Qb [0,1,2] rfl (mvV rfl rfl (MKI (n := n) rfl wu rfl rfl QA ?_)))))
  intro xv2 wa hEa hxa2 hxi2 hxb2
  refine Qk rfl rfl (Qd (Qa (Qc (Qb [0,1,2,3] rfl (mvV rfl rfl (mvV rfl rfl (Vw rfl (QO rfl rfl QA hxi2 (by omega) (by rw [Qs]; omega)) (STI rfl wu rfl rfl sz3 nofun ?_ (ho := hxa2) (h0 := by omega) (h1 := by rw [Qs]; omega)))))))))
  intro wb hgb hXb hOb hIb
  refine Qd (Qa (Qc (Qc ?_)))
  have hEb := hXb wi (Nat.le_refl _) hEa
  refine Qb [0] rfl (Qk rfl rfl (Qd (Qa (Qf ?_))))
  refine Qv (fun i : Nat => [(2, .int .i64 n), (3, .pointer (some ⟨fb, 0, none⟩)), (7, lv), (8, pvv), (9, xv), (12, ov), (13, .int .i64 c), (14, xv2), (15, .int .i64 i)])
   (fun i w' => i ≤ a ∧ Ext wi w' ∧ OwnI wi.heap.size w' xv2 3 (Ml.kerFold (opsP P) (matL P a n M) ((List.range a).map pv) n c i)) (fun i => a - i) 0 ⟨rfl, rfl, rfl, rfl, rfl, rfl, rfl, rfl, rfl, trivial⟩ ⟨by omega, hEb, hOb⟩ ?_
  clear hEb hOb hIb hxa2 hxi2 hEa
  rintro i wj ⟨i2, hEj, hxo2⟩
  have hpj := hpi.ext hEj
  have hfl := Ml.kerFold_length (o := opsP P) (rows := matL P a n M) (ps := (List.range a).map pv) (cols := n) (c := c) i
  try dsimp only
  refine Qc (Qc (Qb [0,1,2,3] rfl (mvV rfl rfl (mvV rfl rfl (Vw rfl (Zh rfl QA hpj) (Qy rfl rfl rfl (Qd (Qa ?_))))))))
  rw [hpl]
  refine Qo rfl ?_ ?_
  ·intro hi
   simp at hi
   obtain ⟨r, hri, hrr⟩ := hrow i (by rw [QP]; exact hi)
   rw [show (matL P a n M).getD i [] = rowL P n (M i) from hmr i hi] at hrr
   have hrll := QT (P := P) n (M i)
   have hXj := (hX.trans hEi).trans hEj
   have hslj := hsl.ext hXj
   have hrrj := hrr.ext hXj
   have hBj := hB.ext hXj
   have hFj := hF2.ext hXj
   have hlt := hRr.lt i hi
   refine Qe (Qa (Qc (Qf (Qx QK [0,1,2,3,4,5,6,7,8,9,10,11,12,13,14,15] (by kernel_rfl) ?_))))
   intro wd hd _
   replace hpj := hpj.ext hd
   replace hslj := hslj.ext hd
   replace hrrj := hrrj.ext hd
   replace hBj := hBj.ext hd
   replace hFj := hFj.ext hd
   replace hEj := hEj.trans hd
   replace hxo2 := hxo2.ext hd
   refine mvV rfl rfl (mvV rfl rfl (mvV rfl rfl (Vw rfl (QO rfl rfl QA hpj (by omega) (by omega)) (Vw rfl (ldI rfl na3 hpj (Ext.refl _) (by omega) (by omega)) (Vw rfl (ldA rfl Zf hBj) (mvV rfl rfl (mvV rfl rfl (Vw rfl (iad rfl rfl QN hslj (by omega) (by omega)) (Vw rfl (ldE rfl Zk hslj (by rw [Int.toNat_natCast]; exact hri) (Ext.refl _)) ?_)))))))))
   refine mvV rfl rfl (Vw rfl (QO rfl rfl QA hrrj (by omega) (by omega)) (Vw rfl (ldI rfl na3 hrrj (Ext.refl _) (by omega) (by omega)) (C rfl wu rfl rfl Tryz.call65 (rNeg P mo md _ _ hFj) ?_)))
   rintro _ wk hEk rfl
   replace hxo2 := OwnI.ext hxo2 hEk
   rw [hpg i hi]
   refine Vw rfl (QO rfl rfl QA (OwnI.ints hxo2) (by omega) (by omega)) (STI rfl wu rfl rfl sz3 (by intro h; kernel_rfl) ?_ (ho := hxo2) (h0 := by omega) (h1 := by omega))
   intro wl hgl hXl hOl hIl
   refine Qd (Qg (Qa (Qb [0,1,2] rfl (mvV rfl rfl (Qw rfl rfl rfl (Qk rfl rfl (Qd (Qi (i + 1) ⟨rfl, rfl, rfl, rfl, rfl, rfl, rfl, rfl, rfl, trivial⟩ ⟨by omega, hXl wi (Nat.le_refl _) (hEj.trans hEk), ?_⟩ (by omega)))))))))
   rw [Ml.kerFold_succ, hpsg i hi, hmr i hi]
   exact hOl
  ·intro hi
   simp at hi
   have eia2 : i = a := by omega
   rw [eia2] at hxo2
   have hkl := Ml.kerRows_length (o := opsP P) (rows := matL P a n M) (ps := (List.range a).map pv) (cols := n) (c := c)
   replace hom := hom.ext hEj
   have hzi := hEi.size
   have hzj := hEj.size
   refine Qt (Ql (Qm (Qh (Qa (Qb [0,1,2,3,4] rfl (mvV rfl rfl (mvV rfl rfl (BS (us := [xv2]) rfl wu rfl rfl rfl rfl QN (by have := (OwnI.ints hxo2).one; intro u hu; rw [List.mem_singleton.1 hu]; exact this) ?_))))))))
   intro tv wm hEm htv htb
   replace hom := hom.ext hEm
   have hzm := hEm.size
   refine APOM (w1 := wi) rfl wu rfl rfl rfl QN nofun hom htv.sl (OwnI.ext hxo2 hEm) (fun k hk => (hbk k hk).2) (Nat.le_refl _) (by omega) (by omega) (by omega) ?_
   intro ov2 wn hgn homn hbn
   replace hgn : wm.grownBy wn ov.ownBlock := hgn
   refine Qk rfl rfl (Qd (Qg (Qa (Qb [0,1,2] rfl (mvV rfl rfl (Qw rfl rfl rfl (Qk rfl rfl (Qd (Qi (c + 1, ov2, rws ++ [xv2]) ⟨rfl, rfl, rfl, rfl, rfl, rfl, rfl, trivial⟩ ⟨by dsimp only; omega, ((hEi.trans hEj).trans hEm).grown hgn hom.own (Nat.le_refl _), ?_⟩ (by dsimp only; omega))))))))))
   dsimp only
   rw [Ml.kerRows_no hmem, Ml.kerRow_eq, hpsl]
   exact homn
set_option maxRecDepth 10000 in
theorem r12Parity (P : FP) (mo : Value) (md : List Int) (v : Value) (L : List (List Int)) (n : Nat) (w : World) (hF : FV w P mo md) (hgen : ∃ g : K P, HasOrder g (n1 P)) (hL : LL w v L) (hR : RlIn P n L) (hm : L.length ≤ 256) (hn : n ≤ 256) :
  Calls Tryz.prog 10 #[cdv P mo n v] w (RetX w fun r w' => LL w' r (Ml.kernelM (opsP P) L n)) := by
 have hv1 := hL.one
 have hm1 := hF.ints.one
 refine QL Tryz.func10 rfl rfl (Qc (Qb [0,1] rfl (BXA rfl wu rfl rfl ?_)))
 intro cb w1 hE hB hg
 refine Qk rfl rfl (Qd (Qa (Qc (Qb [0,1,2,3,4,5,6,7] rfl (Qz rfl rfl Zy (Vw rfl (ldA rfl Zf hB) (Qz rfl rfl ZE (Vw rfl (ldB rfl Zm hB) (Qz rfl rfl Zr (Vw rfl (ldB rfl na3 hB) (C rfl wu rfl rfl Tryz.call37 (rNull P mo md v L n _ (hF.ext hE) hgen (hL.ext hE) hR hm hn) ?_)))))))))))
 intro r w2 hE2 hr
 refine Qk rfl rfl (Qd (Qa (Qq (Qj rfl rfl ?_))))
 exact ⟨hE.trans hE2, hr⟩
end Go.Proofs.YtcfbigmjjpknfaaGreatDoor
namespace Go.Proofs.YtcfbigmjjpknfaaGreatDoor
open Go Go.Sx Go.Pl Go.RowKit Go.Fd Go.Alg
theorem okF_fp2 {p M : Int} {md : List Int} (h : OkF p M md) : OkF (fpOf p M md h.1.1 h.1.2.1).p (fpOf p M md h.1.1 h.1.2.1).M md := by
 have h1 := h.1.2.1
 show OkF p ((M.toNat : Nat) : Int) md
 rw [show ((M.toNat : Nat) : Int) = M by omega]
 exact h
theorem Qdp (P : FP) (mo : Value) (md : List Int) (u : Value) (l : List Int) (n : Int) (w : World) (hF : FV w P mo md) (hu : Ints w u l) :
  Calls Tryz.prog 6 #[fv P mo, u, .int .i64 n] w (RetX w fun r _ => ∃ b, r = .bool b ∧ (b = true → (l.length : Int) = n ∧ InR P l)) := by
 have hm1 := hF.ints.one
 refine QS Tryz.func6 rfl rfl (Qc (Qb [0,1] rfl (BXA rfl wu rfl rfl ?_)))
 intro fb w1 hE hB hg
 refine Qk rfl rfl (Qd (Qa (Qc (Qb [0,1,2,3,4,5] rfl (Vw rfl (ldA rfl Zf hB) (mvV rfl rfl (mvV rfl rfl (C rfl wu rfl rfl Tryz.call18 (rElems P mo md u l n 4 _ (hF.ext hE) (hu.ext hE) (by decide)) ?_))))))))
 rintro _ w2 hE2 ⟨z, rfl, hz⟩
 refine QU rfl rfl rfl (Qk rfl rfl (Qd (Qa (Qq (Qj rfl rfl ?_)))))
 exact ⟨hE.trans hE2, _, rfl, fun h => hz (of_decide_eq_true h)⟩
theorem oth_of {P : FP} (hgen : ∃ g : K P, HasOrder g (n1 P)) {n : Nat} {L : List (List Int)} (h : RlIn P n L) {v : Nat → K P} (hv : Sp L.length n (kM P L) v) : Oth P (Ml.kernelM (opsP P) L n) n v := fun j hj => by
 rw [Ku]
 exact hv.orth fun i hi => (Xq hgen h).2.2 j hj i hi
set_option maxRecDepth 20000 in
theorem Xe (p M : Int) (mo v uv ev : Value) (md : List Int) (N : Int) (L : List (List Int)) (msg er : List Int) (w : World) (hmd : Ints w mo md) (hL : LL w v L) (hu : Ints w uv msg) (he : Ints w ev er) :
  Calls Tryz.prog 3 #[.agg #[.int .i64 p, .int .i64 M, mo, .int .i64 N, v], uv, ev] w (RetX w fun r _ => r = .bool true) := by
 have hv1 := hL.one
 have hm1 := hmd.one
 have hele := he.le
 obtain ⟨rs, hsl, hrl, -⟩ := hL.row
 refine QS Tryz.func3 rfl rfl (Qc (Qb [0,1] rfl (BXA rfl wu rfl rfl ?_)))
 intro cb w1 hE hB hcb
 refine Qk rfl rfl (Qd (Qa (Qc (Qc (Qb [0,1] rfl (C rfl wu rfl rfl Tryz.call4 (alvTrue _) ?_))))))
 rintro _ w2 hE2 rfl
 replace hB := hB.ext hE2
 replace hE := hE.trans hE2
 refine ZC rfl rfl (Qd (Qa (Qn rfl (rfl) (Qe (Qa (Qc (Qc (Qx QK [0,1,2,3,4,5,6,7,8,9,10,11,12,13,14,15,16,17,18,19,21,20,22,23,24] (by kernel_rfl) ?_))))))))
 intro wd hd _
 replace hB := hB.ext hd
 replace hE := hE.trans hd
 refine Vw rfl (ldA rfl Jx hB) (C rfl wu rfl rfl Tryz.call5 (ftFewB 10 1024 (by decide) (by decide) p M mo v md N L _ (hmd.ext hE) (hL.ext hE)) ?_)
 rintro _ w3 hE3 ⟨b, rfl, hb⟩
 replace hB := hB.ext hE3
 replace hE := hE.trans hE3
 rcases Bool.eq_false_or_eq_true b with rfl | rfl
 rotate_left
 ·skip
  refine ZC rfl rfl (mvV rfl rfl (KB 23 true rfl (rfl) (SK rfl rfl rfl rfl rfl (SK rfl rfl rfl rfl rfl (SK rfl rfl rfl rfl rfl (SK rfl rfl rfl rfl rfl (SK rfl rfl rfl rfl rfl (SK rfl rfl rfl rfl rfl (SK rfl rfl rfl rfl rfl ?_)))))))))
  refine SK rfl rfl rfl rfl rfl (pkV rfl rfl rfl (mvV rfl rfl (KB 33 true rfl (rfl) (SK rfl rfl rfl rfl rfl (SK rfl rfl rfl rfl rfl (SK rfl rfl rfl rfl rfl (SK rfl rfl rfl rfl rfl (SK rfl rfl rfl rfl rfl (SK rfl rfl rfl rfl rfl ?_)))))))))
  refine SK rfl rfl rfl rfl rfl (SK rfl rfl rfl rfl rfl (SK rfl rfl rfl rfl rfl (SK rfl rfl rfl rfl rfl (pkV rfl rfl rfl (Qd (Qa (QC rfl (rfl) (Qc (Qb [0] rfl (Qk rfl rfl ?_))))))))))
  refine Qd (Qa (Qq (Qp (Qj rfl rfl ?_))))
  exact ⟨hE, rfl⟩
 obtain ⟨n, rfl, hc, hn⟩ := hb rfl
 have hvc := QB hv1
 have hml : md.length ≤ 1000000 := by
  have hS := hc.ok.1
  by_cases h1 : M = 1
  ·rw [hS.2.2.2.2.2.1 h1]; decide
  ·have := (hS.2.2.2.2.2.2 h1).1
   have := hS.2.2.1
   omega
 have hFw : FV w hc.P mo md := okFV hc.ok hmd
 have hfv : fv hc.P mo = .agg #[.int .i64 p, .int .i64 M, mo] := fv_of hc.ok mo
 refine ZC rfl rfl (mvV rfl rfl (KB 23 false rfl (rfl) (Vg rfl rfl rfl (fad rfl Zy) (Vg rfl rfl rfl (ldA rfl Zf hB) (Vg rfl rfl rfl (mv rfl) (Vg rfl rfl rfl (fad rfl ZE) (Vg rfl rfl rfl (ldB rfl Zm hB) (Vg rfl rfl rfl (Zt rfl QN (hsl.ext hE)) ?_))))))))
 rw [hrl]
 refine C rfl (wg rfl rfl) rfl rfl Tryz.call6 (hfv ▸ Qdp hc.P mo md uv msg L.length _ (hFw.ext hE) (hu.ext hE)) ?_
 rintro _ w4 hE4 ⟨b2, rfl, hb2⟩
 replace hB := hB.ext hE4
 replace hE := hE.trans hE4
 rcases Bool.eq_false_or_eq_true b2 with rfl | rfl
 rotate_left
 ·skip
  refine KB 23 false rfl (rfl) (Vg rfl rfl rfl (notB rfl) (pkV rfl rfl rfl (mvV rfl rfl (KB 33 true rfl (rfl) (SK rfl rfl rfl rfl rfl (SK rfl rfl rfl rfl rfl (SK rfl rfl rfl rfl rfl (SK rfl rfl rfl rfl rfl (SK rfl rfl rfl rfl rfl ?_)))))))))
  refine SK rfl rfl rfl rfl rfl (SK rfl rfl rfl rfl rfl (SK rfl rfl rfl rfl rfl (SK rfl rfl rfl rfl rfl (SK rfl rfl rfl rfl rfl (pkV rfl rfl rfl (Qd (Qa (QC rfl (rfl) (Qc (Qb [0] rfl ?_))))))))))
  refine Qk rfl rfl (Qd (Qa (Qq (Qp (Qj rfl rfl ?_)))))
  exact ⟨hE, rfl⟩
 obtain ⟨hml2, hmin⟩ := hb2 rfl
 have hml2 : msg.length = L.length := by omega
 refine KB 23 false rfl (rfl) (Vg rfl rfl rfl (notB rfl) (pkV rfl rfl rfl (mvV rfl rfl (KB 33 false rfl (rfl) (Vg rfl rfl rfl (fad rfl Zy) (Vg rfl rfl rfl (ldA rfl Zf hB) (Vg rfl rfl rfl (fad rfl Zr) (Vg rfl rfl rfl (ldB rfl na3 hB) (Vg rfl rfl rfl (fad rfl Zr) ?_)))))))))
 refine Vg rfl rfl rfl (ldB rfl na3 hB) (Vg rfl rfl rfl (mv rfl) (MKI (n := n) rfl (wg rfl rfl) rfl rfl QA ?_))
 intro zv w5 hE5 hza hzi hzb
 replace hB := hB.ext hE5
 replace hE := hE.trans hE5
 refine C rfl (wg rfl rfl) rfl rfl Tryz.call7 (hfv ▸ rReceived hc.P mo md zv ev _ er n _ (hFw.ext hE) hzi (he.ext hE)) ?_
 rintro _ w6 hE6 ⟨z, rfl, hz⟩
 replace hB := hB.ext hE6
 replace hE := hE.trans hE6
 refine Vg rfl rfl rfl (neqI rfl rfl) (pkV rfl rfl rfl (Qd (Qa (Qo rfl ?_ ?_))))
 ·intro h
  refine Qc (Qb [0] rfl (Qk rfl rfl (Qd (Qa (Qq (Qp (Qj rfl rfl ?_)))))))
  exact ⟨hE, rfl⟩
 intro h
 have hlo := hz (by simpa using h)
 clear h hz hza hzi hzb hb hb2 hE5
 have hei := he.ext hE
 refine Qe (Qa (Qc (Qc (Qb [0,1,2] rfl (mvV rfl rfl (Vw rfl (Zh rfl QA hei) (mvV rfl rfl (Qd (Qa (Qf ?_))))))))))
 refine Qv (fun i : Nat => [(1, uv), (2, ev), (3, .pointer (some ⟨cb, 0, none⟩)), (45, ev), (46, .int .i64 er.length), (47, .int .i64 i)])
  (fun i w' => i ≤ er.length ∧ Ext w w' ∧ Blk w' cb 27 #[.int .i64 p, .int .i64 M, mo, .int .i64 n, v] ∧ ∀ k : Nat, 0 < k → k < i → gi er ((k : Int) - 1) < gi er k) (fun i => er.length - i) 0 ⟨rfl, rfl, rfl, rfl, rfl, rfl, trivial⟩ ⟨by omega, hE, hB, fun k h0 h1 => by omega⟩ ?_
 clear hE hB hei
 rintro i w7 ⟨i1, hE, hB, hasc⟩
 have hei := he.ext hE
 try dsimp only
 refine Qc (Qb [0] rfl (Qy rfl rfl rfl (Qd (Qa (Qc (Qo rfl ?_ ?_))))))
 ·intro hi
  simp at hi
  refine Qe (Qa (Qc (Qf (Qc (Qb [0,1] rfl (mvV rfl rfl (Qk rfl rfl (Qd (Qa (Qc ?_))))))))))
  by_cases hi0 : i = 0
  ·skip
   refine Qx QK [0,1,2,3,4,5,6,7,8,9,10,11,12,13] (by kernel_rfl) ?_
   intro wx hd2 _
   replace hB := hB.ext hd2
   replace hE := hE.trans hd2
   refine mvV rfl rfl (ZA rfl rfl rfl (mvV rfl rfl (KB 52 false rfl (decide_eq_false (by omega)) (SK rfl rfl rfl rfl rfl (SK rfl rfl rfl rfl rfl (SK rfl rfl rfl rfl rfl (SK rfl rfl rfl rfl rfl (SK rfl rfl rfl rfl rfl (SK rfl rfl rfl rfl rfl ?_)))))))))
   refine SK rfl rfl rfl rfl rfl (SK rfl rfl rfl rfl rfl (SK rfl rfl rfl rfl rfl (SK rfl rfl rfl rfl rfl (pkV rfl rfl rfl (Qd (Qa (Qn rfl (rfl) (Qe (Qg (Qa (Qb [0,1] rfl (Qw rfl rfl rfl ?_))))))))))))
   refine mvV rfl rfl (Qd ?_)
   exact Qi (i + 1) ⟨rfl, rfl, rfl, rfl, rfl, rfl, trivial⟩ ⟨by omega, hE, hB, fun k h0 h1 => by omega⟩ (by omega)
  ·skip
   refine Qx QK [0,1,2,3,4,5,6,7,8,9,10,11,12,13] (by kernel_rfl) ?_
   intro wx hd2 _
   replace hB := hB.ext hd2
   replace hE := hE.trans hd2
   replace hei := hei.ext hd2
   refine mvV rfl rfl (ZA rfl rfl rfl (mvV rfl rfl (KB 52 true rfl (decide_eq_true (by omega)) (Vg rfl rfl rfl (mv rfl) (Vg rfl rfl rfl (mv rfl) (Vg rfl rfl rfl (subI rfl rfl) (Vg rfl rfl rfl (QO rfl rfl QA hei (by omega) (by omega)) (Vg rfl rfl rfl (ldI rfl na3 hei (Ext.refl _) (by omega) (by omega)) (Vg rfl rfl rfl (mv rfl) ?_)))))))))
   refine Vg rfl rfl rfl (mv rfl) (Vg rfl rfl rfl (QO rfl rfl QA hei (by omega) (by omega)) (Vg rfl rfl rfl (ldI rfl na3 hei (Ext.refl _) (by omega) (by omega)) (Vg rfl rfl rfl (Xb rfl rfl) (pkV rfl rfl rfl (Qd (Qa (Qo rfl ?_ ?_)))))))
   ·intro hge
    refine Qc (Qb [0] rfl (Qk rfl rfl (Qd (Qa (Qq (Qu (Qp (QE (Qu (Qp (Qj rfl rfl ?_)))))))))))
    exact ⟨hE, rfl⟩
   ·intro hge
    have hge := of_decide_eq_false hge
    refine Qe (Qg (Qa (Qb [0,1] rfl (Qw rfl rfl rfl (mvV rfl rfl (Qd (Qi (i + 1) ⟨rfl, rfl, rfl, rfl, rfl, rfl, trivial⟩ ⟨by omega, hE, hB, fun k h0 h1 => ?_⟩ (by omega))))))))
    rcases Nat.lt_or_eq_of_le (Nat.le_of_lt_succ h1) with e | e
    ·exact hasc k h0 e
    ·rw [e]; omega
 intro hi
 simp at hi
 have eie : i = er.length := by omega
 rw [eie] at hasc
 have ha : AscIn n er := ⟨hlo, hasc⟩
 clear hi i1 eie hasc hei
 have hFi := hFw.ext hE
 have hgen : ∃ g : K hc.P, HasOrder g (n1 hc.P) := hc.ok.gen
 obtain ⟨G, pv, hLm, hRr⟩ := hc.rr hgen
 have hRl : RlIn hc.P n L := ⟨hc.rl, hc.inr⟩
 have hok2 : OkF hc.P.p hc.P.M md := okF_fp2 hc.ok
 have hlen := hc.mv.len
 refine Qt (Ql (Qm (Qh (Qa (Qc (Qb [0,1,2,3,4,5,6,7] rfl (Vw rfl (ldA rfl Jx hB) (mvV rfl rfl (C rfl wu rfl rfl Tryz.call8 ((cd_of hc mo v).symm ▸ r12Encode hc.P mo md v uv msg L n G pv _ hFi hok2 hgen (hL.ext hE) hLm hRr hc.h1 hc.h2 (hu.ext hE) hml2 hmin) ?_)))))))))
 rintro _ w8 hE8 ⟨wv', rfl, hwo⟩
 replace hB := hB.ext hE8
 replace hE := hE.trans hE8
 refine mvV rfl rfl (QI rfl rfl rfl (QI rfl rfl rfl (Qk rfl rfl (Qk rfl rfl (Qd (Qa (Qc ?_)))))))
 have hwi := OwnI.ints hwo
 clear hwo hFi
 have hW0l := QT (P := hc.P) n (encK hc.P L msg L.length)
 have hW0r : InR hc.P (rowL hc.P n (encK hc.P L msg L.length)) := InR.tab fun j _ => (encK hc.P L msg L.length j).2
 have hW0g : ∀ j : Nat, j < n → gi (rowL hc.P n (encK hc.P L msg L.length)) j = (encK hc.P L msg L.length j).1 := fun j hj => Zu hj
 generalize hW0 : rowL hc.P n (encK hc.P L msg L.length) = W0 at *
 have hsp : Sp L.length n (kM hc.P L) (encK hc.P L msg L.length) := ⟨fun t => inK hc.P (gi msg (t : Int)), fun j _ => rfl⟩
 refine Qb [0,1,2,3] rfl (BSI (zs := []) rfl wu rfl rfl rfl rfl QA ?_)
 intro gl wa hEa hgo hgi hgb
 refine mvV rfl rfl (API rfl wu rfl rfl rfl QA nofun ?_)
 intro yv wb hgb2 hXb hyo hyi hyb
 refine Qk rfl rfl (Qd (Qa (Qc (Qc ?_))))
 have hX := hXb w8 (Nat.le_refl _) hEa
 clear hgo hgi hgb hgb2 hXb hyb hyi hEa
 replace hyo : OwnI w8.heap.size wb yv 3 (Ml.zerL W0 er 0) := by rw [Ml.zerL_zero]; exact hyo
 have hei := he.ext (hE.trans hX)
 refine Qb [0,1,2] rfl (mvV rfl rfl (Vw rfl (Zh rfl QA hei) (mvV rfl rfl (Qd (Qa (Qf ?_))))))
 refine Qv (fun i : Nat => [(1, uv), (2, ev), (3, .pointer (some ⟨cb, 0, none⟩)), (8, wv'), (10, yv), (74, ev), (75, .int .i64 er.length), (76, .int .i64 i)])
  (fun i w' => i ≤ er.length ∧ Ext w8 w' ∧ OwnI w8.heap.size w' yv 3 (Ml.zerL W0 er i)) (fun i => er.length - i) 0 ⟨rfl, rfl, rfl, rfl, rfl, rfl, rfl, rfl, trivial⟩ ⟨by omega, hX, hyo⟩ ?_
 clear hX hyo hei
 rintro i w9 ⟨i1, hX, hyo⟩
 have hei := he.ext (hE.trans hX)
 have hzl := Ml.zerL_length (y := W0) (S := er) (i := i)
 try dsimp only
 refine Qc (Qb [0] rfl (Qy rfl rfl rfl (Qd (Qa (Qc (Qo rfl ?_ ?_))))))
 ·intro hi
  simp at hi
  have hgb := hlo (gi er i) (by rw [Jw hi]; exact List.getElem_mem _)
  refine Qe (Qa (Qc (Qf (Qc (Qb [0,1,2] rfl (Vw rfl (QO rfl rfl QA hei (by omega) (by omega)) (Vw rfl (ldI rfl na3 hei (Ext.refl _) (by omega) (by omega)) (Qk rfl rfl (Qd (Qa (Qb [0,1,2,3] rfl (mvV rfl rfl (mvV rfl rfl (Vw rfl (QO rfl rfl QA (OwnI.ints hyo) (by omega) (by omega)) ?_))))))))))))))
  refine STI rfl wu rfl rfl sz3 nofun ?_ (ho := hyo) (h0 := by omega) (h1 := by omega)
  intro wx hgx hXx hyo2 hyi2
  refine Qd (Qg (Qa (Qb [0,1] rfl (Qw rfl rfl rfl (mvV rfl rfl (Qd ?_))))))
  rw [Ml.zerL_set hi hgb.1] at hyo2
  exact Qi (i + 1) ⟨rfl, rfl, rfl, rfl, rfl, rfl, rfl, rfl, trivial⟩ ⟨by omega, hXx w8 (Nat.le_refl _) hX, hyo2⟩ (by omega)
 intro hi
 simp at hi
 have eie : i = er.length := by omega
 rw [eie] at hyo hzl
 clear hi i1 eie hei
 have hyi := OwnI.ints hyo
 clear hyo
 have hyin : InR hc.P (Ml.zerL W0 er er.length) := InR.tab fun j hj => by
  split
  ·have := hc.P.q_two; omega
  ·exact InR.get hW0r (by omega) (by omega)
 have hyw : ∀ j : Nat, j < n → (j : Int) ∉ er → inK hc.P (gi (Ml.zerL W0 er er.length) j) = encK hc.P L msg L.length j := fun j hj hn => by
  rw [Ml.zerL_get (by omega), if_neg hn, hW0g j hj, Zi]
 obtain ⟨hHr, hHl, -⟩ := Xq hgen hRl
 generalize Ml.zerL W0 er er.length = Y at *
 have hothw := oth_of hgen hRl hsp
 have hE := hE.trans hX
 have hBx := hB.ext hX
 have hwx := hwi.ext hX
 clear hX hB hwi
 refine Qt (Ql (Qm (Qh (Qa (Qc (Qx QK [0,1,2,3,4,7,8,5,6,9,10,11,12,13,14,15,16] (by kernel_rfl) ?_))))))
 intro wx hd2 _
 replace hE := hE.trans hd2
 replace hBx := hBx.ext hd2
 replace hwx := hwx.ext hd2
 replace hyi := hyi.ext hd2
 refine Qz rfl rfl Zy (Vw rfl (ldA rfl Zf hBx) (Qz rfl rfl Zr (Vw rfl (ldB rfl na3 hBx) (Vw rfl (ldA rfl Jx hBx) (mvV rfl rfl (mvV rfl rfl (C rfl wu rfl rfl Tryz.call10 ((cd_of hc mo v).symm ▸ r12Parity hc.P mo md v L n _ (hFw.ext hE) hgen (hL.ext hE) hRl (by omega) (by omega)) ?_)))))))
 intro hv wa hEa hhv
 replace hE := hE.trans hEa
 replace hBx := hBx.ext hEa
 replace hwx := hwx.ext hEa
 replace hyi := hyi.ext hEa
 refine Vw rfl (bld (us := [.int .i64 n, hv]) (r := [.int .i64 n, hv]) rfl (QdE _ _ (QB hhv.one))) (C rfl wu rfl rfl Tryz.call9 (plPeel hc.P p M mo hv yv ev md n _ Y er (encK hc.P L msg L.length) _ hc.ok rfl (hmd.ext hE) hhv (rlMv hHr (by omega) (by omega)) hc.h1 hc.h2 hyi (by omega) hyin (he.ext hE) ha hgen hothw hyw) ?_)
 rintro _ wb hEb ⟨ov, rv, o, rest, rfl, hoi, hri, hfin⟩
 replace hE := hE.trans hEb
 replace hBx := hBx.ext hEb
 replace hwx := hwx.ext hEb
 refine mvV rfl rfl (QI rfl rfl rfl (QI rfl rfl rfl (QI rfl rfl rfl (Qk rfl rfl (Qk rfl rfl (Qk rfl rfl (Qd (Qa (Qc (Qb [0,1,2,3,4,5,6,7,8] rfl (Vw rfl (ldA rfl Jx hBx) ?_)))))))))))
 refine mvV rfl rfl (C rfl wu rfl rfl Tryz.call11 (Qcg p M mo v ev md n L er _ hc hml hgen (hmd.ext hE) (hL.ext hE) (he.ext hE) ha) ?_)
 rintro _ wc hEc ⟨mo', kv, rfl, hmo', hkv⟩
 refine mvV rfl rfl (QI rfl rfl rfl (QI rfl rfl rfl ?_))
 have hk1 := hkv.one
 refine AL rfl wu rfl Qc5 ?_
 intro lb we hEe hLb hlb
 refine STB (vs := [.int .i64 p, .int .i64 M, mo', .int .i64 n, kv]) (cs' := [.int .i64 p, .int .i64 M, mo', .int .i64 n, kv]) rfl wu rfl rfl rfl QbS nofun hLb oc5 rfl rfl rfl ?_
 intro wf hgf hXf hLf
 refine Qk rfl rfl (Qd (Qa (Qc (Qc ?_))))
 have hX0 := hXf wc hlb hEe
 replace hkv := hkv.ext hX0
 have hX := hEc.trans hX0
 replace hE := hE.trans hX
 replace hwx := hwx.ext hX
 replace hoi := hoi.ext hX
 replace hri := hri.ext hX
 clear hX hX0 hEc hEe hLb hgf hXf hEb hBx
 refine Qb [0,1,2,3,4,5,6,7,8,9,10] rfl (mvV rfl rfl (QG rfl rfl rfl (mvV rfl rfl (KB 106 false rfl (rfl) (Vg rfl rfl rfl (mv rfl) (Vg rfl rfl rfl (neqI rfl rfl) (pkV rfl rfl rfl (mvV rfl rfl (KB 110 false rfl (rfl) ?_)))))))))
 refine Vg rfl rfl rfl (mv rfl) (Vg rfl rfl rfl (Zh rfl QA hri) (Vg rfl rfl rfl (Ju rfl rfl) (pkV rfl rfl rfl (Qd (Qa (Qo rfl ?_ ?_))))))
 ·intro hr
  refine Qc (Qb [0,1,2,3,4,5,6] rfl (mvV rfl rfl (QU rfl rfl rfl (mvV rfl rfl (KB 117 true rfl (rfl) (Vg rfl rfl rfl (mv rfl) (Vg rfl rfl rfl (KV rfl rfl) (pkV rfl rfl rfl (Qk rfl rfl ?_)))))))))
  refine Qd (Qa (Qq (Qp (Qj rfl rfl ?_))))
  exact ⟨hE, rfl⟩
 intro hr
 have hr0 : rest.length = 0 := by
  have := of_decide_eq_false hr
  omega
 obtain ⟨ho, hall⟩ := hfin hr0
 rw [hW0] at ho
 rw [ho] at hoi
 have hnone := supp_none hgen hRl (S := er) (fun v hv hz => hall v (oth_of hgen hRl hv) hz)
 rw [hnone] at hkv
 obtain ⟨ks, hks, hkl, -⟩ := hkv.row
 refine Qe (Qa (Qc (Qb [0,1,2,3,4,5,6,7,8,9] rfl (mvV rfl rfl (mvV rfl rfl (C rfl wu rfl rfl Tryz.call12 (Qbn ov wv' W0 _ hoi hwx) ?_))))))
 rintro _ wy hEg rfl
 refine mvV rfl rfl (KB 124 true rfl (rfl) (Vg rfl rfl rfl (fad rfl ZE) (Vg rfl rfl rfl (ldB rfl Zm (hLf.ext hEg)) (Vg rfl rfl rfl (Zt rfl QN (hks.ext hEg)) (Vg rfl rfl rfl (KV rfl rfl) (pkV rfl rfl rfl (Qk rfl rfl (Qd (Qa (Qq (Qj rfl rfl ?_)))))))))))
 refine ⟨hE.trans hEg, ?_⟩
 rw [hkl]
 rfl
end Go.Proofs.YtcfbigmjjpknfaaGreatDoor
