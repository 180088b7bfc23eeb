import Derived.Test.YtcfbigmjjpknfaaGreatDoorW25
import Derived.Test.YtcfbigmjjpknfaaGreatDoorW17
import Derived.Test.YtcfbigmjjpknfaaGreatDoorW13
namespace Go.Proofs.YtcfbigmjjpknfaaGreatDoor
open Go Go.Sx Go.Pl Go.RowKit Go.Fd Go.Alg
theorem InR.col {P : FP} {G : List (List Int)} {n : Nat} (hG : ∀ l ∈ G, InR P l) (hR : Ml.RL n G) {i : Nat} (hi : i < n) : InR P (Ml.colM G i) := fun x hx => by
 obtain ⟨l, hl, rfl⟩ := List.mem_map.1 hx
 have := hR l hl
 exact (hG l hl).get (by omega) (by omega)
set_option maxRecDepth 10000 in
theorem QcQ (P : FP) (g : Value) (p M : Int) (mo v : Value) (n : Nat) (G : List (List Int)) (ov : Value) (order : List Int) (w : World) (hG : GFV w P g) (hmo : mo.oneCell' = true) (hL : LL w v G) (hR : Ml.RL n G) (hin : ∀ l ∈ G, InR P l) (hgl : G.length ≤ 100000) (ho : Ints w ov order) (hol : order.length ≤ 100000) (hor : ∀ x ∈ order, 0 ≤ x ∧ x < n) :
  Calls Tryz.prog 130 #[g, .agg #[.int .i64 p, .int .i64 M, mo, .int .i64 n, v], ov] w (RetX w fun r w' => OwnI w.heap.size w' r 3 (Ml.greedyM (opsP P) G order).2.2) := by
 have hg1 := hG.one
 have hv1 := hL.one
 refine QS Tryz.func130 rfl rfl (Qc (Qb [0,1] rfl (BXA rfl wu rfl rfl ?_)))
 intro cb w1 hE1 hC hcb
 refine Qk rfl rfl (Qd (Qa (Qc ?_)))
 have hlC := hC.lt
 replace hG := hG.ext hE1
 replace hL := hL.ext hE1
 replace ho := ho.ext hE1
 refine Qb [0,1,2,3] rfl (mvV rfl rfl (Vw rfl (bld rfl (bd245_0 g (QB hg1))) (BXA rfl wu rfl rfl ?_)))
 intro bb w2 hE2 hB hbb
 refine Qk rfl rfl (Qd (Qa (Qc (Qb [0] rfl (Qk rfl rfl (Qd (Qa (Qc (Qc (Qb [0,1,2] rfl (mvV rfl rfl (Vw rfl (Zh rfl QA (ho.ext hE2)) (mvV rfl rfl (Qd (Qa (Qf ?_))))))))))))))))
 have hba : BA w1.heap.size bb w2 g (.slice none 0 0) (.slice none 0 0) [] [] [] := ⟨hB, OM.nil _ _ _ _, OwnI.nil _ _ _, fun k hk => by (cases hk), hbb⟩
 refine Qv (fun s : Nat × (Value × Value × List Value) × Value × (List (List Int) × List Nat × List Int) => [(0, g), (4, .pointer (some ⟨cb, 0, none⟩)), (7, .pointer (some ⟨bb, 0, none⟩)), (8, s.2.2.1), (14, ov), (15, .int .i64 order.length), (16, .int .i64 s.1)])
  (fun s w' => s.1 ≤ order.length ∧ Ext w1 w' ∧ BA w1.heap.size bb w' g s.2.1.1 s.2.1.2.1 s.2.1.2.2 s.2.2.2.1 s.2.2.2.2.1 ∧ OwnI w1.heap.size w' s.2.2.1 3 s.2.2.2.2.2 ∧ (∀ k, s.2.2.1.ownBlock = some k → k ∉ baX bb s.2.1.1 s.2.1.2.1 s.2.1.2.2) ∧ Ml.greedyM (opsP P) G (order.take s.1) = s.2.2.2 ∧ Ml.BasOk G.length s.2.2.2.1 s.2.2.2.2.1 ∧ s.2.2.2.1.length ≤ s.1 ∧ s.2.2.2.2.2.length ≤ s.1)
  (fun s => order.length - s.1) (0, (.slice none 0 0, .slice none 0 0, []), .slice none 0 0, ([], [], [])) ⟨rfl, rfl, rfl, rfl, rfl, rfl, rfl, trivial⟩
  ⟨by omega, hE2, hba, OwnI.nil _ _ _, fun k hk => by (cases hk), rfl, Ml.BasOk.nil _, by simp, by simp⟩ ?_
 clear hba hB
 rintro ⟨i, ⟨rv, pv, rows⟩, out, ⟨R, ps, ol⟩⟩ w3 ⟨i1, hE, hba, hout, houtX, hgr, hok, hRl, holl⟩
 dsimp only at i1 hE hba hout houtX hgr hok hRl holl
 have ho3 := ho.ext hE
 try dsimp only
 refine Qc (Qb [0] rfl (Qy rfl rfl rfl (Qd (Qa (Qc (Qo rfl ?_ ?_))))))
 ·intro hc
  simp at hc
  have hgi : gi order i = order[i]'(by omega) := by simp [gi, List.getD_eq_getElem?_getD, show i < order.length by omega]
  have hgb := hor (gi order i) (by rw [hgi]; exact List.getElem_mem _)
  have hst := Ml.greedyM_step (o := opsP P) (G := G) (l := order) (i := i) (by omega)
  rw [hgr] at hst
  obtain ⟨q, hq⟩ : ∃ q : Nat, gi order i = q := ⟨(gi order i).toNat, by omega⟩
  rw [hq] at hst
  have hz3 := hE.size
  have hb3 := hba.lt
  have ho3lt := Own.lt hout
  refine Qe (Qa (Qc (Qf (Qc (Qb [0,1,2] rfl (Vw rfl (QO rfl rfl QA ho3 (by omega) (by omega)) (Vw rfl (ldI rfl na3 ho3 (Ext.refl _) (by omega) (by omega)) (Qk rfl rfl (Qd (Qa (Qc ?_)))))))))))
  rw [hq]
  have hcl : (Ml.colM G q).length = G.length := Ml.colM_length
  refine Qb [0,1,2,3,4] rfl (mvV rfl rfl (Vw rfl (ldA rfl Jx (hC.ext hE)) (mvV rfl rfl (C rfl wu rfl rfl Tryz.call237 (isColumn p M mo v n G q _ hmo (hL.ext hE) hR (by omega) hgl) ?_))))
  rintro zv w4 hE4 ⟨hzo, hzn⟩
  have hz4 := hE4.size
  have hzlt := Own.lt hzo
  refine CG rfl wu rfl rfl Tryz.call236 (isAdd P g rv pv zv bb w1.heap.size rows R ps (Ml.colM G q) w1 w4 hG (hE.trans hE4) (Nat.le_refl _) (by omega) (hba.ext hE4) (Own.mono hzo hz3) (fun k hk h => by have := (hzlt k hk).1; have := (hb3 k h).2; omega) (by rw [hcl]; exact hok) (InR.col hin hR (by omega)) (by omega) (by omega)) nofun ?_
  rintro _ w5 hG5 ⟨rfl, rv', pv', rows', hba5, hn5⟩
  refine Qd (Qa ?_)
  have hX5 : ∀ k ∈ baX bb rv pv rows ++ zv.ownBlock.toList, w1.heap.size ≤ k := fun k hk => by
   rcases List.mem_append.1 hk with h | h
   ·exact (hb3 k h).1
   ·have := (hzlt k (by simpa using h)).1
    omega
  have hE5 := hG5.ext (hE.trans hE4) hX5
  have hout5 : OwnI w1.heap.size w5 out 3 ol := Own.gr (OwnI.ext hout hE4) hG5 (fun k hk h => by
   rcases List.mem_append.1 h with h | h
   ·exact houtX k hk h
   ·have := (hzlt k (by simpa using h)).1
    have := (ho3lt k hk).2
    omega)
  have houtX5 : ∀ k, out.ownBlock = some k → k ∉ baX bb rv' pv' rows' := fun k hk h => by
   rcases hn5 k h with h | h
   ·exact houtX k hk h
   ·have := (ho3lt k hk).2
    omega
  have hok5 := Ml.BasOk.add (o := opsP P) hok (v := Ml.colM G q) hcl
  have hlen5 := Ml.basAdd_len (o := opsP P) (R := R) (ps := ps) (v := Ml.colM G q)
  have hb5 := hba5.lt
  have hz5 := hE5.size
  refine Qo rfl ?_ ?_
  ·intro hb
   refine Qb [0,1,2,3,4] rfl (mvV rfl rfl (mvV rfl rfl (BSI (zs := [(q : Int)]) rfl wu rfl rfl rfl rfl QA ?_)))
   intro kv w6 hE6 hko hki hkb
   have hz6 := hE6.size
   refine API rfl wu rfl rfl rfl QA nofun ?_ (ho := OwnI.ext hout5 hE6) (hB := by omega) (hs := hki) (hE := Ext.refl _) (hlen := by simp only [List.length_cons, List.length_nil]; omega)
   intro ov2 w7 hg7 hX7 ho7 hi7 hb7
   refine Qk rfl rfl (Qd (Qg (Qa (Qb [0,1] rfl (Qw rfl rfl rfl (mvV rfl rfl (Qd ?_)))))))
   refine Qi (i + 1, (rv', pv', rows'), ov2, ((Ml.basAdd (opsP P) R ps (Ml.colM G q)).1, (Ml.basAdd (opsP P) R ps (Ml.colM G q)).2.1, ol ++ [(q : Int)])) ⟨rfl, rfl, rfl, rfl, rfl, rfl, rfl, trivial⟩
    ⟨by dsimp only; omega, hX7 w1 (Nat.le_refl _) (hE5.trans hE6), (hba5.ext hE6).gr (X := out.ownBlock.toList) (Gr.of_grown hg7 (fun k hk => by simp [hk])) (fun k hk h => houtX5 k (by simpa using h) hk), ho7, fun k hk h => ?_, ?_, hok5, by dsimp only; omega, by simp; omega⟩ (by dsimp only; omega)
   ·rcases hb7 with e | e
    ·exact houtX5 k (by rw [← e]; exact hk) h
    ·dsimp only at hk
     rw [e] at hk
     have := Option.some.inj hk
     have := (hb5 k h).2
     omega
   ·dsimp only
    rw [hst, Ml.grStep, if_pos hb]
  ·intro hb
   refine Qe (Qg (Qa (Qb [0,1] rfl (Qw rfl rfl rfl (mvV rfl rfl (Qd ?_))))))
   refine Qi (i + 1, (rv', pv', rows'), out, ((Ml.basAdd (opsP P) R ps (Ml.colM G q)).1, (Ml.basAdd (opsP P) R ps (Ml.colM G q)).2.1, ol)) ⟨rfl, rfl, rfl, rfl, rfl, rfl, rfl, trivial⟩
    ⟨by dsimp only; omega, hE5, hba5, hout5, houtX5, ?_, hok5, by dsimp only; omega, by dsimp only; omega⟩ (by dsimp only; omega)
   dsimp only
   rw [hst, Ml.grStep, if_neg (by rw [hb]; simp)]
 ·intro hc
  simp at hc
  obtain rfl : i = order.length := by omega
  rw [List.take_length] at hgr
  refine Qt (Ql (Qm (Qh (Qa (Qc (Qb [0,1] rfl (mvV rfl rfl (Qk rfl rfl (Qd (Qa (Qq (Qj rfl rfl ?_))))))))))))
  rw [hgr]
  exact ⟨hE1.trans hE, Own.mono hout hE1.size⟩
structure AscIn (n : Nat) (l : List Int) : Prop where
 lo : ∀ x ∈ l, 0 ≤ x ∧ x < n
 asc : ∀ k : Nat, 0 < k → k < l.length → gi l ((k : Int) - 1) < gi l k
set_option maxRecDepth 10000 in
theorem isSets (p M : Int) (mo v : Value) (n : Nat) (lv : Value) (l : List Int) (w : World) (_ : mo.oneCell' = true) (_ : v.oneCell' = true) (hl : LL w lv [l]) (ha : AscIn n l) :
  Calls Tryz.prog 320 #[.agg #[.int .i64 p, .int .i64 M, mo, .int .i64 n, v], lv] w (RetX w fun r _ => r = .int .i64 0) := by
 obtain ⟨rs, hsl, hrl, hrow⟩ := hl.row
 obtain ⟨r, hr0, hrr⟩ := hrow 0 (by simp)
 have hrr' : Ints w r l := hrr
 have hle := hrr'.le
 refine QD Tryz.func320 rfl rfl (Qc (Qb [0,1] rfl (BXA rfl wu rfl rfl ?_)))
 intro cb w1 hE1 hC hcb
 refine Qk rfl rfl (Qd (Qa (Qc (Qc ?_))))
 replace hsl := hsl.ext hE1
 replace hrr' := hrr'.ext hE1
 refine Qb [0,1,2] rfl (mvV rfl rfl (Vw rfl (Zt rfl QN hsl) (mvV rfl rfl (Qd (Qa (Qf ?_))))))
 refine Qv (fun s : Nat => [(2, .pointer (some ⟨cb, 0, none⟩)), (9, lv), (10, .int .i64 rs.length), (11, .int .i64 s)]) (fun s w' => s ≤ 1 ∧ w' = w1) (fun s => 1 - s) 0 ⟨rfl, rfl, rfl, rfl, trivial⟩ ⟨by omega, rfl⟩ ?_
 rintro s w2 ⟨s1, rfl⟩
 have hrl' : rs.length = 1 := hrl
 try dsimp only
 refine Qc (Qb [0] rfl (Qy rfl rfl rfl (Qd (Qa (Qc (Qo rfl ?_ ?_))))))
 ·intro hc
  simp at hc
  obtain rfl : s = 0 := by omega
  refine Qe (Qa (Qc (Qf (Qc (Qb [0,1,2] rfl (Vw rfl (iad rfl rfl QN hsl (by omega) (by omega)) (Vw rfl (ldE rfl Zk hsl hr0 (Ext.refl _)) (Qk rfl rfl (Qd (Qa (Qc (Qb [0,1,2] rfl (mvV rfl rfl (Vw rfl (Zh rfl QA hrr') (mvV rfl rfl ?_)))))))))))))))
  refine Qd (Qa (Qf ?_))
  refine Qv (fun k : Nat => [(2, .pointer (some ⟨cb, 0, none⟩)), (6, r), (9, lv), (10, .int .i64 rs.length), (11, .int .i64 0), (15, r), (16, .int .i64 l.length), (17, .int .i64 k)]) (fun k w' => k ≤ l.length ∧ w' = w2) (fun k => l.length - k) 0 ⟨rfl, rfl, rfl, rfl, rfl, rfl, rfl, rfl, trivial⟩ ⟨by omega, rfl⟩ ?_
  rintro k w3 ⟨k1, rfl⟩
  try dsimp only
  refine Qc (Qb [0] rfl (Qy rfl rfl rfl (Qd (Qa (Qc (Qo rfl ?_ ?_))))))
  ·intro hk
   simp at hk
   have hgi : gi l k = l[k]'hk := by simp [gi, List.getD_eq_getElem?_getD, hk]
   have hgb := ha.lo (gi l k) (by rw [hgi]; exact List.getElem_mem _)
   refine Qe (Qa (Qc (Qf (Qc (Qb [0,1,2,3,4] rfl (mvV rfl rfl (Vw rfl (QO rfl rfl QA hrr' (by omega) (by omega)) (Vw rfl (ldI rfl na3 hrr' (Ext.refl _) (by omega) (by omega)) (Qk rfl rfl (Qk rfl rfl (Qd (Qa (Qc ?_)))))))))))))
   by_cases hk0 : k = 0
   ·skip
    refine Qb [0,1,2,3,4,5,6,7,8,9,10,11,12,13,14,15,16,17,18,19,20] rfl (mvV rfl rfl (Qy rfl rfl rfl (mvV rfl rfl (KB 24 false rfl (decide_eq_false (by omega)) (Vg rfl rfl rfl (mv rfl) (Vg rfl rfl rfl (fad rfl Zr) (Vg rfl rfl rfl (ldB rfl na3 hC) (Vg rfl rfl rfl (Xb rfl rfl) (pkV rfl rfl rfl ?_)))))))))
    refine mvV rfl rfl (KB 30 false rfl (decide_eq_false (by omega)) (Vg rfl rfl rfl (mv rfl) (Vg rfl rfl rfl (Ju rfl rfl) (Vg rfl rfl rfl (mv rfl) (KB 33 false rfl (decide_eq_false (by omega)) (SK rfl rfl rfl rfl rfl (SK rfl rfl rfl rfl rfl (SK rfl rfl rfl rfl rfl (SK rfl rfl rfl rfl rfl ?_)))))))))
    refine SK rfl rfl rfl rfl rfl (SK rfl rfl rfl rfl rfl (SK rfl rfl rfl rfl rfl (Vg rfl rfl rfl (pk rfl rfl) (pkV rfl rfl rfl (Qd (Qa (Qn rfl (rfl) (Qe (Qg (Qa (Qb [0,1] rfl (Qw rfl rfl rfl ?_))))))))))))
    refine mvV rfl rfl (Qd ?_)
    exact Qi (k + 1) ⟨rfl, rfl, rfl, rfl, rfl, rfl, rfl, rfl, trivial⟩ ⟨by omega, rfl⟩ (by omega)
   ·have hlt := ha.asc k (by omega) hk
    refine Qb [0,1,2,3,4,5,6,7,8,9,10,11,12,13,14,15,16,17,18,19,20] rfl (mvV rfl rfl (Qy rfl rfl rfl (mvV rfl rfl (KB 24 false rfl (decide_eq_false (by omega)) (Vg rfl rfl rfl (mv rfl) (Vg rfl rfl rfl (fad rfl Zr) (Vg rfl rfl rfl (ldB rfl na3 hC) (Vg rfl rfl rfl (Xb rfl rfl) (pkV rfl rfl rfl ?_)))))))))
    refine mvV rfl rfl (KB 30 false rfl (decide_eq_false (by omega)) (Vg rfl rfl rfl (mv rfl) (Vg rfl rfl rfl (Ju rfl rfl) (Vg rfl rfl rfl (mv rfl) (KB 33 true rfl (decide_eq_true (by omega)) (Vg rfl rfl rfl (mv rfl) (Vg rfl rfl rfl (mv rfl) (Vg rfl rfl rfl (mv rfl) (Vg rfl rfl rfl (subI rfl rfl) ?_)))))))))
    refine Vg rfl rfl rfl (QO rfl rfl QA hrr' (by omega) (by omega)) (Vg rfl rfl rfl (ldI rfl na3 hrr' (Ext.refl _) (by omega) (by omega)) (Vg rfl rfl rfl (Qbz rfl rfl) (Vg rfl rfl rfl (pk rfl rfl) (pkV rfl rfl rfl (Qd (Qa (Qn rfl (by simp; omega) (Qe (Qg (Qa (Qb [0,1] rfl (Qw rfl rfl rfl ?_))))))))))))
    refine mvV rfl rfl (Qd ?_)
    exact Qi (k + 1) ⟨rfl, rfl, rfl, rfl, rfl, rfl, rfl, rfl, trivial⟩ ⟨by omega, rfl⟩ (by omega)
  ·intro hk
   refine Qt (Ql (Qm (Qh (Qg (Qa (Qb [0,1] rfl (Qw rfl rfl rfl (mvV rfl rfl (Qd ?_)))))))))
   exact Qi 1 ⟨rfl, rfl, rfl, rfl, trivial⟩ ⟨by omega, rfl⟩ (by omega)
 ·intro hc
  refine Qt (Ql (Qm (Qh (Qa (Qc (Qb [0] rfl (Qk rfl rfl (Qd (Qa (Qq (Qj rfl rfl ?_)))))))))))
  exact ⟨hE1, rfl⟩
structure CdOk (p M : Int) (md : List Int) (n : Nat) (L : List (List Int)) : Prop where
 ok : OkF p M md
 mv : MV (fpOf p M md ok.1.1 ok.1.2.1) n L
 can : (Ml.canonM (opsP (fpOf p M md ok.1.1 ok.1.2.1)) L n).1 = L
 h1 : 1 ≤ n
 h2 : n ≤ 64
def CdOk.P {p M : Int} {md : List Int} {n : Nat} {L : List (List Int)} (h : CdOk p M md n L) : FP := fpOf p M md h.ok.1.1 h.ok.1.2.1
theorem CdOk.rl {p M : Int} {md : List Int} {n : Nat} {L : List (List Int)} (h : CdOk p M md n L) : Ml.RL n L := fun l hl => by have := h.mv.row l hl; omega
theorem CdOk.inr {p M : Int} {md : List Int} {n : Nat} {L : List (List Int)} (h : CdOk p M md n L) : ∀ l ∈ L, InR h.P l := h.mv.el
theorem isOpen (p M : Int) (mo v : Value) (md : List Int) (n : Nat) (L : List (List Int)) (w : World) (hc : CdOk p M md n L) (hmd : Ints w mo md) (hL : LL w v L) :
  Calls Tryz.prog 129 #[.agg #[.int .i64 p, .int .i64 M, mo, .int .i64 n, v]] w (RetX w fun r w' => ∃ g, r = .tuple #[g, .int .i64 0] ∧ GFV w' hc.P g) := by
 have hv1 := hL.one
 have hm1 := hmd.one
 refine QL Tryz.func129 rfl rfl (Qc (Qb [0,1,2] rfl (BXA rfl wu rfl rfl ?_)))
 intro cb w1 hE hB hcb
 refine Qk rfl rfl (Qk rfl rfl (Qd (Qa (Qc (Qc (Qb [0,1,2] rfl (Vw rfl (ldA rfl Jx hB) (C rfl wu rfl rfl Tryz.call38 (Qa9 p M mo v md n L _ hc.ok (hmd.ext hE) (hL.ext hE) hc.mv hc.can hc.h1 hc.h2) ?_))))))))
 rintro _ w2 hE2 rfl
 replace hB := hB.ext hE2
 replace hE := hE.trans hE2
 refine Qk rfl rfl (Qd (Qa (Qc (Qb [0,1] rfl (mvV rfl rfl (QG rfl rfl rfl (Qd (Qa (Qn rfl (rfl) (Qe (Qa (Qc (Qb [0,1,2,3,4,5,6] rfl (Qz rfl rfl Zy ?_))))))))))))))
 refine Vw rfl (ldA rfl Zf hB) (C rfl wu rfl rfl Tryz.call22 (fNew p M mo md _ (hmd.ext hE)) ?_)
 rintro r0 w3 hE3 hr0
 obtain ⟨g, rfl, hG⟩ := Qb3 hc.ok hr0
 refine QI rfl rfl rfl (QI rfl rfl rfl (Qk rfl rfl (Qk rfl rfl (Qd (Qa (Qq (QH rfl rfl rfl ?_)))))))
 exact ⟨hE.trans hE3, g, rfl, hG⟩
set_option maxRecDepth 10000 in
theorem isRank (p M : Int) (mo v : Value) (md : List Int) (n : Nat) (L : List (List Int)) (sv : Value) (l : List Int) (w : World) (hc : CdOk p M md n L) (hmd : Ints w mo md) (hL : LL w v L) (hs : Ints w sv l) (hsl : l.length ≤ 100000) (ha : AscIn n l) :
  Calls Tryz.prog 240 #[.agg #[.int .i64 p, .int .i64 M, mo, .int .i64 n, v], sv] w (RetX w fun r _ => r = .tuple #[.int .i64 (Ml.rankM (opsP hc.P) L l : Nat), .int .i64 0]) := by
 have hv1 := hL.one
 have hm1 := hmd.one
 have hs1 := hs.one
 have hlen := hc.mv.len
 refine QD Tryz.func240 rfl rfl (Qc (Qb [0,1,2] rfl (BXA rfl wu rfl rfl ?_)))
 intro cb w1 hE hB hcb
 refine Qk rfl rfl (Qk rfl rfl (Qd (Qa (Qc (Qb [0,1,2,3,4,5,6] rfl (Vw rfl (ldA rfl Jx hB) (C rfl wu rfl rfl Tryz.call129 (isOpen p M mo v md n L _ hc (hmd.ext hE) (hL.ext hE)) ?_)))))))
 rintro _ w2 hE2 ⟨g, rfl, hG⟩
 replace hB := hB.ext hE2
 replace hE := hE.trans hE2
 refine mvV rfl rfl (QI rfl rfl rfl (QI rfl rfl rfl (Qk rfl rfl (Qk rfl rfl (Qd (Qa (Qc (Qc (Qb [0,1] rfl (mvV rfl rfl (QU rfl rfl rfl (Qd (Qa ?_)))))))))))))
 refine QC rfl (rfl) (Qb [0,1,2,3,4] rfl (Vw rfl (ldA rfl Jx hB) (mvV rfl rfl (BS (us := [sv]) rfl wu rfl rfl rfl rfl QN (by intro u hu; rw [List.mem_singleton.1 hu]; exact hs1) ?_))))
 intro tv w3 hE3 htv htb
 replace hB := hB.ext hE3
 replace hE := hE.trans hE3
 replace hG := hG.ext hE3
 refine C rfl wu rfl rfl Tryz.call320 (isSets p M mo v n tv l _ hm1 hv1 ⟨[sv], htv.sl, rfl, fun i r z a b => by have hi : i = 0 := by { have := (List.getElem?_eq_some_iff.1 a).1; simp at this; omega }; subst hi; cases a; cases b; exact hs.ext hE⟩ ha) ?_
 rintro _ w4 hE4 rfl
 replace hB := hB.ext hE4
 replace hE := hE.trans hE4
 replace hG := hG.ext hE4
 refine Qk rfl rfl (Qd (Qa (Qc (Qc (Qb [0,1] rfl (mvV rfl rfl (QG rfl rfl rfl (Qd (Qa (Qn rfl (rfl) (Qe (Qa (Qc (Qb [0,1,2,3,4,5,6] rfl (mvV rfl rfl ?_)))))))))))))))
 refine Vw rfl (ldA rfl Jx hB) (mvV rfl rfl (C rfl wu rfl rfl Tryz.call130 (QcQ hc.P g p M mo v n L sv l _ hG hm1 (hL.ext hE) hc.rl hc.inr (by omega) (hs.ext hE) hsl ha.lo) ?_))
 rintro gv w5 hE5 hgo
 replace hE := hE.trans hE5
 refine Vw rfl (Zh rfl QA (OwnI.ints hgo)) (Qk rfl rfl (Qk rfl rfl (Qd (Qa (Qq (QH rfl rfl rfl ?_))))))
 exact ⟨hE, rfl⟩
theorem isIs (p M : Int) (mo v : Value) (md : List Int) (n : Nat) (L : List (List Int)) (sv : Value) (l : List Int) (w : World) (hc : CdOk p M md n L) (hmd : Ints w mo md) (hL : LL w v L) (hs : Ints w sv l) (hsl : l.length ≤ 100000) (ha : AscIn n l) (h1 : Ml.rankM (opsP hc.P) L l = l.length) (h2 : l.length = L.length) :
  Calls Tryz.prog 132 #[.agg #[.int .i64 p, .int .i64 M, mo, .int .i64 n, v], sv] w (RetX w fun r _ => r = .tuple #[.bool true, .int .i64 0]) := by
 have hv1 := hL.one
 have hm1 := hmd.one
 obtain ⟨rs, hrsl, hrl, hrow⟩ := hL.row
 refine QD Tryz.func132 rfl rfl (Qc (Qb [0,1,2] rfl (BXA rfl wu rfl rfl ?_)))
 intro cb w1 hE hB hcb
 refine Qk rfl rfl (Qk rfl rfl (Qd (Qa (Qc (Qb [0,1,2,3,4,5,6,7] rfl (Vw rfl (ldA rfl Jx hB) (mvV rfl rfl (C rfl wu rfl rfl Tryz.call240 (isRank p M mo v md n L sv l _ hc (hmd.ext hE) (hL.ext hE) (hs.ext hE) hsl ha) ?_))))))))
 rintro _ w2 hE2 rfl
 replace hB := hB.ext hE2
 replace hE := hE.trans hE2
 refine mvV rfl rfl (QI rfl rfl rfl (QI rfl rfl rfl (Qk rfl rfl (Qk rfl rfl (Qd (Qa (Qc ?_)))))))
 rw [h1]
 refine Qb [0,1,2,3,4,5,6,7,8,9,10,11,12,13,14,15,16,17] rfl (mvV rfl rfl (QU rfl rfl rfl (mvV rfl rfl (KB 16 true rfl (rfl) (Vg rfl rfl rfl (mv rfl) (Vg rfl rfl rfl (mv rfl) (Vg rfl rfl rfl (Zh rfl QA (hs.ext hE)) (Vg rfl rfl rfl (KV rfl rfl) (pkV rfl rfl rfl ?_)))))))))
 refine mvV rfl rfl (KB 22 true rfl (by simp) (Vg rfl rfl rfl (mv rfl) (Vg rfl rfl rfl (fad rfl ZE) (Vg rfl rfl rfl (ldB rfl Zm hB) (Vg rfl rfl rfl (Zt rfl QN (hrsl.ext hE)) (Vg rfl rfl rfl (KV rfl rfl) (pkV rfl rfl rfl (mvV rfl rfl (Qk rfl rfl ?_)))))))))
 refine Qk rfl rfl (Qd (Qa (Qq (QH rfl rfl rfl ?_))))
 refine ⟨hE, ?_⟩
 rw [hrl, h2]
 simp
end Go.Proofs.YtcfbigmjjpknfaaGreatDoor
namespace Go.Proofs.YtcfbigmjjpknfaaGreatDoor
open Go Go.Sx Go.Pl Go.RowKit Go.Fd Go.Alg
set_option maxRecDepth 10000 in
theorem mxUnit (n : Nat) (w : World) (hn : n ≤ 100000) :
  Calls Tryz.prog 241 #[.int .i64 n] w (RetX w fun r w' => ∃ rows, OM w.heap.size w' r 22 3 rows (Ml.unitM n)) := by
 have hul : (Ml.unitM n).length = n := by rw [Ml.unitM, Qs]
 refine QL Tryz.func241 rfl rfl (Qc (Qb [0] rfl (Qk rfl rfl (Qd (Qa (Qc (Qb [0,1,2] rfl (mvV rfl rfl (MK (n := n) rfl wu rfl rfl QN rfl ?_ (hby := by omega))))))))))
 intro ov w1 hE1 ho hob
 refine Qk rfl rfl (Qd (Qa (Qc (Qc (Qb [0,1,2] rfl (mvV rfl rfl (Vw rfl (Zt rfl QN ho.sl) (mvV rfl rfl (Qd (Qa (Qf ?_)))))))))))
 rw [List.length_replicate]
 refine Qv (fun p : Nat × List Value => [(0, .int .i64 n), (3, ov), (8, .int .i64 n), (9, .int .i64 p.1)])
  (fun p w' => p.1 ≤ n ∧ Ext w w' ∧ OM w.heap.size w' ov 22 3 p.2 ((Ml.unitM n).take p.1 ++ List.replicate (n - p.1) [])) (fun p => n - p.1) (0, List.replicate n (.slice none 0 0)) ⟨rfl, rfl, rfl, rfl, trivial⟩
  ⟨by omega, hE1, ⟨ho, by simp, fun i r zs a b => ?_, fun i r k a hk => ?_, fun i j r r' k a b hk hk' => ?_⟩⟩ ?_
 ·obtain rfl := List.eq_of_mem_replicate (List.mem_of_getElem? a)
  have : zs = [] := by
   have hb := List.mem_of_getElem? b
   simp at hb
   exact hb.2
  rw [this]
  exact OwnI.nil _ _ _
 ·obtain rfl := List.eq_of_mem_replicate (List.mem_of_getElem? a)
  cases hk
 ·obtain rfl := List.eq_of_mem_replicate (List.mem_of_getElem? a)
  cases hk
 clear hE1 ho
 rintro ⟨i, rows⟩ w2 ⟨i1, hE, hom⟩
 dsimp only at i1 hom
 try dsimp only
 refine Qc (Qb [0] rfl (Qy rfl rfl rfl (Qd (Qa (Qc (Qo rfl ?_ ?_))))))
 ·intro hc
  simp at hc
  replace hc : i < n := by omega
  have hui : (Ml.unitM n)[i]? = some (tab n fun j => if i = j then (1 : Int) else 0) := by rw [Ml.unitM, Za hc]
  have hol : ((Ml.unitM n).take i ++ List.replicate (n - i) ([] : List Int)).length = n := by rw [List.length_append, List.length_take, List.length_replicate]; omega
  have hrl := hom.len
  have hbk := hom.bk
  refine Qe (Qa (Qc (Qf (Qc (Qb [0,1] rfl (mvV rfl rfl (Qk rfl rfl (Qd (Qa (Qc (Qb [0,1,2,3,4,5] rfl (mvV rfl rfl (mvV rfl rfl (mvV rfl rfl (MKI (n := n) rfl wu rfl rfl QA ?_ (hby := by omega))))))))))))))))
  intro r3 w3 hE3 ho3 _ hrb
  replace hom := hom.ext hE3
  refine Vw rfl (iad rfl rfl QN hom.own.sl (by omega) (by omega)) (STOM (w1 := w2) rfl wu rfl rfl sz22 nofun hom ho3 (fun k hk => (hbk k hk).2) (Nat.le_refl _) hE.size ?_ (h0 := by omega) (h1 := by omega))
  intro w4 hg4 hom4
  refine Qd (Qa ?_)
  have hE4 : Ext w w4 := (hE.trans hE3).grown hg4 hom.own (Nat.le_refl _)
  rw [Int.toNat_natCast] at hom4
  have hri : (rows.set i r3)[i]? = some r3 := by rw [List.getElem?_set_self (by omega)]
  have hor := hom4.row i r3 (tab n fun _ => 0) hri (by rw [List.getElem?_set_self (by omega)])
  refine Qb [0,1,2,3,4,5,6] rfl (mvV rfl rfl (mvV rfl rfl (Vw rfl (iad rfl rfl QN hom4.own.sl (by omega) (by rw [List.length_set]; omega)) (Vw rfl (ldE rfl Zk hom4.own.sl (by rw [Int.toNat_natCast]; exact hri) (Ext.refl _)) (mvV rfl rfl (Vw rfl (QO rfl rfl QA (OwnI.ints hor) (by omega) (by rw [Qs]; omega)) (STI rfl wu rfl rfl sz3 nofun ?_ (ho := hor) (h0 := by omega) (h1 := by rw [Qs]; omega))))))))
  intro w5 hg5 hX5 hO5 hI5
  refine Qd (Qg (Qa ?_))
  have hom5 := hom4.upd hri (Gr.of_grown hg5 (fun k e => by simp [e])) hO5
  refine Qb [0,1] rfl (Qw rfl rfl rfl (mvV rfl rfl (Qd (Qi (i + 1, rows.set i r3) ⟨rfl, rfl, rfl, rfl, trivial⟩ ⟨by dsimp only; omega, hX5 w (Nat.le_refl _) hE4, ?_⟩ (by dsimp only; omega)))))
  dsimp only
  rw [List.set_set, Jt] at hom5
  have e : (tab n fun t => if t = ((i : Int)).toNat then (1 : Int) else 0) = tab n fun j => if i = j then (1 : Int) else 0 := QF fun j _ => by
   rw [Int.toNat_natCast]
   by_cases h : j = i
   ·rw [if_pos h, if_pos h.symm]
   ·rw [if_neg h, if_neg (Ne.symm h)]
  rw [e, Kd hul hc hui] at hom5
  exact hom5
 ·intro hc
  simp at hc
  obtain rfl : i = n := by omega
  rw [Nat.sub_self, List.replicate_zero, List.append_nil, List.take_of_length_le (by omega)] at hom
  refine Qt (Ql (Qm (Qh (Qa (Qc (Qb [0,1] rfl (mvV rfl rfl (Qk rfl rfl (Qd (Qa (Qq (Qj rfl rfl ?_))))))))))))
  exact ⟨hE, rows, hom⟩
end Go.Proofs.YtcfbigmjjpknfaaGreatDoor
