import Derived.Test.YtcfbigmjjpknfaaGreatDoorW37
import Derived.Test.YtcfbigmjjpknfaaGreatDoorW40
namespace Go.Proofs.YtcfbigmjjpknfaaGreatDoor
open Go Go.Sx Go.Pl Go.RowKit Go.Fd Go.Alg
set_option maxRecDepth 10000 in
theorem Qbn (u v : Value) (a : List Int) (w : World) (hu : Ints w u a) (hv : Ints w v a) :
  Calls Tryz.prog 12 #[u, v] w (RetX w fun r _ => r = .bool true) := by
 have hle := hu.le
 refine QD Tryz.func12 rfl rfl (Qc (Qb [0] rfl (Qk rfl rfl (Qd (Qa (Qc (Qc (Qb [0,1,2,3,4] rfl (mvV rfl rfl (Vw rfl (Zh rfl QA) ?_))))))))))
 refine mvV rfl rfl (Vw rfl (Zh rfl QA) ?_)
 refine QG rfl rfl rfl (Qd (Qa (Qn rfl (by simp) (Qe (Qa (Qc (Qc (Qb [0] rfl (Qk rfl rfl (Qd (Qa (Qf ?_))))))))))))
 refine Qv (fun i : Nat => [(0, u), (1, v), (5, .int .i64 i)]) (fun i w' => i ≤ a.length ∧ Ext w w') (fun i => a.length - i) 0 ⟨rfl, rfl, rfl, trivial⟩ ⟨by omega, Ext.refl _⟩ ?_
 rintro i w1 ⟨i1, hE⟩
 have hui := hu.ext hE
 have hvi := hv.ext hE
 try dsimp only
 refine Qc (Qc (Qb [0,1,2,3] rfl (mvV rfl rfl (mvV rfl rfl (Vw rfl (Zh rfl QA hui) (Qy rfl rfl rfl (Qd (Qa (Qo rfl ?_ ?_)))))))))
 ·intro hc
  simp at hc
  refine Qe (Qa (Qc (Qf (Qc (Qx QK [0,1,2,3,4,5,6,7,8] (by kernel_rfl) ?_)))))
  intro w2 hd _
  replace hE := hE.trans hd
  replace hui := hui.ext hd
  replace hvi := hvi.ext hd
  refine mvV rfl rfl (mvV rfl rfl (Vw rfl (QO rfl rfl QA hui (by omega) (by omega)) (Vw rfl (ldI rfl na3 hui) (mvV rfl rfl (mvV rfl rfl (Vw rfl (QO rfl rfl QA hvi (by omega) (by omega)) (Vw rfl (ldI rfl na3 hvi) (QG rfl rfl rfl (Qd (Qa ?_))))))))))
  refine Qn rfl (by simp) (Qe (Qg (Qa (Qb [0,1,2] rfl (mvV rfl rfl (Qw rfl rfl rfl (Qk rfl rfl (Qd ?_))))))))
  exact Qi (i + 1) ⟨rfl, rfl, rfl, trivial⟩ ⟨by omega, hE⟩ (by omega)
 ·intro hc
  refine Qt (Ql (Qm (Qh (Qa (Qc (Qb [0] rfl (Qk rfl rfl (Qd (Qa (Qq (Qj rfl rfl ?_)))))))))))
  exact ⟨hE, rfl⟩
set_option maxRecDepth 10000 in
theorem rSameRows (u v : Value) (L : List (List Int)) (w : World) (hu : LL w u L) (hv : LL w v L) :
  Calls Tryz.prog 98 #[u, v] w (RetX w fun r _ => r = .bool true) := by
 obtain ⟨rows, hs, hrl, hrr⟩ := hu.row
 obtain ⟨Zc, hs2, hrl2, hrr2⟩ := hv.row
 have hle := hs.le
 refine QD Tryz.func98 rfl rfl (Qc (Qb [0] rfl (Qk rfl rfl (Qd (Qa (Qc (Qc (Qb [0,1,2,3,4] rfl (mvV rfl rfl (Vw rfl (Zt rfl QN hs) (mvV rfl rfl (Vw rfl (Zt rfl QN hs2) ?_))))))))))))
 refine QG rfl rfl rfl (Qd (Qa (Qn rfl (by rw [hrl, hrl2]; simp) (Qe (Qa (Qc (Qc (Qb [0] rfl (Qk rfl rfl (Qd (Qa (Qf ?_))))))))))))
 refine Qv (fun i : Nat => [(0, u), (1, v), (5, .int .i64 i)]) (fun i w' => i ≤ L.length ∧ Ext w w') (fun i => L.length - i) 0 ⟨rfl, rfl, rfl, trivial⟩ ⟨by omega, Ext.refl _⟩ ?_
 rintro i w1 ⟨i1, hE⟩
 have hsi := hs.ext hE
 have hsi2 := hs2.ext hE
 try dsimp only
 refine Qc (Qc (Qb [0,1,2,3] rfl (mvV rfl rfl (mvV rfl rfl (Vw rfl (Zt rfl QN hsi) (Qy rfl rfl rfl (Qd (Qa ?_))))))))
 rw [hrl]
 refine Qo rfl ?_ ?_
 ·intro hc
  simp at hc
  obtain ⟨r, hr, hri⟩ := hrr i hc
  obtain ⟨r2, hr2, hri2⟩ := hrr2 i hc
  refine Qe (Qa (Qc (Qf (Qc (Qx QK [0,1,2,3,4,5,6,7,8,9] (by kernel_rfl) ?_)))))
  intro w2 hd _
  replace hE := hE.trans hd
  replace hsi := hsi.ext hd
  replace hsi2 := hsi2.ext hd
  refine mvV rfl rfl (mvV rfl rfl (Vw rfl (iad rfl rfl QN hsi (by omega) (by omega)) (Vw rfl (ldE rfl Zk hsi (by rw [Int.toNat_natCast]; exact hr)) (mvV rfl rfl (mvV rfl rfl (Vw rfl (iad rfl rfl QN hsi2 (by omega) (by omega)) (Vw rfl (ldE rfl Zk hsi2 (by rw [Int.toNat_natCast]; exact hr2)) (C rfl wu rfl rfl Tryz.call12 (Qbn r r2 _ _ (hri.ext hE) (hri2.ext hE)) ?_))))))))
  rintro _ w3 hE3 rfl
  replace hE := hE.trans hE3
  refine ZC rfl rfl (Qd (Qa (Qn rfl (by simp) (Qe (Qg (Qa (Qb [0,1,2] rfl (mvV rfl rfl (Qw rfl rfl rfl (Qk rfl rfl (Qd ?_)))))))))))
  exact Qi (i + 1) ⟨rfl, rfl, rfl, trivial⟩ ⟨by omega, hE⟩ (by omega)
 ·intro hc
  refine Qt (Ql (Qm (Qh (Qa (Qc (Qb [0] rfl (Qk rfl rfl (Qd (Qa (Qq (Qj rfl rfl ?_)))))))))))
  exact ⟨hE, rfl⟩
set_option maxRecDepth 10000 in
theorem QcF (P : FP) (mo : Value) (md : List Int) (u : Value) (l : List Int) (w : World) (hF : FV w P mo md) (hu : Ints w u l) (hl : AllIn P.q l) :
  Calls Tryz.prog 52 #[fv P mo, u] w (RetX w fun r _ => r = .int .i64 0) := by
 have hle := hu.le
 refine QD Tryz.func52 rfl rfl (Qc (Qb [0,1] rfl (BXA rfl wu rfl rfl ?_)))
 intro fb w1 hE hB hg
 refine Qk rfl rfl (Qd (Qa (Qc (Qc (Qb [0] rfl (Qk rfl rfl (Qd (Qa (Qf ?_)))))))))
 have hX := Ext.refl w1
 refine Qv (fun i : Nat => [(2, .pointer (some ⟨fb, 0, none⟩)), (1, u), (5, .int .i64 i)]) (fun i w' => i ≤ l.length ∧ Ext w w' ∧ Ext w1 w') (fun i => l.length - i) 0 ⟨rfl, rfl, rfl, trivial⟩ ⟨by omega, hE, hX⟩ ?_
 clear hE hX
 rintro i w2 ⟨i1, hE, hX⟩
 have hui := hu.ext hE
 have hB2 := hB.ext hX
 try dsimp only
 refine Qc (Qc (Qb [0,1,2,3] rfl (mvV rfl rfl (mvV rfl rfl (Vw rfl (Zh rfl QA hui) (Qy rfl rfl rfl (Qd (Qa (Qo rfl ?_ ?_)))))))))
 ·intro hc
  simp at hc
  refine Qe (Qa (Qc (Qf (Qc ?_))))
  have hin := hl i hc
  refine Qx QK [0,1,2,3,4,5,6] (by kernel_rfl) ?_
  intro w3 hd _
  replace hE := hE.trans hd
  replace hX := hX.trans hd
  replace hB2 := hB2.ext hd
  replace hui := hui.ext hd
  refine Vw rfl (ldA rfl Zf hB2) (mvV rfl rfl (mvV rfl rfl (Vw rfl (QO rfl rfl QA hui (by omega) (by omega)) (Vw rfl (ldI rfl na3 hui) (C rfl wu rfl rfl Tryz.call51 (rIs P mo md (gi l i) _ (hF.ext hE)) ?_)))))
  rintro _ w4 hE4 rfl
  replace hE := hE.trans hE4
  replace hX := hX.trans hE4
  refine ZC rfl rfl (Qd (Qa (Qn rfl (by simp [hin]) (Qe (Qg (Qa (Qb [0,1,2] rfl (mvV rfl rfl (Qw rfl rfl rfl (Qk rfl rfl (Qd ?_)))))))))))
  exact Qi (i + 1) ⟨rfl, rfl, rfl, trivial⟩ ⟨by omega, hE, hX⟩ (by omega)
 ·intro hc
  refine Qt (Ql (Qm (Qh (Qa (Qc (Qb [0] rfl (Qk rfl rfl (Qd (Qa (Qq (Qj rfl rfl ?_)))))))))))
  exact ⟨hE, rfl⟩
set_option maxRecDepth 10000 in
theorem r9Check (P : FP) (mo : Value) (md : List Int) (v : Value) (m n : Nat) (M : Nat → Nat → K P) (w : World) (hF : FV w P mo md) (hok : OkF P.p P.M md) (hL : LL w v (matL P m n M)) (hm : m ≤ 256) (hn : n ≤ 256) :
  Calls Tryz.prog 97 #[fv P mo, .agg #[.int .i64 n, v]] w (RetX w fun r _ => r = .int .i64 0) := by
 obtain ⟨rows, hs, hrl, hrr⟩ := hL.row
 have hml := QP (P := P) m n M
 rw [hml] at hrl hrr
 refine QD Tryz.func97 rfl rfl (Qc (Qb [0,1,2] rfl (BXA rfl wu rfl rfl ?_)))
 intro fb w1 hE hB hg
 refine BXA rfl wu rfl rfl ?_
 intro ab w2 hE2 hA ha
 replace hE := hE.trans hE2
 replace hB := hB.ext hE2
 refine Qk rfl rfl (Qd (Qa (Qc (Qb [0,1,2] rfl (Vw rfl (ldA rfl Zf hB) (C rfl wu rfl rfl Tryz.call49 (QcG P.p P.M mo md _ (hF.ints.ext hE)) ?_))))))
 intro cv w3 hE3 hck
 obtain ⟨rfl, _⟩ := hck.resolve_right (fun h => h.2 hok)
 replace hE := hE.trans hE3
 replace hB := hB.ext hE3
 replace hA := hA.ext hE3
 refine Qk rfl rfl (Qd (Qa (Qc (Qc (Qb [0,1] rfl (mvV rfl rfl (QG rfl rfl rfl (Qd (Qa (Qn rfl (by simp) (Qe (Qa (Qc (Qc ?_))))))))))))))
 have hs3 := hs.ext hE
 refine Qb [0,1,2,3,4,5,6,7,8,9,10,11,12,13] rfl (Qz rfl rfl QV (Vw rfl (ldB rfl na3 hA) (Qy rfl rfl rfl (mvV rfl rfl (KB 16 false rfl (by first | (simp; done) | (simp; omega)) (Vg rfl rfl rfl (fad rfl QV) (Vg rfl rfl rfl (ldB rfl na3 hA) (Vg rfl rfl rfl (Ju rfl rfl) (pkV rfl rfl rfl ?_)))))))))
 refine mvV rfl rfl (KB 21 false rfl (by first | (simp; done) | (simp; omega)) (Vg rfl rfl rfl (fad rfl QR) (Vg rfl rfl rfl (ldB rfl Zm hA) (Vg rfl rfl rfl (Zt rfl QN hs3) (Vg rfl rfl rfl (Ju rfl rfl) (pkV rfl rfl rfl (Qd (Qa (Qn rfl (by rw [hrl]; simp; omega) (Qe (Qa (Qc (Qc ?_)))))))))))))
 refine Qb [0] rfl (Qk rfl rfl (Qd (Qa (Qf ?_))))
 have hX := Ext.refl w3
 refine Qv (fun i : Nat => [(2, .pointer (some ⟨fb, 0, none⟩)), (3, .pointer (some ⟨ab, 0, none⟩)), (6, .int .i64 i)]) (fun i w' => i ≤ m ∧ Ext w w' ∧ Ext w3 w') (fun i => m - i) 0 ⟨rfl, rfl, rfl, trivial⟩ ⟨by omega, hE, hX⟩ ?_
 clear hE hX hs3
 rintro i w4 ⟨i1, hE, hX⟩
 have hsi := hs.ext hE
 have hA4 := hA.ext hX
 try dsimp only
 refine Qc (Qc (Qb [0,1,2,3,4] rfl (mvV rfl rfl (Qz rfl rfl QR (Vw rfl (ldB rfl Zm hA4) (Vw rfl (Zt rfl QN hsi) (Qy rfl rfl rfl (Qd (Qa ?_)))))))))
 rw [hrl]
 refine Qo rfl ?_ ?_
 ·intro hc
  simp at hc
  obtain ⟨r, hr, hri⟩ := hrr i hc
  rw [ZS hc] at hri
  have hri4 := hri.ext hE
  have hrn := QT (P := P) n (M i)
  refine Qe (Qa (Qc (Qf (Qc (Qx QK [0,1,2,3,4,5,6,7,8] (by kernel_rfl) ?_)))))
  intro w5 hd _
  replace hE := hE.trans hd
  replace hX := hX.trans hd
  replace hA4 := hA4.ext hd
  replace hsi := hsi.ext hd
  replace hri4 := hri4.ext hd
  refine Qz rfl rfl QR (Vw rfl (ldB rfl Zm hA4) (mvV rfl rfl (Vw rfl (iad rfl rfl QN hsi (by omega) (by omega)) (Vw rfl (ldE rfl Zk hsi (by rw [Int.toNat_natCast]; exact hr)) (Vw rfl (Zh rfl QA hri4) (Qz rfl rfl QV (Vw rfl (ldB rfl na3 hA4) (QG rfl rfl rfl (Qd (Qa ?_))))))))))
  refine Qn rfl (by simp [hrn]) (Qe (Qg (Qa (Qb [0,1,2] rfl (mvV rfl rfl (Qw rfl rfl rfl (Qk rfl rfl (Qd ?_))))))))
  exact Qi (i + 1) ⟨rfl, rfl, rfl, trivial⟩ ⟨by omega, hE, hX⟩ (by omega)
 ·intro hc
  refine Qt (Ql (Qm (Qh (Qa (Qc (Qc (Qb [0] rfl (Qk rfl rfl (Qd (Qa (Qf ?_)))))))))))
  have hX3 := hX
  refine Qv (fun i : Nat => [(2, .pointer (some ⟨fb, 0, none⟩)), (3, .pointer (some ⟨ab, 0, none⟩)), (7, .int .i64 i)]) (fun i w' => i ≤ m ∧ Ext w w' ∧ Ext w3 w') (fun i => m - i) 0 ⟨rfl, rfl, rfl, trivial⟩ ⟨by omega, hE, hX⟩ ?_
  clear hE hX hX3 hsi hA4 hc i1
  clear i
  rintro i w4 ⟨i1, hE, hX⟩
  have hsi := hs.ext hE
  have hA4 := hA.ext hX
  have hB4 := hB.ext hX
  try dsimp only
  refine Qc (Qc (Qb [0,1,2,3,4] rfl (mvV rfl rfl (Qz rfl rfl QR (Vw rfl (ldB rfl Zm hA4) (Vw rfl (Zt rfl QN hsi) (Qy rfl rfl rfl (Qd (Qa ?_)))))))))
  rw [hrl]
  refine Qo rfl ?_ ?_
  ·intro hc
   simp at hc
   obtain ⟨r, hr, hri⟩ := hrr i hc
   rw [ZS hc] at hri
   refine Qe (Qa (Qc (Qf (Qc (Qx QK [0,1,2,3,4,5,6,7] (by kernel_rfl) ?_)))))
   intro w5 hd _
   replace hE := hE.trans hd
   replace hX := hX.trans hd
   replace hA4 := hA4.ext hd
   replace hB4 := hB4.ext hd
   replace hsi := hsi.ext hd
   refine Vw rfl (ldA rfl Zf hB4) (Qz rfl rfl QR (Vw rfl (ldB rfl Zm hA4) (mvV rfl rfl (Vw rfl (iad rfl rfl QN hsi (by omega) (by omega)) (Vw rfl (ldE rfl Zk hsi (by rw [Int.toNat_natCast]; exact hr)) (C rfl wu rfl rfl Tryz.call52 (QcF P mo md r _ _ (hF.ext hE) (hri.ext hE) (rowL_all n (M i))) ?_))))))
   rintro _ w6 hE6 rfl
   replace hE := hE.trans hE6
   replace hX := hX.trans hE6
   refine Qk rfl rfl (Qd (Qa (Qc (Qb [0,1] rfl (mvV rfl rfl (QG rfl rfl rfl (Qd (Qa (Qn rfl (by simp) (Qe (Qg (Qa (Qb [0,1,2] rfl (mvV rfl rfl ?_))))))))))))))
   refine Qw rfl rfl rfl (Qk rfl rfl (Qd ?_))
   exact Qi (i + 1) ⟨rfl, rfl, rfl, trivial⟩ ⟨by omega, hE, hX⟩ (by omega)
  ·intro hc
   refine Qt (Ql (Qm (Qh (Qa (Qc (Qb [0] rfl (Qk rfl rfl (Qd (Qa (Qq (Qj rfl rfl ?_)))))))))))
   exact ⟨hE, rfl⟩
set_option maxRecDepth 10000 in
theorem r10Check (P : FP) (mo : Value) (md : List Int) (v : Value) (a n : Nat) (G : Nat → Nat → K P) (pv : Nat → Nat) (w : World) (hF : FV w P mo md) (hok : OkF P.p P.M md) (hgen : ∃ g : K P, HasOrder g (n1 P)) (hL : LL w v (matL P a n G)) (hR : Rr a n G pv) (ha : a ≤ 256) (hn : n ≤ 256) :
  Calls Tryz.prog 50 #[fv P mo, .agg #[.int .i64 n, v]] w (RetX w fun r _ => r = .int .i64 0) := by
 refine QD Tryz.func50 rfl rfl (Qc (Qb [0,1,2] rfl (BXA rfl wu rfl rfl ?_)))
 intro fb w1 hE hB hg
 refine BXA rfl wu rfl rfl ?_
 intro ab w2 hE2 hA hga
 replace hE := hE.trans hE2
 replace hB := hB.ext hE2
 refine Qk rfl rfl (Qd (Qa (Qc (Qb [0,1,2,3] rfl (Vw rfl (ldA rfl Zf hB) (Vw rfl (ldA rfl ZP hA) (C rfl wu rfl rfl Tryz.call97 (r9Check P mo md v a n G _ (hF.ext hE) hok (hL.ext hE) ha hn) ?_)))))))
 rintro _ w3 hE3 rfl
 replace hE := hE.trans hE3
 replace hB := hB.ext hE3
 replace hA := hA.ext hE3
 refine Qk rfl rfl (Qd (Qa (Qc (Qc (Qb [0,1] rfl (mvV rfl rfl (QG rfl rfl rfl (Qd (Qa (Qn rfl (by simp) (Qe (Qa (Qc (Qb [0,1,2,3,4,5,6,7,8,9,10] rfl (Vw rfl (ldA rfl Zf hB) ?_)))))))))))))))
 refine Qz rfl rfl QR (Vw rfl (ldB rfl Zm hA) (Qz rfl rfl QV (Vw rfl (ldB rfl na3 hA) (C rfl wu rfl rfl Tryz.call64 (QcH P mo md v a n G _ (hF.ext hE) hgen (hL.ext hE) (by omega) (by omega)) ?_))))
 rintro _ w4 hE4 ⟨lv, pvv, b, M, qv, rfl, hM, _, hRd⟩
 replace hE := hE.trans hE4
 replace hA := hA.ext hE4
 refine mvV rfl rfl (QI rfl rfl rfl (QI rfl rfl rfl (Qk rfl rfl (Qk rfl rfl (Qd (Qa (Qc (Qc ?_))))))))
 obtain ⟨rfl, e⟩ := Red.same (fun e => JC e) hR hRd
 rw [e] at hM
 refine Qb [0,1,2,3,4] rfl (mvV rfl rfl (Qz rfl rfl QR (Vw rfl (ldB rfl Zm hA) (C rfl wu rfl rfl Tryz.call98 (rSameRows lv v _ _ hM.ll (hL.ext hE)) ?_))))
 rintro _ w5 hE5 rfl
 replace hE := hE.trans hE5
 refine ZC rfl rfl (Qd (Qa (Qn rfl (by simp) (Qe (Qa (Qc (Qb [0] rfl (Qk rfl rfl (Qd (Qa (Qq (Qj rfl rfl ?_))))))))))))
 exact ⟨hE, rfl⟩
def cdv (P : FP) (mo : Value) (n : Nat) (lv : Value) : Value := .agg #[.int .i64 P.p, .int .i64 P.M, mo, .int .i64 n, lv]
set_option maxRecDepth 10000 in
theorem r12Check (P : FP) (mo : Value) (md : List Int) (v : Value) (a n : Nat) (G : Nat → Nat → K P) (pv : Nat → Nat) (w : World) (hF : FV w P mo md) (hok : OkF P.p P.M md) (hgen : ∃ g : K P, HasOrder g (n1 P)) (hL : LL w v (matL P a n G)) (hR : Rr a n G pv) (ha : a ≤ 64) (hn1 : 1 ≤ n) (hn : n ≤ 64) :
  Calls Tryz.prog 16 #[cdv P mo n v] w (RetX w fun r _ => r = .int .i64 0) := by
 refine QL Tryz.func16 rfl rfl (Qc (Qb [0,1] rfl (BXA rfl wu rfl rfl ?_)))
 intro cb w1 hE hB hg
 refine Qk rfl rfl (Qd (Qa (Qc (Qb [0,1,2,3] rfl (Qz rfl rfl Zy (Vw rfl (ldA rfl Zf hB) (C rfl wu rfl rfl Tryz.call49 (QcG P.p P.M mo md _ (hF.ints.ext hE)) ?_)))))))
 intro cv w3 hE3 hck
 obtain ⟨rfl, _⟩ := hck.resolve_right (fun h => h.2 hok)
 replace hE := hE.trans hE3
 replace hB := hB.ext hE3
 refine Qk rfl rfl (Qd (Qa (Qc (Qc (Qb [0,1] rfl (mvV rfl rfl (QG rfl rfl rfl (Qd (Qa (Qn rfl (by simp) (Qe (Qa (Qc (Qc (Qb [0,1,2,3,4,5,6,7] rfl (Qz rfl rfl Zr ?_))))))))))))))))
 refine Vw rfl (ldB rfl na3 hB) (Qy rfl rfl rfl (mvV rfl rfl (KB 13 false rfl (by simp; omega) (Vg rfl rfl rfl (fad rfl Zr) (Vg rfl rfl rfl (ldB rfl na3 hB) (Vg rfl rfl rfl (Ju rfl rfl) (pkV rfl rfl rfl (Qd (Qa (Qn rfl (by simp; omega) ?_))))))))))
 refine Qe (Qa (Qc ?_))
 have hLi := hL.ext hE
 refine Qb [0,1,2,3,4,5,6,7,8] rfl (Qz rfl rfl Zy (Vw rfl (ldA rfl Zf hB) (Qz rfl rfl Zr (Vw rfl (ldB rfl na3 hB) (Qz rfl rfl ZE (Vw rfl (ldB rfl Zm hB) (Vw rfl (bld (us := [.int .i64 n, v]) (r := [.int .i64 n, v]) rfl (QdE _ _ (QB hLi.one))) (C rfl wu rfl rfl Tryz.call50 (r10Check P mo md v a n G pv _ (hF.ext hE) hok hgen hLi hR (by omega) (by omega)) ?_))))))))
 rintro _ w4 hE4 rfl
 replace hE := hE.trans hE4
 refine Qk rfl rfl (Qd (Qa (Qq (Qj rfl rfl ?_))))
 exact ⟨hE, rfl⟩
set_option maxRecDepth 10000 in
theorem r12List (P : FP) (mo : Value) (md : List Int) (u : Value) (l : List Int) (n : Nat) (w : World) (hF : FV w P mo md) (hu : Ints w u l) (hl : AllIn P.q l) (hn : l.length = n) :
  Calls Tryz.prog 19 #[fv P mo, u, .int .i64 n] w (RetX w fun r _ => r = .int .i64 0) := by
 refine QS Tryz.func19 rfl rfl (Qc (Qb [0,1] rfl (BXA rfl wu rfl rfl ?_)))
 intro fb w1 hE hB hg
 refine Qk rfl rfl (Qd (Qa (Qc (Qc ?_))))
 have hui := hu.ext hE
 refine Qb [0,1,2,3] rfl (mvV rfl rfl (Vw rfl (Zh rfl QA hui) (mvV rfl rfl (QG rfl rfl rfl (Qd (Qa (Qn rfl (by rw [hn]; simp) (Qe (Qa (Qc (Qb [0,1,2,3] rfl (Vw rfl (ldA rfl Zf hB) ?_))))))))))))
 refine mvV rfl rfl (C rfl wu rfl rfl Tryz.call52 (QcF P mo md u l _ (hF.ext hE) hui hl) ?_)
 rintro _ w2 hE2 rfl
 replace hE := hE.trans hE2
 refine Qk rfl rfl (Qd (Qa (Qq (Qj rfl rfl ?_))))
 exact ⟨hE, rfl⟩
end Go.Proofs.YtcfbigmjjpknfaaGreatDoor
namespace Go.Proofs.YtcfbigmjjpknfaaGreatDoor
open Go Go.Sx Go.Pl Go.RowKit Go.Fd Go.Alg
set_option maxRecDepth 10000 in
theorem rReceived (P : FP) (mo : Value) (md : List Int) (u ev : Value) (l S : List Int) (n : Nat) (w : World) (hF : FV w P mo md) (hu : Ints w u l) (hS : Ints w ev S) :
  Calls Tryz.prog 7 #[fv P mo, .int .i64 n, u, ev] w (RetX w fun r _ => ∃ z : Int, r = .int .i64 z ∧ (z = 0 → ∀ x ∈ S, 0 ≤ x ∧ x < (n : Int))) := by
 have hSle := hS.le
 refine JW Tryz.func7 rfl rfl (Qc (Qb [0,1] rfl (BXA rfl wu rfl rfl ?_)))
 intro fb w1 hE hB hg
 refine Qk rfl rfl (Qd (Qa (Qc (Qb [0,1,2,3,4] rfl (Vw rfl (ldA rfl Zf hB) (mvV rfl rfl (mvV rfl rfl (C rfl wu rfl rfl Tryz.call18 (rElems P mo md u l n 4 _ (hF.ext hE) (hu.ext hE) (by decide)) ?_))))))))
 rintro _ w2 hE2 ⟨z, rfl, _⟩
 replace hE := hE.trans hE2
 refine Qk rfl rfl (Qd (Qa (Qc (Qc (Qb [0,1] rfl (mvV rfl rfl (QG rfl rfl rfl (Qd (Qa (Qo rfl ?_ ?_))))))))))
 ·intro hz
  have hz : z ≠ 0 := by simpa using hz
  refine Qc (Qb [0,1] rfl (mvV rfl rfl (Qk rfl rfl (Qd (Qa (Qq (Qp (Qj rfl rfl ?_))))))))
  exact ⟨hE, z, rfl, fun h => absurd h hz⟩
 intro hz
 clear hz
 refine Qe (Qa (Qc (Qc (Qb [0] rfl (Qk rfl rfl (Qd (Qa (Qf ?_))))))))
 have hSi := hS.ext hE
 refine Qv (fun i : Nat => [(1, .int .i64 n), (3, ev), (10, .int .i64 i)]) (fun i w' => i ≤ S.length ∧ w' = w2 ∧ ∀ j : Nat, j < i → 0 ≤ gi S j ∧ gi S j < (n : Int)) (fun i => S.length - i) 0 ⟨rfl, rfl, rfl, trivial⟩ ⟨by omega, rfl, fun j hj => by omega⟩ ?_
 rintro i w3 ⟨i1, rfl, hlo⟩
 try dsimp only
 refine Qc (Qc (Qb [0,1,2,3] rfl (mvV rfl rfl (mvV rfl rfl (Vw rfl (Zh rfl QA hSi) (Qy rfl rfl rfl (Qd (Qa (Qo rfl ?_ ?_)))))))))
 ·intro hc
  simp at hc
  refine Qe (Qa (Qc (Qf (Qc ?_))))
  by_cases h0 : gi S i < 0
  ·skip
   refine Qb [0,1,2,3,4,5,6,7,8,9,10,11,12] rfl (mvV rfl rfl (mvV rfl rfl (Vw rfl (QO rfl rfl QA hSi (by omega) (by omega)) (Vw rfl (ldI rfl na3 hSi (Ext.refl _) (by omega) (by omega)) (Qy rfl rfl rfl (mvV rfl rfl (KB 31 true rfl (decide_eq_true h0) (SK rfl rfl rfl rfl rfl (SK rfl rfl rfl rfl rfl ?_)))))))))
   refine SK rfl rfl rfl rfl rfl (SK rfl rfl rfl rfl rfl (SK rfl rfl rfl rfl rfl (SK rfl rfl rfl rfl rfl (pkV rfl rfl rfl (Qd (Qa (QC rfl (rfl) (Qc (Qb [0] rfl (Qk rfl rfl ?_))))))))))
   refine Qd (Qa (Qq (Qu (Qp (QE (Qu (Qp (Qj rfl rfl ?_))))))))
   exact ⟨hE, 6, rfl, fun h => absurd h (by decide)⟩
  ·skip
   refine Qb [0,1,2,3,4,5,6,7,8,9,10,11,12] rfl (mvV rfl rfl (mvV rfl rfl (Vw rfl (QO rfl rfl QA hSi (by omega) (by omega)) (Vw rfl (ldI rfl na3 hSi (Ext.refl _) (by omega) (by omega)) (Qy rfl rfl rfl (mvV rfl rfl (KB 31 false rfl (decide_eq_false h0) (Vg rfl rfl rfl (mv rfl) (Vg rfl rfl rfl (mv rfl) ?_)))))))))
   refine Vg rfl rfl rfl (QO rfl rfl QA hSi (by omega) (by omega)) (Vg rfl rfl rfl (ldI rfl na3 hSi (Ext.refl _) (by omega) (by omega)) (Vg rfl rfl rfl (mv rfl) (Vg rfl rfl rfl (Xb rfl rfl) (pkV rfl rfl rfl (Qd (Qa (Qo rfl ?_ ?_)))))))
   ·intro h2
    refine Qc (Qb [0] rfl (Qk rfl rfl (Qd (Qa (Qq (Qu (Qp (QE (Qu (Qp (Qj rfl rfl ?_)))))))))))
    exact ⟨hE, 6, rfl, fun h => absurd h (by decide)⟩
   ·intro h2
    simp at h2
    refine Qe (Qg (Qa (Qb [0,1,2] rfl (mvV rfl rfl (Qw rfl rfl rfl (Qk rfl rfl (Qd (Qi (i + 1) ⟨rfl, rfl, rfl, trivial⟩ ⟨by omega, rfl, fun j hj => ?_⟩ (by omega)))))))))
    rcases Nat.lt_or_eq_of_le (Nat.le_of_lt_succ hj) with e | e
    ·exact hlo j e
    ·rw [e]; omega
 intro hc
 simp at hc
 have hall : ∀ x ∈ S, 0 ≤ x ∧ x < (n : Int) := fun x hx => by
  obtain ⟨t, ht, rfl⟩ := List.getElem_of_mem hx
  have := hlo t (by omega)
  rw [Jw ht] at this
  exact this
 clear hlo hc i1
 refine Qt (Ql (Qm (Qh (Qa (Qc (Qc (Qb [0] rfl (Qk rfl rfl (Qd (Qa (Qf ?_)))))))))))
 refine Qv (fun i : Nat => [(3, ev), (11, .int .i64 i)]) (fun i w' => i ≤ S.length ∧ Ext w w') (fun i => S.length - i) 0 ⟨rfl, rfl, trivial⟩ ⟨by omega, hE⟩ ?_
 clear hSi hE hB
 rintro i w4 ⟨i1, hE⟩
 have hSi := hS.ext hE
 try dsimp only
 refine Qc (Qc (Qb [0,1,2,3] rfl (mvV rfl rfl (mvV rfl rfl (Vw rfl (Zh rfl QA hSi) (Qy rfl rfl rfl (Qd (Qa (Qo rfl ?_ ?_)))))))))
 ·intro hc
  simp at hc
  refine Qe (Qa (Qc (Qf (Qc (Qb [0] rfl (Qk rfl rfl (Qd (Qa (Qf ?_)))))))))
  refine Qv (fun j : Nat => [(3, ev), (11, .int .i64 i), (12, .int .i64 j)]) (fun j w' => j ≤ i ∧ Ext w w') (fun j => i - j) 0 ⟨rfl, rfl, rfl, trivial⟩ ⟨by omega, hE⟩ ?_
  clear hSi hE
  rintro j w5 ⟨j1, hE⟩
  try dsimp only
  refine Qc (Qc (Qb [0,1,2] rfl (mvV rfl rfl (mvV rfl rfl (Qy rfl rfl rfl (Qd (Qa (Qo rfl ?_ ?_))))))))
  ·intro hj
   simp at hj
   have hSj := hS.ext hE
   refine Qe (Qa (Qc (Qf (Qc (Qx QK [0,1,2,3,4,5,6,7,8] (by kernel_rfl) ?_)))))
   intro wd hd _
   replace hSj := hSj.ext hd
   replace hE := hE.trans hd
   refine mvV rfl rfl (mvV rfl rfl (Vw rfl (QO rfl rfl QA hSj (by omega) (by omega)) (Vw rfl (ldI rfl na3 hSj (Ext.refl _) (by omega) (by omega)) (mvV rfl rfl (mvV rfl rfl (Vw rfl (QO rfl rfl QA hSj (by omega) (by omega)) (Vw rfl (ldI rfl na3 hSj (Ext.refl _) (by omega) (by omega)) (QU rfl rfl rfl (Qd (Qa ?_))))))))))
   refine Qo rfl ?_ ?_
   ·intro he
    refine Qc (Qb [0] rfl (Qk rfl rfl (Qd (Qa (Qq (Qu (Qp (QE (Qu (Qu (Qp (QE (Qu (Qp (Qj rfl rfl ?_)))))))))))))))
    exact ⟨hE, 18, rfl, fun h => absurd h (by decide)⟩
   ·intro he
    refine Qe (Qg (Qa (Qb [0,1,2] rfl (mvV rfl rfl (Qw rfl rfl rfl (Qk rfl rfl (Qd ?_)))))))
    exact Qi (j + 1) ⟨rfl, rfl, rfl, trivial⟩ ⟨by omega, hE⟩ (by omega)
  ·intro hj
   refine Qt (Ql (Qm (Qh (Qg (Qa (Qb [0,1,2] rfl (mvV rfl rfl (Qw rfl rfl rfl (Qk rfl rfl (Qd ?_))))))))))
   exact Qi (i + 1) ⟨rfl, rfl, trivial⟩ ⟨by omega, hE⟩ (by omega)
 ·intro hc
  refine Qt (Ql (Qm (Qh (Qa (Qc (Qb [0] rfl (Qk rfl rfl (Qd (Qa (Qq (Qj rfl rfl ?_)))))))))))
  exact ⟨hE, 0, rfl, fun _ => hall⟩
theorem row_of {P : FP} {n : Nat} {L : List (List Int)} (h : RlIn P n L) {i : Nat} (hi : i < L.length) : L.getD i [] = rowL P n (kM P L i) := by
 have e := ZY (P := P) (n := n) (M := kM P L) hi
 rw [← h.mat] at e
 exact e
noncomputable def encK (P : FP) (L : List (List Int)) (x : List Int) (i j : Nat) : K P := sm i fun t => inK P (gi x (t : Int)) * kM P L t j
set_option maxRecDepth 10000 in
theorem rCombine (P : FP) (mo : Value) (md : List Int) (xv u : Value) (x : List Int) (L : List (List Int)) (n : Nat) (w : World) (hF : FV w P mo md) (hx : Ints w xv x) (hL : LL w u L) (hR : RlIn P n L) (hxl : x.length = L.length) (hn : n ≤ 256) :
  Calls Tryz.prog 20 #[fv P mo, xv, u, .int .i64 n] w (RetX w fun r w' => OwnI w.heap.size w' r 3 (rowL P n (encK P L x L.length))) := by
 obtain ⟨rs, hs, hrl, hrow⟩ := hL.row
 have hsle := hs.le
 refine JW Tryz.func20 rfl rfl (Qc (Qb [0,1] rfl (BXA rfl wu rfl rfl ?_)))
 intro fb w1 hE hB hg
 refine Qk rfl rfl (Qd (Qa (Qc ?_)))
 have hz1 := hE.size
 refine Qb [0,1,2] rfl (mvV rfl rfl (MKI (n := n) rfl wu rfl rfl QA ?_))
 intro ov w2 hE2 ho hoi hob
 refine Qk rfl rfl (Qd (Qa (Qc (Qc ?_))))
 replace hB := hB.ext hE2
 replace hE := hE.trans hE2
 replace ho : OwnI w.heap.size w2 ov 3 (rowL P n (encK P L x 0)) := Own.mono ho hz1
 clear hoi hob hE2
 refine Qb [0] rfl (Qk rfl rfl (Qd (Qa (Qf ?_))))
 refine Qv (fun s : Nat × Value => [(1, xv), (2, u), (4, .pointer (some ⟨fb, 0, none⟩)), (9, s.2), (10, .int .i64 s.1)])
  (fun s w' => s.1 ≤ L.length ∧ Ext w w' ∧ Blk w' fb 24 #[.int .i64 P.p, .int .i64 P.M, mo] ∧ OwnI w.heap.size w' s.2 3 (rowL P n (encK P L x s.1))) (fun s => L.length - s.1) (0, ov) ⟨rfl, rfl, rfl, rfl, rfl, trivial⟩ ⟨by dsimp only; omega, hE, hB, ho⟩ ?_
 clear hE hB ho
 rintro ⟨i, ov⟩ w3 ⟨i1, hE, hB, ho⟩
 dsimp only at i1 hE hB ho
 have hxi := hx.ext hE
 have hsi := hs.ext hE
 have hzi := hE.size
 try dsimp only
 refine Qc (Qc ?_)
 by_cases hc : i < L.length
 ·obtain ⟨r, hri, hrr⟩ := hrow i hc
  have hrr := hrr.ext hE
  rw [row_of hR hc] at hrr
  refine Qb [0,1,2,3,4,5,6,7,8,9] rfl (mvV rfl rfl (mvV rfl rfl (Vw rfl (Zt rfl QN hsi) (Qy rfl rfl rfl (mvV rfl rfl (KB 17 true rfl (decide_eq_true (by omega)) (Vg rfl rfl rfl (mv rfl) (Vg rfl rfl rfl (mv rfl) (Vg rfl rfl rfl (Zh rfl QA hxi) ?_)))))))))
  refine Vg rfl rfl rfl (Qan rfl rfl) (pkV rfl rfl rfl (Qd (Qa (QC rfl (decide_eq_true (by omega)) (Qe (Qa (Qc (Qf (Qc (Qb [0,1,2,3,4] rfl (mvV rfl rfl (mvV rfl rfl (Vw rfl (QO rfl rfl QA hxi (by omega) (by omega)) (Vw rfl (ldI rfl na3 hxi (Ext.refl _) (by omega) (by omega)) ?_))))))))))))))
  refine QG rfl rfl rfl (Qd (Qa (Qo rfl ?_ ?_)))
  ·intro h1
   refine Qx QK [0,1,2,3,4,5,6,7,8,9,10,11] (by kernel_rfl) ?_
   intro wd hd _
   replace hE := hE.trans hd
   replace hB := hB.ext hd
   replace ho := ho.ext hd
   replace hxi := hxi.ext hd
   replace hsi := hsi.ext hd
   replace hrr := hrr.ext hd
   refine Vw rfl (ldA rfl Zf hB) (mvV rfl rfl (mvV rfl rfl (mvV rfl rfl (Vw rfl (QO rfl rfl QA hxi (by omega) (by omega)) (Vw rfl (ldI rfl na3 hxi (Ext.refl _) (by omega) (by omega)) (mvV rfl rfl (mvV rfl rfl (Vw rfl (iad rfl rfl QN hsi (by omega) (by omega)) (Vw rfl (ldE rfl Zk hsi (by rw [Int.toNat_natCast]; exact hri) (Ext.refl _)) ?_)))))))))
   refine C rfl wu rfl rfl Tryz.call53 (rAddTo P mo md ov (gi x i) r n (encK P L x i) (kM P L i) _ (hF.ext hE) (OwnI.ints ho) hrr (by omega)) ?_
   intro ov2 w4 hE4 ho2
   refine Qk rfl rfl (Qd (Qg (Qa (Qb [0,1,2] rfl (mvV rfl rfl (Qw rfl rfl rfl (Qk rfl rfl (Qd ?_))))))))
   have hz := hE.size
   exact Qi (i + 1, ov2) ⟨rfl, rfl, rfl, rfl, rfl, trivial⟩ ⟨by dsimp only; omega, hE.trans hE4, hB.ext hE4, Own.mono ho2 hz⟩ (by dsimp only; omega)
  ·intro h1
   have h1 : gi x i = 0 := by simpa using h1
   refine Qe (Qg (Qa (Qb [0,1,2] rfl (mvV rfl rfl (Qw rfl rfl rfl (Qk rfl rfl (Qd (Qi (i + 1, ov) ⟨rfl, rfl, rfl, rfl, rfl, trivial⟩ ⟨by dsimp only; omega, hE, hB, ?_⟩ (by dsimp only; omega)))))))))
   have e : rowL P n (encK P L x (i + 1)) = rowL P n (encK P L x i) := JO fun j _ => by
    show sm i _ + _ = _
    dsimp only
    rw [h1, inK0, zero_mul, add_zero]
    rfl
   dsimp only
   rw [e]
   exact ho
 ·obtain rfl : i = L.length := by omega
  refine Qb [0,1,2,3,4,5,6,7,8,9] rfl (mvV rfl rfl (mvV rfl rfl (Vw rfl (Zt rfl QN hsi) (Qy rfl rfl rfl (mvV rfl rfl (KB 17 false rfl (decide_eq_false (by omega)) (SK rfl rfl rfl rfl rfl (SK rfl rfl rfl rfl rfl (SK rfl rfl rfl rfl rfl ?_)))))))))
  refine SK rfl rfl rfl rfl rfl (pkV rfl rfl rfl (Qd (Qa (Qn rfl (rfl) (Qt (Ql (Qm (Qh (Qa (Qc (Qb [0,1] rfl (mvV rfl rfl (Qk rfl rfl (Qd (Qa (Qq (Qj rfl rfl ?_)))))))))))))))))
  exact ⟨hE, ho⟩
theorem CdOk.rr {p M : Int} {md : List Int} {n : Nat} {L : List (List Int)} (h : CdOk p M md n L) (hgen : ∃ g : K h.P, HasOrder g (n1 h.P)) : ∃ G pv, L = matL h.P L.length n G ∧ Rr L.length n G pv := by
 have hRl : RlIn h.P n L := ⟨h.rl, h.inr⟩
 obtain ⟨a, G, pv, e, _, hR, _⟩ := ZH hgen L.length n (kM h.P L)
 rw [← hRl.mat] at e
 have e2 : L = matL h.P a n G := h.can.symm.trans (congrArg Prod.fst e)
 have e3 : a = L.length := by
  have := congrArg List.length e2
  rw [QP] at this
  exact this.symm
 subst e3
 exact ⟨G, pv, e2, hR⟩
theorem Rr.few {P : FP} {a n : Nat} {G : Nat → Nat → K P} {pv : Nat → Nat} (h : Rr a n G pv) : a ≤ n := by
 have hi : ∀ i, i < a → i ≤ pv i := fun i => by
  induction i with
  | zero => intro _; omega
  | succ i ih =>
   intro hi
   have h1 := ih (by omega)
   have h2 := h.asc i (i + 1) (by omega) hi
   omega
 by_cases h0 : a = 0
 ·omega
 ·have h1 := hi (a - 1) (by omega)
  have h2 := h.lt (a - 1) (by omega)
  omega
theorem cd_of {p M : Int} {md : List Int} {n : Nat} {L : List (List Int)} (h : CdOk p M md n L) (mo v : Value) : (Value.agg #[.int .i64 p, .int .i64 M, mo, .int .i64 n, v]) = cdv h.P mo n v := by
 have : (((M.toNat : Nat) : Int)) = M := by have := h.ok.1.2.1; omega
 show _ = Value.agg #[.int .i64 p, .int .i64 ((M.toNat : Nat) : Int), mo, .int .i64 n, v]
 rw [this]
set_option maxRecDepth 10000 in
theorem r12Encode (P : FP) (mo : Value) (md : List Int) (v u : Value) (x : List Int) (L : List (List Int)) (n : Nat) (G : Nat → Nat → K P) (pv : Nat → Nat) (w : World) (hF : FV w P mo md) (hok : OkF P.p P.M md) (hgen : ∃ g : K P, HasOrder g (n1 P)) (hL : LL w v L) (hLm : L = matL P L.length n G) (hR : Rr L.length n G pv) (hn1 : 1 ≤ n) (hn : n ≤ 64) (hu : Ints w u x) (hxl : x.length = L.length) (hxin : InR P x) :
  Calls Tryz.prog 8 #[cdv P mo n v, u] w (RetX w fun r w' => ∃ wv', r = .tuple #[wv', .int .i64 0] ∧ OwnI w.heap.size w' wv' 3 (rowL P n (encK P L x L.length))) := by
 have hv1 := hL.one
 have hvc := QB hv1
 have hfew := Rr.few hR
 have hm1 := hF.ints.one
 have hRl : RlIn P n L := by rw [hLm]; exact RlIn.matL _ _ _
 have hal : AllIn P.q x := fun i hi => InR.get hxin (by omega) (by omega)
 obtain ⟨rs, hs, hrl, -⟩ := hL.row
 refine QD Tryz.func8 rfl rfl (Qc (Qb [0,1,2] rfl (BXA rfl wu rfl rfl ?_)))
 intro cb w1 hE hB hg
 refine Qk rfl rfl (Qk rfl rfl (Qd (Qa (Qc ?_))))
 have hz1 := hE.size
 refine Qb [0,1,2] rfl (Vw rfl (ldA rfl Jx hB) (C rfl wu rfl rfl Tryz.call16 (r12Check P mo md v L.length n G pv _ (hF.ext hE) hok hgen (by rw [← hLm]; exact hL.ext hE) hR (by omega) hn1 hn) ?_))
 rintro _ w3 hE3 rfl
 replace hE := hE.trans hE3
 replace hB := hB.ext hE3
 refine Qk rfl rfl (Qd (Qa (Qc (Qc (Qb [0,1] rfl (mvV rfl rfl (QU rfl rfl rfl (Qd (Qa (QC rfl (rfl) (Qb [0,1,2,3,4,5,6,7] rfl (Qz rfl rfl Zy (Vw rfl (ldA rfl Zf hB) ?_)))))))))))))
 refine mvV rfl rfl (Qz rfl rfl ZE (Vw rfl (ldB rfl Zm hB) (Vw rfl (Zt rfl QN (hs.ext hE)) ?_)))
 rw [hrl]
 refine C rfl wu rfl rfl Tryz.call19 (r12List P mo md u x L.length _ (hF.ext hE) (hu.ext hE) hal hxl) ?_
 rintro _ w4 hE4 rfl
 replace hE := hE.trans hE4
 replace hB := hB.ext hE4
 refine Qk rfl rfl (Qd (Qa (Qc (Qc (Qb [0,1] rfl (mvV rfl rfl (QG rfl rfl rfl (Qd (Qa (Qn rfl (rfl) (Qe (Qa (Qc ?_)))))))))))))
 have hz := hE.size
 refine Qb [0,1,2,3,4,5,6,7,8,9] rfl (Qz rfl rfl Zy (Vw rfl (ldA rfl Zf hB) (mvV rfl rfl (Qz rfl rfl ZE (Vw rfl (ldB rfl Zm hB) (Qz rfl rfl Zr (Vw rfl (ldB rfl na3 hB) (C rfl wu rfl rfl Tryz.call20 (rCombine P mo md u v x L n _ (hF.ext hE) (hu.ext hE) (hL.ext hE) hRl hxl (by omega)) ?_))))))))
 intro ov w5 hE5 ho
 refine Qk rfl rfl (Qk rfl rfl (Qd (Qa (Qq (QH rfl rfl rfl ?_)))))
 exact ⟨hE.trans hE5, ov, rfl, Own.mono ho hz⟩
end Go.Proofs.YtcfbigmjjpknfaaGreatDoor
