import Derived.Test.YtcfbigmjjpknfaaGreatDoorW35
import Derived.Test.YtcfbigmjjpknfaaGreatDoorW26
import Derived.Test.YtcfbigmjjpknfaaGreatDoorW36
import Derived.Test.YtcfbigmjjpknfaaGreatDoorW25
namespace Go.Proofs.YtcfbigmjjpknfaaGreatDoor
open Go Go.Sx Go.Pl Go.RowKit Go.Fd Go.Alg
set_option maxRecDepth 10000 in
theorem Qdf (u v : Value) (a b : List Int) (w : World) (hu : Ints w u a) (hv : Ints w v b) :
  Calls Tryz.prog 12 #[u, v] w (RetX w fun r _ => ∃ c, r = .bool c ∧ (c = true → a = b)) := by
 have hle := hu.le
 have hle2 := hv.le
 refine QD Tryz.func12 rfl rfl (Qc (Qb [0] rfl (Qk rfl rfl (Qd (Qa (Qc (Qc (Qb [0,1,2,3,4] rfl (mvV rfl rfl (Vw rfl (Zh rfl QA) ?_))))))))))
 refine mvV rfl rfl (Vw rfl (Zh rfl QA) ?_)
 refine QG rfl rfl rfl (Qd (Qa (Qo rfl ?_ ?_)))
 ·intro hc
  refine Qc (Qb [0] rfl (Qk rfl rfl (Qd (Qa (Qq (Qp (Qj rfl rfl ?_)))))))
  exact ⟨Ext.refl _, false, rfl, fun h => by cases h⟩
 ·intro hc
  simp at hc
  refine Qe (Qa (Qc (Qc (Qb [0] rfl (Qk rfl rfl (Qd (Qa (Qf ?_))))))))
  refine Qv (fun i : Nat => [(0, u), (1, v), (5, .int .i64 i)]) (fun i w' => i ≤ a.length ∧ Ext w w' ∧ ∀ t : Nat, t < i → gi a t = gi b t) (fun i => a.length - i) 0 ⟨rfl, rfl, rfl, trivial⟩ ⟨by omega, Ext.refl _, fun t ht => by omega⟩ ?_
  rintro i w1 ⟨i1, hE, hab⟩
  have hui := hu.ext hE
  have hvi := hv.ext hE
  try dsimp only
  refine Qc (Qc (Qb [0,1,2,3] rfl (mvV rfl rfl (mvV rfl rfl (Vw rfl (Zh rfl QA hui) (Qy rfl rfl rfl (Qd (Qa (Qo rfl ?_ ?_)))))))))
  ·intro hc2
   simp at hc2
   refine Qe (Qa (Qc (Qf (Qc (Qx QK [0,1,2,3,4,5,6,7,8] (by kernel_rfl) ?_)))))
   intro w2 hd _
   replace hE := hE.trans hd
   replace hui := hui.ext hd
   replace hvi := hvi.ext hd
   refine mvV rfl rfl (mvV rfl rfl (Vw rfl (QO rfl rfl QA hui (by omega) (by omega)) (Vw rfl (ldI rfl na3 hui) (mvV rfl rfl (mvV rfl rfl (Vw rfl (QO rfl rfl QA hvi (by omega) (by omega)) (Vw rfl (ldI rfl na3 hvi) (QG rfl rfl rfl (Qd (Qa ?_))))))))))
   refine Qo rfl ?_ ?_
   ·intro hn
    refine Qc (Qb [0] rfl (Qk rfl rfl (Qd (Qa (Qq (Qu (Qp (QE (Qu (Qp (Qj rfl rfl ?_)))))))))))
    exact ⟨hE, false, rfl, fun h => by cases h⟩
   ·intro hn
    simp at hn
    refine Qe (Qg (Qa (Qb [0,1,2] rfl (mvV rfl rfl (Qw rfl rfl rfl (Qk rfl rfl (Qd ?_)))))))
    exact Qi (i + 1) ⟨rfl, rfl, rfl, trivial⟩ ⟨by omega, hE, fun t ht => by
     rcases Nat.lt_or_eq_of_le (Nat.le_of_lt_succ ht) with e | e
     ·exact hab t e
     ·rw [e]; exact hn⟩ (by omega)
  ·intro hc2
   simp at hc2
   refine Qt (Ql (Qm (Qh (Qa (Qc (Qb [0] rfl (Qk rfl rfl (Qd (Qa (Qq (Qj rfl rfl ?_)))))))))))
   refine ⟨hE, true, rfl, fun _ => ?_⟩
   have hlen : a.length = b.length := by omega
   refine List.ext_getElem hlen fun t h1 h2 => ?_
   have := hab t (by omega)
   rw [Jw h1, Jw h2] at this
   exact this
set_option maxRecDepth 10000 in
theorem Qde (u v : Value) (L M : List (List Int)) (w : World) (hu : LL w u L) (hv : LL w v M) :
  Calls Tryz.prog 98 #[u, v] w (RetX w fun r _ => ∃ c, r = .bool c ∧ (c = true → L = M)) := by
 obtain ⟨rows, hs, hrl, hrr⟩ := hu.row
 obtain ⟨Zc, hs2, hrl2, hrr2⟩ := hv.row
 have hle := hs.le
 refine QD Tryz.func98 rfl rfl (Qc (Qb [0] rfl (Qk rfl rfl (Qd (Qa (Qc (Qc (Qb [0,1,2,3,4] rfl (mvV rfl rfl (Vw rfl (Zt rfl QN hs) (mvV rfl rfl (Vw rfl (Zt rfl QN hs2) ?_))))))))))))
 refine QG rfl rfl rfl (Qd (Qa ?_))
 rw [hrl, hrl2]
 refine Qo rfl ?_ ?_
 ·intro hc
  refine Qc (Qb [0] rfl (Qk rfl rfl (Qd (Qa (Qq (Qp (Qj rfl rfl ?_)))))))
  exact ⟨Ext.refl _, false, rfl, fun h => by cases h⟩
 ·intro hc
  simp at hc
  refine Qe (Qa (Qc (Qc (Qb [0] rfl (Qk rfl rfl (Qd (Qa (Qf ?_))))))))
  refine Qv (fun i : Nat => [(0, u), (1, v), (5, .int .i64 i)]) (fun i w' => i ≤ L.length ∧ Ext w w' ∧ ∀ t : Nat, t < i → L.getD t [] = M.getD t []) (fun i => L.length - i) 0 ⟨rfl, rfl, rfl, trivial⟩ ⟨by omega, Ext.refl _, fun t ht => by omega⟩ ?_
  rintro i w1 ⟨i1, hE, hab⟩
  have hsi := hs.ext hE
  have hsi2 := hs2.ext hE
  try dsimp only
  refine Qc (Qc (Qb [0,1,2,3] rfl (mvV rfl rfl (mvV rfl rfl (Vw rfl (Zt rfl QN hsi) (Qy rfl rfl rfl (Qd (Qa ?_))))))))
  rw [hrl]
  refine Qo rfl ?_ ?_
  ·intro hc2
   simp at hc2
   obtain ⟨r, hr, hri⟩ := hrr i hc2
   obtain ⟨r2, hr2, hri2⟩ := hrr2 i (by omega)
   refine Qe (Qa (Qc (Qf (Qc (Qx QK [0,1,2,3,4,5,6,7,8,9] (by kernel_rfl) ?_)))))
   intro w2 hd _
   replace hE := hE.trans hd
   replace hsi := hsi.ext hd
   replace hsi2 := hsi2.ext hd
   refine mvV rfl rfl (mvV rfl rfl (Vw rfl (iad rfl rfl QN hsi (by omega) (by omega)) (Vw rfl (ldE rfl Zk hsi (by rw [Int.toNat_natCast]; exact hr)) (mvV rfl rfl (mvV rfl rfl (Vw rfl (iad rfl rfl QN hsi2 (by omega) (by omega)) (Vw rfl (ldE rfl Zk hsi2 (by rw [Int.toNat_natCast]; exact hr2)) (C rfl wu rfl rfl Tryz.call12 (Qdf r r2 _ _ _ (hri.ext hE) (hri2.ext hE)) ?_))))))))
   rintro _ w3 hE3 ⟨c, rfl, hcc⟩
   replace hE := hE.trans hE3
   refine ZC rfl rfl (Qd (Qa (Qo rfl ?_ ?_)))
   ·intro hn
    refine Qc (Qb [0] rfl (Qk rfl rfl (Qd (Qa (Qq (Qu (Qp (QE (Qu (Qp (Qj rfl rfl ?_)))))))))))
    exact ⟨hE, false, rfl, fun h => by cases h⟩
   ·intro hn
    simp at hn
    refine Qe (Qg (Qa (Qb [0,1,2] rfl (mvV rfl rfl (Qw rfl rfl rfl (Qk rfl rfl (Qd ?_)))))))
    exact Qi (i + 1) ⟨rfl, rfl, rfl, trivial⟩ ⟨by omega, hE, fun t ht => by
     rcases Nat.lt_or_eq_of_le (Nat.le_of_lt_succ ht) with e | e
     ·exact hab t e
     ·rw [e]; exact hcc hn⟩ (by omega)
  ·intro hc2
   simp at hc2
   refine Qt (Ql (Qm (Qh (Qa (Qc (Qb [0] rfl (Qk rfl rfl (Qd (Qa (Qq (Qj rfl rfl ?_)))))))))))
   refine ⟨hE, true, rfl, fun _ => ?_⟩
   have hlen : L.length = M.length := by omega
   refine List.ext_getElem hlen fun t h1 h2 => ?_
   have := hab t (by omega)
   rw [List.getD_eq_getElem?_getD, List.getD_eq_getElem?_getD, List.getElem?_eq_getElem h1, List.getElem?_eq_getElem h2] at this
   exact this
set_option maxRecDepth 10000 in
theorem rEntries2 (P : FP) (mo : Value) (md : List Int) (u : Value) (l : List Int) (w : World) (hF : FV w P mo md) (hu : Ints w u l) :
  Calls Tryz.prog 52 #[fv P mo, u] w (RetX w fun r _ => ∃ e : Int, r = .int .i64 e ∧ (e = 0 → InR P l)) := by
 have hle := hu.le
 refine QD Tryz.func52 rfl rfl (Qc (Qb [0,1] rfl (BXA rfl wu rfl rfl ?_)))
 intro fb w1 hE hB hg
 refine Qk rfl rfl (Qd (Qa (Qc (Qc (Qb [0] rfl (Qk rfl rfl (Qd (Qa (Qf ?_)))))))))
 have hX := Ext.refl w1
 refine Qv (fun i : Nat => [(2, .pointer (some ⟨fb, 0, none⟩)), (1, u), (5, .int .i64 i)]) (fun i w' => i ≤ l.length ∧ Ext w w' ∧ Ext w1 w' ∧ ∀ t : Nat, t < i → 0 ≤ gi l t ∧ gi l t < P.q) (fun i => l.length - i) 0 ⟨rfl, rfl, rfl, trivial⟩ ⟨by omega, hE, hX, fun t ht => by omega⟩ ?_
 clear hE hX
 rintro i w2 ⟨i1, hE, hX, hin⟩
 have hui := hu.ext hE
 have hB2 := hB.ext hX
 try dsimp only
 refine Qc (Qc (Qb [0,1,2,3] rfl (mvV rfl rfl (mvV rfl rfl (Vw rfl (Zh rfl QA hui) (Qy rfl rfl rfl (Qd (Qa (Qo rfl ?_ ?_)))))))))
 ·intro hc
  simp at hc
  refine Qe (Qa (Qc (Qf (Qc (Qx QK [0,1,2,3,4,5,6] (by kernel_rfl) ?_)))))
  intro w3 hd _
  replace hE := hE.trans hd
  replace hX := hX.trans hd
  replace hB2 := hB2.ext hd
  replace hui := hui.ext hd
  refine Vw rfl (ldA rfl Zf hB2) (mvV rfl rfl (mvV rfl rfl (Vw rfl (QO rfl rfl QA hui (by omega) (by omega)) (Vw rfl (ldI rfl na3 hui) (C rfl wu rfl rfl Tryz.call51 (rIs P mo md (gi l i) _ (hF.ext hE)) ?_)))))
  rintro _ w4 hE4 rfl
  replace hE := hE.trans hE4
  replace hX := hX.trans hE4
  refine ZC rfl rfl (Qd (Qa (Qo rfl ?_ ?_)))
  ·intro hn
   refine Qc (Qb [0] rfl (Qk rfl rfl (Qd (Qa (Qq (Qu (Qp (QE (Qu (Qp (Qj rfl rfl ?_)))))))))))
   exact ⟨hE, _, rfl, fun h => absurd h (by decide)⟩
  ·intro hn
   refine Qe (Qg (Qa (Qb [0,1,2] rfl (mvV rfl rfl (Qw rfl rfl rfl (Qk rfl rfl (Qd (Qi (i + 1) ⟨rfl, rfl, rfl, trivial⟩ ⟨by omega, hE, hX, fun t ht => ?_⟩ (by omega)))))))))
   rcases Nat.lt_or_eq_of_le (Nat.le_of_lt_succ ht) with e | e
   ·exact hin t e
   ·rw [e]
    simpa using hn
 ·intro hc
  simp at hc
  refine Qt (Ql (Qm (Qh (Qa (Qc (Qb [0] rfl (Qk rfl rfl (Qd (Qa (Qq (Qj rfl rfl ?_)))))))))))
  refine ⟨hE, 0, rfl, fun _ x hx => ?_⟩
  obtain ⟨t, ht, rfl⟩ := List.getElem_of_mem hx
  have := hin t (by omega)
  rw [Jw ht] at this
  exact this
set_option maxRecDepth 10000 in
theorem r9Check2 (P : FP) (mo : Value) (md : List Int) (v : Value) (n : Nat) (L : List (List Int)) (w : World) (hF : FV w P mo md) (hok : OkF P.p P.M md) (hL : LL w v L) (hn : n ≤ 256) :
  Calls Tryz.prog 97 #[fv P mo, .agg #[.int .i64 n, v]] w (RetX w fun r _ => ∃ e : Int, r = .int .i64 e ∧ (e = 0 → MV P n L)) := by
 obtain ⟨rows, hs, hrl, hrr⟩ := hL.row
 have hle := hs.le
 refine QD Tryz.func97 rfl rfl (Qc (Qb [0,1,2] rfl (BXA rfl wu rfl rfl ?_)))
 intro fb w1 hE hB hg
 refine BXA rfl wu rfl rfl ?_
 intro ab w2 hE2 hA ha
 replace hE := hE.trans hE2
 replace hB := hB.ext hE2
 refine Qk rfl rfl (Qd (Qa (Qc (Qb [0,1,2] rfl (Vw rfl (ldA rfl Zf hB) (C rfl wu rfl rfl Tryz.call49 (QcG P.p P.M mo md _ (hF.ints.ext hE)) ?_))))))
 intro cv w3 hE3 hck
 obtain ⟨rfl, _⟩ := hck.resolve_right (fun h => h.2 hok)
 replace hE := hE.trans hE3
 replace hB := hB.ext hE3
 replace hA := hA.ext hE3
 refine Qk rfl rfl (Qd (Qa (Qc (Qc (Qb [0,1] rfl (mvV rfl rfl (QG rfl rfl rfl (Qd (Qa (Qn rfl (by simp) (Qe (Qa (Qc (Qc ?_))))))))))))))
 have hs3 := hs.ext hE
 refine Qb [0,1,2,3,4,5,6,7,8,9,10,11,12,13] rfl (Qz rfl rfl QV (Vw rfl (ldB rfl na3 hA) (Qy rfl rfl rfl (mvV rfl rfl (KB 16 false rfl (by first | (simp; done) | (simp; omega)) (Vg rfl rfl rfl (fad rfl QV) (Vg rfl rfl rfl (ldB rfl na3 hA) (Vg rfl rfl rfl (Ju rfl rfl) (pkV rfl rfl rfl ?_)))))))))
 refine mvV rfl rfl (KB 21 false rfl (by first | (simp; done) | (simp; omega)) (Vg rfl rfl rfl (fad rfl QR) (Vg rfl rfl rfl (ldB rfl Zm hA) (Vg rfl rfl rfl (Zt rfl QN hs3) (Vg rfl rfl rfl (Ju rfl rfl) (pkV rfl rfl rfl (Qd (Qa ?_))))))))
 rw [hrl]
 refine Qo rfl ?_ ?_
 ·intro hc
  refine Qc (Qb [0] rfl (Qk rfl rfl (Qd (Qa (Qq (Qp (Qj rfl rfl ?_)))))))
  exact ⟨hE, _, rfl, fun h => absurd h (by decide)⟩
 intro hc
 simp at hc
 refine Qe (Qa (Qc (Qc (Qb [0] rfl (Qk rfl rfl (Qd (Qa (Qf ?_))))))))
 have hX := Ext.refl w3
 refine Qv (fun i : Nat => [(2, .pointer (some ⟨fb, 0, none⟩)), (3, .pointer (some ⟨ab, 0, none⟩)), (6, .int .i64 i)]) (fun i w' => i ≤ L.length ∧ Ext w w' ∧ Ext w3 w' ∧ ∀ t : Nat, t < i → ((L.getD t []).length : Int) = n) (fun i => L.length - i) 0 ⟨rfl, rfl, rfl, trivial⟩ ⟨by omega, hE, hX, fun t ht => by omega⟩ ?_
 clear hE hX hs3
 rintro i w4 ⟨i1, hE, hX, hln⟩
 have hsi := hs.ext hE
 have hA4 := hA.ext hX
 try dsimp only
 refine Qc (Qc (Qb [0,1,2,3,4] rfl (mvV rfl rfl (Qz rfl rfl QR (Vw rfl (ldB rfl Zm hA4) (Vw rfl (Zt rfl QN hsi) (Qy rfl rfl rfl (Qd (Qa ?_)))))))))
 rw [hrl]
 refine Qo rfl ?_ ?_
 ·intro hc2
  simp at hc2
  obtain ⟨r, hr, hri⟩ := hrr i hc2
  have hri4 := hri.ext hE
  refine Qe (Qa (Qc (Qf (Qc (Qx QK [0,1,2,3,4,5,6,7,8] (by kernel_rfl) ?_)))))
  intro w5 hd _
  replace hE := hE.trans hd
  replace hX := hX.trans hd
  replace hA4 := hA4.ext hd
  replace hsi := hsi.ext hd
  replace hri4 := hri4.ext hd
  refine Qz rfl rfl QR (Vw rfl (ldB rfl Zm hA4) (mvV rfl rfl (Vw rfl (iad rfl rfl QN hsi (by omega) (by omega)) (Vw rfl (ldE rfl Zk hsi (by rw [Int.toNat_natCast]; exact hr)) (Vw rfl (Zh rfl QA hri4) (Qz rfl rfl QV (Vw rfl (ldB rfl na3 hA4) (QG rfl rfl rfl (Qd (Qa ?_))))))))))
  refine Qo rfl ?_ ?_
  ·intro hn2
   refine Qc (Qb [0] rfl (Qk rfl rfl (Qd (Qa (Qq (Qu (Qp (QE (Qu (Qp (Qj rfl rfl ?_)))))))))))
   exact ⟨hE, _, rfl, fun h => absurd h (by decide)⟩
  intro hn2
  have hn2 : ((L.getD i []).length : Int) = n := by
   have := of_decide_eq_false hn2
   exact Classical.byContradiction fun h => this h
  refine Qe (Qg (Qa (Qb [0,1,2] rfl (mvV rfl rfl (Qw rfl rfl rfl (Qk rfl rfl (Qd (Qi (i + 1) ⟨rfl, rfl, rfl, trivial⟩ ⟨by omega, hE, hX, fun t ht => ?_⟩ (by omega)))))))))
  rcases Nat.lt_or_eq_of_le (Nat.le_of_lt_succ ht) with e | e
  ·exact hln t e
  ·rw [e]; exact hn2
 ·intro hc2
  simp at hc2
  obtain rfl : i = L.length := by omega
  refine Qt (Ql (Qm (Qh (Qa (Qc (Qc (Qb [0] rfl (Qk rfl rfl (Qd (Qa (Qf ?_)))))))))))
  have hX3 := hX
  refine Qv (fun i : Nat => [(2, .pointer (some ⟨fb, 0, none⟩)), (3, .pointer (some ⟨ab, 0, none⟩)), (7, .int .i64 i)]) (fun i w' => i ≤ L.length ∧ Ext w w' ∧ Ext w3 w' ∧ ∀ t : Nat, t < i → InR P (L.getD t [])) (fun i => L.length - i) 0 ⟨rfl, rfl, rfl, trivial⟩ ⟨by omega, hE, hX, fun t ht => by omega⟩ ?_
  clear hE hX hX3 hsi hA4 hc2 i1
  rintro i w4 ⟨i1, hE, hX, hin⟩
  have hsi := hs.ext hE
  have hA4 := hA.ext hX
  have hB4 := hB.ext hX
  try dsimp only
  refine Qc (Qc (Qb [0,1,2,3,4] rfl (mvV rfl rfl (Qz rfl rfl QR (Vw rfl (ldB rfl Zm hA4) (Vw rfl (Zt rfl QN hsi) (Qy rfl rfl rfl (Qd (Qa ?_)))))))))
  rw [hrl]
  refine Qo rfl ?_ ?_
  ·intro hc3
   simp at hc3
   obtain ⟨r, hr, hri⟩ := hrr i hc3
   refine Qe (Qa (Qc (Qf (Qc (Qx QK [0,1,2,3,4,5,6,7] (by kernel_rfl) ?_)))))
   intro w5 hd _
   replace hE := hE.trans hd
   replace hX := hX.trans hd
   replace hA4 := hA4.ext hd
   replace hB4 := hB4.ext hd
   replace hsi := hsi.ext hd
   refine Vw rfl (ldA rfl Zf hB4) (Qz rfl rfl QR (Vw rfl (ldB rfl Zm hA4) (mvV rfl rfl (Vw rfl (iad rfl rfl QN hsi (by omega) (by omega)) (Vw rfl (ldE rfl Zk hsi (by rw [Int.toNat_natCast]; exact hr)) (C rfl wu rfl rfl Tryz.call52 (rEntries2 P mo md r _ _ (hF.ext hE) (hri.ext hE)) ?_))))))
   rintro _ w6 hE6 ⟨e, rfl, he⟩
   replace hE := hE.trans hE6
   replace hX := hX.trans hE6
   refine Qk rfl rfl (Qd (Qa (Qc (Qb [0,1] rfl (mvV rfl rfl (QG rfl rfl rfl (Qd (Qa (Qo rfl ?_ ?_)))))))))
   ·intro hz
    refine Qc (Qb [0,1] rfl (mvV rfl rfl (Qk rfl rfl (Qd (Qa (Qq (Qu (Qp (QE (Qu (Qp (Qj rfl rfl ?_))))))))))))
    exact ⟨hE, e, rfl, fun h => absurd h (of_decide_eq_true hz)⟩
   intro hz
   have hz : e = 0 := Classical.byContradiction fun h => (of_decide_eq_false hz) h
   refine Qe (Qg (Qa (Qb [0,1,2] rfl (mvV rfl rfl (Qw rfl rfl rfl (Qk rfl rfl (Qd (Qi (i + 1) ⟨rfl, rfl, rfl, trivial⟩ ⟨by omega, hE, hX, fun t ht => ?_⟩ (by omega)))))))))
   rcases Nat.lt_or_eq_of_le (Nat.le_of_lt_succ ht) with e' | e'
   ·exact hin t e'
   ·rw [e']; exact he hz
  ·intro hc3
   simp at hc3
   refine Qt (Ql (Qm (Qh (Qa (Qc (Qb [0] rfl (Qk rfl rfl (Qd (Qa (Qq (Qj rfl rfl ?_)))))))))))
   refine ⟨hE, 0, rfl, fun _ => ⟨by omega, by omega, by omega, fun l hl => ?_, fun l hl => ?_⟩⟩
   ·obtain ⟨t, ht, rfl⟩ := List.getElem_of_mem hl
    have := hln t ht
    rw [List.getD_eq_getElem?_getD, List.getElem?_eq_getElem ht] at this
    exact this
   ·obtain ⟨t, ht, rfl⟩ := List.getElem_of_mem hl
    have := hin t (by omega)
    rw [List.getD_eq_getElem?_getD, List.getElem?_eq_getElem ht] at this
    exact this
set_option maxRecDepth 10000 in
theorem r10Check2 (P : FP) (mo : Value) (md : List Int) (v : Value) (n : Nat) (L : List (List Int)) (w : World) (hF : FV w P mo md) (hok : OkF P.p P.M md) (hgen : ∃ g : K P, HasOrder g (n1 P)) (hL : LL w v L) (hn : n ≤ 256) :
  Calls Tryz.prog 50 #[fv P mo, .agg #[.int .i64 n, v]] w (RetX w fun r _ => ∃ e : Int, r = .int .i64 e ∧ (e = 0 → MV P n L ∧ (Ml.canonM (opsP P) L n).1 = L)) := by
 refine QD Tryz.func50 rfl rfl (Qc (Qb [0,1,2] rfl (BXA rfl wu rfl rfl ?_)))
 intro fb w1 hE hB hg
 refine BXA rfl wu rfl rfl ?_
 intro ab w2 hE2 hA hga
 replace hE := hE.trans hE2
 replace hB := hB.ext hE2
 refine Qk rfl rfl (Qd (Qa (Qc (Qb [0,1,2,3] rfl (Vw rfl (ldA rfl Zf hB) (Vw rfl (ldA rfl ZP hA) (C rfl wu rfl rfl Tryz.call97 (r9Check2 P mo md v n L _ (hF.ext hE) hok (hL.ext hE) hn) ?_)))))))
 rintro _ w3 hE3 ⟨e, rfl, he⟩
 replace hE := hE.trans hE3
 replace hB := hB.ext hE3
 replace hA := hA.ext hE3
 refine Qk rfl rfl (Qd (Qa (Qc (Qc (Qb [0,1] rfl (mvV rfl rfl (QG rfl rfl rfl (Qd (Qa (Qo rfl ?_ ?_))))))))))
 ·intro hz
  refine Qc (Qb [0,1] rfl (mvV rfl rfl (Qk rfl rfl (Qd (Qa (Qq (Qp (Qj rfl rfl ?_))))))))
  exact ⟨hE, e, rfl, fun h => absurd h (of_decide_eq_true hz)⟩
 intro hz
 have hz : e = 0 := Classical.byContradiction fun h => (of_decide_eq_false hz) h
 have hMV := he hz
 have hRL : Ml.RL n L := fun l hl => by have := hMV.row l hl; omega
 have hLm := Qb9 (P := P) hRL hMV.el
 have hll := hMV.len
 have hLL : LL w v (matL P L.length n (kM P L)) := hLm ▸ hL
 refine Qe (Qa (Qc (Qb [0,1,2,3,4,5,6,7,8,9,10] rfl (Vw rfl (ldA rfl Zf hB) (Qz rfl rfl QR (Vw rfl (ldB rfl Zm hA) (Qz rfl rfl QV (Vw rfl (ldB rfl na3 hA) (C rfl wu rfl rfl Tryz.call64 (QcH P mo md v L.length n (kM P L) _ (hF.ext hE) hgen (hLL.ext hE) (by omega) (by omega)) ?_)))))))))
 rintro _ w4 hE4 ⟨lv, pvv, b, M, qv, rfl, hM, _, hRd⟩
 replace hE := hE.trans hE4
 replace hA := hA.ext hE4
 refine mvV rfl rfl (QI rfl rfl rfl (QI rfl rfl rfl (Qk rfl rfl (Qk rfl rfl (Qd (Qa (Qc (Qc (Qb [0,1,2,3,4] rfl (mvV rfl rfl (Qz rfl rfl QR (Vw rfl (ldB rfl Zm hA) ?_))))))))))))
 refine C rfl wu rfl rfl Tryz.call98 (Qde lv v _ _ _ hM.ll (hL.ext hE)) ?_
 rintro _ w5 hE5 ⟨c, rfl, hcc⟩
 replace hE := hE.trans hE5
 refine ZC rfl rfl (Qd (Qa (Qo rfl ?_ ?_)))
 ·intro hn2
  refine Qc (Qb [0] rfl (Qk rfl rfl (Qd (Qa (Qq (Qp (Qj rfl rfl ?_)))))))
  exact ⟨hE, _, rfl, fun h => absurd h (by decide)⟩
 intro hn2
 simp at hn2
 refine Qe (Qa (Qc (Qb [0] rfl (Qk rfl rfl (Qd (Qa (Qq (Qj rfl rfl ?_))))))))
 refine ⟨hE, 0, rfl, fun _ => ⟨hMV, ?_⟩⟩
 have heq := hcc hn2
 have hbl : b = L.length := by rw [← heq, QP]
 subst hbl
 have hRr : Rr L.length n (kM P L) qv := by
  have hk : ∀ i j, i < L.length → j < n → M i j = kM P L i j := fun i j hi hj => by
   rw [← kM_matL (P := P) (M := M) hi hj, heq]
  obtain ⟨_, hR, _⟩ := hRd
  exact ⟨hR.lt, hR.asc, fun i j hi hj => by rw [← hk i _ hi (hR.lt j hj)]; exact hR.piv i j hi hj, fun i x hi hx => by rw [← hk i x hi (by have := hR.lt i hi; omega)]; exact hR.lead i x hi hx⟩
 obtain ⟨a', M', pv', h1, h2⟩ := ZH hgen L.length n (kM P L)
 obtain ⟨ea, em⟩ := Red.same (fun e => JC e) hRr h2
 rw [← hLm] at h1
 rw [h1]
 dsimp only
 rw [em, ← hLm]
theorem okFV {p M : Int} {md : List Int} (ok : OkF p M md) {w : World} {mo : Value} (hi : Ints w mo md) : FV w (fpOf p M md ok.1.1 ok.1.2.1) mo md := by
 have hS := ok.1
 obtain ⟨eo, eo0, hp⟩ := Kv hS.1 hS.2.1 hS.2.2.1 hS.2.2.2.1
 refine ⟨hi, hp, by have := hS.2.2.1; show M.toNat ≤ 8; omega, hS.2.2.2.1, rfl, fun h1 => hS.2.2.2.2.2.1 (by have : M.toNat = 1 := h1; omega), fun h1 => ?_, ?_⟩
 ·have h1' : ¬ M.toNat = 1 := h1
  have := (hS.2.2.2.2.2.2 (by omega)).1
  show md.length = M.toNat
  omega
 ·show Lo p md
  by_cases h1 : M = 1
  ·rw [hS.2.2.2.2.2.1 h1]; intro z hz; cases hz
  ·exact (hS.2.2.2.2.2.2 h1).2
set_option maxRecDepth 10000 in
theorem r12Check2 (p M : Int) (mo v : Value) (md : List Int) (N : Int) (L : List (List Int)) (w : World) (hmd : Ints w mo md) (hL : LL w v L) :
  Calls Tryz.prog 16 #[.agg #[.int .i64 p, .int .i64 M, mo, .int .i64 N, v]] w (RetX w fun r _ => ∃ e : Int, r = .int .i64 e ∧ (e = 0 → ∃ n : Nat, N = n ∧ CdOk p M md n L)) := by
 have hm1 := hmd.one
 have hv1 := hL.one
 refine QL Tryz.func16 rfl rfl (Qc (Qb [0,1] rfl (BXA rfl wu rfl rfl ?_)))
 intro cb w1 hE hB hg
 refine Qk rfl rfl (Qd (Qa (Qc (Qb [0,1,2,3] rfl (Qz rfl rfl Zy (Vw rfl (ldA rfl Zf hB) (C rfl wu rfl rfl Tryz.call49 (QcG p M mo md _ (hmd.ext hE)) ?_)))))))
 intro cv w3 hE3 hck
 replace hE := hE.trans hE3
 replace hB := hB.ext hE3
 refine Qk rfl rfl (Qd (Qa (Qc (Qc ?_))))
 rcases hck with ⟨rfl, hok⟩ | ⟨rfl, hno⟩
 rotate_left
 ·skip
  refine Qb [0,1] rfl (mvV rfl rfl (QG rfl rfl rfl (Qd (Qa (QC rfl (rfl) (Qc (Qb [0,1] rfl (mvV rfl rfl (Qk rfl rfl (Qd (Qa (Qq (Qp ?_)))))))))))))
  refine Qj rfl rfl ?_
  exact ⟨hE, _, rfl, fun h => absurd h (by decide)⟩
 refine Qb [0,1] rfl (mvV rfl rfl (QG rfl rfl rfl (Qd (Qa (Qn rfl (rfl) (Qe (Qa (Qc (Qc ?_)))))))))
 by_cases h1 : N < 1
 ·skip
  refine Qb [0,1,2,3,4,5,6,7] rfl (Qz rfl rfl Zr (Vw rfl (ldB rfl na3 hB) (Qy rfl rfl rfl (mvV rfl rfl (KB 13 true rfl (by simpa using h1) (SK rfl rfl rfl rfl rfl (SK rfl rfl rfl rfl rfl (SK rfl rfl rfl rfl rfl (pkV rfl rfl rfl ?_)))))))))
  refine Qd (Qa (QC rfl (rfl) (Qc (Qb [0] rfl (Qk rfl rfl (Qd (Qa (Qq (Qp (Qj rfl rfl ?_))))))))))
  exact ⟨hE, _, rfl, fun h => absurd h (by decide)⟩
 by_cases h2 : 64 < N
 ·skip
  refine Qb [0,1,2,3,4,5,6,7] rfl (Qz rfl rfl Zr (Vw rfl (ldB rfl na3 hB) (Qy rfl rfl rfl (mvV rfl rfl (KB 13 false rfl (by simpa using h1) (Vg rfl rfl rfl (fad rfl Zr) (Vg rfl rfl rfl (ldB rfl na3 hB) (Vg rfl rfl rfl (Ju rfl rfl) (pkV rfl rfl rfl ?_)))))))))
  refine Qd (Qa (QC rfl (by simpa using h2) (Qc (Qb [0] rfl (Qk rfl rfl (Qd (Qa (Qq (Qp (Qj rfl rfl ?_))))))))))
  exact ⟨hE, _, rfl, fun h => absurd h (by decide)⟩
 obtain ⟨n, rfl⟩ : ∃ n : Nat, N = n := ⟨N.toNat, by omega⟩
 refine Qb [0,1,2,3,4,5,6,7] rfl (Qz rfl rfl Zr (Vw rfl (ldB rfl na3 hB) (Qy rfl rfl rfl (mvV rfl rfl (KB 13 false rfl (decide_eq_false h1) (Vg rfl rfl rfl (fad rfl Zr) (Vg rfl rfl rfl (ldB rfl na3 hB) (Vg rfl rfl rfl (Ju rfl rfl) (pkV rfl rfl rfl ?_)))))))))
 refine Qd (Qa (Qn rfl (decide_eq_false h2) (Qe (Qa (Qc ?_)))))
 have hLi := hL.ext hE
 have hFV := okFV hok (hmd.ext hE)
 have hgen := hok.gen
 have hPM : ((M.toNat : Nat) : Int) = M := by have := hok.1.2.1; omega
 have hcall := fun w' (hw : Ext w3 w') => r10Check2 (fpOf p M md hok.1.1 hok.1.2.1) mo md v n L w' (hFV.ext hw) (by show OkF p ((M.toNat : Nat) : Int) md; rw [hPM]; exact hok) hgen (hLi.ext hw) (by omega)
 rw [fv_of hok] at hcall
 refine Qb [0,1,2,3,4,5,6,7,8] rfl (Qz rfl rfl Zy (Vw rfl (ldA rfl Zf hB) (Qz rfl rfl Zr (Vw rfl (ldB rfl na3 hB) (Qz rfl rfl ZE (Vw rfl (ldB rfl Zm hB) (Vw rfl (bld (us := [.int .i64 n, v]) (r := [.int .i64 n, v]) rfl (QdE _ _ (QB hLi.one))) (C rfl wu rfl rfl Tryz.call50 (hcall _ (Ext.refl _)) ?_))))))))
 rintro _ w4 hE4 ⟨e, rfl, he⟩
 replace hE := hE.trans hE4
 refine Qk rfl rfl (Qd (Qa (Qq (Qj rfl rfl ?_))))
 exact ⟨hE, e, rfl, fun hz => ⟨n, rfl, ⟨hok, (he hz).1, (he hz).2, by omega, by omega⟩⟩⟩
end Go.Proofs.YtcfbigmjjpknfaaGreatDoor
namespace Go.Proofs.YtcfbigmjjpknfaaGreatDoor
open Go Go.Sx Go.Pl Go.RowKit Go.Fd Go.Alg
set_option maxRecDepth 10000 in
theorem ftFewB (B K : Nat) (hB64 : B ≤ 64) (hK : K ≤ 100000) (p M : Int) (mo v : Value) (md : List Int) (N : Int) (L : List (List Int)) (w : World) (hmd : Ints w mo md) (hL : LL w v L) :
  Calls Tryz.prog 5 #[.agg #[.int .i64 p, .int .i64 M, mo, .int .i64 N, v], .int .i64 B, .int .i64 K] w (RetX w fun r _ => ∃ b, r = .bool b ∧ (b = true → ∃ n : Nat, N = n ∧ CdOk p M md n L ∧ n ≤ B)) := by
 have hm1 := hmd.one
 have hv1 := hL.one
 obtain ⟨rows, hs, hrl, hrr⟩ := hL.row
 have hle := hs.le
 refine QS Tryz.func5 rfl rfl (Qc (Qb [0,1] rfl (BXA rfl wu rfl rfl ?_)))
 intro cb w1 hE hB hg
 refine Qk rfl rfl (Qd (Qa (Qc (Qc (Qb [0,1,2,3,4,5,6,7,8] rfl (Vw rfl (ldA rfl Jx hB) (C rfl wu rfl rfl Tryz.call16 (r12Check2 p M mo v md N L _ (hmd.ext hE) (hL.ext hE)) ?_)))))))
 rintro _ w2 hE2 ⟨e, rfl, he⟩
 replace hB := hB.ext hE2
 replace hE := hE.trans hE2
 refine QG rfl rfl rfl (mvV rfl rfl ?_)
 refine OR (π1 := [4,5,6,7,8]) (π2 := []) (tc := 13) (tp := 18) rfl rfl rfl (by
   intro _
   refine SK rfl rfl rfl rfl rfl (SK rfl rfl rfl rfl rfl (SK rfl rfl rfl rfl rfl (SK rfl rfl rfl rfl rfl (pkV rfl rfl rfl ?_))))
   exact Zx rfl) (by
   intro hg
   simp at hg
   refine Vg rfl rfl rfl (fad rfl Zr) (Vg rfl rfl rfl (ldB rfl na3 hB) (Vg rfl rfl rfl (mv rfl) (Vg rfl rfl rfl (Ju rfl rfl) (pkV rfl rfl rfl ?_))))
   exact Zx rfl) ?_
 refine Qd (Qa (Qo rfl ?_ ?_))
 ·intro hc
  refine Qc (Qb [0] rfl (Qk rfl rfl (Qd (Qa (Qq (Qp (Qj rfl rfl ?_)))))))
  exact ⟨hE, false, rfl, fun h => by cases h⟩
 intro hc
 simp at hc
 obtain ⟨n, rfl, hcd⟩ := he hc.1
 have hn7 : n ≤ B := by omega
 have hgood : ∃ m : Nat, (n : Int) = m ∧ CdOk p M md m L ∧ m ≤ B := ⟨n, rfl, hcd, hn7⟩
 have hq : 0 ≤ ordZ p M ∧ ordZ p M ≤ 256 := by
  rw [ordZ]
  split
  ·omega
  ·rename_i h
   have : (0 : Int) < p ^ M.toNat := Int.pow_pos (by omega)
   omega
 refine Qe (Qa (Qc (Qb [0,1,2,3,4,5] rfl (Qz rfl rfl Zy (Vw rfl (ldA rfl Zf hB) (C rfl wu rfl rfl Tryz.call17 (QcE p M mo _) ?_))))))
 rintro _ w3 hE3 rfl
 replace hB := hB.ext hE3
 replace hE := hE.trans hE3
 refine Qk rfl rfl (Qk rfl rfl (Qk rfl rfl (Qd (Qa (Qc (Qc ?_))))))
 generalize ordZ p M = q at *
 refine Qb [0,1,2,3] rfl (Qz rfl rfl ZE (Vw rfl (ldB rfl Zm hB) (Vw rfl (Zt rfl QN (hs.ext hE)) (mvV rfl rfl (Qd (Qa (Qf ?_)))))))
 refine Qv (fun s : Nat × Int => [(3, .pointer (some ⟨cb, 0, none⟩)), (2, .int .i64 K), (7, .int .i64 q), (8, .int .i64 s.2), (9, .int .i64 1), (24, .int .i64 rows.length), (25, .int .i64 s.1)]) (fun s w' => s.1 ≤ rows.length ∧ Ext w w' ∧ Ext w3 w' ∧ 0 ≤ s.2 ∧ s.2 ≤ K + 1) (fun s => rows.length - s.1) (0, 1) ⟨rfl, rfl, rfl, rfl, rfl, rfl, rfl, trivial⟩ ⟨by omega, hE, Ext.refl _, by decide, by dsimp only; omega⟩ ?_
 clear hE
 rintro ⟨i, x⟩ w4 ⟨i1, hE, hX, hx0, hx1⟩
 dsimp only at i1 hE hX hx0 hx1
 have hxq : 0 ≤ x * q ∧ x * q ≤ (K + 1) * 256 := ⟨Int.mul_nonneg hx0 hq.1, by
  have := Int.mul_le_mul hx1 hq.2 hq.1 (by omega)
  omega⟩
 try dsimp only
 refine Qc (Qb [0] rfl (Qy rfl rfl rfl (Qd (Qa (Qc (Qo rfl ?_ ?_))))))
 ·intro h1
  simp at h1
  refine Qe (Qa (Qc (Qf (Qc (Qb [0,1,2,3] rfl (mvV rfl rfl (mvV rfl rfl (Vw rfl (Kx rfl rfl) (Qk rfl rfl (Qd (Qa (Qc (Qb [0,1,2] rfl (mvV rfl rfl (mvV rfl rfl ?_)))))))))))))))
  refine ZA rfl rfl rfl (Qd (Qa (Qo rfl ?_ ?_)))
  ·intro h2
   refine Qc (Qb [0] rfl (Qk rfl rfl (Qd (Qa (Qq (Qu (Qp (QE (Qu (Qp (Qj rfl rfl ?_)))))))))))
   exact ⟨hE, false, rfl, fun h => by cases h⟩
  ·intro h2
   simp at h2
   refine Qe (Qg (Qa (Qb [0,1] rfl (Qw rfl rfl rfl (mvV rfl rfl (Qd ?_))))))
   exact Qi (i + 1, x * q) ⟨rfl, rfl, rfl, rfl, rfl, rfl, rfl, trivial⟩ ⟨by dsimp only; omega, hE, hX, hxq.1, by dsimp only; omega⟩ (by dsimp only; omega)
 ·intro h1
  refine Qt (Ql (Qm (Qh (Qa (Qc (Qc (Qb [0,1,2,3,4,5,6] rfl (Qz rfl rfl Zr (Vw rfl (ldB rfl na3 (hB.ext hX)) (Qz rfl rfl ZE (Vw rfl (ldB rfl Zm (hB.ext hX)) (Vw rfl (Zt rfl QN (hs.ext hE)) (Zd rfl rfl rfl (mvV rfl rfl (Qd (Qa (Qf ?_)))))))))))))))))
  have hX3 := hX
  refine Qv (fun s : Nat × Int => [(2, .int .i64 K), (7, .int .i64 q), (9, .int .i64 s.2), (39, .int .i64 ((n : Int) - rows.length)), (40, .int .i64 s.1)]) (fun s w' => (s.1 : Int) ≤ n ∧ Ext w w' ∧ 0 ≤ s.2 ∧ s.2 ≤ K + 1) (fun s => n - s.1) (0, 1) ⟨rfl, rfl, rfl, rfl, rfl, trivial⟩ ⟨by dsimp only; omega, hE, by decide, by dsimp only; omega⟩ ?_
  clear hE hX hX3 i1 hx0 hx1 hxq h1
  clear i x
  rintro ⟨i, x⟩ w5 ⟨i1, hE, hx0, hx1⟩
  dsimp only at i1 hE hx0 hx1
  have hxq : 0 ≤ x * q ∧ x * q ≤ (K + 1) * 256 := ⟨Int.mul_nonneg hx0 hq.1, by
   have := Int.mul_le_mul hx1 hq.2 hq.1 (by omega)
   omega⟩
  try dsimp only
  refine Qc (Qb [0] rfl (Qy rfl rfl rfl (Qd (Qa (Qc (Qo rfl ?_ ?_))))))
  ·intro h1
   simp at h1
   refine Qe (Qa (Qc (Qf (Qc (Qb [0,1,2,3] rfl (mvV rfl rfl (mvV rfl rfl (Vw rfl (Kx rfl rfl) (Qk rfl rfl (Qd (Qa (Qc (Qb [0,1,2] rfl (mvV rfl rfl (mvV rfl rfl ?_)))))))))))))))
   refine ZA rfl rfl rfl (Qd (Qa (Qo rfl ?_ ?_)))
   ·intro h2
    refine Qc (Qb [0] rfl (Qk rfl rfl (Qd (Qa (Qq (Qu (Qp (QE (Qu (Qp (Qj rfl rfl ?_)))))))))))
    exact ⟨hE, false, rfl, fun h => by cases h⟩
   ·intro h2
    simp at h2
    refine Qe (Qg (Qa (Qb [0,1] rfl (Qw rfl rfl rfl (mvV rfl rfl (Qd ?_))))))
    exact Qi (i + 1, x * q) ⟨rfl, rfl, rfl, rfl, rfl, trivial⟩ ⟨by dsimp only; omega, hE, hxq.1, by dsimp only; omega⟩ (by dsimp only; omega)
  ·intro h1
   refine Qt (Ql (Qm (Qh (Qa (Qc (Qb [0] rfl (Qk rfl rfl (Qd (Qa (Qq (Qj rfl rfl ?_)))))))))))
   exact ⟨hE, true, rfl, fun _ => hgood⟩
end Go.Proofs.YtcfbigmjjpknfaaGreatDoor
namespace Go.Proofs.YtcfbigmjjpknfaaGreatDoor
open Go Go.Sx Go.Pl Go.RowKit Go.Fd Go.Alg
set_option maxRecDepth 10000 in
theorem QbW (F : FuncId) (cs : List Value) (pred : Int → Bool) (hcall : ∀ args w, (callFunc F args).run Tryz.prog w = .ok (.enter F args) w) (v : Value) (zs : List Int) (w : World) (hu : Ints w v zs) (hF : ∀ x, x ∈ zs → ∀ w', Ext w w' → Calls Tryz.prog F (.int .i64 x :: cs).toArray w' (RetX w' fun r _ => r = .bool (pred x))) :
  Calls Tryz.prog 58 #[v, .func (.func F) #[] cs.toArray] w (RetX w fun r _ => r = .int .i64 (ixI (zs.findIdx? pred))) := by
 have hle := hu.le
 refine QD Tryz.func58 rfl rfl (Qc (Qb [0] rfl (Qk rfl rfl (Qd (Qa (Qc (Qc (Qb [0,1,2] rfl (mvV rfl rfl (Vw rfl (Zh rfl QA hu) (mvV rfl rfl (Qd (Qa (Qf ?_))))))))))))))
 refine Qv (fun i : Nat => [(0, v), (1, .func (.func F) #[] cs.toArray), (7, .int .i64 zs.length), (8, .int .i64 i)]) (fun i w' => i ≤ zs.length ∧ Ext w w' ∧ ∀ j : Nat, j < i → pred (gi zs j) = false) (fun i => zs.length - i) 0 ⟨rfl, rfl, rfl, rfl, trivial⟩ ⟨by omega, Ext.refl _, fun j hj => by omega⟩ ?_
 rintro i w2 ⟨i1, hE, hno⟩
 have hui := hu.ext hE
 try dsimp only
 refine Qc (Qb [0] rfl (Qy rfl rfl rfl (Qd (Qa (Qc (Qo rfl ?_ ?_))))))
 ·intro hc
  simp at hc
  have hgi : gi zs i = zs[i]'(by omega) := by simp [gi, List.getD_eq_getElem?_getD, show i < zs.length by omega]
  refine Qe (Qa (Qc (Qf (Qc (Qb [0,1] rfl (mvV rfl rfl (Qk rfl rfl (Qd (Qa (Qc (Qb [0,1,2,3,4,5] rfl (mvV rfl rfl (mvV rfl rfl (mvV rfl rfl (Vw rfl (QO rfl rfl QA hui (by omega) (by omega)) ?_)))))))))))))))
  refine Vw rfl (ldI rfl na3 hui (Ext.refl _) (by omega) (by omega)) (CVX (fs := []) (cs := cs) (vs := [.int .i64 (gi zs i)]) rfl wu rfl rfl rfl hcall (hF (gi zs i) (by rw [hgi]; exact List.getElem_mem _) _ hE) ?_)
  rintro _ w3 hE3 rfl
  refine Qd (Qa (Qo rfl ?_ ?_))
  ·intro he
   refine Qc (Qb [0,1] rfl (mvV rfl rfl (Qk rfl rfl (Qd (Qa (Qq (Qu (Qp (QE (Qu (Qp (Qj rfl rfl ?_))))))))))))
   refine ⟨hE.trans hE3, ?_⟩
   have : zs.findIdx? pred = some i := List.findIdx?_eq_some_iff_getElem.2 ⟨by omega, by rw [← hgi]; exact he, fun j hj => by
    have := hno j hj
    have e : gi zs j = zs[j]'(by omega) := by simp [gi, List.getD_eq_getElem?_getD, show j < zs.length by omega]
    rw [e] at this
    simp [this]⟩
   rw [this]
   rfl
  ·intro he
   refine Qe (Qg (Qa (Qb [0,1] rfl (Qw rfl rfl rfl (mvV rfl rfl (Qd (Qi (i + 1) ⟨rfl, rfl, rfl, rfl, trivial⟩ ⟨by omega, hE.trans hE3, fun j hj => ?_⟩ (by omega))))))))
   by_cases e : j = i
   ·subst e; exact he
   ·exact hno j (by omega)
 ·intro hc
  simp at hc
  refine Qt (Ql (Qm (Qh (Qa (Qc (Qb [0] rfl (Qk rfl rfl (Qd (Qa (Qq (Qj rfl rfl ?_)))))))))))
  refine ⟨hE, ?_⟩
  have : zs.findIdx? pred = none := List.findIdx?_eq_none_iff.2 fun x hx => by
   obtain ⟨j, hj, e⟩ := List.getElem_of_mem hx
   have h := hno j (by omega)
   have e2 : gi zs j = zs[j]'hj := by simp [gi, List.getD_eq_getElem?_getD, hj]
   rw [e2, e] at h
   exact h
  rw [this]
  rfl
theorem ZI (F : FuncId) (cs : List Value) (pred : Int → Bool) (hcall : ∀ args w, (callFunc F args).run Tryz.prog w = .ok (.enter F args) w) (v : Value) (zs : List Int) (w : World) (hu : Ints w v zs) (hF : ∀ x, x ∈ zs → ∀ w', Ext w w' → Calls Tryz.prog F (.int .i64 x :: cs).toArray w' (RetX w' fun r _ => r = .bool (pred x))) :
  Calls Tryz.prog 23 #[v, .func (.func F) #[] cs.toArray] w (RetX w fun r _ => r = .bool (zs.any pred)) := by
 refine QD Tryz.func23 rfl rfl (Qc (Qb [0] rfl (Qk rfl rfl (Qd (Qa (Qc (Qb [0,1,2,3,4] rfl (mvV rfl rfl (mvV rfl rfl (C rfl wu rfl rfl Tryz.call58 (QbW F cs pred hcall v zs _ hu hF) ?_))))))))))
 rintro _ w2 hE2 rfl
 refine Vw rfl (Xb rfl rfl) (Qk rfl rfl (Qd (Qa (Qq (Qj rfl rfl ?_)))))
 refine ⟨hE2, ?_⟩
 have e : decide (0 ≤ ixI (zs.findIdx? pred)) = zs.any pred := by
  cases h : zs.findIdx? pred with
  | none =>
   have h1 := List.findIdx?_eq_none_iff.1 h
   have h2 : zs.any pred = false := by
    rw [List.any_eq_false]
    intro x hx
    rw [h1 x hx]
    simp
   rw [h2]
   rfl
  | some k =>
   obtain ⟨h1, h2, _⟩ := List.findIdx?_eq_some_iff_getElem.1 h
   have h3 : zs.any pred = true := List.any_eq_true.2 ⟨_, List.getElem_mem h1, h2⟩
   rw [h3]
   exact decide_eq_true (Int.natCast_nonneg k)
 rw [← e]
end Go.Proofs.YtcfbigmjjpknfaaGreatDoor
namespace Go.Fd
open Go.Pl Go.Alg Go.Proofs.YtcfbigmjjpknfaaGreatDoor
variable {P : FP}
theorem Qas (hgen : ∃ g : K P, HasOrder g (n1 P)) {L : List (List Int)} {n : Nat} (hr : Ml.RL n L) (h0 : ∀ l ∈ L, ∀ x ∈ l, x = 0) : (Ml.canonM (opsP P) L n).1 = [] := by
 have hq := P.q_two
 have hLm := Qb9 (P := P) hr (fun l hl x hx => by rw [h0 l hl x hx]; omega)
 have hz : ∀ i j, i < L.length → j < n → kM P L i j = 0 := fun i j hi hj => by
  have hm : L[i] ∈ L := List.getElem_mem _
  have e : Ml.rw L i = L[i] := by simp [Ml.rw, List.getD_eq_getElem?_getD, hi]
  have hj' : j < L[i].length := by rw [hr _ hm]; exact hj
  rw [kM, e, Jw hj', h0 _ hm _ (List.getElem_mem _), inK0]
 obtain ⟨a, M, pv, h1, _, hR, hS⟩ := ZH hgen L.length n (kM P L)
 rw [← hLm] at h1
 rw [h1]
 by_cases ha : a = 0
 ·subst ha; rfl
 ·exfalso
  obtain ⟨x, hx⟩ := (hS _).1 (Sp.row (M := M) (i := 0) (by omega))
  have hp := hR.lt 0 (by omega)
  have h2 := hx _ hp
  rw [hR.piv 0 0 (by omega) (by omega), if_pos rfl, Jg fun i hi => by rw [hz i _ hi hp, mul_zero]] at h2
  exact JC h2
end Go.Fd
