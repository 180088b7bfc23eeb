import Derived.Test.YteheedbhcfllfaaGreatDoorW35
import Derived.Test.YteheedbhcfllfaaGreatDoorW26
import Derived.Test.YteheedbhcfllfaaGreatDoorW36
import Derived.Test.YteheedbhcfllfaaGreatDoorW32
namespace Go.Proofs.YteheedbhcfllfaaGreatDoor
open Go Go.Sx Go.Pl Go.RowKit Go.Fd Go.Alg
set_option maxRecDepth 10000 in
theorem Qdz (u v : Value) (a b : List Int) (w : World) (hu : Ints w u a) (hv : Ints w v b) :
  Calls Tryz.prog 114 #[u, v] w (RetX w fun r _ => ∃ c, r = .bool c ∧ (c = true → a = b)) := by
 have hle := hu.le
 have hle2 := hv.le
 refine QC Tryz.func114 rfl rfl (Qc (Qb [0] rfl (Qi rfl rfl (Qd (Qa (Qc (Qc (Qb [0,1,2,3,4] rfl (mvV rfl rfl (Vw rfl (Zk rfl Qy) ?_))))))))))
 refine mvV rfl rfl (Vw rfl (Zk rfl Qy) ?_)
 refine QH rfl rfl rfl (Qd (Qa (Qq rfl ?_ ?_)))
 ·intro hc
  refine Qc (Qb [0] rfl (Qi rfl rfl (Qd (Qa (Qs (Qn (Qk rfl rfl ?_)))))))
  exact ⟨Ext.refl _, false, rfl, fun h => by cases h⟩
 ·intro hc
  simp at hc
  refine Qe (Qa (Qc (Qc (Qb [0] rfl (Qi rfl rfl (Qd (Qa (Qf ?_))))))))
  refine Qu (fun i : Nat => [(0, u), (1, v), (5, .int .i64 i)]) (fun i w' => i ≤ a.length ∧ Ext w w' ∧ ∀ t : Nat, t < i → gi a t = gi b t) (fun i => a.length - i) 0 ⟨rfl, rfl, rfl, trivial⟩ ⟨by omega, Ext.refl _, fun t ht => by omega⟩ ?_
  rintro i w1 ⟨i1, hE, hab⟩
  have hui := hu.ext hE
  have hvi := hv.ext hE
  try dsimp only
  refine Qc (Qc (Qb [0,1,2,3] rfl (mvV rfl rfl (mvV rfl rfl (Vw rfl (Zk rfl Qy hui) (Qz rfl rfl rfl (Qd (Qa (Qq rfl ?_ ?_)))))))))
  ·intro hc2
   simp at hc2
   refine Qe (Qa (Qc (Qf (Qc (QA QM [0,1,2,3,4,5,6,7,8] (by kernel_rfl) ?_)))))
   intro w2 hd _
   replace hE := hE.trans hd
   replace hui := hui.ext hd
   replace hvi := hvi.ext hd
   refine mvV rfl rfl (mvV rfl rfl (Vw rfl (QP rfl rfl Qy hui (by omega) (by omega)) (Vw rfl (ldI rfl na3 hui) (mvV rfl rfl (mvV rfl rfl (Vw rfl (QP rfl rfl Qy hvi (by omega) (by omega)) (Vw rfl (ldI rfl na3 hvi) (QH rfl rfl rfl (Qd (Qa ?_))))))))))
   refine Qq rfl ?_ ?_
   ·intro hn
    refine Qc (Qb [0] rfl (Qi rfl rfl (Qd (Qa (Qs (Qv (Qn (QF (Qv (Qn (Qk rfl rfl ?_)))))))))))
    exact ⟨hE, false, rfl, fun h => by cases h⟩
   ·intro hn
    simp at hn
    refine Qe (Qg (Qa (Qb [0,1,2] rfl (mvV rfl rfl (Qw rfl rfl rfl (Qi rfl rfl (Qd ?_)))))))
    exact Qj (i + 1) ⟨rfl, rfl, rfl, trivial⟩ ⟨by omega, hE, fun t ht => by
     rcases Nat.lt_or_eq_of_le (Nat.le_of_lt_succ ht) with e | e
     ·exact hab t e
     ·rw [e]; exact hn⟩ (by omega)
  ·intro hc2
   simp at hc2
   refine Qt (Ql (Qm (Qh (Qa (Qc (Qb [0] rfl (Qi rfl rfl (Qd (Qa (Qs (Qk rfl rfl ?_)))))))))))
   refine ⟨hE, true, rfl, fun _ => ?_⟩
   have hlen : a.length = b.length := by omega
   refine List.ext_getElem hlen fun t h1 h2 => ?_
   have := hab t (by omega)
   rw [XJ h1, XJ h2] at this
   exact this
set_option maxRecDepth 10000 in
theorem Qdy (u v : Value) (L M : List (List Int)) (w : World) (hu : LL w u L) (hv : LL w v M) :
  Calls Tryz.prog 68 #[u, v] w (RetX w fun r _ => ∃ c, r = .bool c ∧ (c = true → L = M)) := by
 obtain ⟨rows, hs, hrl, hrr⟩ := hu.row
 obtain ⟨Zc, hs2, hrl2, hrr2⟩ := hv.row
 have hle := hs.le
 refine QC Tryz.func68 rfl rfl (Qc (Qb [0] rfl (Qi rfl rfl (Qd (Qa (Qc (Qc (Qb [0,1,2,3,4] rfl (mvV rfl rfl (Vw rfl (ZD rfl QS hs) (mvV rfl rfl (Vw rfl (ZD rfl QS hs2) ?_))))))))))))
 refine QH rfl rfl rfl (Qd (Qa ?_))
 rw [hrl, hrl2]
 refine Qq rfl ?_ ?_
 ·intro hc
  refine Qc (Qb [0] rfl (Qi rfl rfl (Qd (Qa (Qs (Qn (Qk rfl rfl ?_)))))))
  exact ⟨Ext.refl _, false, rfl, fun h => by cases h⟩
 ·intro hc
  simp at hc
  refine Qe (Qa (Qc (Qc (Qb [0] rfl (Qi rfl rfl (Qd (Qa (Qf ?_))))))))
  refine Qu (fun i : Nat => [(0, u), (1, v), (5, .int .i64 i)]) (fun i w' => i ≤ L.length ∧ Ext w w' ∧ ∀ t : Nat, t < i → L.getD t [] = M.getD t []) (fun i => L.length - i) 0 ⟨rfl, rfl, rfl, trivial⟩ ⟨by omega, Ext.refl _, fun t ht => by omega⟩ ?_
  rintro i w1 ⟨i1, hE, hab⟩
  have hsi := hs.ext hE
  have hsi2 := hs2.ext hE
  try dsimp only
  refine Qc (Qc (Qb [0,1,2,3] rfl (mvV rfl rfl (mvV rfl rfl (Vw rfl (ZD rfl QS hsi) (Qz rfl rfl rfl (Qd (Qa ?_))))))))
  rw [hrl]
  refine Qq rfl ?_ ?_
  ·intro hc2
   simp at hc2
   obtain ⟨r, hr, hri⟩ := hrr i hc2
   obtain ⟨r2, hr2, hri2⟩ := hrr2 i (by omega)
   refine Qe (Qa (Qc (Qf (Qc (QA QM [0,1,2,3,4,5,6,7,8,9] (by kernel_rfl) ?_)))))
   intro w2 hd _
   replace hE := hE.trans hd
   replace hsi := hsi.ext hd
   replace hsi2 := hsi2.ext hd
   refine mvV rfl rfl (mvV rfl rfl (Vw rfl (iad rfl rfl QS hsi (by omega) (by omega)) (Vw rfl (ldE rfl Zl hsi (by rw [Int.toNat_natCast]; exact hr)) (mvV rfl rfl (mvV rfl rfl (Vw rfl (iad rfl rfl QS hsi2 (by omega) (by omega)) (Vw rfl (ldE rfl Zl hsi2 (by rw [Int.toNat_natCast]; exact hr2)) (C rfl wu rfl rfl Tryz.call114 (Qdz r r2 _ _ _ (hri.ext hE) (hri2.ext hE)) ?_))))))))
   rintro _ w3 hE3 ⟨c, rfl, hcc⟩
   replace hE := hE.trans hE3
   refine ZW rfl rfl (Qd (Qa (Qq rfl ?_ ?_)))
   ·intro hn
    refine Qc (Qb [0] rfl (Qi rfl rfl (Qd (Qa (Qs (Qv (Qn (QF (Qv (Qn (Qk rfl rfl ?_)))))))))))
    exact ⟨hE, false, rfl, fun h => by cases h⟩
   ·intro hn
    simp at hn
    refine Qe (Qg (Qa (Qb [0,1,2] rfl (mvV rfl rfl (Qw rfl rfl rfl (Qi rfl rfl (Qd ?_)))))))
    exact Qj (i + 1) ⟨rfl, rfl, rfl, trivial⟩ ⟨by omega, hE, fun t ht => by
     rcases Nat.lt_or_eq_of_le (Nat.le_of_lt_succ ht) with e | e
     ·exact hab t e
     ·rw [e]; exact hcc hn⟩ (by omega)
  ·intro hc2
   simp at hc2
   refine Qt (Ql (Qm (Qh (Qa (Qc (Qb [0] rfl (Qi rfl rfl (Qd (Qa (Qs (Qk rfl rfl ?_)))))))))))
   refine ⟨hE, true, rfl, fun _ => ?_⟩
   have hlen : L.length = M.length := by omega
   refine List.ext_getElem hlen fun t h1 h2 => ?_
   have := hab t (by omega)
   rw [List.getD_eq_getElem?_getD, List.getD_eq_getElem?_getD, List.getElem?_eq_getElem h1, List.getElem?_eq_getElem h2] at this
   exact this
set_option maxRecDepth 10000 in
theorem rEntries2 (P : FP) (mo : Value) (md : List Int) (u : Value) (l : List Int) (w : World) (hF : FV w P mo md) (hu : Ints w u l) :
  Calls Tryz.prog 112 #[fv P mo, u] w (RetX w fun r _ => ∃ e : Int, r = .int .i64 e ∧ (e = 0 → InR P l)) := by
 have hle := hu.le
 refine QC Tryz.func112 rfl rfl (Qc (Qb [0,1] rfl (BXA rfl wu rfl rfl ?_)))
 intro fb w1 hE hB hg
 refine Qi rfl rfl (Qd (Qa (Qc (Qc (Qb [0] rfl (Qi rfl rfl (Qd (Qa (Qf ?_)))))))))
 have hX := Ext.refl w1
 refine Qu (fun i : Nat => [(2, .pointer (some ⟨fb, 0, none⟩)), (1, u), (5, .int .i64 i)]) (fun i w' => i ≤ l.length ∧ Ext w w' ∧ Ext w1 w' ∧ ∀ t : Nat, t < i → 0 ≤ gi l t ∧ gi l t < P.q) (fun i => l.length - i) 0 ⟨rfl, rfl, rfl, trivial⟩ ⟨by omega, hE, hX, fun t ht => by omega⟩ ?_
 clear hE hX
 rintro i w2 ⟨i1, hE, hX, hin⟩
 have hui := hu.ext hE
 have hB2 := hB.ext hX
 try dsimp only
 refine Qc (Qc (Qb [0,1,2,3] rfl (mvV rfl rfl (mvV rfl rfl (Vw rfl (Zk rfl Qy hui) (Qz rfl rfl rfl (Qd (Qa (Qq rfl ?_ ?_)))))))))
 ·intro hc
  simp at hc
  refine Qe (Qa (Qc (Qf (Qc (QA QM [0,1,2,3,4,5,6] (by kernel_rfl) ?_)))))
  intro w3 hd _
  replace hE := hE.trans hd
  replace hX := hX.trans hd
  replace hB2 := hB2.ext hd
  replace hui := hui.ext hd
  refine Vw rfl (ldA rfl Zr hB2) (mvV rfl rfl (mvV rfl rfl (Vw rfl (QP rfl rfl Qy hui (by omega) (by omega)) (Vw rfl (ldI rfl na3 hui) (C rfl wu rfl rfl Tryz.call227 (rIs P mo md (gi l i) _ (hF.ext hE)) ?_)))))
  rintro _ w4 hE4 rfl
  replace hE := hE.trans hE4
  replace hX := hX.trans hE4
  refine ZW rfl rfl (Qd (Qa (Qq rfl ?_ ?_)))
  ·intro hn
   refine Qc (Qb [0] rfl (Qi rfl rfl (Qd (Qa (Qs (Qv (Qn (QF (Qv (Qn (Qk rfl rfl ?_)))))))))))
   exact ⟨hE, _, rfl, fun h => absurd h (by decide)⟩
  ·intro hn
   refine Qe (Qg (Qa (Qb [0,1,2] rfl (mvV rfl rfl (Qw rfl rfl rfl (Qi rfl rfl (Qd (Qj (i + 1) ⟨rfl, rfl, rfl, trivial⟩ ⟨by omega, hE, hX, fun t ht => ?_⟩ (by omega)))))))))
   rcases Nat.lt_or_eq_of_le (Nat.le_of_lt_succ ht) with e | e
   ·exact hin t e
   ·rw [e]
    simpa using hn
 ·intro hc
  simp at hc
  refine Qt (Ql (Qm (Qh (Qa (Qc (Qb [0] rfl (Qi rfl rfl (Qd (Qa (Qs (Qk rfl rfl ?_)))))))))))
  refine ⟨hE, 0, rfl, fun _ x hx => ?_⟩
  obtain ⟨t, ht, rfl⟩ := List.getElem_of_mem hx
  have := hin t (by omega)
  rw [XJ ht] at this
  exact this
set_option maxRecDepth 10000 in
theorem r9Check2 (P : FP) (mo : Value) (md : List Int) (v : Value) (n : Nat) (L : List (List Int)) (w : World) (hF : FV w P mo md) (hok : OkF P.p P.M md) (hL : LL w v L) (hn : n ≤ 256) :
  Calls Tryz.prog 66 #[fv P mo, .agg #[.int .i64 n, v]] w (RetX w fun r _ => ∃ e : Int, r = .int .i64 e ∧ (e = 0 → MV P n L)) := by
 obtain ⟨rows, hs, hrl, hrr⟩ := hL.row
 have hle := hs.le
 refine QC Tryz.func66 rfl rfl (Qc (Qb [0,1,2] rfl (BXA rfl wu rfl rfl ?_)))
 intro fb w1 hE hB hg
 refine BXA rfl wu rfl rfl ?_
 intro ab w2 hE2 hA ha
 replace hE := hE.trans hE2
 replace hB := hB.ext hE2
 refine Qi rfl rfl (Qd (Qa (Qc (Qb [0,1,2] rfl (Vw rfl (ldA rfl Zr hB) (C rfl wu rfl rfl Tryz.call31 (rCheck P.p P.M mo md _ (hF.ints.ext hE)) ?_))))))
 intro cv w3 hE3 hck
 obtain ⟨rfl, _⟩ := hck.resolve_right (fun h => h.2 hok)
 replace hE := hE.trans hE3
 replace hB := hB.ext hE3
 replace hA := hA.ext hE3
 refine Qi rfl rfl (Qd (Qa (Qc (Qc (Qb [0,1] rfl (mvV rfl rfl (QH rfl rfl rfl (Qd (Qa (Qo rfl (by simp) (Qe (Qa (Qc (Qc ?_))))))))))))))
 have hs3 := hs.ext hE
 refine Qb [0,1,2,3,4,5,6,7,8,9,10,11,12,13] rfl (Qx rfl rfl Zn (Vw rfl (ldB rfl na3 hA) (Qz rfl rfl rfl (mvV rfl rfl (KB 16 false rfl (by first | (simp; done) | (simp; omega)) (Vg rfl rfl rfl (fad rfl Zn) (Vg rfl rfl rfl (ldB rfl na3 hA) (Vg rfl rfl rfl (Xd rfl rfl) (pkV rfl rfl rfl ?_)))))))))
 refine mvV rfl rfl (KB 21 false rfl (by first | (simp; done) | (simp; omega)) (Vg rfl rfl rfl (fad rfl Zg) (Vg rfl rfl rfl (ldB rfl ZC hA) (Vg rfl rfl rfl (ZD rfl QS hs3) (Vg rfl rfl rfl (Xd rfl rfl) (pkV rfl rfl rfl (Qd (Qa ?_))))))))
 rw [hrl]
 refine Qq rfl ?_ ?_
 ·intro hc
  refine Qc (Qb [0] rfl (Qi rfl rfl (Qd (Qa (Qs (Qn (Qk rfl rfl ?_)))))))
  exact ⟨hE, _, rfl, fun h => absurd h (by decide)⟩
 intro hc
 simp at hc
 refine Qe (Qa (Qc (Qc (Qb [0] rfl (Qi rfl rfl (Qd (Qa (Qf ?_))))))))
 have hX := Ext.refl w3
 refine Qu (fun i : Nat => [(2, .pointer (some ⟨fb, 0, none⟩)), (3, .pointer (some ⟨ab, 0, none⟩)), (6, .int .i64 i)]) (fun i w' => i ≤ L.length ∧ Ext w w' ∧ Ext w3 w' ∧ ∀ t : Nat, t < i → ((L.getD t []).length : Int) = n) (fun i => L.length - i) 0 ⟨rfl, rfl, rfl, trivial⟩ ⟨by omega, hE, hX, fun t ht => by omega⟩ ?_
 clear hE hX hs3
 rintro i w4 ⟨i1, hE, hX, hln⟩
 have hsi := hs.ext hE
 have hA4 := hA.ext hX
 try dsimp only
 refine Qc (Qc (Qb [0,1,2,3,4] rfl (mvV rfl rfl (Qx rfl rfl Zg (Vw rfl (ldB rfl ZC hA4) (Vw rfl (ZD rfl QS hsi) (Qz rfl rfl rfl (Qd (Qa ?_)))))))))
 rw [hrl]
 refine Qq rfl ?_ ?_
 ·intro hc2
  simp at hc2
  obtain ⟨r, hr, hri⟩ := hrr i hc2
  have hri4 := hri.ext hE
  refine Qe (Qa (Qc (Qf (Qc (QA QM [0,1,2,3,4,5,6,7,8] (by kernel_rfl) ?_)))))
  intro w5 hd _
  replace hE := hE.trans hd
  replace hX := hX.trans hd
  replace hA4 := hA4.ext hd
  replace hsi := hsi.ext hd
  replace hri4 := hri4.ext hd
  refine Qx rfl rfl Zg (Vw rfl (ldB rfl ZC hA4) (mvV rfl rfl (Vw rfl (iad rfl rfl QS hsi (by omega) (by omega)) (Vw rfl (ldE rfl Zl hsi (by rw [Int.toNat_natCast]; exact hr)) (Vw rfl (Zk rfl Qy hri4) (Qx rfl rfl Zn (Vw rfl (ldB rfl na3 hA4) (QH rfl rfl rfl (Qd (Qa ?_))))))))))
  refine Qq rfl ?_ ?_
  ·intro hn2
   refine Qc (Qb [0] rfl (Qi rfl rfl (Qd (Qa (Qs (Qv (Qn (QF (Qv (Qn (Qk rfl rfl ?_)))))))))))
   exact ⟨hE, _, rfl, fun h => absurd h (by decide)⟩
  intro hn2
  have hn2 : ((L.getD i []).length : Int) = n := by
   have := of_decide_eq_false hn2
   exact Classical.byContradiction fun h => this h
  refine Qe (Qg (Qa (Qb [0,1,2] rfl (mvV rfl rfl (Qw rfl rfl rfl (Qi rfl rfl (Qd (Qj (i + 1) ⟨rfl, rfl, rfl, trivial⟩ ⟨by omega, hE, hX, fun t ht => ?_⟩ (by omega)))))))))
  rcases Nat.lt_or_eq_of_le (Nat.le_of_lt_succ ht) with e | e
  ·exact hln t e
  ·rw [e]; exact hn2
 ·intro hc2
  simp at hc2
  obtain rfl : i = L.length := by omega
  refine Qt (Ql (Qm (Qh (Qa (Qc (Qc (Qb [0] rfl (Qi rfl rfl (Qd (Qa (Qf ?_)))))))))))
  have hX3 := hX
  refine Qu (fun i : Nat => [(2, .pointer (some ⟨fb, 0, none⟩)), (3, .pointer (some ⟨ab, 0, none⟩)), (7, .int .i64 i)]) (fun i w' => i ≤ L.length ∧ Ext w w' ∧ Ext w3 w' ∧ ∀ t : Nat, t < i → InR P (L.getD t [])) (fun i => L.length - i) 0 ⟨rfl, rfl, rfl, trivial⟩ ⟨by omega, hE, hX, fun t ht => by omega⟩ ?_
  clear hE hX hX3 hsi hA4 hc2 i1
  rintro i w4 ⟨i1, hE, hX, hin⟩
  have hsi := hs.ext hE
  have hA4 := hA.ext hX
  have hB4 := hB.ext hX
  try dsimp only
  refine Qc (Qc (Qb [0,1,2,3,4] rfl (mvV rfl rfl (Qx rfl rfl Zg (Vw rfl (ldB rfl ZC hA4) (Vw rfl (ZD rfl QS hsi) (Qz rfl rfl rfl (Qd (Qa ?_)))))))))
  rw [hrl]
  refine Qq rfl ?_ ?_
  ·intro hc3
   simp at hc3
   obtain ⟨r, hr, hri⟩ := hrr i hc3
   refine Qe (Qa (Qc (Qf (Qc (QA QM [0,1,2,3,4,5,6,7] (by kernel_rfl) ?_)))))
   intro w5 hd _
   replace hE := hE.trans hd
   replace hX := hX.trans hd
   replace hA4 := hA4.ext hd
   replace hB4 := hB4.ext hd
   replace hsi := hsi.ext hd
   refine Vw rfl (ldA rfl Zr hB4) (Qx rfl rfl Zg (Vw rfl (ldB rfl ZC hA4) (mvV rfl rfl (Vw rfl (iad rfl rfl QS hsi (by omega) (by omega)) (Vw rfl (ldE rfl Zl hsi (by rw [Int.toNat_natCast]; exact hr)) (C rfl wu rfl rfl Tryz.call112 (rEntries2 P mo md r _ _ (hF.ext hE) (hri.ext hE)) ?_))))))
   rintro _ w6 hE6 ⟨e, rfl, he⟩
   replace hE := hE.trans hE6
   replace hX := hX.trans hE6
   refine Qi rfl rfl (Qd (Qa (Qc (Qb [0,1] rfl (mvV rfl rfl (QH rfl rfl rfl (Qd (Qa (Qq rfl ?_ ?_)))))))))
   ·intro hz
    refine Qc (Qb [0,1] rfl (mvV rfl rfl (Qi rfl rfl (Qd (Qa (Qs (Qv (Qn (QF (Qv (Qn (Qk rfl rfl ?_))))))))))))
    exact ⟨hE, e, rfl, fun h => absurd h (of_decide_eq_true hz)⟩
   intro hz
   have hz : e = 0 := Classical.byContradiction fun h => (of_decide_eq_false hz) h
   refine Qe (Qg (Qa (Qb [0,1,2] rfl (mvV rfl rfl (Qw rfl rfl rfl (Qi rfl rfl (Qd (Qj (i + 1) ⟨rfl, rfl, rfl, trivial⟩ ⟨by omega, hE, hX, fun t ht => ?_⟩ (by omega)))))))))
   rcases Nat.lt_or_eq_of_le (Nat.le_of_lt_succ ht) with e' | e'
   ·exact hin t e'
   ·rw [e']; exact he hz
  ·intro hc3
   simp at hc3
   refine Qt (Ql (Qm (Qh (Qa (Qc (Qb [0] rfl (Qi rfl rfl (Qd (Qa (Qs (Qk rfl rfl ?_)))))))))))
   refine ⟨hE, 0, rfl, fun _ => ⟨by omega, by omega, by omega, fun l hl => ?_, fun l hl => ?_⟩⟩
   ·obtain ⟨t, ht, rfl⟩ := List.getElem_of_mem hl
    have := hln t ht
    rw [List.getD_eq_getElem?_getD, List.getElem?_eq_getElem ht] at this
    exact this
   ·obtain ⟨t, ht, rfl⟩ := List.getElem_of_mem hl
    have := hin t (by omega)
    rw [List.getD_eq_getElem?_getD, List.getElem?_eq_getElem ht] at this
    exact this
set_option maxRecDepth 10000 in
theorem r10Check2 (P : FP) (mo : Value) (md : List Int) (v : Value) (n : Nat) (L : List (List Int)) (w : World) (hF : FV w P mo md) (hok : OkF P.p P.M md) (hgen : ∃ g : K P, HasOrder g (n1 P)) (hL : LL w v L) (hn : n ≤ 256) :
  Calls Tryz.prog 32 #[fv P mo, .agg #[.int .i64 n, v]] w (RetX w fun r _ => ∃ e : Int, r = .int .i64 e ∧ (e = 0 → MV P n L ∧ (Ml.canonM (opsP P) L n).1 = L)) := by
 refine QC Tryz.func32 rfl rfl (Qc (Qb [0,1,2] rfl (BXA rfl wu rfl rfl ?_)))
 intro fb w1 hE hB hg
 refine BXA rfl wu rfl rfl ?_
 intro ab w2 hE2 hA hga
 replace hE := hE.trans hE2
 replace hB := hB.ext hE2
 refine Qi rfl rfl (Qd (Qa (Qc (Qb [0,1,2,3] rfl (Vw rfl (ldA rfl Zr hB) (Vw rfl (ldA rfl JV hA) (C rfl wu rfl rfl Tryz.call66 (r9Check2 P mo md v n L _ (hF.ext hE) hok (hL.ext hE) hn) ?_)))))))
 rintro _ w3 hE3 ⟨e, rfl, he⟩
 replace hE := hE.trans hE3
 replace hB := hB.ext hE3
 replace hA := hA.ext hE3
 refine Qi rfl rfl (Qd (Qa (Qc (Qc (Qb [0,1] rfl (mvV rfl rfl (QH rfl rfl rfl (Qd (Qa (Qq rfl ?_ ?_))))))))))
 ·intro hz
  refine Qc (Qb [0,1] rfl (mvV rfl rfl (Qi rfl rfl (Qd (Qa (Qs (Qn (Qk rfl rfl ?_))))))))
  exact ⟨hE, e, rfl, fun h => absurd h (of_decide_eq_true hz)⟩
 intro hz
 have hz : e = 0 := Classical.byContradiction fun h => (of_decide_eq_false hz) h
 have hMV := he hz
 have hRL : Ml.RL n L := fun l hl => by have := hMV.row l hl; omega
 have hLm := Qcq (P := P) hRL hMV.el
 have hll := hMV.len
 have hLL : LL w v (matL P L.length n (kM P L)) := hLm ▸ hL
 refine Qe (Qa (Qc (Qb [0,1,2,3,4,5,6,7,8,9,10] rfl (Vw rfl (ldA rfl Zr hB) (Qx rfl rfl Zg (Vw rfl (ldB rfl ZC hA) (Qx rfl rfl Zn (Vw rfl (ldB rfl na3 hA) (C rfl wu rfl rfl Tryz.call67 (rCanon P mo md v L.length n (kM P L) _ (hF.ext hE) hgen (hLL.ext hE) (by omega) (by omega)) ?_)))))))))
 rintro _ w4 hE4 ⟨lv, pvv, b, M, qv, rfl, hM, _, hRd⟩
 replace hE := hE.trans hE4
 replace hA := hA.ext hE4
 refine mvV rfl rfl (QI rfl rfl rfl (QI rfl rfl rfl (Qi rfl rfl (Qi rfl rfl (Qd (Qa (Qc (Qc (Qb [0,1,2,3,4] rfl (mvV rfl rfl (Qx rfl rfl Zg (Vw rfl (ldB rfl ZC hA) ?_))))))))))))
 refine C rfl wu rfl rfl Tryz.call68 (Qdy lv v _ _ _ hM.ll (hL.ext hE)) ?_
 rintro _ w5 hE5 ⟨c, rfl, hcc⟩
 replace hE := hE.trans hE5
 refine ZW rfl rfl (Qd (Qa (Qq rfl ?_ ?_)))
 ·intro hn2
  refine Qc (Qb [0] rfl (Qi rfl rfl (Qd (Qa (Qs (Qn (Qk rfl rfl ?_)))))))
  exact ⟨hE, _, rfl, fun h => absurd h (by decide)⟩
 intro hn2
 simp at hn2
 refine Qe (Qa (Qc (Qb [0] rfl (Qi rfl rfl (Qd (Qa (Qs (Qk rfl rfl ?_))))))))
 refine ⟨hE, 0, rfl, fun _ => ⟨hMV, ?_⟩⟩
 have heq := hcc hn2
 have hbl : b = L.length := by rw [← heq, QQ]
 subst hbl
 have hRr : Rr L.length n (kM P L) qv := by
  have hk : ∀ i j, i < L.length → j < n → M i j = kM P L i j := fun i j hi hj => by
   rw [← kM_matL (P := P) (M := M) hi hj, heq]
  obtain ⟨_, hR, _⟩ := hRd
  exact ⟨hR.lt, hR.asc, fun i j hi hj => by rw [← hk i _ hi (hR.lt j hj)]; exact hR.piv i j hi hj, fun i x hi hx => by rw [← hk i x hi (by have := hR.lt i hi; omega)]; exact hR.lead i x hi hx⟩
 obtain ⟨a', M', pv', h1, h2⟩ := Ju hgen L.length n (kM P L)
 obtain ⟨ea, em⟩ := Red.same (fun e => Ji e) hRr h2
 rw [← hLm] at h1
 rw [h1]
 dsimp only
 rw [em, ← hLm]
theorem okFV {p M : Int} {md : List Int} (ok : OkF p M md) {w : World} {mo : Value} (hi : Ints w mo md) : FV w (fpOf p M md ok.1.1 ok.1.2.1) mo md := by
 have hS := ok.1
 obtain ⟨eo, eo0, hp⟩ := Ky hS.1 hS.2.1 hS.2.2.1 hS.2.2.2.1
 refine ⟨hi, hp, by have := hS.2.2.1; show M.toNat ≤ 8; omega, hS.2.2.2.1, rfl, fun h1 => hS.2.2.2.2.2.1 (by have : M.toNat = 1 := h1; omega), fun h1 => ?_, ?_⟩
 ·have h1' : ¬ M.toNat = 1 := h1
  have := (hS.2.2.2.2.2.2 (by omega)).1
  show md.length = M.toNat
  omega
 ·show Lo p md
  by_cases h1 : M = 1
  ·rw [hS.2.2.2.2.2.1 h1]; intro z hz; cases hz
  ·exact (hS.2.2.2.2.2.2 h1).2
set_option maxRecDepth 10000 in
theorem r12Check2 (p M : Int) (mo v : Value) (md : List Int) (N : Int) (L : List (List Int)) (w : World) (hmd : Ints w mo md) (hL : LL w v L) :
  Calls Tryz.prog 14 #[.agg #[.int .i64 p, .int .i64 M, mo, .int .i64 N, v]] w (RetX w fun r _ => ∃ e : Int, r = .int .i64 e ∧ (e = 0 → ∃ n : Nat, N = n ∧ CdOk p M md n L)) := by
 have hm1 := hmd.one
 have hv1 := hL.one
 refine QJ Tryz.func14 rfl rfl (Qc (Qb [0,1] rfl (BXA rfl wu rfl rfl ?_)))
 intro cb w1 hE hB hg
 refine Qi rfl rfl (Qd (Qa (Qc (Qb [0,1,2,3] rfl (Qx rfl rfl Jk (Vw rfl (ldA rfl Zr hB) (C rfl wu rfl rfl Tryz.call31 (rCheck p M mo md _ (hmd.ext hE)) ?_)))))))
 intro cv w3 hE3 hck
 replace hE := hE.trans hE3
 replace hB := hB.ext hE3
 refine Qi rfl rfl (Qd (Qa (Qc (Qc ?_))))
 rcases hck with ⟨rfl, hok⟩ | ⟨rfl, hno⟩
 rotate_left
 ·skip
  refine Qb [0,1] rfl (mvV rfl rfl (QH rfl rfl rfl (Qd (Qa (QD rfl (rfl) (Qc (Qb [0,1] rfl (mvV rfl rfl (Qi rfl rfl (Qd (Qa (Qs (Qn ?_)))))))))))))
  refine Qk rfl rfl ?_
  exact ⟨hE, _, rfl, fun h => absurd h (by decide)⟩
 refine Qb [0,1] rfl (mvV rfl rfl (QH rfl rfl rfl (Qd (Qa (Qo rfl (rfl) (Qe (Qa (Qc (Qc ?_)))))))))
 by_cases h1 : N < 1
 ·skip
  refine Qb [0,1,2,3,4,5,6,7] rfl (Qx rfl rfl Za (Vw rfl (ldB rfl na3 hB) (Qz rfl rfl rfl (mvV rfl rfl (KB 13 true rfl (by simpa using h1) (SK rfl rfl rfl rfl rfl (SK rfl rfl rfl rfl rfl (SK rfl rfl rfl rfl rfl (pkV rfl rfl rfl ?_)))))))))
  refine Qd (Qa (QD rfl (rfl) (Qc (Qb [0] rfl (Qi rfl rfl (Qd (Qa (Qs (Qn (Qk rfl rfl ?_))))))))))
  exact ⟨hE, _, rfl, fun h => absurd h (by decide)⟩
 by_cases h2 : 64 < N
 ·skip
  refine Qb [0,1,2,3,4,5,6,7] rfl (Qx rfl rfl Za (Vw rfl (ldB rfl na3 hB) (Qz rfl rfl rfl (mvV rfl rfl (KB 13 false rfl (by simpa using h1) (Vg rfl rfl rfl (fad rfl Za) (Vg rfl rfl rfl (ldB rfl na3 hB) (Vg rfl rfl rfl (Xd rfl rfl) (pkV rfl rfl rfl ?_)))))))))
  refine Qd (Qa (QD rfl (by simpa using h2) (Qc (Qb [0] rfl (Qi rfl rfl (Qd (Qa (Qs (Qn (Qk rfl rfl ?_))))))))))
  exact ⟨hE, _, rfl, fun h => absurd h (by decide)⟩
 obtain ⟨n, rfl⟩ : ∃ n : Nat, N = n := ⟨N.toNat, by omega⟩
 refine Qb [0,1,2,3,4,5,6,7] rfl (Qx rfl rfl Za (Vw rfl (ldB rfl na3 hB) (Qz rfl rfl rfl (mvV rfl rfl (KB 13 false rfl (decide_eq_false h1) (Vg rfl rfl rfl (fad rfl Za) (Vg rfl rfl rfl (ldB rfl na3 hB) (Vg rfl rfl rfl (Xd rfl rfl) (pkV rfl rfl rfl ?_)))))))))
 refine Qd (Qa (Qo rfl (decide_eq_false h2) (Qe (Qa (Qc ?_)))))
 have hLi := hL.ext hE
 have hFV := okFV hok (hmd.ext hE)
 have hgen := hok.gen
 have hPM : ((M.toNat : Nat) : Int) = M := by have := hok.1.2.1; omega
 have hcall := fun w' (hw : Ext w3 w') => r10Check2 (fpOf p M md hok.1.1 hok.1.2.1) mo md v n L w' (hFV.ext hw) (by show OkF p ((M.toNat : Nat) : Int) md; rw [hPM]; exact hok) hgen (hLi.ext hw) (by omega)
 rw [fv_of hok] at hcall
 refine Qb [0,1,2,3,4,5,6,7,8] rfl (Qx rfl rfl Jk (Vw rfl (ldA rfl Zr hB) (Qx rfl rfl Za (Vw rfl (ldB rfl na3 hB) (Qx rfl rfl ZI (Vw rfl (ldB rfl ZC hB) (Vw rfl (bld (us := [.int .i64 n, v]) (r := [.int .i64 n, v]) rfl (bdMx _ _ (QG hLi.one))) (C rfl wu rfl rfl Tryz.call32 (hcall _ (Ext.refl _)) ?_))))))))
 rintro _ w4 hE4 ⟨e, rfl, he⟩
 replace hE := hE.trans hE4
 refine Qi rfl rfl (Qd (Qa (Qs (Qk rfl rfl ?_))))
 exact ⟨hE, e, rfl, fun hz => ⟨n, rfl, ⟨hok, (he hz).1, (he hz).2, by omega, by omega⟩⟩⟩
end Go.Proofs.YteheedbhcfllfaaGreatDoor
namespace Go.Proofs.YteheedbhcfllfaaGreatDoor
open Go Go.Sx Go.Pl Go.RowKit Go.Fd Go.Alg
set_option maxRecDepth 10000 in
theorem ftFew (p M : Int) (mo v : Value) (md : List Int) (N : Int) (L : List (List Int)) (w : World) (hmd : Ints w mo md) (hL : LL w v L) :
  Calls Tryz.prog 5 #[.agg #[.int .i64 p, .int .i64 M, mo, .int .i64 N, v], .int .i64 7, .int .i64 256] w (RetX w fun r _ => ∃ b, r = .bool b ∧ (b = true → ∃ n : Nat, N = n ∧ CdOk p M md n L ∧ n ≤ 7)) := by
 have hm1 := hmd.one
 have hv1 := hL.one
 obtain ⟨rows, hs, hrl, hrr⟩ := hL.row
 have hle := hs.le
 refine QT Tryz.func5 rfl rfl (Qc (Qb [0,1] rfl (BXA rfl wu rfl rfl ?_)))
 intro cb w1 hE hB hg
 refine Qi rfl rfl (Qd (Qa (Qc (Qc (Qb [0,1,2,3,4,5,6,7,8] rfl (Vw rfl (ldA rfl ZE hB) (C rfl wu rfl rfl Tryz.call14 (r12Check2 p M mo v md N L _ (hmd.ext hE) (hL.ext hE)) ?_)))))))
 rintro _ w2 hE2 ⟨e, rfl, he⟩
 replace hB := hB.ext hE2
 replace hE := hE.trans hE2
 refine QH rfl rfl rfl (mvV rfl rfl ?_)
 refine OR (π1 := [4,5,6,7,8]) (π2 := []) (tc := 13) (tp := 18) rfl rfl rfl (by
   intro _
   refine SK rfl rfl rfl rfl rfl (SK rfl rfl rfl rfl rfl (SK rfl rfl rfl rfl rfl (SK rfl rfl rfl rfl rfl (pkV rfl rfl rfl ?_))))
   exact Zp rfl) (by
   intro hg
   simp at hg
   refine Vg rfl rfl rfl (fad rfl Za) (Vg rfl rfl rfl (ldB rfl na3 hB) (Vg rfl rfl rfl (mv rfl) (Vg rfl rfl rfl (Xd rfl rfl) (pkV rfl rfl rfl ?_))))
   exact Zp rfl) ?_
 refine Qd (Qa (Qq rfl ?_ ?_))
 ·intro hc
  refine Qc (Qb [0] rfl (Qi rfl rfl (Qd (Qa (Qs (Qn (Qk rfl rfl ?_)))))))
  exact ⟨hE, false, rfl, fun h => by cases h⟩
 intro hc
 simp at hc
 obtain ⟨n, rfl, hcd⟩ := he hc.1
 have hn7 : n ≤ 7 := by omega
 have hgood : ∃ m : Nat, (n : Int) = m ∧ CdOk p M md m L ∧ m ≤ 7 := ⟨n, rfl, hcd, hn7⟩
 have hq : 0 ≤ ordZ p M ∧ ordZ p M ≤ 256 := by
  rw [ordZ]
  split
  ·omega
  ·rename_i h
   have : (0 : Int) < p ^ M.toNat := Int.pow_pos (by omega)
   omega
 refine Qe (Qa (Qc (Qb [0,1,2,3,4,5] rfl (Qx rfl rfl Jk (Vw rfl (ldA rfl Zr hB) (C rfl wu rfl rfl Tryz.call15 (QcW p M mo _) ?_))))))
 rintro _ w3 hE3 rfl
 replace hB := hB.ext hE3
 replace hE := hE.trans hE3
 refine Qi rfl rfl (Qi rfl rfl (Qi rfl rfl (Qd (Qa (Qc (Qc ?_))))))
 generalize ordZ p M = q at *
 refine Qb [0,1,2,3] rfl (Qx rfl rfl ZI (Vw rfl (ldB rfl ZC hB) (Vw rfl (ZD rfl QS (hs.ext hE)) (mvV rfl rfl (Qd (Qa (Qf ?_)))))))
 refine Qu (fun s : Nat × Int => [(3, .pointer (some ⟨cb, 0, none⟩)), (2, .int .i64 256), (7, .int .i64 q), (8, .int .i64 s.2), (9, .int .i64 1), (24, .int .i64 rows.length), (25, .int .i64 s.1)]) (fun s w' => s.1 ≤ rows.length ∧ Ext w w' ∧ Ext w3 w' ∧ 0 ≤ s.2 ∧ s.2 ≤ 256) (fun s => rows.length - s.1) (0, 1) ⟨rfl, rfl, rfl, rfl, rfl, rfl, rfl, trivial⟩ ⟨by omega, hE, Ext.refl _, by decide, by decide⟩ ?_
 clear hE
 rintro ⟨i, x⟩ w4 ⟨i1, hE, hX, hx0, hx1⟩
 dsimp only at i1 hE hX hx0 hx1
 have hxq : 0 ≤ x * q ∧ x * q ≤ 65536 := ⟨Int.mul_nonneg hx0 hq.1, by
  have := Int.mul_le_mul hx1 hq.2 hq.1 (by decide)
  omega⟩
 try dsimp only
 refine Qc (Qb [0] rfl (Qz rfl rfl rfl (Qd (Qa (Qc (Qq rfl ?_ ?_))))))
 ·intro h1
  simp at h1
  refine Qe (Qa (Qc (Qf (Qc (Qb [0,1,2,3] rfl (mvV rfl rfl (mvV rfl rfl (Vw rfl (KC rfl rfl) (Qi rfl rfl (Qd (Qa (Qc (Qb [0,1,2] rfl (mvV rfl rfl (mvV rfl rfl ?_)))))))))))))))
  refine ZA rfl rfl rfl (Qd (Qa (Qq rfl ?_ ?_)))
  ·intro h2
   refine Qc (Qb [0] rfl (Qi rfl rfl (Qd (Qa (Qs (Qv (Qn (QF (Qv (Qn (Qk rfl rfl ?_)))))))))))
   exact ⟨hE, false, rfl, fun h => by cases h⟩
  ·intro h2
   simp at h2
   refine Qe (Qg (Qa (Qb [0,1] rfl (Qw rfl rfl rfl (mvV rfl rfl (Qd ?_))))))
   exact Qj (i + 1, x * q) ⟨rfl, rfl, rfl, rfl, rfl, rfl, rfl, trivial⟩ ⟨by dsimp only; omega, hE, hX, hxq.1, by dsimp only; omega⟩ (by dsimp only; omega)
 ·intro h1
  refine Qt (Ql (Qm (Qh (Qa (Qc (Qc (Qb [0,1,2,3,4,5,6] rfl (Qx rfl rfl Za (Vw rfl (ldB rfl na3 (hB.ext hX)) (Qx rfl rfl ZI (Vw rfl (ldB rfl ZC (hB.ext hX)) (Vw rfl (ZD rfl QS (hs.ext hE)) (QU rfl rfl rfl (mvV rfl rfl (Qd (Qa (Qf ?_)))))))))))))))))
  have hX3 := hX
  refine Qu (fun s : Nat × Int => [(2, .int .i64 256), (7, .int .i64 q), (9, .int .i64 s.2), (39, .int .i64 ((n : Int) - rows.length)), (40, .int .i64 s.1)]) (fun s w' => (s.1 : Int) ≤ n ∧ Ext w w' ∧ 0 ≤ s.2 ∧ s.2 ≤ 256) (fun s => n - s.1) (0, 1) ⟨rfl, rfl, rfl, rfl, rfl, trivial⟩ ⟨by dsimp only; omega, hE, by decide, by decide⟩ ?_
  clear hE hX hX3 i1 hx0 hx1 hxq h1
  clear i x
  rintro ⟨i, x⟩ w5 ⟨i1, hE, hx0, hx1⟩
  dsimp only at i1 hE hx0 hx1
  have hxq : 0 ≤ x * q ∧ x * q ≤ 65536 := ⟨Int.mul_nonneg hx0 hq.1, by
   have := Int.mul_le_mul hx1 hq.2 hq.1 (by decide)
   omega⟩
  try dsimp only
  refine Qc (Qb [0] rfl (Qz rfl rfl rfl (Qd (Qa (Qc (Qq rfl ?_ ?_))))))
  ·intro h1
   simp at h1
   refine Qe (Qa (Qc (Qf (Qc (Qb [0,1,2,3] rfl (mvV rfl rfl (mvV rfl rfl (Vw rfl (KC rfl rfl) (Qi rfl rfl (Qd (Qa (Qc (Qb [0,1,2] rfl (mvV rfl rfl (mvV rfl rfl ?_)))))))))))))))
   refine ZA rfl rfl rfl (Qd (Qa (Qq rfl ?_ ?_)))
   ·intro h2
    refine Qc (Qb [0] rfl (Qi rfl rfl (Qd (Qa (Qs (Qv (Qn (QF (Qv (Qn (Qk rfl rfl ?_)))))))))))
    exact ⟨hE, false, rfl, fun h => by cases h⟩
   ·intro h2
    simp at h2
    refine Qe (Qg (Qa (Qb [0,1] rfl (Qw rfl rfl rfl (mvV rfl rfl (Qd ?_))))))
    exact Qj (i + 1, x * q) ⟨rfl, rfl, rfl, rfl, rfl, trivial⟩ ⟨by dsimp only; omega, hE, hxq.1, by dsimp only; omega⟩ (by dsimp only; omega)
  ·intro h1
   refine Qt (Ql (Qm (Qh (Qa (Qc (Qb [0] rfl (Qi rfl rfl (Qd (Qa (Qs (Qk rfl rfl ?_)))))))))))
   exact ⟨hE, true, rfl, fun _ => hgood⟩
end Go.Proofs.YteheedbhcfllfaaGreatDoor
namespace Go.Alg
section
variable {R : Type} [CR R]
def Ind (r n : Nat) (u : Nat → Nat → R) : Prop := ∀ x : Nat → R, (∀ j, j < n → sm r (fun i => x i * u i j) = 0) → ∀ i, i < r → x i = 0
theorem sm_skip {k : Nat} : ∀ {r : Nat} {f : Nat → R}, k < r → sm r f = f k + sm (r - 1) (fun i => f (if i < k then i else i + 1))
 | 0, _, h => absurd h (by omega)
 | r + 1, f, h => by
  show sm r f + f r = _
  by_cases e : k = r
  ·subst e
   rw [add_comm]
   show _ = f k + sm k _
   exact congrArg _ (QO fun i hi => by rw [if_pos hi])
  ·have ih := sm_skip (k := k) (r := r) (f := f) (by omega)
   obtain ⟨q, rfl⟩ : ∃ q, r = q + 1 := ⟨r - 1, by omega⟩
   rw [ih]
   show _ = f k + (sm q _ + f (if q < k then q else q + 1))
   rw [if_neg (by omega), add_assoc]
   rfl
theorem Qdt (hinv : ∀ x : R, x ≠ 0 → ∃ y, x * y = 1) (h10 : (1 : R) ≠ 0) {n : Nat} {g : Nat → Nat → R} : ∀ (a r : Nat) (u : Nat → Nat → R), (∀ i, i < r → Sp a n g (u i)) → Ind r n u → r ≤ a
 | 0, r, u, hs, hi => by
  apply Classical.byContradiction
  intro hr
  refine h10 (hi (fun _ => 1) (fun j hj => Jd fun i hi => ?_) 0 (by omega))
  obtain ⟨x, hx⟩ := hs i hi
  rw [hx j hj]
  exact mul_zero _
 | a + 1, r, u, hs, hi => by
  have hc : ∃ c : Nat → Nat → R, ∀ i, i < r → ∀ j, j < n → u i j = sm (a + 1) fun t => c i t * g t j := by
   refine ⟨fun i => if h : i < r then Classical.choose (hs i h) else fun _ => 0, fun i hi j hj => ?_⟩
   dsimp only
   rw [dif_pos hi]
   exact Classical.choose_spec (hs i hi) j hj
  obtain ⟨c, hc⟩ := hc
  by_cases h0 : ∀ i, i < r → c i a = 0
  ·have := Qdt hinv h10 a r u (fun i hi => ⟨c i, fun j hj => by
    rw [hc i hi j hj]
    show sm a _ + c i a * g a j = _
    rw [h0 i hi, zero_mul, add_zero]⟩) hi
   omega
  ·have h0' : ∃ i, i < r ∧ c i a ≠ 0 := Classical.byContradiction fun hn => h0 fun i hi => Classical.byContradiction fun hne => hn ⟨i, hi, hne⟩
   obtain ⟨k, hk, hka⟩ := h0'
   obtain ⟨y, hy⟩ := hinv _ hka
   let σ : Nat → Nat := fun i => if i < k then i else i + 1
   have hσ : ∀ i, i < r - 1 → σ i < r ∧ σ i ≠ k := fun i hi => by
    simp only [σ]
    by_cases e : i < k
    ·rw [if_pos e]; omega
    ·rw [if_neg e]; omega
   have hsum : ∀ (f : Nat → R), sm r f = f k + sm (r - 1) (fun i => f (σ i)) := fun _ => sm_skip hk
   let m : Nat → R := fun i => -(c i a * y)
   have hm := Qdt hinv h10 a (r - 1) (fun i j => u (σ i) j + m (σ i) * u k j) (fun i hi => ⟨fun t => c (σ i) t + m (σ i) * c k t, fun j hj => by
    obtain ⟨h1, _⟩ := hσ i hi
    dsimp only
    rw [hc _ h1 j hj, hc k hk j hj, ← Ku, ← XU]
    have e1 : c (σ i) a * g a j + m (σ i) * (c k a * g a j) = 0 := by
     show c (σ i) a * g a j + -(c (σ i) a * y) * (c k a * g a j) = 0
     rw [neg_mul, mul_assoc (c (σ i) a) y, ← mul_assoc y, mul_comm y (c k a), hy, one_mul, Jw]
    refine (congrArg (sm a (fun t => c (σ i) t * g t j + m (σ i) * (c k t * g t j)) + ·) e1).trans ?_
    rw [add_zero]
    exact QO fun t _ => by rw [add_mul, mul_assoc]⟩) (fun x hx => ?_)
   ·omega
   ·
    let z : Nat → R := fun i => if i < k then x i else if i = k then sm (r - 1) (fun i => x i * m (σ i)) else x (i - 1)
    have hz : ∀ i, i < r - 1 → z (σ i) = x i := fun i hi => by
     simp only [z, σ]
     by_cases e : i < k
     ·rw [if_pos e, if_pos e]
     ·rw [if_neg e, if_neg (by omega), if_neg (by omega)]
      rfl
    have hzk : z k = sm (r - 1) (fun i => x i * m (σ i)) := by simp only [z]; rw [if_neg (Nat.lt_irrefl k)]; simp
    have h2 := hi z (fun j hj => by
     rw [hsum, hzk, ← sm_mulr, ← XU]
     refine Eq.trans (QO fun i hi => ?_) (hx j hj)
     dsimp only
     rw [hz i hi, mul_add, mul_assoc, add_comm])
    intro i hi
    rw [← hz i hi]
    exact h2 _ (hσ i hi).1
theorem ind_size (hinv : ∀ x : R, x ≠ 0 → ∃ y, x * y = 1) (h10 : (1 : R) ≠ 0) {n a b : Nat} {u v : Nat → Nat → R} (hu : Ind a n u) (hv : Ind b n v) (h1 : ∀ i, i < a → Sp b n v (u i)) (h2 : ∀ i, i < b → Sp a n u (v i)) : a = b :=
 Nat.le_antisymm (Qdt hinv h10 b a u h1 hu) (Qdt hinv h10 a b v h2 hv)
end
end Go.Alg
