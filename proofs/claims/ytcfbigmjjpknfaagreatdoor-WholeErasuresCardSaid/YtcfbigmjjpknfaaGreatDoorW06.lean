import Derived.Test.YtcfbigmjjpknfaaGreatDoorW04
import Derived.Test.YtcfbigmjjpknfaaGreatDoorW03
import Derived.Test.YtcfbigmjjpknfaaGreatDoorW05
namespace Go.Fd
open Go.Pl Go.Alg Go Go.Sx
variable {P : FP}
def Dist (x : K P) (n : Nat) : Prop := (∀ i, i < n → npow x i ≠ 0) ∧ ∀ i j, i < j → j < n → npow x i ≠ npow x j
def sn (x : K P) (n : Nat) (k : Int) : Bool := (List.range n).any fun i => decide ((npow x i).1 = k)
theorem sn_iff {x : K P} {n : Nat} {k : Int} : sn x n k = true ↔ ∃ i, i < n ∧ (npow x i).1 = k := by
 simp [sn]
theorem Dist.one (x : K P) : Dist x 1 := ⟨fun i hi => by
  have : i = 0 := by omega
  subst this
  exact Jq, fun i j h1 h2 => by omega⟩
theorem Dist.succ {x : K P} {n : Nat} (h : Dist x n) (h0 : npow x n ≠ 0) (hs : sn x n (npow x n).1 = false) : Dist x (n + 1) := by
 refine ⟨fun i hi => ?_, fun i j hij hj he => ?_⟩
 ·by_cases e : i = n
  ·rw [e]; exact h0
  ·exact h.1 i (by omega)
 ·by_cases e : j = n
  ·subst e
   have : sn x j (npow x j).1 = true := sn_iff.2 ⟨i, hij, by rw [he]⟩
   rw [hs] at this
   cases this
  ·exact h.2 i j hij (by omega) he
theorem Dist.le {x : K P} {n : Nat} (h : Dist x n) : n ≤ n1 P := by
 have hl : ((List.range n).map fun i => ((npow x i).1 - 1).toNat).length = n := by simp
 have hn : ((List.range n).map fun i => ((npow x i).1 - 1).toNat).Nodup := by
  rw [List.Nodup, List.pairwise_map]
  refine List.Pairwise.imp_of_mem ?_ (List.nodup_range (n := n))
  intro a b ha hb hne he
  rw [List.mem_range] at ha hb
  have h1 := K.pos (h.1 a ha)
  have h2 := K.pos (h.1 b hb)
  have e : npow x a = npow x b := Subtype.ext (by omega)
  rcases Nat.lt_or_gt_of_ne hne with hl | hl
  ·exact h.2 a b hl hb e
  ·exact h.2 b a hl ha e.symm
 have := QcK (n1 P) _ hn (fun z hz => by
  obtain ⟨i, hi, rfl⟩ := List.mem_map.1 hz
  have h1 := K.pos (h.1 i (List.mem_range.1 hi))
  have h2 := (npow x i).2.2
  have := QaS (P := P)
  omega)
 omega
def Stop (x : K P) (n : Nat) : Prop := 1 ≤ n ∧ Dist x n ∧ (npow x n = 0 ∨ sn x n (npow x n).1 = true)
theorem Stop.order {x : K P} {n : Nat} (h : Stop x n) (hn : n = n1 P) (h1 : npow x n = 1) : HasOrder x (n1 P) := by
 subst hn
 refine ⟨n1_pos, h1, fun k hk hlt he => ?_⟩
 exact h.2.1.2 0 k hk hlt he.symm
theorem Stop.of_order {x : K P} {n : Nat} (h : Stop x n) (ho : HasOrder x (n1 P)) : n = n1 P ∧ npow x n = 1 := by
 have hle := h.2.1.le
 have hn : n = n1 P := by
  apply Classical.byContradiction
  intro hne
  rcases h.2.2 with h0 | hs
  ·exact pow_ne ho.2.1 (i := n) (by omega) h0
  ·obtain ⟨i, hi, he⟩ := sn_iff.1 hs
   have := Qb0 ho (i := i) (j := n) (by omega) (by omega) (Subtype.ext he)
   omega
 exact ⟨hn, by rw [hn]; exact ho.2.1⟩
def seenL (x : K P) (n : Nat) : List Value := tab P.q.toNat fun k => .bool (sn x n k)
theorem Qbl (x : K P) (n : Nat) : (seenL x n).length = P.q.toNat := Qs _ _
theorem seenL_get (x : K P) (n : Nat) (y : K P) : (seenL x n)[y.1.toNat]? = some (.bool (sn x n y.1)) := by
 have := y.2
 rw [seenL, Za (by omega)]
 congr 3
 omega
theorem seenL_one (x : K P) : (List.replicate P.q.toNat (Value.bool false)).set 1 (.bool true) = seenL x 1 := by
 have e : List.replicate P.q.toNat (Value.bool false) = tab P.q.toNat fun _ => Value.bool false := by
  apply List.ext_getElem?
  intro i
  by_cases hi : i < P.q.toNat
  ·rw [Za hi]; simp [hi]
  ·rw [List.getElem?_eq_none (by simp; omega), List.getElem?_eq_none (by rw [Qs]; omega)]
 rw [e, XD]
 refine QF fun t _ => ?_
 have : sn x 1 t = decide (t = 1) := by
  have e1 : (npow x 0).1 = 1 := one_val
  by_cases h : t = 1
  ·subst h
   simp [sn, List.range_succ, e1]
  ·have : ¬ ((1 : Int) = t) := by omega
   simp [sn, List.range_succ, e1, h, this]
 rw [this]
 by_cases h : t = 1
 ·simp [h]
 ·simp [h]
theorem Qdb (x : K P) (n : Nat) : (seenL x n).set (npow x n).1.toNat (.bool true) = seenL x (n + 1) := by
 rw [seenL, XD]
 refine QF fun t _ => ?_
 have h0 := (npow x n).2.1
 have : sn x (n + 1) t = (sn x n t || decide ((npow x n).1 = t)) := by
  simp [sn, List.range_succ]
 rw [this]
 by_cases h : t = (npow x n).1.toNat
 ·rw [if_pos h]
  have : (npow x n).1 = t := by omega
  simp [this]
 ·rw [if_neg h]
  have : ¬ (npow x n).1 = t := by omega
  simp [this]
def pows (x : K P) (n : Nat) : List Int := tab n fun i => (npow x i).1
theorem ZZ (x : K P) (n : Nat) : (pows x n).length = n := Qs _ _
theorem pows_succ (x : K P) (n : Nat) : pows x n ++ [(npow x n).1] = pows x (n + 1) := by
 simp [pows, tab, List.range_succ]
theorem Xk (x : K P) {n : Nat} {k : Int} (h0 : 0 ≤ k) (h1 : k < n) : gi (pows x n) k = (npow x k.toNat).1 := by
 rw [pows, ZO h1 h0]
end Go.Fd
namespace Go.Proofs.YtcfbigmjjpknfaaGreatDoor
open Go Go.Sx Go.Pl Go.RowKit Go.Fd Go.Alg
theorem K.bound {P : FP} (x : K P) (hq : P.q ≤ 256) : 0 ≤ x.1 ∧ x.1 < P.q ∧ x.1 ≤ 255 := ⟨x.2.1, x.2.2, by have := x.2.2; omega⟩
set_option maxRecDepth 10000 in
theorem fPowers (P : FP) (mo : Value) (md : List Int) (x : K P) (w : World) (hF : FV w P mo md) :
  Calls Tryz.prog 103 #[fv P mo, .int .i64 P.q, .int .i64 x.1] w (RetX w fun v w' => ∃ n, Stop x n ∧ OwnI w.heap.size w' v 3 (pows x n) ∧ ∃ g, v.ownBlock = some g) := by
 have hq := hF.q
 have hq2 := P.q_two
 have hn1 := QaS (P := P)
 refine QS Tryz.func103 rfl rfl (Qc (Qb [0,1] rfl (BXA rfl wu rfl rfl ?_)))
 intro g w1 hE1 hB hg
 refine Qk rfl rfl (Qd (Qa (Qc ?_)))
 have hFA := hF.ext hE1
 have hE := Ext.refl w1
 refine Qb [0,1] rfl (BSI (zs := [1]) rfl wu rfl rfl rfl rfl QA ?_)
 intro out w2 hE2 ho hi hob
 refine Qk rfl rfl (Qd (Qa (Qc (Qb [0,1,2] rfl (mvV rfl rfl (MK (n := P.q.toNat) rfl wu rfl rfl QaE rfl ?_))))))
 intro seen w3 hE3 hs hsb
 refine Qk rfl rfl (Qd (Qa (Qc ?_)))
 have hsz2 := hE2.size
 have hne : out.ownBlock ≠ seen.ownBlock := by
  rw [hob, hsb]
  intro e
  have e := Option.some.inj e
  have := (ho.lt _ hob).2
  omega
 replace ho := ho.ext hE3
 replace hs := hs.mono (B' := w1.heap.size) hsz2
 replace hE := hE2.trans hE3
 clear hi hE2 hE3
 refine Qb [0,1,2] rfl (mvV rfl rfl (Vw rfl (iad rfl rfl QaE hs.sl (by omega) (by simp; omega)) (ST rfl wu rfl rfl sz4 rfl nofun ?_ hs (by omega) (by simp; omega))))
 intro w4 hg4 hs4
 rw [show (1 : Int).toNat = 1 from rfl, seenL_one x] at hs4
 replace ho := Own.kept ho hg4 (.inl hne)
 replace hE := hE.grown hg4 hs (Nat.le_refl _)
 refine Qd (Qa (Qc (Qc ?_)))
 have ho : OwnI w1.heap.size w4 out 3 (pows x 1) := ho
 refine Qb [0,1] rfl (mvV rfl rfl (Qk rfl rfl (Qd (Qa (Qf ?_)))))
 clear hs hg4
 refine Qv (fun q : Nat × Value => [(1, .int .i64 P.q), (2, .int .i64 x.1), (3, .pointer (some ⟨g, 0, none⟩)), (7, q.2), (8, seen), (9, .int .i64 (npow x q.1).1)])
  (fun q w' => 1 ≤ q.1 ∧ Dist x q.1 ∧ Ext w1 w' ∧ OwnI w1.heap.size w' q.2 3 (pows x q.1) ∧ Own w1.heap.size w' seen 4 (seenL x q.1) ∧ q.2.ownBlock ≠ seen.ownBlock ∧ ∃ go, q.2.ownBlock = some go) (fun q => n1 P + 1 - q.1) (1, out)
  ⟨rfl, rfl, rfl, rfl, rfl, by show _ = some (Value.int .i64 (npow x 1).1); rw [npow_one]; rfl, trivial⟩ ⟨Nat.le_refl _, Dist.one x, hE, ho, hs4, hne, _, hob⟩ ?_
 clear ho hs4 hE hne hob
 rintro ⟨n, out⟩ w5 ⟨hn, hD, hE, ho, hs, hne, go, hgo⟩
 dsimp only at hn hD hE ho hne hgo hs
 have hi := ho.ints
 have hDl := hD.le
 have hpl := ZZ x n
 have hy := K.bound (npow x n) hq
 have hsl := Qbl x n
 try dsimp only
 refine Qc (Qc (Qb [0,1,2,3,4,5,6,7,8] rfl (mvV rfl rfl (QG rfl rfl rfl (mvV rfl rfl ?_)))))
 refine AND (π1 := [3,4,5,6,7,8]) (π2 := []) (tc := 18) (tp := 24) rfl rfl rfl (by
   intro hg
   simp at hg
   refine Vg rfl rfl rfl (mv rfl) (Vg rfl rfl rfl (mv rfl) (Vg rfl rfl rfl (iad rfl rfl QaE hs.sl (by omega) (by omega)) (Vg rfl rfl rfl (ldE rfl na4 hs.sl (seenL_get x n (npow x n))) (Vg rfl rfl rfl (notB rfl) (pkV rfl rfl rfl ?_)))))
   exact Zx rfl) (by
   intro _
   refine SK rfl rfl rfl rfl rfl (SK rfl rfl rfl rfl rfl (SK rfl rfl rfl rfl rfl (SK rfl rfl rfl rfl rfl (SK rfl rfl rfl rfl rfl (pkV rfl rfl rfl ?_)))))
   exact Zx rfl) ?_
 refine Qd (Qa (Qo rfl ?_ ?_))
 ·intro hc
  simp only [Bool.and_eq_true, decide_eq_true_eq, Bool.not_eq_true'] at hc
  refine Qe (Qa (Qc (Qf (Qc ?_))))
  have hn0 : npow x n ≠ 0 := fun e => hc.1 (by rw [e]; rfl)
  have hD' := hD.succ hn0 hc.2
  have hDl' := hD'.le
  refine Qb [0,1,2,3] rfl (mvV rfl rfl (mvV rfl rfl (Vw rfl (iad rfl rfl QaE hs.sl (by omega) (by omega)) (ST rfl wu rfl rfl sz4 rfl nofun ?_ hs (by omega) (by omega)))))
  intro w6 hg6 hs6
  rw [Qdb] at hs6
  refine Qd (Qa ?_)
  replace ho : OwnI w1.heap.size w6 out 3 (pows x n) := Own.kept ho hg6 (.inl hne)
  replace hE := hE.grown hg6 hs (Nat.le_refl _)
  clear hs hg6 hi
  refine Qb [0,1,2,3,4] rfl (mvV rfl rfl (mvV rfl rfl (BSI (zs := [(npow x n).1]) rfl wu rfl rfl rfl rfl QA ?_)))
  intro lit w7 hE7 hlo hli hlb
  replace ho := ho.ext hE7
  replace hE := hE.trans hE7
  have hs7 := hs6.ext hE7
  clear hlo
  refine API rfl wu rfl rfl rfl QA nofun ?_
  intro out' w8 hg8 hX8 ho8 hi8 hb8
  refine Qk rfl rfl (Qd (Qg (Qa ?_)))
  have hs8 : Own w1.heap.size w8 seen 4 (seenL x (n + 1)) := Own.kept hs7 hg8 (.inl (Ne.symm hne))
  have hE8 := hX8 _ (Nat.le_refl _) hE
  have hne' : out'.ownBlock ≠ seen.ownBlock := by
   rcases hb8 with e | e
   ·rw [e]; exact hne
   ·rw [e]
    intro e'
    have := (hs7.lt _ e'.symm).2
    omega
  have hgo' : ∃ go, out'.ownBlock = some go := by
   rcases hb8 with e | e
   ·exact ⟨go, e.trans hgo⟩
   ·exact ⟨_, e⟩
  rw [pows_succ] at ho8
  clear hE hg8 hX8 hb8 hi8 hs7 hs6 hlb hli ho
  refine Qb [0,1,2,3,4] rfl (Vw rfl (ldA rfl Zf) ?_)
  refine mvV rfl rfl (mvV rfl rfl (C rfl wu rfl rfl Tryz.call104 (fMul P mo md (npow x n) x _ (hFA.ext hE8)) ?_))
  rintro _ w9 hE9 rfl
  refine Qk rfl rfl (Qd ?_)
  exact Qi (n + 1, out') ⟨rfl, rfl, rfl, rfl, rfl, rfl, trivial⟩ ⟨by omega, hD', hE8.trans hE9, ho8.ext hE9, hs8.ext hE9, hne', hgo'⟩ (by show n1 P + 1 - (n + 1) < n1 P + 1 - n; omega)
 ·intro hc
  refine Qt (Ql (Qm (Qh (Qa (Qc (Qb [0,1] rfl (mvV rfl rfl (Qk rfl rfl (Qd (Qa (Qq (Qj rfl rfl ?_))))))))))))
  refine ⟨hE1.trans hE, n, ⟨hn, hD, ?_⟩, ho.mono hE1.size, go, hgo⟩
  by_cases h0 : npow x n = 0
  ·exact .inl h0
  ·refine .inr ?_
   have h0' : ¬ (npow x n).1 = 0 := fun e => h0 (Subtype.ext e)
   simpa [h0'] using hc
theorem Qay {P : FP} : ¬ HasOrder (0 : K P) (n1 P) := fun h => by
 have := h.2.1
 rw [zero_npow n1_pos] at this
 exact Jq this.symm
theorem mul_last {P : FP} (z : K P) : npow z (P.q - 2).toNat * z = npow z (n1 P) := by
 have := P.q_two
 have := QaS (P := P)
 rw [← Zz]
 congr 1
 omega
set_option maxRecDepth 10000 in
theorem Qap (P : FP) (mo : Value) (md : List Int) (w : World) (hF : FV w P mo md) :
  Calls Tryz.prog 57 #[fv P mo, .int .i64 P.q] w (RetX w fun v w' =>
   (v = .slice none 0 0 ∧ ∀ x : K P, ¬ HasOrder x (n1 P)) ∨ (∃ x : K P, HasOrder x (n1 P) ∧ Ints w' v (pows x (n1 P)) ∧ ∃ g, v.ownBlock = some g)) := by
 have hq := hF.q
 have hq2 := P.q_two
 have hn1 := QaS (P := P)
 refine QD Tryz.func57 rfl rfl (Qc (Qb [0,1] rfl (BXA rfl wu rfl rfl ?_)))
 intro g w1 hE1 hB hg
 refine Qk rfl rfl (Qd (Qa (Qc (Qc ?_))))
 have hFA := hF.ext hE1
 have hE := Ext.refl w1
 refine Qb [0] rfl (Qk rfl rfl (Qd (Qa (Qf ?_))))
 refine Qv (fun x : Int => [(1, .int .i64 P.q), (2, .pointer (some ⟨g, 0, none⟩)), (5, .int .i64 x)])
  (fun x w' => 1 ≤ x ∧ x ≤ P.q ∧ Ext w1 w' ∧ ∀ z : K P, z.1 < x → ¬ HasOrder z (n1 P)) (fun x => (P.q - x).toNat) 1 ⟨rfl, rfl, rfl, trivial⟩ ⟨by omega, by omega, hE, fun z hz => (by
   have : z = 0 := Subtype.ext (by have := z.2.1; show z.1 = 0; omega)
   rw [this]
   exact Qay)⟩ ?_
 clear hE
 rintro x w2 ⟨h0, h1, hE, hno⟩
 try dsimp only
 refine Qc (Qc (Qb [0,1,2] rfl (mvV rfl rfl (mvV rfl rfl (Qy rfl rfl rfl (Qd (Qa (Qo rfl ?_ ?_))))))))
 ·intro hx
  simp at hx
  refine Qe (Qa (Qc (Qf (Qc ?_))))
  obtain ⟨z, hz⟩ : ∃ z : K P, z.1 = x := ⟨⟨x, by omega, hx⟩, rfl⟩
  subst hz
  refine Qb [0,1,2,3,4] rfl (Vw rfl (ldA rfl Zf) ?_)
  refine mvV rfl rfl (mvV rfl rfl (C rfl wu rfl rfl Tryz.call103 (fPowers P mo md z _ (hFA.ext hE)) ?_))
  rintro p w3 hE3 ⟨n, hst, hp, gp, hgp⟩
  replace hE := hE.trans hE3
  refine Qk rfl rfl (Qd (Qa (Qc ?_)))
  have hpi := hp.ints
  have hpl := ZZ z n
  have hDl := hst.2.1.le
  refine Qx QK [0,1,2,3,4,5,6,7,8,9,10,11,12,13,14,15] (by kernel_rfl) ?_
  intro w4 hd _
  replace hE := hE.trans hd
  replace hpi := hpi.ext hd
  refine mvV rfl rfl (Vw rfl (Zh rfl QA) ?_)
  refine mvV rfl rfl (Zd rfl rfl rfl (QU rfl rfl rfl (mvV rfl rfl ?_)))
  refine ANDX (π1 := [6,7,8,9,10,11,12,13,14,15]) (π2 := []) (tc := 21) (tp := 31) rfl rfl rfl (by
    intro hg
    simp at hg
    refine Vg rfl rfl rfl (ldA rfl Zf) ?_
    refine Vg rfl rfl rfl (mv rfl) (Vg rfl rfl rfl (mv rfl) (Vg rfl rfl rfl (subI rfl rfl) (Vg rfl rfl rfl (QO rfl rfl QA) ?_)))
    refine Vg rfl rfl rfl (ldI rfl na3) ?_
    refine Vg rfl rfl rfl (mv rfl) ?_
    try rw [Xk z (by omega) (by omega)]
    refine C rfl (wg rfl rfl) rfl rfl Tryz.call104 (fMul P mo md (npow z (P.q - 2).toNat) z _ (hFA.ext hE)) ?_
    rintro _ w5 hE5 rfl
    refine Vg rfl rfl rfl (KV rfl rfl) (pkV rfl rfl rfl ?_)
    exact Qab rfl) (by
    intro _
    refine SK rfl rfl rfl rfl rfl (SK rfl rfl rfl rfl rfl (SK rfl rfl rfl rfl rfl (SK rfl rfl rfl rfl rfl (SK rfl rfl rfl rfl rfl (SK rfl rfl rfl rfl rfl (SK rfl rfl rfl rfl rfl ?_))))))
    try rw [Xk z (by omega) (by omega)]
    refine SK rfl rfl rfl rfl rfl (SK rfl rfl rfl rfl rfl (pkV rfl rfl rfl ?_))
    exact Qab rfl) ?_
  intro w6 hE6
  refine Qd (Qa ?_)
  replace hE := hE.trans hE6
  replace hpi := hpi.ext hE6
  rw [mul_last]
  refine Qo rfl ?_ ?_
  ·intro hc
   simp only [Bool.and_eq_true, decide_eq_true_eq] at hc
   refine Qc (Qb [0,1] rfl (mvV rfl rfl (Qk rfl rfl (Qd (Qa (Qq (Qu (Qp (QE (Qu (Qp (Qj rfl rfl ?_))))))))))))
   have hn : n = n1 P := by omega
   have hone : npow z (n1 P) = 1 := Subtype.ext hc.2
   refine ⟨hE1.trans hE, .inr ⟨z, hst.order hn (by rw [hn]; exact hone), ?_, gp, hgp⟩⟩
   rw [← hn]
   exact hpi
  ·intro hc
   refine Qe (Qg (Qa (Qb [0,1,2] rfl (mvV rfl rfl (Qw rfl rfl rfl (Qk rfl rfl (Qd ?_)))))))
   exact Qi (z.1 + 1) ⟨rfl, rfl, rfl, trivial⟩ ⟨by omega, by omega, hE, fun y hy ho => (by
    by_cases e : y.1 = z.1
    ·have e' : y = z := Subtype.ext e
     subst e'
     obtain ⟨e1, e2⟩ := hst.of_order ho
     have h3 : ((pows y n).length : Int) = P.q - 1 := by omega
     have h4 : (npow y (n1 P)).1 = 1 := by rw [← e1, e2]; rfl
     simp [h3, h4] at hc
    ·exact hno y (by omega) ho)⟩ (by omega)
 ·intro hx
  simp at hx
  refine Qt (Ql (Qm (Qh (Qa (Qc (Qb [0] rfl (Qk rfl rfl (Qd (Qa (Qq (Qj rfl rfl ?_)))))))))))
  exact ⟨hE1.trans hE, .inl ⟨rfl, fun y => hno y (by have := y.2.2; omega)⟩⟩
end Go.Proofs.YtcfbigmjjpknfaaGreatDoor
