import Derived.Test.YtcfbigmjjpknfaaGreatDoorW18
import Derived.Test.YtcfbigmjjpknfaaGreatDoorW11
import Derived.Test.YtcfbigmjjpknfaaGreatDoorW02
import Derived.Defers
import Derived.Recover
namespace Go.Sx
open Go Go.RowKit Go.Pl Go.Lg
def InS (S : Nat → Prop) (w : World) (v : Value) : Prop := ∀ q, v.ownBlock = some q → S q ∧ q < w.heap.size
mutual
def EX (S : Nat → Prop) (w : World) : Ex → List Value → Prop
 | .mk k nm n xs, cs => ∃ av L, cs = [.int .i64 k, .string nm, .int .i64 n, .slice none 0 0, av] ∧ RowsV w av 5 L ∧ InS S w av ∧ EXL S w xs L
def EXL (S : Nat → Prop) (w : World) : List Ex → List (List Value) → Prop
 | [], L => L = []
 | e :: xs, L => ∃ c L', L = c :: L' ∧ EX S w e c ∧ EXL S w xs L'
end
mutual
theorem EX.gr {S S' : Nat → Prop} {w w' : World} {X : List Nat} (hg : Gr X w w') (hS : ∀ q, q < w.heap.size → S q → q ∉ X ∧ S' q) : ∀ (x : Ex) (cs : List Value), EX S w x cs → EX S' w' x cs
 | .mk _ _ _ xs, cs, h => by
  obtain ⟨av, L, h1, h2, h3, h4⟩ := h
  exact ⟨av, L, h1, h2.gr hg fun k hk => (hS k (h3 k hk).2 (h3 k hk).1).1, fun k hk => ⟨(hS k (h3 k hk).2 (h3 k hk).1).2, Nat.lt_of_lt_of_le (h3 k hk).2 hg.size⟩, EXL.gr hg hS xs L h4⟩
theorem EXL.gr {S S' : Nat → Prop} {w w' : World} {X : List Nat} (hg : Gr X w w') (hS : ∀ q, q < w.heap.size → S q → q ∉ X ∧ S' q) : ∀ (xs : List Ex) (L : List (List Value)), EXL S w xs L → EXL S' w' xs L
 | [], _, h => h
 | e :: xs, L, h => by
  obtain ⟨c, L', h1, h2, h3⟩ := h
  exact ⟨c, L', h1, EX.gr hg hS e c h2, EXL.gr hg hS xs L' h3⟩
end
theorem EX.ext {S : Nat → Prop} {w w' : World} {x : Ex} {cs : List Value} (h : EX S w x cs) (hE : Ext w w') : EX S w' x cs := EX.gr (X := []) (Gr.of_ext hE) (fun _ _ hs => ⟨by simp, hs⟩) x cs h
theorem EXL.ext {S : Nat → Prop} {w w' : World} {xs : List Ex} {L : List (List Value)} (h : EXL S w xs L) (hE : Ext w w') : EXL S w' xs L := EXL.gr (X := []) (Gr.of_ext hE) (fun _ _ hs => ⟨by simp, hs⟩) xs L h
theorem EXL.snoc {S : Nat → Prop} {w : World} {x : Ex} {c : List Value} (hx : EX S w x c) : ∀ {xs : List Ex} {L : List (List Value)}, EXL S w xs L → EXL S w (xs ++ [x]) (L ++ [c])
 | [], L, h => by
  obtain rfl : L = [] := h
  exact ⟨c, [], rfl, hx, rfl⟩
 | e :: xs, L, h => by
  obtain ⟨c', L', rfl, h2, h3⟩ := h
  exact ⟨c', L' ++ [c], rfl, h2, EXL.snoc hx h3⟩
theorem EXL.len {S : Nat → Prop} {w : World} : ∀ {xs : List Ex} {L : List (List Value)}, EXL S w xs L → L.length = xs.length
 | [], L, h => by obtain rfl : L = [] := h; rfl
 | e :: xs, L, h => by
  obtain ⟨c', L', rfl, h2, h3⟩ := h
  simp [EXL.len h3]
theorem EX.cells {S : Nat → Prop} {w : World} {x : Ex} {cs : List Value} (h : EX S w x cs) : cs.length = 5 ∧ ∀ u ∈ cs, u.oneCell' = true := by
 cases x with
 | mk k nm n xs =>
  obtain ⟨av, L, rfl, ⟨⟨a, c, rfl, _⟩, _⟩, _⟩ := h
  refine ⟨rfl, fun u hu => ?_⟩
  simp only [List.mem_cons, List.not_mem_nil, or_false] at hu
  rcases hu with rfl | rfl | rfl | rfl | rfl <;> rfl
end Go.Sx
namespace Go.Proofs.YtcfbigmjjpknfaaGreatDoor
open Go Go.Sx Go.Pl Go.RowKit Go.Lg
theorem Jr {ts : List Tok} {i : Nat} {t : Tok} (h : ts[i]? = some t) : kindAt ts i = t.kind := by rw [kindAt, h]
theorem Kz {ts : List Tok} {i : Nat} (h : ¬ i < ts.length) : kindAt ts i = 0 := by rw [kindAt, List.getElem?_eq_none (by omega)]
theorem KD {ts : List Tok} {i : Nat} {t : Tok} (h : ts[i]? = some t) (s : ByteArray) : isAt ts i s = (decide (t.kind = 3) && decide (t.text = s)) := by rw [isAt, h]
theorem QaF {ts : List Tok} {i : Nat} {t : Tok} (h : ts[i]? = some t) : (ts.map tcells).getD ((i : Int)).toNat [] = tcells t := by
 rw [Int.toNat_natCast, List.getD_eq_getElem?_getD, List.getElem?_map, h]; rfl
structure PS (ts : List Tok) (w : World) (pb : Nat) (lv : Value) (i : Nat) (e : Int) (m : Nat) : Prop where
 blk : Blk w pb 86 #[lv, .int .i64 i, .int .i64 e, .int .i64 m]
 rows : RowsV w lv 4 (ts.map tcells)
 ne : lv.ownBlock ≠ some pb
 le : ts.length ≤ 65536
theorem PS.ext {ts : List Tok} {w w' : World} {pb : Nat} {lv : Value} {i : Nat} {e : Int} {m : Nat} (h : PS ts w pb lv i e m) (hE : Ext w w') : PS ts w' pb lv i e m := ⟨h.blk.ext hE, h.rows.ext hE, h.ne, h.le⟩
theorem pKind (ts : List Tok) (pb : Nat) (lv : Value) (i : Nat) (e : Int) (m : Nat) (w : World) (hP : PS ts w pb lv i e m) :
  Calls Tryz.prog 84 #[.pointer (some ⟨pb, 0, none⟩)] w (RetX w fun r _ => r = .int .i64 (kindAt ts i)) := by
 obtain ⟨hB, hl, hne, hle⟩ := hP
 refine QL Tryz.func84 rfl rfl (Qc (Qb [0] rfl (Qk rfl rfl (Qd (Qa (Qc (Qc (Qx QK [0,1,2,3,4,5,6,7,8,9] (by kernel_rfl) ?_))))))))
 intro w1 hd _
 replace hB := hB.ext hd
 replace hl := hl.ext hd
 refine mvV rfl rfl (QM rfl rfl (Qz rfl rfl JV (Vw rfl (ldB rfl na3) ?_)))
 refine mvV rfl rfl (QM rfl rfl (Qz rfl rfl KH (Vw rfl (ldB rfl na83) ?_)))
 refine Vw rfl (QaT rfl QaD hl) (Qy rfl rfl rfl (Qd (Qa ?_)))
 rw [List.length_map]
 refine Qo rfl ?_ ?_
 ·intro hc
  simp at hc
  obtain ⟨t, ht⟩ : ∃ t, ts[i]? = some t := ⟨_, List.getElem?_eq_getElem hc⟩
  refine Qc (Qx QK [0,1,2,3,4,5,6,7,8,9,10,11] (by kernel_rfl) ?_)
  intro w2 hd2 _
  replace hd := hd.trans hd2
  replace hB := hB.ext hd2
  replace hl := hl.ext hd2
  refine mvV rfl rfl (QM rfl rfl (Qz rfl rfl KH (Vw rfl (ldB rfl na83) ?_)))
  refine mvV rfl rfl (QM rfl rfl (Qz rfl rfl JV (Vw rfl (ldB rfl na3) ?_)))
  refine Vw rfl (KU rfl rfl QaD hl (by omega) (by rw [List.length_map]; omega)) (Vw rfl (fadE rfl fa130_0 hl (by omega) (by rw [List.length_map]; omega)) (Vw rfl (ldF rfl na3 (by rw [QaF ht]; rfl) hl (Ext.refl _) (by omega) (by rw [List.length_map]; omega)) (Qk rfl rfl (Qd (Qa (Qq (Qp (Qj rfl rfl ?_))))))))
  exact ⟨hd, by rw [Jr ht]⟩
 ·intro hc
  simp at hc
  refine Qe (Qa (Qc (Qb [0] rfl (Qk rfl rfl (Qd (Qa (Qq (Qj rfl rfl ?_))))))))
  exact ⟨hd, by rw [Kz (by omega)]⟩
theorem pAt (ts : List Tok) (pb : Nat) (lv : Value) (i : Nat) (e : Int) (m : Nat) (w : World) (hP : PS ts w pb lv i e m) :
  Calls Tryz.prog 45 #[.pointer (some ⟨pb, 0, none⟩)] w (RetX w fun r _ => ∃ z, r = .int .i64 z) := by
 obtain ⟨hB, hl, hne, hle⟩ := hP
 refine QL Tryz.func45 rfl rfl (Qc (Qb [0] rfl (Qk rfl rfl (Qd (Qa (Qc (Qc (Qx QK [0,1,2,3,4,5,6,7,8,9] (by kernel_rfl) ?_))))))))
 intro w1 hd _
 replace hB := hB.ext hd
 replace hl := hl.ext hd
 refine mvV rfl rfl (QM rfl rfl (Qz rfl rfl JV (Vw rfl (ldB rfl na3) ?_)))
 refine mvV rfl rfl (QM rfl rfl (Qz rfl rfl KH (Vw rfl (ldB rfl na83) ?_)))
 refine Vw rfl (QaT rfl QaD hl) (Qy rfl rfl rfl (Qd (Qa ?_)))
 rw [List.length_map]
 refine Qo rfl ?_ ?_
 ·intro hc
  simp at hc
  obtain ⟨t, ht⟩ : ∃ t, ts[i]? = some t := ⟨_, List.getElem?_eq_getElem hc⟩
  refine Qc (Qx QK [0,1,2,3,4,5,6,7,8,9,10,11] (by kernel_rfl) ?_)
  intro w2 hd2 _
  replace hd := hd.trans hd2
  replace hB := hB.ext hd2
  replace hl := hl.ext hd2
  refine mvV rfl rfl (QM rfl rfl (Qz rfl rfl KH (Vw rfl (ldB rfl na83) ?_)))
  refine mvV rfl rfl (QM rfl rfl (Qz rfl rfl JV (Vw rfl (ldB rfl na3) ?_)))
  refine Vw rfl (KU rfl rfl QaD hl (by omega) (by rw [List.length_map]; omega)) (Vw rfl (fadE rfl fa130_3 hl (by omega) (by rw [List.length_map]; omega)) (Vw rfl (ldF rfl na3 (by rw [QaF ht]; rfl) hl (Ext.refl _) (by omega) (by rw [List.length_map]; omega)) (Qk rfl rfl (Qd (Qa (Qq (Qp (Qj rfl rfl ?_))))))))
  exact ⟨hd, _, rfl⟩
 ·intro hc
  simp at hc
  refine Qe (Qa (Qc (Qb [0,1,2,3,4] rfl (mvV rfl rfl (QM rfl rfl (Qz rfl rfl fa86_2 (Vw rfl (ldB rfl na3) ?_)))))))
  refine Qk rfl rfl (Qd (Qa (Qq (Qj rfl rfl ?_))))
  exact ⟨hd, _, rfl⟩
set_option maxRecDepth 10000 in
theorem pIs (ts : List Tok) (pb : Nat) (lv : Value) (i : Nat) (e : Int) (m : Nat) (s : ByteArray) (w : World) (hP : PS ts w pb lv i e m) :
  Calls Tryz.prog 83 #[.pointer (some ⟨pb, 0, none⟩), .string s] w (RetG [pb] w fun r w' => r = .bool (isAt ts i s) ∧ PS ts w' pb lv (if isAt ts i s = true then i + 1 else i) e m) := by
 refine QD Tryz.func83 rfl rfl (Qc (Qb [0] rfl (Qk rfl rfl (Qd (Qa (Qc (Qc ?_)))))))
 have hE := Ext.refl w
 by_cases hk : kindAt ts i = 3
 ·have hi : i < ts.length := Classical.byContradiction fun h => by rw [Kz h] at hk; cases hk
  obtain ⟨t, ht⟩ : ∃ t, ts[i]? = some t := ⟨_, List.getElem?_eq_getElem hi⟩
  have hle := hP.le
  refine Qx QK [0,1,2,3,4,5,6,7,8,9,10,11,12,13,14,15,16,17] (by kernel_rfl) ?_
  intro w1 hd _
  replace hE := hE.trans hd
  replace hP := hP.ext hd
  refine mvV rfl rfl (C rfl wu rfl rfl Tryz.call84 (pKind ts pb lv i e m _ hP) ?_)
  rintro _ w2 hE2 rfl
  replace hE := hE.trans hE2
  replace hP := hP.ext hE2
  have hB := hP.blk
  have hl := hP.rows
  refine QU rfl rfl rfl (mvV rfl rfl (KB 8 true rfl (by simp [hk]) (Vg rfl rfl rfl (mv rfl) (Vg rfl rfl rfl (nchk rfl) (Vg rfl rfl rfl (fad rfl KH) (Vg rfl rfl rfl (ldB rfl na83) ?_))))))
  refine Vg rfl rfl rfl (mv rfl) (Vg rfl rfl rfl (nchk rfl) (Vg rfl rfl rfl (fad rfl JV) (Vg rfl rfl rfl (ldB rfl na3) ?_)))
  refine Vg rfl rfl rfl (KU rfl rfl QaD hl (by omega) (by rw [List.length_map]; omega)) (Vg rfl rfl rfl (fadE rfl XI hl (by omega) (by rw [List.length_map]; omega)) (Vg rfl rfl rfl (ldF rfl na9 (by rw [QaF ht]; rfl) hl (Ext.refl _) (by omega) (by rw [List.length_map]; omega)) (Vg rfl rfl rfl (mv rfl) (Vg rfl rfl rfl (eqlT rfl rfl) (pkV rfl rfl rfl (Qd (Qa ?_)))))))
  have hk' : t.kind = 3 := by rw [← Jr ht]; exact hk
  have hia : isAt ts i s = decide (t.text = s) := by rw [KD ht, hk']; simp
  rw [hia]
  refine Qo rfl ?_ ?_
  ·intro hc
   refine Qc (Qb [0,1,2,3,4,5,6,7] rfl (mvV rfl rfl (QM rfl rfl (Qz rfl rfl JV (Vw rfl (ldB rfl na3) ?_)))))
   refine Qw rfl rfl rfl (QM rfl rfl (Qz rfl rfl JV (STB (vs := [.int .i64 (i + 1)]) (cs' := [lv, .int .i64 (i + 1), .int .i64 e, .int .i64 m]) rfl wu rfl rfl rfl sv3 nofun (by assumption) (by first | exact oc2 | exact oc3 | exact oc5 | (simp [Value.oneCell']; done)) rfl rfl rfl ?_)))
   intro w5 hg5 hX5 hB5
   refine Qd (Qa (Qc (Qb [0] rfl (Qk rfl rfl (Qd (Qa (Qq (Qp ?_))))))))
   rw [hc]
   refine Qj rfl rfl ?_
   exact ⟨Gr.trans (Gr.of_ext hE) (Gr.of_grown hg5 (by simp)), rfl, hB5, hl.kept hg5 (fun k hk => by obtain rfl := Option.some.inj hk; exact hP.ne), hP.ne, hP.le⟩
  ·intro hc
   refine Qe (Qa (Qc (Qb [0] rfl (Qk rfl rfl (Qd (Qa (Qq ?_)))))))
   rw [hc]
   refine Qj rfl rfl ?_
   exact ⟨Gr.of_ext hE, rfl, hP⟩
 ·have hia : isAt ts i s = false := by
   rw [isAt]
   cases ht : ts[i]? with
   | none => rfl
   | some t =>
    have : t.kind ≠ 3 := fun h => hk (by rw [Jr ht, h])
    simp [this]
  refine Qx QK [0,1,2,3,4,5,6,7,8,9,10,11,12,13,14,15,16,17] (by kernel_rfl) ?_
  intro w1 hd _
  replace hE := hE.trans hd
  replace hP := hP.ext hd
  refine mvV rfl rfl (C rfl wu rfl rfl Tryz.call84 (pKind ts pb lv i e m _ hP) ?_)
  rintro _ w2 hE2 rfl
  replace hE := hE.trans hE2
  replace hP := hP.ext hE2
  refine QU rfl rfl rfl (mvV rfl rfl (KB 8 false rfl (by simp [hk]) (SK rfl rfl rfl rfl rfl (SK rfl rfl rfl rfl rfl (SK rfl rfl rfl rfl rfl (SK rfl rfl rfl rfl rfl (SK rfl rfl rfl rfl rfl (SK rfl rfl rfl rfl rfl (SK rfl rfl rfl rfl rfl ?_)))))))))
  refine SK rfl rfl rfl rfl rfl (SK rfl rfl rfl rfl rfl (SK rfl rfl rfl rfl rfl (SK rfl rfl rfl rfl rfl (SK rfl rfl rfl rfl rfl (SK rfl rfl rfl rfl rfl (pkV rfl rfl rfl (Qd (Qa (Qn rfl (rfl) (Qe (Qa (Qc ?_))))))))))))
  refine Qb [0] rfl (Qk rfl rfl (Qd (Qa (Qq ?_))))
  rw [hia]
  refine Qj rfl rfl ?_
  exact ⟨Gr.of_ext hE, rfl, hP⟩
theorem pMust (ts : List Tok) (pb : Nat) (lv : Value) (i : Nat) (e : Int) (m : Nat) (s : ByteArray) (w : World) (hP : PS ts w pb lv i e m) (hi : isAt ts i s = true) :
  Calls Tryz.prog 86 #[.pointer (some ⟨pb, 0, none⟩), .string s] w (RetG [pb] w fun r w' => r = .tuple #[] ∧ PS ts w' pb lv (i + 1) e m) := by
 refine QD Tryz.func86 rfl rfl (Qc (Qb [0,1,2,3] rfl (mvV rfl rfl (mvV rfl rfl (CG rfl wu rfl rfl Tryz.call83 (pIs ts pb lv i e m s _ hP) nofun ?_)))))
 rintro _ w2 hG2 ⟨rfl, hP2⟩
 rw [hi, if_pos rfl] at hP2
 rw [hi]
 refine ZC rfl rfl (Qd (Qa (Qn rfl (rfl) (Qe (QX rfl ?_)))))
 exact ⟨hG2, rfl, hP2⟩
end Go.Proofs.YtcfbigmjjpknfaaGreatDoor
namespace Go.Proofs.YtcfbigmjjpknfaaGreatDoor
open Go Go.Sx Go.Pl Go.RowKit Go.Lg
theorem ex_leaf {S : Nat → Prop} {w : World} (k : Int) (nm : ByteArray) (n : Int) : EX S w (.mk k nm n []) [.int .i64 k, .string nm, .int .i64 n, .slice none 0 0, .slice none 0 0] :=
 ⟨.slice none 0 0, [], rfl, RowsV.nil _ _, fun q hq => (by cases hq), rfl⟩
theorem PS.gr {ts : List Tok} {w w' : World} {pb : Nat} {lv : Value} {i : Nat} {e : Int} {m : Nat} {row : Option Nat} (h : PS ts w pb lv i e m) (hg : w.grownBy w' row) (hr : ∀ k, row = some k → k ≠ pb ∧ lv.ownBlock ≠ some k) : PS ts w' pb lv i e m :=
 ⟨h.blk.grown hg (fun e => (hr pb e).1 rfl), h.rows.kept hg fun k hk => (hr k hk).2, h.ne, h.le⟩
set_option maxRecDepth 20000 in
theorem pExpr (ts : List Tok) (lv : Value) (e : Int) (pb : Nat) : ∀ (f i depth m : Nat) (x : Ex) (j m' : Nat) (w : World), Lg.expr ts f i depth m = some (x, j, m') → PS ts w pb lv i e m → depth ≤ 100 → f ≤ 65536 →
  Calls Tryz.prog 43 #[.pointer (some ⟨pb, 0, none⟩), .int .i64 depth] w (RetG [pb] w fun r w' => ∃ cs, r = .agg cs.toArray ∧ EX (fun q => w.heap.size ≤ q) w' x cs ∧ PS ts w' pb lv j e m') := by
 intro f
 induction f using Nat.strongRecOn with
 | _ f ih =>
 intro i depth m x j m' w hx hP hdp hff
 obtain ⟨f, rfl⟩ : ∃ g, f = g + 1 := by
  cases f with
  | zero => rw [Lg.expr] at hx; cases hx
  | succ g => exact ⟨g, rfl⟩
 rw [Lg.expr] at hx
 obtain ⟨t, ht⟩ : ∃ t, ts[i]? = some t := by
  cases ht : ts[i]? with
  | none => rw [ht] at hx; cases hx
  | some t => exact ⟨t, rfl⟩
 rw [ht] at hx
 dsimp only at hx
 have hdm : ¬ ((Nat.blt 32 depth || Nat.ble 1024 m) = true) := fun h => by rw [if_pos h] at hx; cases hx
 rw [if_neg hdm] at hx
 have hd32 : depth ≤ 32 ∧ m < 1024 := by
  simp only [Bool.or_eq_true, not_or] at hdm
  simp at hdm
  omega
 have hk12 : t.kind = 2 ∨ t.kind = 1 := by
  by_cases h2 : t.kind = 2
  ·exact .inl h2
  ·by_cases h1 : t.kind = 1
   ·exact .inr h1
   ·rw [if_neg (by simpa using h2), if_neg (by simpa using h1)] at hx; cases hx
 have hk3 : t.kind ≠ 3 := by omega
 have hil : i < ts.length := (List.getElem?_eq_some_iff.1 ht).1
 have hpb := hP.blk.lt
 obtain ⟨qv, hqv, hqvl⟩ := hP.rows.lt (by rw [List.length_map]; omega) (by decide)
 have hlv : ∀ k, lv.ownBlock = some k → k < w.heap.size := fun k hk => by rw [hqv] at hk; obtain rfl := Option.some.inj hk; exact hqvl
 refine QD Tryz.func43 rfl rfl (Qc (Qb [0] rfl (AL rfl wu rfl zv46 ?_)))
 intro rb w1 hE hR hrb
 refine Qd (Qa (Qc ?_))
 replace hP := hP.ext hE
 have hB := hP.blk
 have hle := hP.le
 refine Qx QK [0,1,2,3,4,5,6,7] (by kernel_rfl) ?_
 intro w2 hd _
 replace hE := hE.trans hd
 replace hR := hR.ext hd
 replace hP := hP.ext hd
 replace hB := hB.ext hd
 refine mvV rfl rfl (QM rfl rfl (Qz rfl rfl JV (Vw rfl (ldB rfl na3) ?_)))
 refine mvV rfl rfl (C rfl wu rfl rfl Tryz.call45 (pAt ts pb lv i e m _ hP) ?_)
 rintro _ w3 hE3 ⟨z, rfl⟩
 replace hE := hE.trans hE3
 replace hR := hR.ext hE3
 replace hP := hP.ext hE3
 replace hB := hB.ext hE3
 refine Qk rfl rfl (Qk rfl rfl (Qd (Qa (Qc ?_))))
 have hz3 := hE.size
 have hrl : rb < w3.heap.size := hR.lt
 refine Qb [0,1,2] rfl (mvV rfl rfl (CG rfl wu rfl rfl Tryz.call83 (pIs ts pb lv i e m _ _ hP) nofun ?_))
 rintro _ w4 hG4 ⟨rfl, hP4⟩
 rw [KD ht, decide_eq_false hk3, Bool.false_and, if_neg (by simp)] at hP4
 rw [KD ht, decide_eq_false hk3, Bool.false_and]
 refine Qk rfl rfl (Qd (Qa (Qc ?_)))
 replace hR := hR.gr hG4 (by simp; omega)
 have hz4 := hG4.size
 have hG : Gr [pb] w w4 := (Gr.of_ext hE).trans hG4
 clear hG4 hP hB hE
 have hB := hP4.blk
 refine Qb [0,1,2] rfl (mvV rfl rfl (C rfl wu rfl rfl Tryz.call84 (pKind ts pb lv i e m _ hP4) ?_))
 rintro _ w5 hE5 rfl
 replace hG := hG.trans (Gr.of_ext hE5)
 replace hR := hR.ext hE5
 replace hP4 := hP4.ext hE5
 replace hB := hB.ext hE5
 have hz5 := hE5.size
 refine Qk rfl rfl (Qd (Qa (Qc (Qc ?_))))
 rw [Jr ht]
 have hkk : (decide (t.kind ≠ 2) && decide (t.kind ≠ 1)) = false := by
  rcases hk12 with h | h <;> rw [h] <;> rfl
 refine Qb [0,1,2,3,4,5,6,7,8,9] rfl (mvV rfl rfl (ZC rfl rfl (mvV rfl rfl (KB 23 true rfl (rfl) (Vg rfl rfl rfl (mv rfl) (Vg rfl rfl rfl (neqI rfl rfl) (pkV rfl rfl rfl (mvV rfl rfl ?_))))))))
 refine AND (π1 := [7,8,9]) (π2 := []) (tc := 27) (tp := 30) rfl rfl rfl (by
   intro hg
   simp at hg
   refine Vg rfl rfl rfl (mv rfl) (Vg rfl rfl rfl (neqI rfl rfl) (pkV rfl rfl rfl ?_))
   exact Zx rfl) (by
   intro _
   refine SK rfl rfl rfl rfl rfl (SK rfl rfl rfl rfl rfl (pkV rfl rfl rfl ?_))
   exact Zx rfl) ?_
 refine Qd (Qa (Qn rfl ((by simpa using hkk)) (Qe (Qa (Qc (Qc (Qb [0,1,2,3,4,5,6,7,8] rfl (mvV rfl rfl (ZA rfl rfl rfl (mvV rfl rfl (KB 35 false rfl (by simp; omega) (Vg rfl rfl rfl (mv rfl) (Vg rfl rfl rfl (nchk rfl) ?_)))))))))))))
 refine Vg rfl rfl rfl (fad rfl fa86_3) (Vg rfl rfl rfl (ldB rfl na3) ?_)
 refine Vg rfl rfl rfl (KV rfl rfl) (pkV rfl rfl rfl (Qd (Qa (Qn rfl (by simp; omega) (Qe (Qa (Qc (Qb [0,1,2,3,4,5,6,7] rfl (mvV rfl rfl (QM rfl rfl (Qz rfl rfl fa86_3 (Vw rfl (ldB rfl na3) ?_))))))))))))
 refine Qw rfl rfl rfl (QM rfl rfl (Qz rfl rfl fa86_3 (STB (vs := [.int .i64 (m + 1)]) (cs' := [lv, .int .i64 i, .int .i64 e, .int .i64 (m + 1)]) rfl wu rfl rfl rfl sv3 nofun (by assumption) (by first | exact oc2 | exact oc3 | exact oc5 | (simp [Value.oneCell']; done)) rfl rfl rfl ?_)))
 intro w6 hg6 hX6 hB6
 refine Qd (Qa (Qc (Qc ?_)))
 replace hG := hG.grow hg6 (fun k hk => .inl (by rw [← Option.some.inj hk]; simp))
 replace hR := hR.grown hg6 (by intro h; have := Option.some.inj h; omega)
 have hl6 := hP4.rows.kept hg6 (fun k hk => by obtain rfl := Option.some.inj hk; exact hP4.ne)
 have hz6 := hg6.size
 have hne := hP4.ne
 refine Qb [0] rfl (mvV rfl rfl (Qd (Qa (Qn rfl (rfl) (Qe (Qa (Qc (Qb [0,1,2,3,4,5] rfl (mvV rfl rfl (mvV rfl rfl (Qw rfl rfl rfl (QM rfl rfl ?_))))))))))))
 refine Qz rfl rfl JV (STB (vs := [.int .i64 (i + 1)]) (cs' := [lv, .int .i64 (i + 1), .int .i64 e, .int .i64 (m + 1)]) rfl wu rfl rfl rfl sv3 nofun (by assumption) (by first | exact oc2 | exact oc3 | exact oc5 | (simp [Value.oneCell']; done)) rfl rfl rfl ?_)
 intro w7 hg7 hX7 hB7
 refine Qd (Qa (Qc ?_))
 replace hG := hG.grow hg7 (fun k hk => .inl (by rw [← Option.some.inj hk]; simp))
 replace hR := hR.grown hg7 (by intro h; have := Option.some.inj h; omega)
 have hl7 := hl6.kept hg7 (fun k hk => by obtain rfl := Option.some.inj hk; exact hne)
 have hz7 := hg7.size
 have hP7 : PS ts w7 pb lv (i + 1) e (m + 1) := ⟨hB7, hl7, hne, hle⟩
 clear hB6 hl6 hB hP4
 refine Qb [0,1,2,3,4,5,6,7,8] rfl (mvV rfl rfl (QM rfl rfl (Qz rfl rfl KH (Vw rfl (ldB rfl na83) ?_))))
 refine mvV rfl rfl (Vw rfl (KU rfl rfl QaD hl7 (by omega) (by rw [List.length_map]; omega)) (Vw rfl (ldV rfl ag130 hl7 (Ext.refl _) (by omega) (by rw [List.length_map]; omega)) ?_))
 rw [QaF ht]
 refine AL rfl wu rfl zv130 ?_
 intro tb w8 hE8 hT htb
 replace hG := hG.trans (Gr.of_ext hE8)
 replace hR := hR.ext hE8
 replace hP7 := hP7.ext hE8
 have hz8 := hE8.size
 refine STB (vs := tcells t) (cs' := tcells t) rfl wu rfl rfl rfl sv130 nofun hT (by intro u hu; simp [tcells] at hu; rcases hu with rfl | rfl | rfl | rfl <;> rfl) rfl rfl rfl ?_
 intro w9 hg9 hX9 hT9
 refine Qd (Qa (Qc (Qc ?_)))
 replace hG := hG.grow hg9 (fun k hk => .inr (by rw [← Option.some.inj hk]; omega))
 replace hR := hR.grown hg9 (by intro h; have := Option.some.inj h; omega)
 have hz9 := hg9.size
 replace hP7 := hP7.gr hg9 (fun k hk => by
  obtain rfl := Option.some.inj hk
  exact ⟨by omega, fun h => by have := hlv _ h; omega⟩)
 clear hl7 hB7 hE8 hg9 hX9 hX7 hX6 hg7 hg6
 have hkeepP : ∀ {wa wb : World} {k : Nat} {i' m1 : Nat}, PS ts wa pb lv i' e m1 → wa.grownBy wb (some k) → w.heap.size ≤ k → PS ts wb pb lv i' e m1 := fun {wa wb k i' m1} h hg hk => h.gr hg fun k' hk' => by
  obtain rfl := Option.some.inj hk'
  exact ⟨by omega, fun h2 => by have := hlv _ h2; omega⟩
 refine Qb [0,1] rfl (mvV rfl rfl (QU rfl rfl rfl (Qd (Qa ?_))))
 rcases hk12 with hk | hk
 ·rw [if_pos (by simpa using hk)] at hx
  simp only [Option.some.injEq, Prod.mk.injEq] at hx
  obtain ⟨rfl, rfl, rfl⟩ := hx
  refine QC rfl (by simpa using hk) (Qc (Qb [0,1,2,3] rfl (Qz rfl rfl fa130_2 (Vw rfl (ldB rfl na3) ?_))))
  refine Vw rfl (bld rfl (bd46_0_2 _ _ rfl rfl)) (STB (vs := [.int .i64 1, .string ⟨#[]⟩, .int .i64 t.n, .slice none 0 0, .slice none 0 0]) (cs' := [.int .i64 1, .string ⟨#[]⟩, .int .i64 t.n, .slice none 0 0, .slice none 0 0]) rfl wu rfl rfl rfl QdD nofun (by assumption) (by first | exact oc2 | exact oc3 | exact oc5 | (simp [Value.oneCell']; done)) rfl rfl rfl ?_)
  intro wa hga hXa hRa
  refine Qd (Qa (Qq (Qp (Zg rfl rfl XV hRa rfl ?_))))
  exact ⟨hG.grow hga (fun k hk => .inr (by rw [← Option.some.inj hk]; omega)), _, rfl, ex_leaf _ _ _, hkeepP hP7 hga (by omega)⟩
 ·rw [if_neg (by simp [hk]), if_pos (by simpa using hk)] at hx
  refine Qn rfl (by simp [hk]) (Qe (Qa (Qc (Qc (Qb [0,1,2] rfl (mvV rfl rfl (CG rfl wu rfl rfl Tryz.call83 (pIs ts pb lv (i + 1) e (m + 1) sgLP _ hP7) nofun ?_)))))))
  rintro _ wa hGa ⟨rfl, hPa⟩
  refine ZC rfl rfl (Qd (Qa ?_))
  have hza := hGa.size
  have hTa := hT9.gr hGa (by simp; omega)
  replace hR := hR.gr hGa (by simp; omega)
  replace hG := hG.trans hGa
  clear hGa hT9 hP7
  by_cases hlp : isAt ts (i + 1) sgLP = true
  ·rw [if_pos hlp] at hx hPa
   rw [hlp]
   refine Qn rfl (rfl) (Qe (Qa (Qc (Qb [0,1,2,3,4] rfl (Qz rfl rfl XI (Vw rfl (ldB rfl na9) ?_))))))
   refine Vw rfl (bld rfl (Qc2 _ _ rfl rfl)) (AL rfl wu rfl zv46 ?_)
   intro xb wb hEb hX hxb
   replace hG := hG.trans (Gr.of_ext hEb)
   replace hR := hR.ext hEb
   replace hPa := hPa.ext hEb
   have hzb := hEb.size
   refine STB (vs := [.int .i64 3, .string t.text, .int .i64 0, .slice none 0 0, .slice none 0 0]) (cs' := [.int .i64 3, .string t.text, .int .i64 0, .slice none 0 0, .slice none 0 0]) rfl wu rfl rfl rfl QdD nofun (by assumption) (by first | exact oc2 | exact oc3 | exact oc5 | (simp [Value.oneCell']; done)) rfl rfl rfl ?_
   intro wc hgc hXc hX
   refine Qd (Qa (Qc (Qf ?_)))
   replace hG := hG.grow hgc (fun k hk => .inr (by rw [← Option.some.inj hk]; omega))
   replace hR := hR.grown hgc (by intro h; have := Option.some.inj h; omega)
   replace hPa := hkeepP hPa hgc (by omega)
   have hzc := hgc.size
   cases ha : Lg.args ts f (i + 2) (depth + 1) (m + 1) [] with
   | none => rw [ha] at hx; cases hx
   | some r =>
   obtain ⟨xs, j2, m2⟩ := r
   rw [ha] at hx
   simp only [Option.some.injEq, Prod.mk.injEq] at hx
   obtain ⟨rfl, rfl, rfl⟩ := hx
   have hrx : rb < xb := by omega
   have hxw : w.heap.size ≤ xb := by omega
   refine Qv (fun p : Nat × Nat × Nat × List Ex × Value × List (List Value) => [(0, .pointer (some ⟨pb, 0, none⟩)), (1, .int .i64 depth), (4, .pointer (some ⟨rb, 0, none⟩)), (10, .pointer (some ⟨xb, 0, none⟩))])
    (fun p w' => Lg.args ts p.1 p.2.1 (depth + 1) p.2.2.1 p.2.2.2.1 = some (xs, j2, m2) ∧ p.1 ≤ f ∧ Gr [pb] w w' ∧ PS ts w' pb lv p.2.1 e p.2.2.1 ∧ xb < w'.heap.size ∧ Blk w' xb 46 #[.int .i64 3, .string t.text, .int .i64 0, .slice none 0 0, p.2.2.2.2.1] ∧
     Blk w' rb 46 #[.int .i64 0, .string ⟨#[]⟩, .int .i64 0, .slice none 0 0, .slice none 0 0] ∧ OwnV w.heap.size w' p.2.2.2.2.1 46 5 p.2.2.2.2.2 ∧ EXL (fun q => w.heap.size ≤ q ∧ q ≠ xb ∧ q ≠ rb ∧ p.2.2.2.2.1.ownBlock ≠ some q) w' p.2.2.2.1 p.2.2.2.2.2 ∧
     p.2.2.2.2.1.ownBlock ≠ some xb ∧ p.2.2.2.2.1.ownBlock ≠ some rb ∧ p.2.2.2.2.2.length + p.1 ≤ f)
    (fun p => p.1) (f, i + 2, m + 1, [], .slice none 0 0, []) ⟨rfl, rfl, rfl, rfl, trivial⟩
    ⟨ha, by omega, hG, hPa, hX.lt, hX, hR, OwnV.nil _ _ _ _, rfl, nofun, nofun, by simp⟩ ?_
   clear hG hPa hX hR hgc hXc hEb hza hzb hzc
   rintro ⟨k, i1, m1, acc, av, L⟩ w1 ⟨ha1, hkf, hG, hP, hxl, hX, hR, ho, hL, hax, har, hlk⟩
   dsimp only at ha1 hkf hP hX ho hL hax har hlk
   have hz1 := hG.size
   obtain ⟨k, rfl⟩ : ∃ q, k = q + 1 := by
    cases k with
    | zero => rw [Lg.args] at ha1; cases ha1
    | succ q => exact ⟨q, rfl⟩
   rw [Lg.args] at ha1
   try dsimp only
   refine Qc (Qc (Qb [0,1,2] rfl (mvV rfl rfl (CG rfl wu rfl rfl Tryz.call83 (pIs ts pb lv i1 e m1 sgRP _ hP) nofun ?_))))
   rintro _ w2 hG2 ⟨rfl, hP2⟩
   refine ZC rfl rfl (Qd (Qa ?_))
   have hz2 := hG2.size
   replace hX := hX.gr hG2 (by simp; omega)
   replace hR := hR.gr hG2 (by simp; omega)
   replace ho := ho.gr hG2 (fun q hq => by have := (ho.lt q hq).1; simp; omega)
   replace hL := EXL.gr hG2 (S' := fun q => w.heap.size ≤ q ∧ q ≠ xb ∧ q ≠ rb ∧ av.ownBlock ≠ some q) (fun q _ hs => ⟨by simp; omega, hs⟩) _ _ hL
   replace hG := hG.trans hG2
   clear hG2 hP
   by_cases hrp : isAt ts i1 sgRP = true
   ·rw [if_pos hrp] at ha1 hP2
    simp only [Option.some.injEq, Prod.mk.injEq] at ha1
    obtain ⟨rfl, rfl, rfl⟩ := ha1
    rw [hrp]
    refine Qn rfl (rfl) (Qt (Ql (Qm (Qh (Qa (Qc ?_))))))
    have hav1 : av.oneCell' = true := by obtain ⟨⟨a, c, rfl, _⟩, _⟩ := OwnV.read ho; rfl
    refine Qb [0,1] rfl (Vw rfl (ldA rfl XV) ?_)
    refine STB (vs := [.int .i64 3, .string t.text, .int .i64 0, .slice none 0 0, av]) (cs' := [.int .i64 3, .string t.text, .int .i64 0, .slice none 0 0, av]) rfl wu rfl rfl rfl QdD nofun hR (by intro u hu; simp only [List.mem_cons, List.not_mem_nil, or_false] at hu; rcases hu with rfl | rfl | rfl | rfl | hu <;> first | rfl | (rw [hu]; exact hav1)) rfl rfl rfl ?_
    intro w3 hg3 hX3 hR3
    refine Qd (Qa (Qq (Zg rfl rfl XV hR3 rfl ?_)))
    refine ⟨hG.grow hg3 (fun k hk => .inr (by rw [← Option.some.inj hk]; omega)), _, rfl, ⟨av, L, rfl, (OwnV.read ho).kept hg3 (fun k hk => by obtain rfl := Option.some.inj hk; exact har), fun q hq => ⟨(ho.lt q hq).1, ?_⟩, ?_⟩, hkeepP hP2 hg3 (by omega)⟩
    ·have := (ho.lt q hq).2; have := hg3.size; omega
    ·exact EXL.gr (X := [rb]) (Gr.of_grown hg3 (fun k hk => by rw [← Option.some.inj hk]; simp)) (fun q _ hs => ⟨by simp; exact hs.2.2.1, hs.1⟩) _ _ hL
   ·rw [if_neg hrp] at ha1 hP2
    rw [Bool.not_eq_true] at hrp
    rw [hrp]
    have hxpb : xb ∉ [pb] := by simp; omega
    have hlen := EXL.len hL
    refine QC rfl (rfl) (Qe (Qa (Qf (Qc (Qc (Qb [0,1,2,3] rfl (Qz rfl rfl Jv (Vw rfl (ldB rfl na44) ?_))))))))
    refine Vw rfl (QaT rfl QbO (OwnV.read ho)) (ZA rfl rfl rfl (Qd (Qa ?_)))
    refine XO (fun _ : Nat => [(0, .pointer (some ⟨pb, 0, none⟩)), (1, .int .i64 depth), (4, .pointer (some ⟨rb, 0, none⟩)), (10, .pointer (some ⟨xb, 0, none⟩))])
     (fun q w' => PS ts w' pb lv q e m1 ∧ Gr [pb] w2 w' ∧ ∃ y j3 m3, Lg.expr ts k q (depth + 1) m1 = some (y, j3, m3) ∧ Lg.args ts k j3 (depth + 1) m3 (acc ++ [y]) = some (xs, j2, m2)) ?_ ?_
    ·skip
     refine Qo rfl ?_ ?_
     ·intro hc
      simp at hc
      have hne : acc.isEmpty = false := by
       cases acc with
       | nil => simp [hlen] at hc
       | cons _ _ => rfl
      rw [hne, if_neg (by simp)] at ha1
      by_cases hcm : isAt ts i1 sgCM = true
      ·rw [if_pos hcm] at ha1
       cases hx1 : Lg.expr ts k (i1 + 1) (depth + 1) m1 with
       | none => rw [hx1] at ha1; cases ha1
       | some r =>
        obtain ⟨y, j3, m3⟩ := r
        rw [hx1] at ha1
        refine Qb [0,1] rfl (mvV rfl rfl (CG rfl wu rfl rfl Tryz.call86 (pMust ts pb lv i1 e m1 sgCM _ hP2 hcm) nofun ?_))
        rintro _ w3 hG3 ⟨rfl, hP3⟩
        exact Qd (Zb (i1 + 1) ⟨rfl, rfl, rfl, rfl, trivial⟩ ⟨hP3, hG3, y, j3, m3, hx1, ha1⟩)
      ·rw [if_neg hcm] at ha1; cases ha1
     ·intro hc
      simp at hc
      have hne : acc.isEmpty = true := by
       cases acc with
       | nil => rfl
       | cons _ _ => simp [hc] at hlen
      rw [hne, if_pos rfl] at ha1
      cases hx1 : Lg.expr ts k i1 (depth + 1) m1 with
      | none => rw [hx1] at ha1; cases ha1
      | some r =>
       obtain ⟨y, j3, m3⟩ := r
       rw [hx1] at ha1
       refine Qe ?_
       exact Zb i1 ⟨rfl, rfl, rfl, rfl, trivial⟩ ⟨hP2, Gr.refl _ _, y, j3, m3, hx1, ha1⟩
    ·rintro q w3 ⟨hP3, hG3, y, j3, m3, hx1, ha3⟩
     have hz3 := hG3.size
     replace hX := hX.gr hG3 hxpb
     replace hR := hR.gr hG3 (by simp; omega)
     replace ho := ho.gr hG3 (fun q hq => by have := (ho.lt q hq).1; simp; omega)
     replace hL := EXL.gr hG3 (S' := fun q => w.heap.size ≤ q ∧ q ≠ xb ∧ q ≠ rb ∧ av.ownBlock ≠ some q) (fun q _ hs => ⟨by simp; omega, hs⟩) _ _ hL
     replace hG := hG.trans hG3
     clear hG3 hP2 ha1
     refine wc_drawX [pb] QK [0,1,2,3,4,5,6,7,8,9] (by kernel_rfl) ?_
     intro w4 hd4 _
     have hz4 := hd4.size
     replace hX := hX.ext hd4
     replace hR := hR.ext hd4
     replace ho := ho.ext hd4
     replace hL := hL.ext hd4
     replace hP3 := hP3.ext hd4
     replace hG := hG.trans (Gr.of_ext hd4)
     refine VX rfl wu rfl rfl (ym (fad rfl Jv) rfl) (VX rfl wu rfl rfl (yB rfl na44 hX hxpb) (VX rfl wu rfl rfl (ym (mv rfl) rfl) (VX rfl wu rfl rfl (ym (mv rfl) rfl) (VX rfl wu rfl rfl (ym (addI rfl rfl) rfl) (CXG rfl wu rfl rfl Tryz.call43 (ih k (by omega) q (depth + 1) m1 y j3 m3 _ hx1 hP3 (by omega) (by omega)) ?_)))))
     rintro _ w5 hG5 ⟨cs, rfl, hx5, hP5⟩
     obtain ⟨hcl, hc1⟩ := hx5.cells
     have hz5 := hG5.size
     replace hX := hX.gr hG5 hxpb
     replace hR := hR.gr hG5 (by simp; omega)
     have hblt := fun q (hq : av.ownBlock = some q) => (ho.lt q hq).2
     replace ho := ho.gr hG5 (fun q hq => by have := (ho.lt q hq).1; simp; omega)
     replace hL := EXL.gr hG5 (S' := fun q => w.heap.size ≤ q ∧ q ≠ xb ∧ q ≠ rb ∧ av.ownBlock ≠ some q) (fun q _ hs => ⟨by simp; omega, hs⟩) _ _ hL
     replace hG := hG.trans hG5
     have hx6 : EX (fun q => w.heap.size ≤ q ∧ q ≠ xb ∧ q ≠ rb ∧ av.ownBlock ≠ some q) w5 y cs := EX.gr (X := []) (Gr.refl _ _) (fun q _ hs => ⟨by simp, by omega, by omega, by omega, fun h => by have := hblt q h; omega⟩) _ _ hx5
     clear hG5 hP3 hx5 hd4
     refine wx_of_wr rfl (BSV (r := cs) rfl wu rfl rfl QbO hcl (by decide) (by decide) ?_)
     intro tv w6 hE6 htv
     have hz6 := hE6.size
     replace hX := hX.ext hE6
     replace hR := hR.ext hE6
     replace ho := ho.ext hE6
     replace hL := hL.ext hE6
     replace hx6 := hx6.ext hE6
     replace hP5 := hP5.ext hE6
     replace hG := hG.trans (Gr.of_ext hE6)
     refine APV (r := cs) rfl wu rfl rfl rfl QbO rfl (by decide) (by intro _ h2; exact absurd h2 (by decide +kernel)) ?_ (ho := ho) (hB := by omega) (h1c := hc1) (hs := htv) (hE := Ext.refl _) (hlen := by omega) (hlen1 := by omega)
     intro av2 w7 hg7 hX7 ho7 hb7
     have hz7 := hg7.size
     have hbk : ∀ q, av.ownBlock = some q → w.heap.size ≤ q ∧ q < w6.heap.size := fun q hq => ⟨(ho.lt q hq).1, (ho.lt q hq).2⟩
     replace hX := hX.grown hg7 hax
     replace hR := hR.grown hg7 har
     replace hP5 := hP5.gr hg7 (fun q hq => ⟨by have := hbk q hq; omega, fun h => by have := hlv q h; have := hbk q hq; omega⟩)
     replace hG := hG.grow hg7 (fun q hq => .inr (hbk q hq).1)
     have hS : ∀ q, q < w6.heap.size → (w.heap.size ≤ q ∧ q ≠ xb ∧ q ≠ rb ∧ av.ownBlock ≠ some q) → q ∉ av.ownBlock.toList ∧ (w.heap.size ≤ q ∧ q ≠ xb ∧ q ≠ rb ∧ av2.ownBlock ≠ some q) := fun q hq hs => ⟨by simpa using hs.2.2.2, hs.1, hs.2.1, hs.2.2.1, by
      rcases hb7 with h | h
      ·rw [h]; exact hs.2.2.2
      ·rw [h]; intro e; have := Option.some.inj e; omega⟩
     have hL7 := EXL.gr (X := av.ownBlock.toList) (Gr.of_grown hg7 (fun q hq => by have hq : av.ownBlock = some q := hq; simp [hq])) hS _ _ hL
     have hx7 := EX.gr (X := av.ownBlock.toList) (Gr.of_grown hg7 (fun q hq => by have hq : av.ownBlock = some q := hq; simp [hq])) hS _ _ hx6
     have hL8 := EXL.snoc hx7 hL7
     have ha2x : av2.ownBlock ≠ some xb := by
      rcases hb7 with h | h
      ·rw [h]; exact hax
      ·rw [h]; intro e; have := Option.some.inj e; omega
     have ha2r : av2.ownBlock ≠ some rb := by
      rcases hb7 with h | h
      ·rw [h]; exact har
      ·rw [h]; intro e; have := Option.some.inj e; omega
     have hav2 : av2.oneCell' = true := by obtain ⟨⟨a, c, rfl, _⟩, _⟩ := OwnV.read ho7; rfl
     refine Qz rfl rfl Jv (STB (vs := [av2]) (cs' := [.int .i64 3, .string t.text, .int .i64 0, .slice none 0 0, av2]) rfl wu rfl rfl (QB hav2) sv44 (by intro h; kernel_rfl) hX (by intro u hu; simp only [List.mem_cons, List.not_mem_nil, or_false] at hu; rw [hu]; exact hav2) rfl rfl rfl ?_)
     intro w8 hg8 hX8 hX9
     have hz8 := hg8.size
     refine Qd (Qg (Qi (k, j3, m3, acc ++ [y], av2, L ++ [cs]) ⟨rfl, rfl, rfl, rfl, trivial⟩ ⟨ha3, by dsimp only; omega, hG.grow hg8 (fun q hq => .inr (by rw [← Option.some.inj hq]; omega)), hkeepP hP5 hg8 (by omega), by omega, hX9, hR.grown hg8 (by intro h; have := Option.some.inj h; omega), ho7.keptN hg8 (fun q hq => by obtain rfl := Option.some.inj hq; exact ha2x), ?_, ha2x, ha2r, by dsimp only; rw [List.length_append]; simp; omega⟩ (by dsimp only; omega)))
     exact EXL.gr (X := [xb]) (Gr.of_grown hg8 (fun q hq => by rw [← Option.some.inj hq]; simp)) (fun q _ hs => ⟨by simp; exact hs.2.1, hs⟩) _ _ hL8
  ·rw [if_neg hlp] at hx hPa
   simp only [Option.some.injEq, Prod.mk.injEq] at hx
   obtain ⟨rfl, rfl, rfl⟩ := hx
   rw [Bool.not_eq_true] at hlp
   rw [hlp]
   refine QC rfl (rfl) (Qc (Qb [0,1,2,3] rfl (Qz rfl rfl XI (Vw rfl (ldB rfl na9) ?_))))
   refine Vw rfl (bld rfl (Qc2 _ _ rfl rfl)) (STB (vs := [.int .i64 4, .string t.text, .int .i64 0, .slice none 0 0, .slice none 0 0]) (cs' := [.int .i64 4, .string t.text, .int .i64 0, .slice none 0 0, .slice none 0 0]) rfl wu rfl rfl rfl QdD nofun (by assumption) (by first | exact oc2 | exact oc3 | exact oc5 | (simp [Value.oneCell']; done)) rfl rfl rfl ?_)
   intro wb hgb hXb hRb
   refine Qd (Qa (Qq (Qp (Zg rfl rfl XV hRb rfl ?_))))
   exact ⟨hG.grow hgb (fun k hk => .inr (by rw [← Option.some.inj hk]; omega)), _, rfl, ex_leaf _ _ _, hkeepP hPa hgb (by omega)⟩
end Go.Proofs.YtcfbigmjjpknfaaGreatDoor
namespace Go.Sx
open Go Go.RowKit Go.Pl
theorem ZG (a : Act) (ds : List Deferred) (d : Option Tmp) (v : Value) : ({ a with defers := ds } : Act).put d v = { a.put d v with defers := ds } := by
 cases d <;> rfl
theorem QcI (a : Act) (d : Option Tmp) (v : Value) : (a.put d v).defers = a.defers := by cases d <;> rfl
section
variable {P : Program} {ops : Array Oper} {dr : Bool} {Q : Act → World → Prop} {ds : List Deferred}
theorem ZK : ∀ (π : List Nat) (a : Act) (w : World), RL P ops dr (fun a w => Q { a with defers := ds } w) π a w → RL P ops dr Q π { a with defers := ds } w
 | [], _, _, h => h
 | i :: r, a, w, h => by
  obtain ⟨o, ho, h⟩ := h
  refine ⟨o, ho, ?_⟩
  show if Region.wanted o (yielded ops a.tmps) then _ else _
  split
  ·rename_i hw
   rw [if_pos hw] at h
   rcases h with ⟨h1, v, hv, h2⟩ | ⟨h1, h2⟩
   ·exact .inl ⟨h1, v, hv, by rw [ZG]; exact ZK r _ _ h2⟩
   ·refine .inr ⟨h1, ?_⟩
    have e1 : ({ a with defers := ds } : Act).eval = a.eval := rfl
    unfold Oper.wp at h2 ⊢
    rw [e1]
    generalize (execOp a.eval o).run P w = res at h2 ⊢
    cases res with
    | ok n w' =>
     cases n <;> simp only [Oper.upon] at h2 ⊢
     case value u => exact ⟨⟨u, rfl⟩, h2.2.1, by rw [ZG]; exact ZK r _ _ h2.2.2⟩
     case skip => exact ⟨⟨undef, rfl⟩, h2.2.1, by rw [ZG]; exact ZK r _ _ h2.2.2⟩
     case defer d =>
      obtain ⟨⟨v, hv⟩, _⟩ := h2
      have := congrArg Act.defers hv
      rw [QcI, QcI] at this
      exact absurd this (by simp)
     case enter f args =>
      refine Calls.mono h2 fun e w'' he => ?_
      cases e with
      | returned u => exact ⟨⟨u, rfl⟩, he.2.1, by rw [ZG]; exact ZK r _ _ he.2.2⟩
      | panicked c => exact he
      | outgrown => obtain ⟨_, _, hf⟩ := he; exact hf.elim
     case row row args => exact Rows.mono h2 fun u w'' he => ⟨⟨u, rfl⟩, he.2.1, by rw [ZG]; exact ZK r _ _ he.2.2⟩
    | halt x w' => cases x <;> simp only [Oper.upon] at h2
  ·rename_i hw
   rw [if_neg hw] at h
   rw [ZG]
   exact ZK r _ _ h
end
section
variable (P : Program) (N : Nat) (ds : List Deferred)
def WCD (c : Code) (Q : Exit → Act → World → Prop) (l : Env) (w : World) : Prop := ∀ a, At N a l → c.wp P Q { a with defers := ds } w
def PostF (Q : Exit → Act → World → Prop) (e : Exit) (l : Env) (w : World) : Prop := ∀ a, At N a l → Q e { a with defers := ds } w
end
section
variable {P : Program} {N : Nat} {ds : List Deferred} {Q : Exit → Act → World → Prop} {l : Env} {w : World}
theorem Km {x y : Code} (h : WCD P N ds x (Exit.then (fun a w => y.wp P Q a w) Q) l w) : WCD P N ds (.seq x y) Q l w := fun a ha => wp_seq (h a ha)
theorem ZU {y : Code} {Q' : Exit → Act → World → Prop} (h : WCD P N ds y Q l w) : PostF N ds (Exit.then (fun a w => y.wp P Q a w) Q') .normal l w := h
theorem XA {id : Nat} {ops : Array Oper} (π : List Nat) (hπ : List.range ops.size = π) (h : WR P N ops false (fun a w => Q .normal { a with defers := ds } w) π l w) : WCD P N ds (.region id ops false) Q l w := by
 intro a ha
 refine wp_region ?_
 rw [hπ]
 exact ZW (fun _ _ h => h) π _ w (ZK π a w (h a ha))
theorem wcd_draw {id : Nat} {ops : Array Oper} (hm : P.follows .mixedOrders = true) (π : List Nat) (hB : okOrd ops π = true) (h : ∀ w', Ext w w' → w' = w.drew → WR P N ops true (fun a w => Q .normal { a with defers := ds } w) π l w') : WCD P N ds (.region id ops true) Q l w := by
 intro a ha
 simp only [okOrd, Bool.and_eq_true, beq_iff_eq] at hB
 refine wp_region_any hm ?_
 have := Jy (P := P) (Q := Q .normal) hB.2.1 π (Array.replicate ops.size false) { a with defers := ds } w.drew Closed.none hB.2.2 (ZK π a w.drew (h w.drew (Ext.drew w) rfl a ha))
 rw [hB.1] at this
 exact Jd (fun _ _ h => h) _ _ _ _ this
theorem QaA {ops : Array Oper} {dr : Bool} (h : PostF N ds Q .normal l w) : WR P N ops dr (fun a w => Q .normal { a with defers := ds } w) [] l w := h
theorem wcd_condF {c : Operand} {x y : Code} {b : Bool} (hc : ev l c = some (.bool b)) (hb : b = false) (hf : WCD P N ds y Q l w) : WCD P N ds (.cond c x y) Q l w := fun a ha => by
 subst hb
 exact wp_cond_split (ha.eval hc) (fun h => by cases h) (fun _ => hf a ha)
theorem wcd_skip (h : PostF N ds Q .normal l w) : WCD P N ds .skip Q l w := fun a ha => wp_skip (h a ha)
theorem wcd_ret (h : PostF N ds Q .ret l w) : WCD P N ds .ret Q l w := fun a ha => wp_ret (h a ha)
theorem calls1D {f : FuncId} {fn : Func} {c : Code} {v0 : Value} {R : Ending → World → Prop} (hf : P.funcs[f]? = some fn) (hb : fn.body = some c) (hN : Nat.ble 1 fn.ntmps = true) (h : WC P fn.ntmps c (bodyPostD P fn R) [(0, v0)] w) : Calls P f #[v0] w R := by
 refine calls_of_wp_defers hf hb (h _ ⟨rfl, ?_, ?_⟩)
 ·have := Nat.le_of_ble_eq_true hN
  simp; omega
 ·intro t v ht
  rw [Xa] at ht
  split at ht
  ·rename_i e; subst e; rw [← ht]; simp [Array.getElem?_append]
  ·cases ht
theorem Qdd {fn : Func} {tmps : Array Value} {t s r b c d n : Nat} {T T1 T2 tb tc td : TypeId} {cs : List Value} {u v : Value} (hr : fn.results = #[.cell t T, .cell s T1, .cell r T2])
  (h1 : tmps[t]? = some (.pointer (some ⟨b, 0, none⟩))) (h2 : tmps[s]? = some (.pointer (some ⟨c, 0, none⟩))) (h3 : tmps[r]? = some (.pointer (some ⟨d, 0, none⟩)))
  (hA : AG P T n) (hB : Blk w b tb cs.toArray) (hn : cs.length = n) (hn1 : NA P T1) (hC : Blk w c tc #[u]) (hn2 : NA P T2) (hD : Blk w d td #[v]) :
  (results fn tmps).run P w = .ok (.tuple #[.agg cs.toArray, u, v]) w := by
 have hl := run_loadCells_list (P := P) w ⟨b, 0, none⟩ cs (fun j v hv => by rw [Addr.add_lit]; exact hB.cell (by simpa using hv))
 rw [hn] at hl
 have e1 : w.cell? ⟨c, 0, none⟩ = some u := hC.cell rfl
 have e2 : w.cell? ⟨d, 0, none⟩ = some v := hD.cell rfl
 simp [results, hr, h1, h2, h3, asAddr, loadVar, hA.agg w, hA.size w, hl, hn1 w, hn2 w, e1, e2]
end
end Go.Sx
