import Derived.Test.YtcfbigmjjpknfaaGreatDoorW30
namespace Go.Sx
open Go Go.RowKit Go.Pl
def LLI (lo hi : Nat) (w : World) (v : Value) (L : List (List Int)) : Prop :=
 ∃ rows, Sl w v rows ∧ rows.length = L.length ∧ (∀ k, v.ownBlock = some k → lo ≤ k ∧ k < hi) ∧ ∀ (i : Nat) r zs, rows[i]? = some r → L[i]? = some zs → Ints w r zs ∧ ∀ k, r.ownBlock = some k → lo ≤ k ∧ k < hi
theorem LLI.gr {lo hi : Nat} {w w' : World} {v : Value} {L : List (List Int)} {X : List Nat} (h : LLI lo hi w v L) (hg : Gr X w w') (hX : ∀ k ∈ X, k < lo ∨ hi ≤ k) : LLI lo hi w' v L := by
 obtain ⟨rows, h1, h2, h3, h4⟩ := h
 exact ⟨rows, h1.gr hg (fun k hk hx => by have := hX k hx; have := h3 k hk; omega), h2, h3, fun i r zs a b => ⟨(h4 i r zs a b).1.gr hg (fun k hk hx => by have := hX k hx; have := (h4 i r zs a b).2 k hk; omega), (h4 i r zs a b).2⟩⟩
theorem LLI.llb {lo hi B : Nat} {w : World} {v : Value} {L : List (List Int)} (h : LLI lo hi w v L) (hB : B ≤ lo) : LLB B w v L := by
 obtain ⟨rows, h1, h2, h3, h4⟩ := h
 exact ⟨rows, h1, h2, fun k hk => Nat.le_trans hB (h3 k hk).1, fun i r zs a b => ⟨(h4 i r zs a b).1, fun k hk => Nat.le_trans hB ((h4 i r zs a b).2 k hk).1⟩⟩
theorem LLB.lli {B : Nat} {w : World} {v : Value} {L : List (List Int)} (h : LLB B w v L) (hL : 0 < L.length) (hr : ∀ l ∈ L, 0 < l.length) : LLI B w.heap.size w v L := by
 obtain ⟨rows, h1, h2, h3, h4⟩ := h
 refine ⟨rows, h1, h2, fun k hk => ⟨h3 k hk, ?_⟩, fun i r zs a b => ⟨(h4 i r zs a b).1, fun k hk => ⟨(h4 i r zs a b).2 k hk, ?_⟩⟩⟩
 ·obtain ⟨j, hj, hl⟩ := h1.lt (by omega)
  rw [hj] at hk
  have := Option.some.inj hk
  omega
 ·obtain ⟨j, hj, hl⟩ := (h4 i r zs a b).1.lt (hr zs (List.mem_of_getElem? b))
  rw [hj] at hk
  have := Option.some.inj hk
  omega
end Go.Sx
namespace Go.Proofs.YtcfbigmjjpknfaaGreatDoor
open Go Go.Sx Go.Pl Go.RowKit Go.Fd Go.Alg
def z7 : List Int := tab 7 fun _ => 0
def uni4 : List (List Int) := [[1, 0, 0, 0], [0, 1, 0, 0], [0, 0, 1, 0], [0, 0, 0, 1]]
def inv1 : List (List Int) := [[1, 1, 1, 0], [0, 1, 1, 1], [0, 1, 0, 1], [0, 0, 1, 1]]
def invT (f : Nat) : List (List Int) := if f = 0 then uni4 else inv1
def genT (f : Nat) : List (List Int) := if f = 0 then hamG else [[1, 1, 1, 0, 0, 0, 0], [0, 1, 1, 1, 1, 0, 0], [0, 1, 0, 1, 0, 1, 0], [0, 0, 1, 1, 0, 0, 1]]
def b3 : List Int := [0, 0, 1, 0, 1, 1, 0]
def stT (wt k : Nat) : List Int × Nat := (if wt = 1 ∧ k = 0 then [] else b3, (wt - 1) * 8 + k * (if wt = 1 then 4 else 6))
theorem inv_eq : ∀ f : Nat, f < 2 → Ml.inverseM (opsP P2) (Ml.columnsM hamG (Ml.srtT f)) 4 = some (invT f) := by rw [ops2]; decide +kernel
theorem gen_eq : ∀ f : Nat, f < 2 → Ml.mulM (opsP P2) (invT f) hamG 7 = genT f := by rw [ops2]; decide +kernel
theorem rk_eq : ∀ f : Nat, f < 2 → Ml.rankM (opsP P2) hamG (Ml.srtT f) = 4 := by rw [ops2]; decide +kernel
theorem st_eq : ∀ wt : Nat, wt < 2 → ∀ k : Nat, k < 2 → Ml.sumsM (opsP P2) (genT k) (wt + 1) 0 z7 (stT (wt + 1) k) = stT (wt + 1) (k + 1) := by rw [ops2]; decide +kernel
theorem QcA : ∀ wt : Nat, wt < 3 → ∀ k : Nat, k < 3 → (stT wt k).2 ≤ 100 ∧ (stT wt k).1.length ≤ 7 := by decide
theorem stT_b3 : ∀ wt : Nat, wt < 3 → 1 ≤ wt → (stT wt 2).1 = b3 := by decide
theorem b3_wt : Ml.wtN b3 = 3 := by decide
theorem z7_in : InR P2 z7 := by unfold InR; decide
theorem st_next : stT 1 2 = stT 2 0 := by decide
theorem inv_mv : ∀ f : Nat, f < 2 → MV P2 4 (invT f) := fun f hf => by
 rcases (show f = 0 ∨ f = 1 by omega) with rfl | rfl <;> exact ⟨by decide, by decide, by decide, by decide, by decide⟩
theorem srt_asc : ∀ f : Nat, f < 2 → AscIn 7 (Ml.srtT f) := fun f hf => by
 rcases (show f = 0 ∨ f = 1 by omega) with rfl | rfl
 ·exact ⟨by decide, fun k h0 h1 => by
   have h1' : k < 4 := h1
   rcases (show k = 1 ∨ k = 2 ∨ k = 3 by omega) with rfl | rfl | rfl <;> decide⟩
 ·exact ⟨by decide, fun k h0 h1 => by
   have h1' : k < 4 := h1
   rcases (show k = 1 ∨ k = 2 ∨ k = 3 by omega) with rfl | rfl | rfl <;> decide⟩
theorem gen_len : ∀ f : Nat, f < 2 → (genT f).length = 4 ∧ Ml.RL 7 (genT f) := fun f hf => by
 rcases (show f = 0 ∨ f = 1 by omega) with rfl | rfl <;> exact ⟨by decide, by unfold Ml.RL; decide⟩
set_option maxRecDepth 10000 in
theorem mdMore (g mo v gn : Value) (gvs : List Value) (sb : Nat) (Y : List Nat) (wt : Nat) (ch : Int) (s : List Int × Nat) (w0 w : World) (hG : GFV w0 P2 g) (hE0 : Ext w0 w) (hS : SS w sb g mo v gn Y s) (hL : LL w v hamG) (hgn : Sl w gn gvs) (hg2 : gvs.length = 2) (hwt : 1 ≤ wt) (hwt2 : wt ≤ 64) (hch : ∀ w, Calls Tryz.prog 134 #[.int .i64 4, .int .i64 wt, .int .i64 65536] w (RetX w fun r _ => r = .tuple #[.int .i64 ch, .int .i64 0])) (hc1 : 1 ≤ ch) (hc2 : ch ≤ 1000) (hs2 : s.2 ≤ 1000) :
  Calls Tryz.prog 92 #[.pointer (some ⟨sb, 0, none⟩), .int .i64 wt] w (RetX w fun r _ => ∃ n : Int, r = .tuple #[.int .i64 n, .int .i64 0]) := by
 obtain ⟨rs, hsl, hrl, -⟩ := hL.row
 have hrl4 : rs.length = 4 := hrl
 obtain ⟨bv, hB, hbi, hbb⟩ := hS
 have e4 : ((rs.length : Nat) : Int) = 4 := by omega
 have hp1 : ∀ i : Nat, i < [2, ch, 1].length → 1 ≤ gi [2, ch, 1] i := fun i hi => by
  have hi' : i < 3 := hi
  rcases (show i = 0 ∨ i = 1 ∨ i = 2 by omega) with rfl | rfl | rfl
  ·show (1 : Int) ≤ 2
   omega
  ·exact hc1
  ·show (1 : Int) ≤ 1
   omega
 have hp2 : ∀ i : Nat, i ≤ [2, ch, 1].length → 1 ≤ pp [2, ch, 1] i ∧ pp [2, ch, 1] i ≤ 65536 - (s.2 : Int) := fun i hi => by
  have hi' : i ≤ 3 := hi
  rcases (show i = 0 ∨ i = 1 ∨ i = 2 ∨ i = 3 by omega) with rfl | rfl | rfl | rfl <;> simp [pp] <;> omega
 refine QD Tryz.func92 rfl rfl (Qc (Qb [0,1] rfl (Qk rfl rfl (Qk rfl rfl (Qd (Qa (Qc (Qb [0,1,2,3,4,5,6,7,8,9,10,11,12] rfl (mvV rfl rfl (QM rfl rfl (Qz rfl rfl fa147_1 ?_)))))))))))
 refine Qz rfl rfl ZE (Vw rfl (ldB rfl Zm hB) (Vw rfl (Zt rfl QN hsl) ?_))
 rw [e4]
 refine mvV rfl rfl (C rfl wu rfl rfl Tryz.call134 (hch _) ?_)
 rintro _ w2 hE2 rfl
 refine mvV rfl rfl (QI rfl rfl rfl (QI rfl rfl rfl (Qk rfl rfl (Qk rfl rfl (Qd (Qa (Qc (Qc (Qb [0,1] rfl (mvV rfl rfl (QG rfl rfl rfl (Qd (Qa ?_)))))))))))))
 refine Qn rfl (rfl) (Qe (Qa (Qc ?_)))
 replace hB := hB.ext hE2
 refine Qb [0,1,2,3,4,5,6,7,8,9,10,11,12,13] rfl (mvV rfl rfl (QM rfl rfl (Qz rfl rfl XH (Vw rfl (ldB rfl KZ hB) (C rfl wu rfl rfl Tryz.call136 (gOrder P2 g _ (hG.ext (hE0.trans hE2))) ?_)))))
 rintro _ w3 hE3 rfl
 rw [P2_q]
 refine Zd rfl rfl rfl (mvV rfl rfl (Zd rfl rfl rfl (C rfl wu rfl rfl Tryz.call135 (nmExpOne ((wt : Int) - 1) _ (by omega)) ?_)))
 rintro _ w4 hE4 rfl
 refine mvV rfl rfl (QI rfl rfl rfl (QI rfl rfl rfl (Qk rfl rfl (Qk rfl rfl (Qd (Qa (Qc (Qc ?_))))))))
 have hE := (hE2.trans hE3).trans hE4
 replace hB := (hB.ext hE3).ext hE4
 refine Qb [0,1] rfl (mvV rfl rfl (QG rfl rfl rfl (Qd (Qa (Qn rfl (rfl) (Qe (Qa (Qc ?_))))))))
 have e2 : ((gvs.length : Nat) : Int) = 2 := by omega
 refine Qx QK [0,1,2,3,4,5,6,7,8,9,10,11,12,13,14,15,16,17,18] (by kernel_rfl) ?_
 intro w5 hd _
 replace hB := hB.ext hd
 replace hE := hE.trans hd
 refine mvV rfl rfl (QM rfl rfl (Qz rfl rfl Qa0 (Vw rfl (ldB rfl na3 hB) (Zd rfl rfl rfl (mvV rfl rfl (QM rfl rfl (Qz rfl rfl Qa1 (Vw rfl (ldB rfl na145 hB) (Vw rfl (Zt rfl ty145 (hgn.ext hE)) ?_)))))))))
 rw [e2]
 refine mvV rfl rfl (mvV rfl rfl (BSI (zs := [2, ch, 1]) rfl wu rfl rfl rfl rfl QA ?_))
 intro kv w6 hE6 hko hki hkb
 refine C rfl wu rfl rfl Tryz.call137 (nmProduct (65536 - (s.2 : Int)) kv [2, ch, 1] _ hki (by omega) (by omega) hp1 hp2) ?_
 rintro _ w7 hE7 rfl
 refine mvV rfl rfl (QI rfl rfl rfl (QI rfl rfl rfl (Qk rfl rfl (Qk rfl rfl (Qd (Qa (Qc (Qc (Qb [0,1] rfl (mvV rfl rfl (QG rfl rfl rfl (Qd (Qa ?_)))))))))))))
 refine Qn rfl (rfl) (Qe (Qa (Qc (Qb [0,1,2] rfl (mvV rfl rfl (Qk rfl rfl (Qk rfl rfl (Qd (Qa (Qq (QH rfl rfl rfl ?_)))))))))))
 exact ⟨(hE.trans hE6).trans hE7, _, rfl⟩
set_option maxRecDepth 20000 in
theorem mdRun (mo v : Value) (w : World) (hmd : Ints w mo []) (hL : LL w v hamG) :
  Calls Tryz.prog 47 #[.agg #[.int .i64 2, .int .i64 1, mo, .int .i64 7, v]] w (RetX w fun r w' => ∃ ov bv, r = .tuple #[ov, bv, .int .i64 0] ∧ Ints w' bv b3) := by
 obtain ⟨rs, hsl, hrl, -⟩ := hL.row
 have hrl4 : rs.length = 4 := hrl
 have hv1 := hL.one
 have hm1 := hmd.one
 refine QL Tryz.func47 rfl rfl (Qc (Qb [0,1,2,3] rfl (BXA rfl wu rfl rfl ?_)))
 intro cb w1 hE1 hB hcb
 refine Qk rfl rfl (Qk rfl rfl (Qk rfl rfl (Qd (Qa (Qc (Qc (Qb [0,1,2] rfl (Vw rfl (ldA rfl Jx hB) (C rfl wu rfl rfl Tryz.call38 (Qa9 2 1 mo v [] 7 hamG _ ok2 (hmd.ext hE1) (hL.ext hE1) ham_mv ham_can (by decide) (by decide)) ?_)))))))))
 rintro _ w2 hE2 rfl
 refine Qk rfl rfl (Qd (Qa (Qc ?_)))
 replace hB := hB.ext hE2
 have hE := hE1.trans hE2
 refine Qb [0,1] rfl (mvV rfl rfl (QG rfl rfl rfl (Qd (Qa (Qn rfl (rfl) (Qe (Qa (Qc (Qc (Qb [0,1,2,3] rfl (Qz rfl rfl ZE (Vw rfl (ldB rfl Zm hB) (Vw rfl (Zt rfl QN (hsl.ext hE)) ?_)))))))))))))
 refine QU rfl rfl rfl (Qd (Qa (Qn rfl (by exact decide_eq_false (by omega)) (Qe (Qa (Qc (Qb [0,1,2,3,4,5,6,7] rfl (Qz rfl rfl Zy (Vw rfl (ldA rfl Zf hB) (C rfl wu rfl rfl Tryz.call22 (fNew 2 1 mo [] _ (hmd.ext hE)) ?_))))))))))
 rintro r0 w3 hE3 hr0
 obtain ⟨g, rfl, hG⟩ := Qb3 ok2 hr0
 refine mvV rfl rfl (QI rfl rfl rfl (QI rfl rfl rfl (Qk rfl rfl (Qk rfl rfl (Qd (Qa (Qc (Qc ?_))))))))
 replace hG : GFV w3 P2 g := hG
 have hg1 := hG.one
 replace hB := hB.ext hE3
 replace hE := hE.trans hE3
 refine Qb [0,1] rfl (mvV rfl rfl (QG rfl rfl rfl (Qd (Qa (Qn rfl (rfl) (Qe (Qa (Qc (Qb [0,1,2,3,4,5,6] rfl (Vw rfl (ldA rfl Jx hB) (C rfl wu rfl rfl Tryz.call90 (fmFamily mo v _ (hmd.ext hE) (hL.ext hE)) ?_)))))))))))
 rintro _ w4 hE4 ⟨fv, s0, s1, rfl, hfv, hs0, hs1⟩
 refine mvV rfl rfl (QI rfl rfl rfl (QI rfl rfl rfl (Qk rfl rfl (Qk rfl rfl (Qd (Qa (Qc (Qc (Qb [0,1] rfl (mvV rfl rfl (QG rfl rfl rfl (Qd (Qa ?_)))))))))))))
 refine Qn rfl (rfl) (Qe (Qa (Qc ?_)))
 replace hB := hB.ext hE4
 replace hE := hE.trans hE4
 replace hG := hG.ext hE4
 refine Qb [0,1,2,3,4] rfl (mvV rfl rfl (Vw rfl (ldA rfl Jx hB) (Vw rfl (bld rfl (bd147_0_1 g (.int .i64 2) (.int .i64 1) mo (.int .i64 7) v (QB hg1))) (BXA rfl wu rfl rfl ?_))))
 intro sb w5 hE5 hS hsb
 refine Qk rfl rfl (Qd (Qa (Qc (Qb [0] rfl (Qk rfl rfl (Qd (Qa (Qc (Qc ?_)))))))))
 have hzE := hE.size
 have hE0 := hE
 replace hE := hE.trans hE5
 refine Qb [0,1,2] rfl (mvV rfl rfl (Vw rfl (QaT rfl ty141 (hfv.ext hE5)) (mvV rfl rfl (Qd (Qa (Qf ?_))))))
 have hlS := hS.lt
 refine Qv (fun s : Nat × Value × Value × List Value => [(1, .pointer (some ⟨cb, 0, none⟩)), (9, .pointer (some ⟨sb, 0, none⟩)), (10, s.2.2.1), (53, fv), (54, .int .i64 2), (55, .int .i64 s.1)])
  (fun s w' => s.1 ≤ 2 ∧ Ext w4 w' ∧ w5.heap.size ≤ w'.heap.size ∧ Blk w' sb 147 #[g, .int .i64 2, .int .i64 1, mo, .int .i64 7, v, s.2.1, .slice none 0 0, .int .i64 0] ∧ Own w5.heap.size w' s.2.1 25 s.2.2.2 ∧ OwnI w5.heap.size w' s.2.2.1 3 (([4, 3] : List Int).take s.1) ∧ s.2.2.2.length = s.1 ∧
   (∀ j : Nat, j < s.1 → ∃ lo hi, w5.heap.size ≤ lo ∧ hi ≤ w'.heap.size ∧ LLI lo hi w' (s.2.2.2.getD j undef) (genT j) ∧ (∀ k, s.2.1.ownBlock = some k → k < lo ∨ hi ≤ k) ∧ (∀ k, s.2.2.1.ownBlock = some k → k < lo ∨ hi ≤ k)) ∧ (∀ k, s.2.1.ownBlock = some k → s.2.2.1.ownBlock ≠ some k)) (fun s => 2 - s.1) (0, .slice none 0 0, .slice none 0 0, []) ⟨rfl, rfl, rfl, rfl, rfl, rfl, trivial⟩
  ⟨by omega, hE5, Nat.le_refl _, hS, Own.nil _ _ _, OwnI.nil _ _ _, rfl, fun j hj => by omega, fun k hk => by (cases hk)⟩ ?_
 clear hS
 rintro ⟨f, gn, rk, gvs⟩ wf ⟨f2, hEf, hzf, hSf, hgn, hrk, hgl, hgj, hgr⟩
 dsimp only at f2 hEf hzf hSf hgn hrk hgl hgj hgr
 have hBf := hB.ext hEf
 try dsimp only
 refine Qc (Qb [0] rfl (Qy rfl rfl rfl (Qd (Qa (Qc (Qo rfl ?_ ?_))))))
 ·intro hc
  simp at hc
  have hf : f < 2 := by omega
  obtain ⟨sv, rkv, hrow, hsv⟩ : ∃ sv rkv, [[s0, Value.int .i64 4], [s1, .int .i64 3]].getD f [] = [sv, .int .i64 rkv] ∧ (rkv = gi [4, 3] f ∧ Ints w4 sv (Ml.srtT f)) := by
   rcases (show f = 0 ∨ f = 1 by omega) with rfl | rfl
   ·exact ⟨s0, 4, rfl, rfl, hs0⟩
   ·exact ⟨s1, 3, rfl, rfl, hs1⟩
  obtain ⟨hrkv, hsv⟩ := hsv
  have hsv1 := hsv.one
  have hgnlt := hgn.lt
  have hrklt := Own.lt hrk
  refine Qe (Qa (Qc (Qf (Qc (Qb [0,1,2,3] rfl (Vw rfl (KU rfl rfl ty141 (hfv.ext hEf) (by omega) (by simp; omega)) (Vw rfl (ldV rfl ag149 (hfv.ext hEf) (Ext.refl _) (by omega) (by simp; omega)) ?_)))))))
  rw [Int.toNat_natCast, hrow]
  refine AL rfl wu rfl zv149 ?_
  intro xb w6 hE6 hX hxb
  refine STB (vs := [sv, .int .i64 rkv]) (cs' := [sv, .int .i64 rkv]) rfl wu rfl rfl rfl sv149 nofun hX oc2 rfl rfl rfl ?_
  intro w7 hg7 hX7 hx7
  refine Qd (Qa (Qc ?_))
  have hE7 := hX7 wf hxb hE6
  have hE4f7 := hEf.trans hE7
  have hzf7 := hE7.size
  have hs4 := QaI f
  have hgl4 := gen_len f hf
  refine Qb [0,1,2,3,4,5,6,7,8,9] rfl (Vw rfl (ldA rfl Jx (hBf.ext hE7)) (Qz rfl rfl QaZ (Vw rfl (ldB rfl Zk hx7) ?_)))
  have hcall := QbB 2 1 mo v [] 7 hamG (invT f) sv (Ml.srtT f) _ hamOk (((hmd.ext hE0).ext hEf).ext hE7) (((hL.ext hE0).ext hEf).ext hE7) ((hsv.ext hEf).ext hE7) (srt_asc f hf) (by rw [hs4]; exact rk_eq f hf) hs4 (inv_eq f hf) (inv_mv f hf)
  refine C rfl wu rfl rfl Tryz.call91 hcall ?_
  rintro _ w8 hE8 ⟨gv, rfl, hgv⟩
  replace hgv : LLB w7.heap.size w8 gv (genT f) := by rw [← gen_eq f hf]; exact hgv
  have hgv1 := hgv.one
  refine mvV rfl rfl (QI rfl rfl rfl (QI rfl rfl rfl (AL rfl wu rfl KW ?_)))
  intro mb w9 hE9 hM hmb
  refine STB (vs := [.int .i64 7, gv]) (cs' := [.int .i64 7, gv]) rfl wu rfl rfl rfl JN nofun hM oc2 rfl rfl rfl ?_
  intro w10 hg10 hX10 hM10
  refine Qk rfl rfl (Qd (Qa (Qc (Qc ?_))))
  have hE10 := hX10 w8 hmb hE9
  have hgvI := (hgv.lli (by omega) (fun l hl => by rw [hgl4.2 l hl]; decide)).gr (Gr.of_ext (X := []) hE10) (by simp)
  have hz78 := hE8.size
  have hz810 := hE10.size
  have hEf10 := (hE7.trans hE8).trans hE10
  have hS10 := hSf.ext hEf10
  have hgn10 := hgn.ext hEf10
  have hrk10 := OwnI.ext hrk hEf10
  have hx10 := hx7.ext (hE8.trans hE10)
  refine Qb [0,1] rfl (mvV rfl rfl (QG rfl rfl rfl (Qd (Qa (Qn rfl (rfl) (Qe (Qa (Qc (Qx QK [0,1,2,3,4,5,6,7,8,9,10,11] (by kernel_rfl) ?_)))))))))
  intro wd hd _
  replace hS10 := hS10.ext hd
  replace hgn10 := hgn10.ext hd
  replace hM10 := hM10.ext hd
  refine mvV rfl rfl (mvV rfl rfl (QM rfl rfl (Qz rfl rfl Qa1 (Vw rfl (ldB rfl na145 hS10) (Qz rfl rfl QR (Vw rfl (ldB rfl Zm hM10) (BS (us := [gv]) rfl wu rfl rfl rfl rfl ty145 (by intro u hu; rw [List.mem_singleton.1 hu]; exact hgv1) ?_)))))))
  intro tv wb hEb htv htb
  have hzb := (hd.trans hEb).size
  refine AP rfl wu rfl rfl rfl ty145 rfl (by intro h h2; exact absurd h2 (by decide +kernel)) (hgn10.ext hEb) (by omega) htv.sl (Ext.refl _) (by intro u hu; rw [List.mem_singleton.1 hu]; exact hgv1) (by simp only [List.length_cons, List.length_nil]; omega) (by simp only [List.length_cons, List.length_nil]; omega) ?_
  intro gn2 wc hgc hXc hgn2 hbc
  replace hgc : wb.grownBy wc gn.ownBlock := hgc
  replace hbc : gn2.ownBlock = gn.ownBlock ∨ gn2.ownBlock = some wb.heap.size := hbc
  refine QM rfl rfl (Qz rfl rfl Qa1 ?_)
  have hSc : Blk wc sb 147 #[g, .int .i64 2, .int .i64 1, mo, .int .i64 7, v, gn, .slice none 0 0, .int .i64 0] := (hS10.ext hEb).grown hgc (fun e => by have := (hgnlt sb e).1; omega)
  have hgn21 := hgn2.sl.one
  refine STB (k := 6) (n := 1) (vs := [gn2]) (cs' := [g, .int .i64 2, .int .i64 1, mo, .int .i64 7, v, gn2, .slice none 0 0, .int .i64 0]) rfl wu rfl rfl (QB hgn21) sv145 (by intro h; kernel_rfl) hSc (by intro u hu; rw [List.mem_singleton.1 hu]; exact hgn21) rfl rfl rfl ?_
  intro we hge hXe hSe
  refine Qd (Qa ?_)
  have hEdb := hd.trans hEb
  have hGc : Gr gn.ownBlock.toList wb wc := Gr.of_grown hgc (fun k hk => by simp [hk])
  have hGe : Gr [sb] wc we := Gr.of_grown hge (fun k hk => by simp [Option.some.inj hk])
  have hxe := ((hx10.ext hEdb).gr hGc (fun h => by have := (hgnlt xb (by simpa using h)).2; omega)).gr hGe (fun h => by have := List.mem_singleton.1 h; omega)
  have hrke : OwnI w5.heap.size we rk 3 (([4, 3] : List Int).take f) := Own.gr (Own.gr (OwnI.ext hrk10 hEdb) hGc (fun k hk h => hgr k (by simpa using h) hk)) hGe (fun k hk h => by have := (hrklt k hk).1; have := List.mem_singleton.1 h; omega)
  have hgn2lt := hgn2.lt
  have hgn2e := hgn2.gr hGe (fun k hk h => by have := (hgn2lt k hk).1; have := List.mem_singleton.1 h; omega)
  have hzc := hGc.size
  have hze := hGe.size
  refine Qb [0,1,2,3,4,5] rfl (mvV rfl rfl (Qz rfl rfl QaY (Vw rfl (ldB rfl na3 hxe) (BSI (zs := [rkv]) rfl wu rfl rfl rfl rfl QA ?_))))
  intro kv wg hEg hko hki hkb
  have hzg := hEg.size
  refine API rfl wu rfl rfl rfl QA nofun ?_ (ho := OwnI.ext hrke hEg) (hB := by omega) (hs := hki) (hE := Ext.refl _) (hlen := by rw [List.length_take]; simp only [List.length_cons, List.length_nil]; omega)
  intro rk2 wh hgh hXh hrk2 hik2 hbk2
  replace hgh : wg.grownBy wh rk.ownBlock := hgh
  replace hbk2 : rk2.ownBlock = rk.ownBlock ∨ rk2.ownBlock = some wg.heap.size := hbk2
  refine Qk rfl rfl (Qd (Qg (Qa (Qb [0,1] rfl (Qw rfl rfl rfl (mvV rfl rfl (Qd ?_)))))))
  have hGh : Gr rk.ownBlock.toList wg wh := Gr.of_grown hgh (fun k hk => by simp [hk])
  have hzh := hGh.size
  have hzE5 := hE5.size
  have htk : ([4, 3] : List Int).take f ++ [rkv] = ([4, 3] : List Int).take (f + 1) := by rw [hrkv]; exact (Ml.take_step' (A := ([4, 3] : List Int)) (i := f) hf).symm
  rw [htk] at hrk2
  have hgn2h : Own w5.heap.size wh gn2 25 (gvs ++ [gv]) := (hgn2e.ext hEg).gr hGh (fun k hk h => by
   have h' : rk.ownBlock = some k := by simpa using h
   have := (hrklt k h').2
   rcases hbc with e | e
   ·exact hgr k (by rw [← e]; exact hk) h'
   ·rw [e] at hk
    have := Option.some.inj hk
    omega)
  have hSh : Blk wh sb 147 #[g, .int .i64 2, .int .i64 1, mo, .int .i64 7, v, gn2, .slice none 0 0, .int .i64 0] := (hSe.ext hEg).gr hGh (fun h => by have := (hrklt sb (by simpa using h)).1; omega)
  have hkeep : ∀ (lo hi : Nat) (u : Value) (M : List (List Int)), w5.heap.size ≤ lo → (∀ k, gn.ownBlock = some k → k < lo ∨ hi ≤ k) → (∀ k, rk.ownBlock = some k → k < lo ∨ hi ≤ k) → LLI lo hi w10 u M → LLI lo hi wh u M := fun lo hi u M h1 h2 h3 h4 => by
   have a1 := h4.gr (Gr.of_ext (X := []) hEdb) (by simp)
   have a2 := a1.gr hGc (fun k hk => h2 k (by simpa using hk))
   have a3 := a2.gr hGe (fun k hk => .inl (by have := List.mem_singleton.1 hk; omega))
   have a4 := a3.gr (Gr.of_ext (X := []) hEg) (by simp)
   exact a4.gr hGh (fun k hk => h3 k (by simpa using hk))
  have hE4h : Ext w4 wh := hXh w4 hzE5 ((hXe w4 hsb (hXc w4 hzE5 ((hEf.trans hEf10).trans hEdb))).trans hEg)
  have hsep : ∀ (lo hi : Nat), hi ≤ w8.heap.size → ((∀ k, gn.ownBlock = some k → k < lo ∨ hi ≤ k) → ∀ k, gn2.ownBlock = some k → k < lo ∨ hi ≤ k) ∧ ((∀ k, rk.ownBlock = some k → k < lo ∨ hi ≤ k) → ∀ k, rk2.ownBlock = some k → k < lo ∨ hi ≤ k) := fun lo hi hh => by
   refine ⟨fun h k hk => ?_, fun h k hk => ?_⟩
   ·rcases hbc with e | e
    ·exact h k (by rw [← e]; exact hk)
    ·rw [e] at hk
     have := Option.some.inj hk
     omega
   ·rcases hbk2 with e | e
    ·exact h k (by rw [← e]; exact hk)
    ·rw [e] at hk
     have := Option.some.inj hk
     omega
  refine Qi (f + 1, gn2, rk2, gvs ++ [gv]) ⟨rfl, rfl, rfl, rfl, rfl, rfl, trivial⟩ ⟨by dsimp only; omega, hE4h, by omega, hSh, hgn2h, hrk2, by simp [hgl], fun j hj => ?_, fun k hk hk2 => ?_⟩ (by dsimp only; omega)
  ·dsimp only at hj ⊢
   by_cases hjf : j = f
   ·subst hjf
    have e : (gvs ++ [gv]).getD j undef = gv := by
     rw [List.getD_eq_getElem?_getD, ← hgl, List.getElem?_append_right (Nat.le_refl _)]
     simp
    rw [e]
    have h1 : ∀ k, gn.ownBlock = some k → k < w7.heap.size ∨ w8.heap.size ≤ k := fun k hk => .inl (by have := (hgnlt k hk).2; omega)
    have h2 : ∀ k, rk.ownBlock = some k → k < w7.heap.size ∨ w8.heap.size ≤ k := fun k hk => .inl (by have := (hrklt k hk).2; omega)
    exact ⟨w7.heap.size, w8.heap.size, by omega, by omega, hkeep _ _ _ _ (by omega) h1 h2 hgvI, (hsep _ _ (Nat.le_refl _)).1 h1, (hsep _ _ (Nat.le_refl _)).2 h2⟩
   ·have e : (gvs ++ [gv]).getD j undef = gvs.getD j undef := by
     rw [List.getD_eq_getElem?_getD, List.getD_eq_getElem?_getD, List.getElem?_append_left (by omega)]
    rw [e]
    obtain ⟨lo, hi, h1, h2, h3, h4, h5⟩ := hgj j (by omega)
    exact ⟨lo, hi, h1, by omega, hkeep _ _ _ _ h1 h4 h5 (h3.gr (Gr.of_ext (X := []) hEf10) (by simp)), (hsep _ _ (by omega)).1 h4, (hsep _ _ (by omega)).2 h5⟩
  ·dsimp only at hk hk2
   have hl2 := (hgn2lt k hk).2
   rcases hbk2 with e | e
   ·rw [e] at hk2
    rcases hbc with e2 | e2
    ·exact hgr k (by rw [← e2]; exact hk) hk2
    ·rw [e2] at hk
     have := Option.some.inj hk
     have := (hrklt k hk2).2
     omega
   ·rw [e] at hk2
    have := Option.some.inj hk2
    omega
 ·intro hc
  simp at hc
  obtain rfl : f = 2 := by omega
  obtain ⟨ga, gb', rfl⟩ : ∃ a b, gvs = [a, b] := by
   match gvs, hgl with
   | [a, b], _ => exact ⟨a, b, rfl⟩
  have hgnlt := hgn.lt
  replace hrk : OwnI w5.heap.size wf rk 3 [4, 3] := hrk
  have hrklt := Own.lt hrk
  have e4 : ((rs.length : Nat) : Int) = 4 := by omega
  have hzE5 := hE5.size
  refine Qt (Ql (Qm (Qh (Qa (Qc (Qb [0] rfl (Qk rfl rfl (Qd (Qa (Qc (Qc (Qb [0] rfl (Qk rfl rfl (Qd (Qa (Qf ?_))))))))))))))))
  refine Qv (fun s : Nat × Value × List (List Value) => [(1, .pointer (some ⟨cb, 0, none⟩)), (9, .pointer (some ⟨sb, 0, none⟩)), (10, rk), (15, s.2.1), (16, .int .i64 s.1)])
   (fun s w' => 1 ≤ s.1 ∧ s.1 ≤ 2 ∧ Gr [sb] wf w' ∧ SS w' sb g mo v gn (sb :: s.2.1.ownBlock.toList) (stT s.1 0) ∧ OwnV wf.heap.size w' s.2.1 154 4 s.2.2 ∧ s.2.2.length + 1 ≤ s.1) (fun s => 3 - s.1) (1, .slice none 0 0, []) ⟨rfl, rfl, rfl, rfl, rfl, trivial⟩
   ⟨Nat.le_refl 1, Nat.le_succ 1, Gr.refl _ _, ⟨_, hSf, Ints.nil _, fun k e => by (cases e)⟩, OwnV.nil _ _ _ _, Nat.le_refl 1⟩ ?_
  rintro ⟨wt, outv, R⟩ w6 ⟨t1, t2, hG6, hSS, hout, hRl⟩
  dsimp only at t1 t2 hG6 hSS hout hRl
  obtain ⟨u, rfl⟩ : ∃ u, wt = u + 1 := ⟨wt - 1, by omega⟩
  have hX4 : ∀ k ∈ [sb], w4.heap.size ≤ k := fun k hk => by rw [List.mem_singleton.1 hk]; exact hsb
  have hE46 := hG6.ext hEf hX4
  have hE06 := hE0.trans hE46
  have hB6 := hB.ext hE46
  have hs6 := hsl.ext hE06
  have hgn6 := hgn.sl.gr hG6 (fun k hk h => by have := (hgnlt k hk).1; have := List.mem_singleton.1 h; omega)
  obtain ⟨ch, hch, hch1, hch2⟩ : ∃ ch : Int, (∀ w, Calls Tryz.prog 134 #[.int .i64 4, .int .i64 ((u + 1 : Nat) : Int), .int .i64 65536] w (RetX w fun r _ => r = .tuple #[.int .i64 ch, .int .i64 0])) ∧ 1 ≤ ch ∧ ch ≤ 1000 := by
   rcases (show u = 0 ∨ u = 1 by omega) with rfl | rfl
   ·exact ⟨4, Qdu, by decide, by decide⟩
   ·exact ⟨6, Qdt, by decide, by decide⟩
  have hst := QcA (u + 1) (by omega) 0 (by decide)
  try dsimp only
  refine Qc (Qc (Qb [0,1,2,3,4] rfl (mvV rfl rfl (Qz rfl rfl ZE (Vw rfl (ldB rfl Zm hB6) (Vw rfl (Zt rfl QN hs6) (Vw rfl (Qbz rfl rfl) (Qd (Qa (QC rfl (by exact decide_eq_true (by omega)) (Qe (Qa (Qc (Qf (Qc (Qc ?_))))))))))))))))
  refine Qb [0,1,2,3,4,5,6,7] rfl (mvV rfl rfl (mvV rfl rfl (C rfl wu rfl rfl Tryz.call92 (mdMore g mo v gn [ga, gb'] sb _ (u + 1) ch (stT (u + 1) 0) w4 _ hG hE46 hSS (hL.ext hE06) hgn6 rfl (by omega) (by omega) hch hch1 hch2 (by omega)) ?_)))
  rintro _ w7 hE7 ⟨n7, rfl⟩
  refine mvV rfl rfl (QI rfl rfl rfl (QI rfl rfl rfl (Qk rfl rfl (Qk rfl rfl (Qd (Qa (Qc (Qb [0,1] rfl (mvV rfl rfl (QG rfl rfl rfl (Qd (Qa ?_))))))))))))
  refine Qn rfl (rfl) (Qe (Qa (Qc (Qc ?_))))
  have hG7 := hG6.trans (Gr.of_ext hE7)
  have hS7 := hSS.ext hE7
  obtain ⟨bv7, hSB7, -, -⟩ := hS7
  refine Qb [0,1,2,3,4,5] rfl (mvV rfl rfl (QM rfl rfl (Qz rfl rfl Qa1 (Vw rfl (ldB rfl na145 hSB7) (Vw rfl (Zt rfl ty145 (hgn6.ext hE7)) (mvV rfl rfl (Qd (Qa (Qf ?_)))))))))
  refine Qv (fun k : Nat => [(1, .pointer (some ⟨cb, 0, none⟩)), (9, .pointer (some ⟨sb, 0, none⟩)), (10, rk), (15, outv), (16, .int .i64 ((u + 1 : Nat) : Int)), (105, gn), (106, .int .i64 2), (107, .int .i64 k)])
   (fun k w' => k ≤ 2 ∧ Gr [sb] wf w' ∧ SS w' sb g mo v gn (sb :: outv.ownBlock.toList) (stT (u + 1) k) ∧ OwnV wf.heap.size w' outv 154 4 R) (fun k => 2 - k) 0 ⟨rfl, rfl, rfl, rfl, rfl, rfl, rfl, rfl, trivial⟩ ⟨by omega, hG7, hSS.ext hE7, hout.ext hE7⟩ ?_
  clear hout hSS hG6 hB6 hs6 hgn6 hE06 hE46 hG7 hSB7 hE7
  rintro k w8 ⟨k2, hG8, hSS, hout⟩
  have hE48 := hG8.ext hEf hX4
  have hgn8 := hgn.sl.gr hG8 (fun k hk h => by have := (hgnlt k hk).1; have := List.mem_singleton.1 h; omega)
  have hB8 := hB.ext hE48
  have houtlt := hout.lt
  have hzf8 := hG8.size
  try dsimp only
  refine Qc (Qb [0] rfl (Qy rfl rfl rfl (Qd (Qa (Qc (Qo rfl ?_ ?_))))))
  ·intro hk
   replace hk := of_decide_eq_true hk
   have hk2 : k < 2 := by omega
   obtain ⟨gk, hgk1, hgk2⟩ : ∃ x, [ga, gb'][k]? = some x ∧ [ga, gb'].getD k undef = x := by
    rcases (show k = 0 ∨ k = 1 by omega) with rfl | rfl
    ·exact ⟨ga, rfl, rfl⟩
    ·exact ⟨gb', rfl, rfl⟩
   obtain ⟨lo, hi, hlo, hhi, hLk, -, -⟩ := hgj k hk2
   rw [hgk2] at hLk
   have hLk8 := hLk.gr hG8 (fun q hq => .inl (by have := List.mem_singleton.1 hq; omega))
   have hglk := gen_len k hk2
   have hst8 := QcA (u + 1) (by omega) k (by omega)
   have hst9 := QcA (u + 1) (by omega) (k + 1) (by omega)
   have hse := st_eq u (by omega) k hk2
   refine Qe (Qa (Qc (Qf (Qc (Qb [0,1,2] rfl (Vw rfl (iad rfl rfl ty145 hgn8 (by omega) (by show (k : Int) < 2; omega)) (Vw rfl (ldE rfl Zm hgn8 (by rw [Int.toNat_natCast]; exact hgk1) (Ext.refl _)) (Qk rfl rfl (Qd (Qa (Qb [0,1,2,3,4,5,6] rfl (mvV rfl rfl (mvV rfl rfl (Qz rfl rfl Zr ?_))))))))))))))
   refine Vw rfl (ldB rfl na3 hB8) (MKI (n := 7) rfl wu rfl rfl QA ?_)
   intro zv w9 hE9 hzo hzi hzb
   have hz89 := hE9.size
   have hlS8 : sb < w8.heap.size := by { obtain ⟨bv, hb, _⟩ := hSS; exact hb.lt }
   have hYl9 : ∀ q ∈ sb :: outv.ownBlock.toList, q < w9.heap.size := fun q hq => by { rcases List.mem_cons.1 hq with h | h; omega; have := (houtlt q (by simpa using h)).2; omega }
   refine mvV rfl rfl ?_
   have hcall := mdSums g mo v gn gk sb (sb :: outv.ownBlock.toList) (by simp) (genT k) w4 hG hsb hglk.2 (by omega) (u + 1) 0 z7 (stT (u + 1) k) zv true w9 hYl9 (hE48.trans hE9) (hSS.ext hE9) ((hLk8.gr (Gr.of_ext (X := []) hE9) (by simp)).llb (by omega)) hzi (fun e => by have := (Own.lt hzo sb e).1; omega) z7_in (by decide) (by omega) (by omega) (by omega) (by rw [hse]; omega)
   rw [hse] at hcall
   refine CG rfl wu rfl rfl Tryz.call93 hcall nofun ?_
   rintro _ wa hGa ⟨rfl, hSa⟩
   refine Qd (Qg (Qa (Qb [0,1] rfl (Qw rfl rfl rfl (mvV rfl rfl (Qd (Qi (k + 1) ⟨rfl, rfl, rfl, rfl, rfl, rfl, rfl, rfl, trivial⟩ ⟨by omega, (hG8.trans (Gr.of_ext hE9)).trans hGa, hSa, OwnV.gr (hout.ext hE9) hGa (fun q hq h => by have := (houtlt q hq).1; have := List.mem_singleton.1 h; omega)⟩ (by omega))))))))
  ·intro hk
   replace hk := of_decide_eq_false hk
   obtain rfl : k = 2 := by omega
   have hrk8 := Own.gr hrk hG8 (fun q hq h => by have := (hrklt q hq).1; have := List.mem_singleton.1 h; omega)
   have hb3 := stT_b3 (u + 1) (by omega) (by omega)
   have hst8 := QcA (u + 1) (by omega) 2 (by omega)
   have hfl : flS 4 [4, 3] ((u + 1 : Nat) : Int) 2 = if u = 0 then 3 else 5 := by
    rcases (show u = 0 ∨ u = 1 by omega) with rfl | rfl <;> decide
   refine Qt (Ql (Qm (Qh (Qa (Qc (Qb [0,1,2,3,4,5,6,7,8,9,10] rfl (Qz rfl rfl ZE (Vw rfl (ldB rfl Zm hB8) (Vw rfl (Zt rfl QN (hsl.ext (hE0.trans hE48))) ?_)))))))))
   rw [e4]
   refine mvV rfl rfl (mvV rfl rfl (C rfl wu rfl rfl Tryz.call94 (isFloor 4 rk [4, 3] ((u + 1 : Nat) : Int) _ (OwnI.ints hrk8) (by decide) (by decide) (by omega) (by omega) (by decide) (fun i hi => by have hi' : i < 2 := hi; rcases (show i = 0 ∨ i = 1 by omega) with rfl | rfl <;> decide)) ?_))
   rintro _ w9 hE9 rfl
   refine mvV rfl rfl (QI rfl rfl rfl (QI rfl rfl rfl (Qk rfl rfl (Qk rfl rfl (Qd (Qa (Qc (Qc ?_))))))))
   rw [show ([4, 3] : List Int).length = 2 from rfl, hfl]
   refine Qb [0,1] rfl (mvV rfl rfl (QG rfl rfl rfl (Qd (Qa (Qn rfl (rfl) (Qe (Qa (Qc ?_))))))))
   have hS9 := hSS.ext hE9
   obtain ⟨bv, hSB, hbi, hbb⟩ := hS9
   rw [hb3] at hbi
   have hbv1 := hbi.one
   refine Qx QK [0,1,2,3,4,5,6,7,8,9,11,10,12,13,14,15] (by kernel_rfl) ?_
   intro wd hd _
   replace hSB := hSB.ext hd
   replace hbi := hbi.ext hd
   replace hE9 := hE9.trans hd
   refine mvV rfl rfl (mvV rfl rfl (mvV rfl rfl (QM rfl rfl (Qz rfl rfl Qa0 (Vw rfl (ldB rfl na3 hSB) (mvV rfl rfl (QM rfl rfl (Qz rfl rfl Xc (Vw rfl (ldB rfl Zk hSB) ?_)))))))))
   refine mvV rfl rfl (C rfl wu rfl rfl Tryz.call48 (Xo bv b3 _ hbi) ?_)
   rintro _ wa hEa rfl
   replace hE9 := hE9.trans hEa
   replace hSB := hSB.ext hEa
   replace hbi := hbi.ext hEa
   refine Vw rfl (bld rfl (Qbb _ _ _ _ rfl rfl rfl rfl)) (BSV (r := [.int .i64 ((u + 1 : Nat) : Int), .int .i64 (stT (u + 1) 2).2, .int .i64 (Ml.wtN b3 : Nat), .int .i64 (if u = 0 then 3 else 5)]) rfl wu rfl rfl ty94 rfl (by decide) (by decide) ?_)
   intro tv wb hEb htv
   replace hE9 := hE9.trans hEb
   replace hSB := hSB.ext hEb
   replace hbi := hbi.ext hEb
   have hz9 := hE9.size
   refine APV rfl wu rfl rfl rfl ty94 rfl (by decide) (by intro h h2; exact absurd h2 (by decide +kernel)) ?_ (ho := hout.ext hE9) (hB := by omega) (h1c := by intro u hu; simp only [List.mem_cons, List.not_mem_nil, or_false] at hu; rcases hu with rfl | rfl | rfl | rfl <;> rfl) (hs := htv) (hE := Ext.refl _) (hlen := by omega) (hlen1 := by omega)
   intro outv2 wc hgc hXc hout2 hbc
   replace hgc : wb.grownBy wc outv.ownBlock := hgc
   replace hbc : outv2.ownBlock = outv.ownBlock ∨ outv2.ownBlock = some wb.heap.size := hbc
   refine Qk rfl rfl (Qd (Qa (Qc ?_)))
   have hlSw : sb < wf.heap.size := by omega
   have hGc : Gr outv.ownBlock.toList wb wc := Gr.of_grown hgc (fun q hq => by simp [hq])
   have hbX : ∀ q, bv.ownBlock = some q → q ∉ outv.ownBlock.toList := fun q hq h => hbb q hq (List.mem_cons_of_mem _ h)
   have hSc := hSB.gr hGc (fun h => by have := (houtlt sb (by simpa using h)).1; omega)
   have hbc3 := hbi.gr hGc hbX
   have hGwc : Gr [sb] wf wc := (hG8.trans (Gr.of_ext hE9)).grow hgc (fun q hq => .inr (houtlt q hq).1)
   refine Qb [0,1,2,3,4,5,6] rfl (mvV rfl rfl (mvV rfl rfl (QM rfl rfl (Qz rfl rfl Xc (Vw rfl (ldB rfl Zk hSc) (C rfl wu rfl rfl Tryz.call48 (Xo bv b3 _ hbc3) ?_))))))
   rintro _ we hEe rfl
   rw [b3_wt]
   refine ZA rfl rfl rfl (Qd (Qa ?_))
   rcases (show u = 0 ∨ u = 1 by omega) with rfl | rfl
   ·skip
    refine Qn rfl (by decide) (Qe (Qg (Qa (Qb [0,1,2] rfl (mvV rfl rfl (Qw rfl rfl rfl (Qk rfl rfl (Qd ?_))))))))
    have hlb : ∃ q, bv.ownBlock = some q ∧ q < wb.heap.size := hbi.lt (by decide)
    obtain ⟨qb, hqb, hqbl⟩ := hlb
    refine Qi (2, outv2, R ++ [_]) ⟨rfl, rfl, rfl, rfl, rfl, trivial⟩ ⟨Nat.le_succ 1, Nat.le_refl 2, hGwc.trans (Gr.of_ext hEe), ?_, hout2.ext hEe, by dsimp only; rw [List.length_append]; show R.length + 1 + 1 ≤ 2; omega⟩ (by show 3 - 2 < 3 - (0 + 1); decide)
    rw [← st_next]
    refine ⟨bv, hSc.ext hEe, by rw [hb3]; exact hbc3.ext hEe, fun q hq h => ?_⟩
    rcases List.mem_cons.1 h with h | h
    ·exact hbb q hq (by rw [h]; exact List.mem_cons_self)
    ·dsimp only at h
     have h' : outv2.ownBlock = some q := by simpa using h
     rcases hbc with e | e
     ·exact hbX q hq (by rw [← e]; exact h)
     ·rw [e] at h'
      rw [hqb] at hq
      have := Option.some.inj hq
      have := Option.some.inj h'
      omega
   ·skip
    refine QC rfl (by decide) (Qt (ZB rfl (Ql (Qm (Qh (Qa (Qc (Qx QK [0,1,2,3,4,5,6,7] (by kernel_rfl) ?_))))))))
    intro wz hz _
    replace hEe := hEe.trans hz
    refine mvV rfl rfl (mvV rfl rfl (QM rfl rfl (Qz rfl rfl Xc (Vw rfl (ldB rfl Zk (hSc.ext hEe)) (Qk rfl rfl (Qk rfl rfl (Qk rfl rfl (Qd (Qa (Qq (Qbr rfl rfl rfl rfl ?_)))))))))))
    exact ⟨hE0.trans ((hGwc.ext hEf hX4).trans hEe), outv2, bv, rfl, hbc3.ext hEe⟩
theorem Qdk (mo v : Value) (w : World) (hmd : Ints w mo []) (hL : LL w v hamG) :
  Calls Tryz.prog 15 #[.agg #[.int .i64 2, .int .i64 1, mo, .int .i64 7, v]] w (RetX w fun r _ => r = .tuple #[.int .i64 3, .int .i64 0]) := by
 refine QL Tryz.func15 rfl rfl (Qc (Qb [0,1,2] rfl (BXA rfl wu rfl rfl ?_)))
 intro cb w1 hE hB hcb
 refine Qk rfl rfl (Qk rfl rfl (Qd (Qa (Qc (Qb [0,1,2,3,4,5,6,7,8] rfl (Vw rfl (ldA rfl Jx hB) (C rfl wu rfl rfl Tryz.call47 (mdRun mo v _ (hmd.ext hE) (hL.ext hE)) ?_)))))))
 rintro _ w2 hE2 ⟨ov, bv, rfl, hbi⟩
 refine mvV rfl rfl (QI rfl rfl rfl (QI rfl rfl rfl (QI rfl rfl rfl (Qk rfl rfl (Qk rfl rfl (Qk rfl rfl (Qd (Qa (Qc (Qb [0,1,2,3,4] rfl (mvV rfl rfl ?_)))))))))))
 refine C rfl wu rfl rfl Tryz.call48 (Xo bv b3 _ hbi) ?_
 rintro _ w3 hE3 rfl
 refine mvV rfl rfl (Qk rfl rfl (Qk rfl rfl (Qd (Qa (Qq (QH rfl rfl rfl ?_))))))
 exact ⟨(hE.trans hE2).trans hE3, rfl⟩
end Go.Proofs.YtcfbigmjjpknfaaGreatDoor
