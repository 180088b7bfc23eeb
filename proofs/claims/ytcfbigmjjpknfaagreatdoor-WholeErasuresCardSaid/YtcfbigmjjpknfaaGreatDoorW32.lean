import Derived.Test.YtcfbigmjjpknfaaGreatDoorW24
import Derived.Test.YtcfbigmjjpknfaaGreatDoorW31
import Derived.Test.YtcfbigmjjpknfaaGreatDoorW04
import Derived.Test.YtcfbigmjjpknfaaGreatDoorW00
import Derived.Test.YtcfbigmjjpknfaaGreatDoorW09
namespace Go.Proofs.YtcfbigmjjpknfaaGreatDoor
open Go Go.Sx Go.Pl Go.RowKit Go.Lib Go.Lg
theorem zv140 : ZV Tryz.prog 140 [.map none] := fun w => ⟨_, by simp [zeroValue, typeInfo, inf140]; rfl, rfl⟩
theorem sv137 : ∀ w, (sizeOf 137).run Tryz.prog w = .ok 1 w := fun w => by simp [sizeOf, typeInfo, inf137]; rfl
theorem bd140_0 (x0 : Value) (g0 : x0.cells = #[x0]) : ∀ w, (Instr.build 140 #[(0, x0)]).run Tryz.prog w = .ok (.agg #[x0]) w := fun w => by
 obtain ⟨zv, h1, h2⟩ := zv140 w
 simp [Instr.build, h1, h2, run_underlying Tryz.underlying140, Instr.fill, g0]
theorem mGf (tb : Nat) (S : Nat → Prop) (cs : List Value) (w : World) (hT : TabOK w tb) (hx : EX S w (.mk 3 gfName 0 [.mk 1 ⟨#[]⟩ 2 []]) cs) :
  Calls Tryz.prog 89 #[.agg #[.map (some tb)], .agg cs.toArray, .bool true] w (RetX w fun r _ => r = .tuple #[.agg (vF (.int .i64 2) (.int .i64 1) (.slice none 0 0)).toArray, .int .i64 0]) := by
 obtain ⟨av, L, rfl, hav, -, c, L', rfl, ⟨av2, L2, rfl, hav2, -, hL2⟩, hL⟩ := hx
 obtain rfl : L' = [] := hL
 have hav21 : av2.oneCell' = true := by
  obtain ⟨⟨a, c, rfl, h2, h3⟩, -⟩ := hav2
  rfl
 obtain ⟨zs, gv, hv, g1, g2, hr, hM, hg, hgv, ⟨fb, rfl, hfb⟩, -, -⟩ := hT.ex
 refine (cMean tb zs gfName ⟨#[78]⟩ 0 gv .nilFunc av 159 fb [g2] [[.int .i64 1, .string ⟨#[]⟩, .int .i64 2, .slice none 0 0, av2]] [vN 2] true w hM hg hgv (.inl ⟨rfl, rfl⟩) rfl hav ?_ rfl (by simp) ?_ ?_
  (fun _ rc _ => rc = vF (.int .i64 2) (.int .i64 1) (.slice none 0 0)) (fun _ _ _ _ _ h _ _ => h) (fun _ _ _ _ _ h => h) Tryz.call159 ?_).mono ?_
 ·intro c hc v hv
  obtain rfl := List.mem_singleton.1 hc
  simp only [List.mem_cons, List.not_mem_nil, or_false] at hv
  rcases hv with rfl | rfl | rfl | rfl | rfl <;> first | rfl | assumption
 ·intro u hu
  obtain rfl := List.mem_singleton.1 hu
  exact ⟨rfl, by simp [vN, Value.oneCell']⟩
 ·intro i h c u hc hu w' hE
  obtain rfl : i = 0 := by
   have := (List.getElem?_eq_some_iff.1 hc).1
   simp at this
   exact this
  cases hc
  cases hu
  exact cArgN tb _ 2 av2 w' hav21
 ·intro v w' hE hvr
  refine (Qdw v fb w' hvr (hfb.ext hE)).mono fun e w'' he => ?_
  cases e with
  | panicked c => exact he.elim
  | outgrown => exact he.elim
  | returned r =>
   obtain ⟨hE2, rfl⟩ := he
   exact ⟨hE2, _, rfl, rfl, by simp [vF, Value.oneCell'], rfl⟩
 ·intro e w'' he
  cases e with
  | panicked c => exact he.elim
  | outgrown => exact he.elim
  | returned r =>
   obtain ⟨hE2, rc, rfl, -, -, rfl⟩ := he
   exact ⟨hE2, rfl⟩
def ValR (Ψ : Nat → List Value → World → Prop) (w : World) : Value → World → Prop := fun r w' => ∃ c1 c2 c3 c4 c5, r = .tuple #[.agg (vC c1 c2 c3 c4 c5).toArray, .int .i64 0] ∧ (∀ v ∈ vC c1 c2 c3 c4 c5, v.oneCell' = true) ∧ Ψ w.heap.size [c1, c2, c3, c4, c5] w'
theorem mHam (Ψ : Nat → List Value → World → Prop) (hΨ : KeptP Ψ) (hF : ∀ w', Calls Tryz.prog 170 #[.agg f2.toArray, .int .i64 3] w' (RetX w' (CodeR Ψ w'))) (tb : Nat) (S : Nat → Prop) (cs : List Value) (w : World) (hT : TabOK w tb) (hx : EX S w hammingExpr cs) :
  Calls Tryz.prog 89 #[.agg #[.map (some tb)], .agg cs.toArray, .bool false] w (RetX w (ValR Ψ w)) := by
 obtain ⟨av, L, rfl, hav, -, c1, L', rfl, hx1, c2, L'', rfl, hx2, hL⟩ := hx
 obtain rfl : L'' = [] := hL
 obtain ⟨av2, L2, rfl, hav2, -, -⟩ := hx2
 have hav21 : av2.oneCell' = true := by
  obtain ⟨⟨a, c, rfl, h2, h3⟩, -⟩ := hav2
  rfl
 obtain ⟨hc15, hc11⟩ := hx1.cells
 obtain ⟨zs, gv, hv, g1, g2, hr, hM, -, -, -, -, hg, hhv, hH⟩ := hT.ex
 obtain ⟨fb, fb2, f, fs, fc, e, hB1, hB2⟩ := hH
 obtain rfl : hr = [.string ⟨#[70, 78]⟩, .func (.func 259) #[] #[.pointer (some ⟨fb, 0, none⟩)], .func f fs fc] := by
  injection e with e
  have := congrArg Array.toList e
  simpa using this
 refine (cMean tb zs hamming ⟨#[70, 78]⟩ 0 hv (.func f fs fc) av 259 fb [] [c1, [.int .i64 1, .string ⟨#[]⟩, .int .i64 3, .slice none 0 0, av2]] [vF (.int .i64 2) (.int .i64 1) (.slice none 0 0), vN 3] false w hM hg hhv (.inr ⟨rfl, _, _, _, rfl⟩) rfl hav ?_ rfl (by simp) ?_ ?_
  (fun B rc w => ∃ a b c d e, rc = vC a b c d e ∧ Ψ B [a, b, c, d, e] w) ?_ ?_ Tryz.call259 ?_).mono ?_
 ·intro c hc v hv
  simp only [List.mem_cons, List.not_mem_nil, or_false] at hc
  rcases hc with rfl | rfl
  ·exact hc11 v hv
  ·simp only [List.mem_cons, List.not_mem_nil, or_false] at hv
   rcases hv with rfl | rfl | rfl | rfl | rfl <;> first | rfl | assumption
 ·intro u hu
  simp only [List.mem_cons, List.not_mem_nil, or_false] at hu
  rcases hu with rfl | rfl
  ·exact ⟨rfl, by simp [vF, Value.oneCell']⟩
  ·exact ⟨rfl, by simp [vN, Value.oneCell']⟩
 ·intro i h c u hc hu w' hE
  have hi : i < 2 := by
   have := (List.getElem?_eq_some_iff.1 hc).1
   simpa using this
  match i, hi with
  | 0, _ =>
   cases hc
   cases hu
   have hx1' := hx1.ext hE
   have hx0 := hx1
   obtain ⟨av1, L1, rfl, hav1, -, -⟩ := hx0
   have hav11 : av1.oneCell' = true := by
    obtain ⟨⟨a, c, rfl, h2, h3⟩, -⟩ := hav1
    rfl
   exact cArgF tb 3 gfName 0 av1 _ w' hav11 rfl (by simp [vF, Value.oneCell']) (fun w2 hE2 => mGf tb S _ w2 ((hT.ext hE).ext hE2) (hx1'.ext hE2))
  | 1, _ =>
   cases hc
   cases hu
   exact cArgN tb _ 3 av2 w' hav21
 ·rintro B rc w w' k ⟨a, b, c, d, e, rfl, h⟩ hg hk
  exact ⟨a, b, c, d, e, rfl, hΨ.g _ _ _ _ _ h hg hk⟩
 ·rintro B B' rc w hB ⟨a, b, c, d, e, rfl, h⟩
  exact ⟨a, b, c, d, e, rfl, hΨ.m _ _ _ _ hB h⟩
 ·intro v w' hE hvr
  refine (cCodeRow1 Ψ hΨ 257 fb2 _ Tryz.call257 v fb w' hvr (hB1.ext hE) (fun w2 hE2 => cSized1 Ψ hΨ 170 3 Tryz.call170 v fb2 w2 (hvr.ext hE2) ((hB2.ext hE).ext hE2) (fun w3 _ => hF w3))).mono fun e w'' he => ?_
  cases e with
  | panicked c => exact he.elim
  | outgrown => exact he.elim
  | returned r =>
   obtain ⟨hE2, a, b, c, d, e, rfl, h1, h2⟩ := he
   exact ⟨hE2, _, rfl, rfl, h1, a, b, c, d, e, rfl, h2⟩
 ·intro e w'' he
  cases e with
  | panicked c => exact he.elim
  | outgrown => exact he.elim
  | returned r =>
   obtain ⟨hE2, rc, rfl, -, h1, a, b, c, d, e, rfl, h2⟩ := he
   exact ⟨hE2, a, b, c, d, e, rfl, h1, h2⟩
set_option maxRecDepth 10000 in
theorem cStart (Ψ : Nat → List Value → World → Prop) (hΨ : KeptP Ψ) (hF : ∀ w', Calls Tryz.prog 170 #[.agg f2.toArray, .int .i64 3] w' (RetX w' (CodeR Ψ w'))) (S : Nat → Prop) (cs : List Value) (w : World) (hx : EX S w hammingExpr cs) :
  Calls Tryz.prog 46 #[.agg cs.toArray, .bool false] w (RetX w (ValR Ψ w)) := by
 have hcells := hx.cells
 have hcx : (cs.drop 0).take 5 = cs := by rw [List.drop_zero, ← hcells.1, List.take_length]
 refine QD Tryz.func46 rfl rfl (Qc (Qb [0,1,2] rfl (BXA rfl wu rfl rfl ?_)))
 intro xb w1 hE1 hX hxb
 refine AL rfl wu rfl zv91 ?_
 intro rb w2 hE2 hR hrb
 replace hX := hX.ext hE2
 refine Qk rfl rfl (Qd (Qa (Qc (Qc ?_))))
 have hE := hE1.trans hE2
 have hz1 := hE1.size
 have hz2 := hE2.size
 refine Qb [0,1,2] rfl (Vw rfl (ldA rfl XV hX (by rw [hcells.1]; rfl)) ?_)
 rw [hcx]
 refine C rfl wu rfl rfl Tryz.call87 (lCheck S hammingExpr cs _ (hx.ext hE) Qdo (by rw [JD.1]; decide) (by rw [JD.2.1]; decide) (Nat.le_trans JD.2.2 (by decide))) ?_
 rintro _ w3 hE3 rfl
 replace hE := hE.trans hE3
 replace hX := hX.ext hE3
 replace hR := hR.ext hE3
 refine Qk rfl rfl (Qd (Qa (Qc (Qb [0,1] rfl (mvV rfl rfl (QG rfl rfl rfl (Qd (Qa (Qn rfl (rfl) (Qe (Qa (Qc (Qx QK [2,3,0,1,4,5,6,7,8] (by kernel_rfl) ?_)))))))))))))
 intro w4 hd _
 replace hE := hE.trans hd
 replace hX := hX.ext hd
 replace hR := hR.ext hd
 refine Vw rfl (ldA rfl XV hX (by rw [hcells.1]; rfl)) ?_
 rw [hcx]
 refine mvV rfl rfl (C rfl wu rfl rfl Tryz.call88 (cTable _) ?_)
 rintro _ w5 hE5 ⟨tb, rfl, hT⟩
 replace hE := hE.trans hE5
 replace hR := hR.ext hE5
 refine Vw rfl (bld rfl (bd140_0 _ rfl)) (C rfl wu rfl rfl Tryz.call89 (mHam Ψ hΨ hF tb S cs _ hT (hx.ext hE)) ?_)
 rintro _ w6 hE6 ⟨c1, c2, c3, c4, c5, rfl, hc1, hps⟩
 have hlR := hR.lt
 replace hR := hR.ext hE6
 refine QI rfl rfl rfl (QI rfl rfl rfl (STB (vs := vC c1 c2 c3 c4 c5) (cs' := vC c1 c2 c3 c4 c5) rfl wu rfl rfl rfl sv91 (by intro h; kernel_rfl) hR hc1 rfl rfl rfl ?_))
 intro w7 hg7 hX7 hR7
 refine Qk rfl rfl (Qd (Qa (Qq (QJ rfl rfl rfl ag91 hR7 rfl ?_))))
 exact ⟨hX7 w (by omega) (hE.trans hE6), c1, c2, c3, c4, c5, rfl, hc1, hΨ.m _ _ _ _ hE.size (hΨ.g _ _ _ _ _ hps hg7 hlR)⟩
set_option maxRecDepth 10000 in
theorem cCode (Ψ : Nat → List Value → World → Prop) (hΨ : KeptP Ψ) (hF : ∀ w', Calls Tryz.prog 170 #[.agg f2.toArray, .int .i64 3] w' (RetX w' (CodeR Ψ w'))) (S : Nat → Prop) (cs : List Value) (w : World) (hx : EX S w hammingExpr cs) :
  Calls Tryz.prog 14 #[.agg cs.toArray] w (RetX w (CodeR Ψ w)) := by
 have hcells := hx.cells
 have hcx : (cs.drop 0).take 5 = cs := by rw [List.drop_zero, ← hcells.1, List.take_length]
 refine QL Tryz.func14 rfl rfl (Qc (Qb [0,1,2] rfl (BXA rfl wu rfl rfl ?_)))
 intro xb w1 hE1 hX hxb
 refine AL rfl wu rfl Qc5 ?_
 intro rb w2 hE2 hR hrb
 replace hX := hX.ext hE2
 refine Qk rfl rfl (Qd (Qa (Qc ?_)))
 have hE := hE1.trans hE2
 have hz1 := hE1.size
 have hz2 := hE2.size
 refine Qb [0,1,2,3,4,5,6,7] rfl (Vw rfl (ldA rfl XV hX (by rw [hcells.1]; rfl)) ?_)
 rw [hcx]
 refine C rfl wu rfl rfl Tryz.call46 (cStart Ψ hΨ hF S cs _ (hx.ext hE)) ?_
 rintro _ w3 hE3 ⟨c1, c2, c3, c4, c5, rfl, hc1, hps⟩
 have hlR := hR.lt
 replace hR := hR.ext hE3
 refine mvV rfl rfl (QI rfl rfl rfl (QI rfl rfl rfl (AL rfl wu rfl zv91 ?_)))
 intro vb w4 hE4 hV hvb
 replace hR := hR.ext hE4
 refine STB (vs := vC c1 c2 c3 c4 c5) (cs' := vC c1 c2 c3 c4 c5) rfl wu rfl rfl rfl sv91 nofun hV hc1 rfl rfl rfl ?_
 intro w5 hg5 hX5 hV5
 refine Qk rfl rfl (Qd (Qa (Qc (Qc ?_))))
 have hE5 := hX5 w3 hvb hE4
 replace hps := hΨ.e _ _ _ _ hps hE5
 replace hR := hR.grown hg5 (fun e => Blk.neT hR hV (by decide) (Option.some.inj e).symm)
 have hcc : ∀ v ∈ [c1, c2, c3, c4, c5], v.oneCell' = true := fun v hv => hc1 v (by simp only [List.mem_cons, List.not_mem_nil, or_false] at hv; rcases hv with rfl | rfl | rfl | rfl | rfl <;> simp [vC])
 refine Qb [0,1] rfl (mvV rfl rfl (QG rfl rfl rfl (Qd (Qa (Qn rfl (rfl) (Qe (Qa (Qc (Qb [0,1,2,3] rfl (Qz rfl rfl fa91_1 (Vw rfl (ldA rfl Jx hV5) (STB (vs := [c1, c2, c3, c4, c5]) (cs' := [c1, c2, c3, c4, c5]) rfl wu rfl rfl rfl QbS nofun hR hcc rfl rfl rfl ?_))))))))))))
 intro w6 hg6 hX6 hR6
 refine Qk rfl rfl (Qd (Qa (Qq (QJ rfl rfl rfl Jx hR6 rfl ?_))))
 exact ⟨hX6 w (by omega) ((hE.trans hE3).trans hE5), _, rfl, rfl, hcc, hΨ.m _ _ _ _ hE.size (hΨ.g _ _ _ _ _ hps hg6 hlR)⟩
end Go.Proofs.YtcfbigmjjpknfaaGreatDoor
namespace Go.Proofs.YtcfbigmjjpknfaaGreatDoor
open Go Go.Sx Go.Pl Go.RowKit Go.Fd Go.Alg Go.Lg
def HamΨ (B : Nat) (cc : List Value) (w : World) : Prop := ∃ mo lv, cc = [.int .i64 2, .int .i64 1, mo, .int .i64 7, lv] ∧ OwnI B w mo 3 [] ∧ LLB B w lv hamG
theorem ham_kept : KeptP HamΨ := ⟨fun B rc w w' k h hg hk => by
  obtain ⟨mo, lv, e, h1, h2⟩ := h
  exact ⟨mo, lv, e, Own.gr (X := [k]) h1 (Gr.of_grown hg (fun j e => by simp [Option.some.inj e])) (fun j hj e => by have := (Own.lt h1 j hj).1; have := List.mem_singleton.1 e; omega), h2.gr (X := [k]) (Gr.of_grown hg (fun j e => by simp [Option.some.inj e])) (fun j e => by rw [List.mem_singleton.1 e]; exact hk)⟩,
 fun B B' rc w hB h => by
  obtain ⟨mo, lv, e, h1, h2⟩ := h
  exact ⟨mo, lv, e, Own.mono h1 hB, h2.mono hB⟩,
 fun B rc w w' h hE => by
  obtain ⟨mo, lv, e, h1, h2⟩ := h
  exact ⟨mo, lv, e, OwnI.ext h1 hE, h2.ext hE⟩⟩
theorem ham_code (w : World) : Calls Tryz.prog 170 #[.agg f2.toArray, .int .i64 3] w (RetX w (CodeR HamΨ w)) := by
 refine (clHamming w).mono fun e w' he => ?_
 cases e with
 | returned v =>
  obtain ⟨hE, mo, lv, rfl, hm, hl⟩ := he
  have h1 := (OwnI.ints hm).one
  have h2 := hl.one
  exact ⟨hE, [.int .i64 2, .int .i64 1, mo, .int .i64 7, lv], rfl, rfl, fun v hv => by simp only [List.mem_cons, List.not_mem_nil, or_false] at hv; rcases hv with rfl | rfl | rfl | rfl | rfl <;> first | rfl | assumption, mo, lv, rfl, hm, hl⟩
 | panicked c => exact he.elim
 | outgrown => exact he.elim
theorem five {α : Type} {l : List α} (h : l.length = 5) : ∃ a b c d e, l = [a, b, c, d, e] := by
 match l, h with
 | [a, b, c, d, e], _ => exact ⟨a, b, c, d, e, rfl⟩
set_option maxRecDepth 10000 in
theorem alvTrue (w : World) : Calls Tryz.prog 4 #[] w (RetX w fun r _ => r = .bool true) := by
 refine Qau Tryz.func4 rfl (Qc (Qb [0] rfl (Qk rfl rfl (Qd (Qa (Qc (Qb [0,1,2,3,4,5,6,7,8] rfl (C rfl wu rfl rfl Tryz.call13 (lParse hammingText hammingToks 9 hammingExpr 4 _ (by decide) QbC QbD (by decide) (by decide)) ?_))))))))
 rintro _ w1 hE1 ⟨cs, rfl, hx⟩
 have hcells := hx.cells
 obtain ⟨a1, a2, a3, a4, a5, rfl⟩ := five hcells.1
 refine mvV rfl rfl (QI rfl rfl rfl (QI rfl rfl rfl (QI rfl rfl rfl (AL rfl wu rfl zv46 ?_))))
 intro xb w2 hE2 hX hxb
 refine STB (vs := [a1, a2, a3, a4, a5]) (cs' := [a1, a2, a3, a4, a5]) rfl wu rfl rfl rfl QdD nofun hX hcells.2 rfl rfl rfl ?_
 intro w3 hg3 hX3 hx3
 refine Qk rfl rfl (Qk rfl rfl (Qd (Qa (Qc ?_))))
 have hE3 := hX3 w1 hxb hE2
 have hx1 := hx.ext hE3
 refine Qb [0,1,2,3,4,5,6,7] rfl (Vw rfl (ldA rfl XV hx3) (C rfl wu rfl rfl Tryz.call14 (cCode HamΨ ham_kept ham_code _ [a1, a2, a3, a4, a5] _ hx1) ?_))
 rintro _ w4 hE4 ⟨cc, rfl, hc5, hc1, mo, lv, rfl, hmo, hlv⟩
 refine mvV rfl rfl (QI rfl rfl rfl (QI rfl rfl rfl (AL rfl wu rfl Qc5 ?_)))
 intro cb w5 hE5 hC hcb
 refine STB (vs := [.int .i64 2, .int .i64 1, mo, .int .i64 7, lv]) (cs' := [.int .i64 2, .int .i64 1, mo, .int .i64 7, lv]) rfl wu rfl rfl rfl QbS nofun hC hc1 rfl rfl rfl ?_
 intro w6 hg6 hX6 hc6
 refine Qk rfl rfl (Qd (Qa (Qc ?_)))
 have hE6 := hX6 w4 hcb hE5
 have hmo6 := OwnI.ints (OwnI.ext hmo hE6)
 have hlv6 := (hlv.ext hE6).ll
 obtain ⟨rs, hsl, hrl, -⟩ := hlv6.row
 have hrl4 : rs.length = 4 := hrl
 have hE := ((hE1.trans hE3).trans hE4).trans hE6
 refine Qb [0,1,2,3,4,5,6] rfl (Vw rfl (ldA rfl Jx hc6) (C rfl wu rfl rfl Tryz.call15 (Qdk mo lv _ hmo6 hlv6) ?_))
 rintro _ w7 hE7 rfl
 refine mvV rfl rfl (QI rfl rfl rfl (QI rfl rfl rfl (Qk rfl rfl (Qk rfl rfl (Qd (Qa (Qc ?_)))))))
 replace hc6 := hc6.ext hE7
 refine Qb [0,1,2,3,4,5,6,7,8,9,10,11,12,13,14,15,16,17,18,19,20,21,22,23,24,25] rfl (mvV rfl rfl (QU rfl rfl rfl (mvV rfl rfl (KB 25 true rfl (rfl) (Vg rfl rfl rfl (mv rfl) (Vg rfl rfl rfl (KV rfl rfl) (pkV rfl rfl rfl (mvV rfl rfl (KB 29 true rfl (rfl) ?_)))))))))
 refine Vg rfl rfl rfl (fad rfl Zr) (Vg rfl rfl rfl (ldB rfl na3 hc6) (Vg rfl rfl rfl (KV rfl rfl) (pkV rfl rfl rfl (mvV rfl rfl (KB 34 true rfl (rfl) (Vg rfl rfl rfl (fad rfl ZE) (Vg rfl rfl rfl (ldB rfl Zm hc6) (Vg rfl rfl rfl (Zt rfl QN (hsl.ext hE7)) (Vg rfl rfl rfl (KV rfl rfl) ?_)))))))))
 refine pkV rfl rfl rfl (mvV rfl rfl (KB 40 true rfl (decide_eq_true (by omega)) (Vg rfl rfl rfl (mv rfl) (Vg rfl rfl rfl (KV rfl rfl) (pkV rfl rfl rfl (mvV rfl rfl (KB 44 true rfl (rfl) (Vg rfl rfl rfl (mv rfl) (Vg rfl rfl rfl (KV rfl rfl) ?_)))))))))
 refine pkV rfl rfl rfl (Qk rfl rfl (Qd (Qa (Qq (Qj rfl rfl ?_)))))
 exact ⟨hE.trans hE7, rfl⟩
end Go.Proofs.YtcfbigmjjpknfaaGreatDoor
namespace Go.Alg
section
variable {R : Type} [CR R]
def sm : Nat → (Nat → R) → R
 | 0, _ => 0
 | n + 1, f => sm n f + f n
theorem QW {f g : Nat → R} : ∀ {n : Nat}, (∀ i, i < n → f i = g i) → sm n f = sm n g
 | 0, _ => rfl
 | n + 1, h => by rw [sm, sm, QW (fun i hi => h i (by omega)), h n (by omega)]
theorem Jg : ∀ {n : Nat} {f : Nat → R}, (∀ i, i < n → f i = 0) → sm n f = 0
 | 0, _, _ => rfl
 | n + 1, f, h => by rw [sm, Jg (fun i hi => h i (by omega)), h n (by omega), zero_add]
theorem Kq (f g : Nat → R) : ∀ n, sm n (fun i => f i + g i) = sm n f + sm n g
 | 0 => (zero_add (0 : R)).symm
 | n + 1 => by rw [sm, sm, sm, Kq f g n, add_assoc, add_assoc, Qbd (sm n g)]
theorem Qah (a : R) (f : Nat → R) : ∀ n, sm n (fun i => a * f i) = a * sm n f
 | 0 => (mul_zero a).symm
 | n + 1 => by rw [sm, sm, Qah a f n, mul_add]
theorem sm_mulr (a : R) (f : Nat → R) (n : Nat) : sm n (fun i => f i * a) = sm n f * a := by
 rw [mul_comm, ← Qah]
 exact QW fun i _ => mul_comm _ _
theorem QcB (f : Nat → R) : ∀ n, sm (n + 1) f = f 0 + sm n (fun i => f (i + 1))
 | 0 => by rw [sm, sm, sm, add_comm]
 | n + 1 => by rw [sm, QcB f n, sm, add_assoc]
theorem sm_rev (f : Nat → R) : ∀ n, sm n (fun i => f (n - 1 - i)) = sm n f
 | 0 => rfl
 | n + 1 => by
  rw [QcB, sm, add_comm (sm n f)]
  have h : sm n (fun i => f (n + 1 - 1 - (i + 1))) = sm n f := by
   rw [← sm_rev f n]
   exact QW fun i _ => by congr 1; omega
  rw [h]
  congr 2
theorem Xi {n k : Nat} (hk : k < n) {f : Nat → R} (h : ∀ i, i < n → i ≠ k → f i = 0) : sm n f = f k := by
 induction n with
 | zero => omega
 | succ n ih =>
  rw [sm]
  by_cases e : k = n
  ·subst e
   rw [Jg (fun i hi => h i (by omega) (by omega)), zero_add]
  ·rw [ih (by omega) (fun i hi hne => h i (by omega) hne), h n (by omega) (by omega), add_zero]
theorem sm_tri (F : Nat → Nat → R) : ∀ m, sm m (fun k => sm (k + 1) fun i => F i (k - i)) = sm m fun i => sm (m - i) fun j => F i j
 | 0 => rfl
 | m + 1 => by
  have h1 : sm (m + 1) (fun i => sm (m + 1 - i) fun j => F i j) = sm (m + 1) (fun i => (sm (m - i) fun j => F i j) + F i (m - i)) := QW fun i hi => by
   rw [show m + 1 - i = (m - i) + 1 by omega, sm]
  rw [h1, Kq, sm, sm_tri F m]
  congr 1
  rw [sm, Nat.sub_self]
  show _ = _ + (0 : R)
  rw [add_zero]
theorem QbU (F : Nat → Nat → R) (n : Nat) : ∀ m, sm m (fun i => sm n fun j => F i j) = sm n fun j => sm m fun i => F i j
 | 0 => (Jg fun _ _ => rfl).symm
 | m + 1 => by rw [sm, QbU F n m, ← Kq]; rfl
end
def PS (R : Type) : Type := Nat → R
theorem PS.ext {R : Type} {f g : PS R} (h : ∀ n, f n = g n) : f = g := funext h
section
variable {R : Type} [CR R]
instance : Add (PS R) := ⟨fun f g n => f n + g n⟩
instance : Neg (PS R) := ⟨fun f n => -f n⟩
instance : Zero (PS R) := ⟨fun _ => 0⟩
instance : One (PS R) := ⟨fun n => if n = 0 then 1 else 0⟩
instance : Mul (PS R) := ⟨fun f g n => sm (n + 1) fun i => f i * g (n - i)⟩
theorem ps_add (f g : PS R) (n : Nat) : (f + g) n = f n + g n := rfl
theorem ps_neg (f : PS R) (n : Nat) : (-f) n = -f n := rfl
theorem ps_one (n : Nat) : (1 : PS R) n = if n = 0 then 1 else 0 := rfl
theorem JA (f g : PS R) (n : Nat) : (f * g) n = sm (n + 1) fun i => f i * g (n - i) := rfl
theorem QbY (f g : PS R) : f * g = g * f := PS.ext fun n => by
 rw [JA, JA, ← sm_rev]
 refine QW fun i hi => ?_
 rw [mul_comm]
 congr 2
 omega
instance : CR (PS R) where
 add_assoc a b c := PS.ext fun n => add_assoc _ _ _
 add_comm a b := PS.ext fun n => add_comm _ _
 zero_add a := PS.ext fun n => zero_add _
 neg_add a := PS.ext fun n => neg_add _
 mul_comm a b := QbY a b
 one_mul a := PS.ext fun n => by
  rw [JA, Xi (k := 0) (by omega) (fun i _ hi => by rw [ps_one, if_neg hi, zero_mul]), ps_one, if_pos rfl, one_mul, Nat.sub_zero]
 mul_add a b c := PS.ext fun n => by
  rw [ps_add, JA, JA, JA, ← Kq]
  exact QW fun i _ => by rw [ps_add, mul_add]
 mul_assoc a b c := PS.ext fun n => by
  have h1 : ((a * b) * c) n = sm (n + 1) fun k => sm (k + 1) fun i => a i * b (k - i) * c (n - (i + (k - i))) := by
   rw [JA]
   refine QW fun k _ => ?_
   rw [JA, ← sm_mulr]
   refine QW fun i hi => ?_
   congr 2
   omega
  rw [h1, sm_tri (fun i j => a i * b j * c (n - (i + j))), JA]
  refine QW fun i hi => ?_
  rw [JA, ← Qah, show n + 1 - i = n - i + 1 by omega]
  refine QW fun j _ => ?_
  rw [mul_assoc, show n - (i + j) = n - i - j by omega]
end
end Go.Alg
namespace Go.Alg
section
variable {R S : Type} [CR R] [CR S] {φ : R → S}
def Sup (n : Nat) (f : PS R) : Prop := ∀ i, n ≤ i → f i = 0
theorem Sup.mono {n m : Nat} {f : PS R} (h : Sup n f) (hm : n ≤ m) : Sup m f := fun i hi => h i (by omega)
theorem Sup.add {n : Nat} {f g : PS R} (h : Sup n f) (k : Sup n g) : Sup n (f + g) := fun i hi => by rw [ps_add, h i hi, k i hi, zero_add]
theorem Sup.neg {n : Nat} {f : PS R} (h : Sup n f) : Sup n (-f) := fun i hi => by rw [ps_neg, h i hi, QcM]
theorem Sup.zero (n : Nat) : Sup n (0 : PS R) := fun _ _ => rfl
theorem Sup.one {n : Nat} (h : 1 ≤ n) : Sup n (1 : PS R) := fun i hi => by rw [ps_one, if_neg (by omega)]
theorem Sup.mul {n m : Nat} {f g : PS R} (h : Sup n f) (k : Sup m g) : Sup (n + m - 1) (f * g) := fun i hi => by
 rw [JA]
 refine Jg fun j hj => ?_
 rcases Nat.lt_or_ge j n with e | e
 ·rw [k (i - j) (by omega), mul_zero]
 ·rw [h j e, zero_mul]
def evp (φ : R → S) (x : S) (n : Nat) (f : PS R) : S := sm n fun i => φ (f i) * npow x i
end
section
variable {R : Type} [CR R]
def psC (a : R) : PS R := fun n => if n = 0 then a else 0
def psX : PS R := fun n => if n = 1 then 1 else 0
end
end Go.Alg
namespace Go.Alg
def bc : Nat → Nat → Nat
 | _, 0 => 1
 | 0, _ + 1 => 0
 | n + 1, k + 1 => bc n k + bc n (k + 1)
section
variable {R : Type} [CR R]
def nm : Nat → R → R
 | 0, _ => 0
 | n + 1, x => nm n x + x
theorem Kh : ∀ n, nm n (0 : R) = 0
 | 0 => rfl
 | n + 1 => by rw [nm, Kh n, add_zero]
def hs (k : Nat) (f : PS R) : PS R := fun i => nm (bc (i + k) k) (f (i + k))
theorem hs_sup {n k : Nat} {f : PS R} (h : Sup n f) : Sup (n - k) (hs k f) := fun i hi => by rw [hs, h (i + k) (by omega), Kh]
end
end Go.Alg
namespace Go.Alg
section
variable {R : Type} [CR R]
end
end Go.Alg
namespace Go.Alg
section
variable {R : Type} [CR R]
def Sp (m n : Nat) (M : Nat → Nat → R) (v : Nat → R) : Prop := ∃ x : Nat → R, ∀ j, j < n → v j = sm m fun i => x i * M i j
variable {m n : Nat} {M M' : Nat → Nat → R} {u v : Nat → R}
theorem Sp.congr (h : Sp m n M v) (e : ∀ j, j < n → u j = v j) : Sp m n M u := by
 obtain ⟨x, hx⟩ := h
 exact ⟨x, fun j hj => (e j hj).trans (hx j hj)⟩
theorem Sp.zero : Sp m n M (fun _ => 0) := ⟨fun _ => 0, fun _ _ => (Jg fun _ _ => zero_mul _).symm⟩
theorem Sp.add (h : Sp m n M u) (k : Sp m n M v) : Sp m n M (fun j => u j + v j) := by
 obtain ⟨x, hx⟩ := h
 obtain ⟨y, hy⟩ := k
 refine ⟨fun i => x i + y i, fun j hj => ?_⟩
 dsimp only
 rw [hx j hj, hy j hj, ← Kq]
 exact QW fun i _ => (add_mul _ _ _).symm
theorem Sp.smul (c : R) (h : Sp m n M v) : Sp m n M (fun j => c * v j) := by
 obtain ⟨x, hx⟩ := h
 refine ⟨fun i => c * x i, fun j hj => ?_⟩
 dsimp only
 rw [hx j hj, ← Qah]
 exact QW fun i _ => (mul_assoc _ _ _).symm
theorem Sp.row {i : Nat} (hi : i < m) : Sp m n M (M i) := ⟨fun k => if k = i then 1 else 0, fun j _ => by
 rw [Xi hi fun k _ hk => by dsimp only; rw [if_neg hk, zero_mul]]
 dsimp only
 rw [if_pos rfl, one_mul]⟩
theorem Sp.sum {f : Nat → Nat → R} (x : Nat → R) : ∀ k, (∀ i, i < k → Sp m n M (f i)) → Sp m n M (fun j => sm k fun i => x i * f i j)
 | 0, _ => Sp.zero
 | k + 1, h => (Sp.sum x k fun i hi => h i (by omega)).add ((h k (by omega)).smul (x k))
theorem Sp.trans {k : Nat} (h : Sp m n M v) (hM : ∀ i, i < m → Sp k n M' (M i)) : Sp k n M' v := by
 obtain ⟨x, hx⟩ := h
 exact (Sp.sum x m hM).congr hx
theorem Sp.more {k : Nat} (h : Sp m n M v) (hk : m ≤ k) : Sp k n M v := h.trans fun _ hi => Sp.row (by omega)
theorem Sp.less {k : Nat} (h : Sp m n M v) (h0 : ∀ i, k ≤ i → i < m → ∀ j, j < n → M i j = 0) : Sp k n M v := h.trans fun i hi => by
 by_cases e : i < k
 ·exact Sp.row e
 ·exact Sp.zero.congr fun j hj => h0 i (by omega) hi j hj
theorem Sp.orth {y : Nat → R} (h : Sp m n M v) (h0 : ∀ i, i < m → sm n (fun j => M i j * y j) = 0) : sm n (fun j => v j * y j) = 0 := by
 obtain ⟨x, hx⟩ := h
 have h1 : sm n (fun j => v j * y j) = sm n fun j => sm m fun i => x i * (M i j * y j) := QW fun j hj => by
  rw [hx j hj, ← sm_mulr]
  exact QW fun i _ => mul_assoc _ _ _
 rw [h1, ← QbU (fun i j => x i * (M i j * y j)) n m]
 exact Jg fun i hi => by rw [Qah, h0 i hi, mul_zero]
structure Rr (a n : Nat) (G : Nat → Nat → R) (pv : Nat → Nat) : Prop where
 lt : ∀ i, i < a → pv i < n
 asc : ∀ i j, i < j → j < a → pv i < pv j
 piv : ∀ i j, i < a → j < a → G i (pv j) = if i = j then 1 else 0
 lead : ∀ i x, i < a → x < pv i → G i x = 0
variable {a : Nat} {G : Nat → Nat → R} {pv : Nat → Nat}
theorem Rr.coef (h : Rr a n G pv) {x : Nat → R} (hx : ∀ j, j < n → v j = sm a fun i => x i * G i j) {i : Nat} (hi : i < a) : v (pv i) = x i := by
 rw [hx _ (h.lt i hi), Xi hi fun k hk hne => by rw [h.piv k i hk hi, if_neg hne, mul_zero], h.piv i i hi hi, if_pos rfl, mul_one]
theorem Rr.comb (h : Rr a n G pv) (hv : Sp a n G v) {j : Nat} (hj : j < n) : v j = sm a fun i => v (pv i) * G i j := by
 obtain ⟨x, hx⟩ := hv
 rw [hx j hj]
 exact QW fun i hi => by rw [h.coef hx hi]
theorem Rr.zero (h : Rr a n G pv) (hv : Sp a n G v) (h0 : ∀ i, i < a → v (pv i) = 0) {j : Nat} (hj : j < n) : v j = 0 := by
 rw [h.comb hv hj]
 exact Jg fun i hi => by rw [h0 i hi, zero_mul]
theorem Rr.first (h : Rr a n G pv) (hv : Sp a n G v) {p : Nat} (hp : p < n) (h0 : ∀ x, x < p → v x = 0) (h1 : v p ≠ 0) : ∃ i, i < a ∧ pv i = p := by
 apply Classical.byContradiction
 intro hc
 have hc' : ∀ i, i < a → pv i ≠ p := fun i hi e => hc ⟨i, hi, e⟩
 refine h1 ?_
 rw [h.comb hv hp]
 refine Jg fun i hi => ?_
 rcases Nat.lt_or_gt_of_ne (hc' i hi) with e | e
 ·rw [h0 _ e, zero_mul]
 ·rw [h.lead i p hi e, mul_zero]
theorem Rr.same {b : Nat} {H : Nat → Nat → R} {qv : Nat → Nat} (h1 : (1 : R) ≠ 0) (h : Rr a n G pv) (k : Rr b n H qv) (hs : ∀ i, i < a → Sp b n H (G i)) : ∀ i, i < a → ∃ j, j < b ∧ qv j = pv i := fun i hi =>
 k.first (hs i hi) (h.lt i hi) (fun x hx => h.lead i x hi hx) (by rw [h.piv i i hi hi, if_pos rfl]; exact h1)
theorem asc_mono {pv : Nat → Nat} (ha : ∀ i j, i < j → j < a → pv i < pv j) {i j : Nat} (hi : i < a) (_ : j < a) (h : pv i < pv j) : i < j := by
 apply Classical.byContradiction
 intro hc
 rcases Nat.lt_or_eq_of_le (Nat.le_of_not_lt hc) with e | e
 ·have := ha j i e hi; omega
 ·subst e; omega
theorem asc_inj {pv : Nat → Nat} (ha : ∀ i j, i < j → j < a → pv i < pv j) {i j : Nat} (hi : i < a) (hj : j < a) (h : pv i = pv j) : i = j := by
 rcases Nat.lt_trichotomy i j with e | e | e
 ·have := ha i j e hj; omega
 ·exact e
 ·have := ha j i e hi; omega
theorem Kt {b : Nat} {pv qv : Nat → Nat} (hp : ∀ i j, i < j → j < a → pv i < pv j) (hq : ∀ i j, i < j → j < b → qv i < qv j) (h1 : ∀ i, i < a → ∃ j, j < b ∧ qv j = pv i) (h2 : ∀ j, j < b → ∃ i, i < a ∧ pv i = qv j) : ∀ i, i < a → i < b ∧ qv i = pv i := by
 intro i
 induction i using Nat.strongRecOn with
 | _ i ih =>
  intro hi
  obtain ⟨j, hj, e⟩ := h1 i hi
  have hij : i ≤ j := by
   apply Classical.byContradiction
   intro hc
   have h3 := (ih j (by omega) (by omega)).2
   have h4 := hp j i (by omega) hi
   omega
  rcases Nat.lt_or_eq_of_le hij with hlt | rfl
  ·exfalso
   obtain ⟨k, hk, ek⟩ := h2 i (by omega)
   have h3 := hq i j hlt hj
   have h4 := asc_mono hp hk hi (by omega)
   have h5 := (ih k h4 hk)
   have h6 := asc_inj hq (i := k) (j := i) h5.1 (by omega) (by rw [h5.2, ek])
   omega
  ·exact ⟨hj, e⟩
theorem Rr.uniq {b : Nat} {H : Nat → Nat → R} {qv : Nat → Nat} (h1 : (1 : R) ≠ 0) (h : Rr a n G pv) (k : Rr b n H qv) (hs : ∀ i, i < a → Sp b n H (G i)) (ks : ∀ i, i < b → Sp a n G (H i)) : a = b ∧ ∀ i, i < a → pv i = qv i ∧ ∀ j, j < n → G i j = H i j := by
 have p1 := Kt h.asc k.asc (h.same h1 k hs) (k.same h1 h ks)
 have p2 := Kt k.asc h.asc (k.same h1 h ks) (h.same h1 k hs)
 have hab : a = b := by
  rcases Nat.lt_trichotomy a b with e | e | e
  ·have := (p2 a e).1; omega
  ·exact e
  ·have := (p1 b e).1; omega
 subst hab
 refine ⟨rfl, fun i hi => ⟨(p1 i hi).2.symm, fun j hj => ?_⟩⟩
 have hd : Sp a n G (fun j => G i j + (-1) * H i j) := (Sp.row hi).add ((ks i hi).smul (-1))
 have h0 := h.zero hd (fun t ht => by
  try dsimp only
  rw [h.piv i t hi ht, ← (p1 t ht).2, k.piv i t hi ht, neg_mul, one_mul, Xd]) hj
 try dsimp only at h0
 rw [neg_mul, one_mul] at h0
 exact Qa3 h0
structure El (m n : Nat) (M0 M : Nat → Nat → R) (a : Nat) (pv : Nat → Nat) (c : Nat) : Prop where
 fwd : ∀ i, i < m → Sp m n M (M0 i)
 bwd : ∀ i, i < m → Sp m n M0 (M i)
 am : a ≤ m
 lt : ∀ i, i < a → pv i < c
 asc : ∀ i j, i < j → j < a → pv i < pv j
 piv : ∀ i j, i < m → j < a → M i (pv j) = if i = j then 1 else 0
 lead : ∀ i x, i < a → x < pv i → M i x = 0
 low : ∀ i x, a ≤ i → i < m → x < c → M i x = 0
variable {M0 : Nat → Nat → R} {c : Nat}
theorem El.first (M0 : Nat → Nat → R) (pv : Nat → Nat) : El m n M0 M0 0 pv 0 :=
 ⟨fun _ hi => Sp.row hi, fun _ hi => Sp.row hi, Nat.zero_le _, fun _ h => by omega, fun _ _ _ h => by omega, fun _ _ _ h => by omega, fun _ _ h => by omega, fun _ _ _ _ h => by omega⟩
theorem El.skip (h : El m n M0 M a pv c) (h0 : ∀ i, a ≤ i → i < m → M i c = 0) : El m n M0 M a pv (c + 1) :=
 ⟨h.fwd, h.bwd, h.am, fun i hi => Nat.lt_succ_of_lt (h.lt i hi), h.asc, h.piv, h.lead, fun i x h1 h2 h3 => by
  by_cases e : x = c
  ·rw [e]; exact h0 i h1 h2
  ·exact h.low i x h1 h2 (by omega)⟩
def swR (M : Nat → Nat → R) (a k : Nat) : Nat → Nat → R := fun i => if i = a then M k else if i = k then M a else M i
def elR (M : Nat → Nat → R) (a k c : Nat) (s : R) : Nat → Nat → R := fun i j => if i = a then s * M k j else swR M a k i j + -(swR M a k i c) * (s * M k j)
theorem El.step {k : Nat} {s : R} (h : El m n M0 M a pv c) (hk : a ≤ k) (hkm : k < m) (hs : s * M k c = 1) : El m n M0 (elR M a k c s) (a + 1) (fun i => if i = a then c else pv i) (c + 1) := by
 have hsw : ∀ i, i < m → ∃ i', i' < m ∧ swR M a k i = M i' ∧ (i < a → i' = i) ∧ (a ≤ i → a ≤ i') := fun i hi => by
  rw [swR]
  by_cases e1 : i = a
  ·exact ⟨k, hkm, by rw [if_pos e1], fun h => by omega, fun _ => hk⟩
  ·rw [if_neg e1]
   by_cases e2 : i = k
   ·exact ⟨a, by omega, by rw [if_pos e2], fun h => by omega, fun _ => Nat.le_refl _⟩
   ·exact ⟨i, hi, by rw [if_neg e2], fun _ => rfl, fun h => h⟩
 have hrowk : ∀ x, x < c → M k x = 0 := fun x hx => h.low k x hk hkm hx
 have ha : ∀ j, elR M a k c s a j = s * M k j := fun j => by rw [elR, if_pos rfl]
 have hne : ∀ i j, i ≠ a → elR M a k c s i j = swR M a k i j + -(swR M a k i c) * (s * M k j) := fun i j e => by rw [elR, if_neg e]
 have hin : ∀ i, i < m → Sp m n (elR M a k c s) (swR M a k i) := fun i hi => by
  by_cases e : i = a
  ·subst e
   refine ((Sp.row (M := elR M i k c s) (i := i) hi).smul (M k c)).congr fun j _ => ?_
   rw [ha, ← mul_assoc, mul_comm (M k c), hs, one_mul]
   rw [swR, if_pos rfl]
  ·refine ((Sp.row (M := elR M a k c s) (i := i) hi).add ((Sp.row (M := elR M a k c s) (i := a) (by omega)).smul (swR M a k i c))).congr fun j _ => ?_
   rw [hne i j e, ha, add_assoc, neg_mul, neg_add, add_zero]
 refine ⟨fun i hi => (h.fwd i hi).trans fun t ht => ?_, fun i hi => ?_, by omega, fun i hi => ?_, fun i j hij hj => ?_, fun i j hi hj => ?_, fun i x hi hx => ?_, fun i x hi hi2 hx => ?_⟩
 ·by_cases e1 : t = a
  ·have := hin k hkm
   rw [e1]
   by_cases e2 : k = a
   ·rw [swR, if_pos e2] at this; rw [← e2]; rw [e2] at this ⊢; exact this
   ·rw [swR, if_neg e2, if_pos rfl] at this; exact this
  ·by_cases e2 : t = k
   ·have := hin a (by omega)
    rw [swR, if_pos rfl] at this
    rw [e2]; exact this
   ·have := hin t ht
    rw [swR, if_neg e1, if_neg e2] at this; exact this
 ·by_cases e : i = a
  ·rw [e]
   exact ((h.bwd k hkm).smul s).congr fun j _ => ha j
  ·obtain ⟨i', hi', e', _⟩ := hsw i hi
   refine ((h.bwd i' hi').add ((h.bwd k hkm).smul (-(swR M a k i c) * s))).congr fun j _ => ?_
   rw [hne i j e, e', mul_assoc]
 ·try dsimp only
  by_cases e : i = a
  ·rw [if_pos e]; omega
  ·rw [if_neg e]; have := h.lt i (by omega); omega
 ·try dsimp only
  rw [if_neg (show i ≠ a by omega)]
  by_cases e : j = a
  ·rw [if_pos e]; exact h.lt i (by omega)
  ·rw [if_neg e]; exact h.asc i j hij (by omega)
 ·try dsimp only
  by_cases e : j = a
  ·rw [if_pos e]
   by_cases e2 : i = a
   ·rw [e2, ha, hs, if_pos (by omega)]
   ·rw [hne i c e2, hs, mul_one, Xd, if_neg (by omega)]
  ·rw [if_neg e]
   have hj' : j < a := by omega
   have hkj : M k (pv j) = 0 := by rw [h.piv k j hkm hj', if_neg (by omega)]
   by_cases e2 : i = a
   ·rw [e2, ha, hkj, mul_zero, if_neg (by omega)]
   ·rw [hne i _ e2, hkj, mul_zero, mul_zero, add_zero]
    obtain ⟨i', hi', e', h3, h4⟩ := hsw i hi
    rw [e', h.piv i' j hi' hj']
    by_cases e5 : i < a
    ·rw [h3 e5]
    ·rw [if_neg (by have := h4 (by omega); omega), if_neg (by omega)]
 ·try dsimp only at hx
  by_cases e : i = a
  ·rw [if_pos e] at hx
   rw [e, ha, hrowk x hx, mul_zero]
  ·rw [if_neg e] at hx
   have hia : i < a := by omega
   obtain ⟨i', hi', e', h3, h4⟩ := hsw i (by have := h.am; omega)
   rw [hne i x e, e', h3 hia, h.lead i x hia hx, hrowk x (by have := h.lt i hia; omega), mul_zero, mul_zero, add_zero]
 ·obtain ⟨i', hi', e', h3, h4⟩ := hsw i hi2
  have e : i ≠ a := by omega
  by_cases e2 : x = c
  ·rw [e2, hne i c e, hs, mul_one, Xd]
  ·rw [hne i x e, hrowk x (by omega), mul_zero, mul_zero, add_zero, e', h.low i' x (h4 (by omega)) hi' (by omega)]
theorem El.last (h : El m n M0 M a pv c) (hc : c = n ∨ a = m) (hcn : c ≤ n) : Rr a n M pv ∧ ∀ v, Sp a n M v ↔ Sp m n M0 v := by
 refine ⟨⟨fun i hi => by have := h.lt i hi; omega, h.asc, fun i j hi hj => h.piv i j (by have := h.am; omega) hj, h.lead⟩, fun v => ⟨fun hv => (hv.more h.am).trans h.bwd, fun hv => (hv.trans h.fwd).less fun i hi hi2 j hj => ?_⟩⟩
 rcases hc with e | e
 ·exact h.low i j hi hi2 (by omega)
 ·omega
end
end Go.Alg
namespace Go.Ld
def tmJ (d w : Int) : Nat → Int
 | 0 => 0
 | j + 1 => tmJ d w j + (d - w * j + 1)
def tm (d w : Int) : Int := tmJ d w (d / w).toNat.succ
def degF (c w : Int) : Nat → Int → Int
 | 0, d => d
 | f + 1, d => if tm d w ≤ c then degF c w f (d + 1) else d
def deg (c w : Int) : Int := degF c w 9000 0
def wt (k : Int) : Int := max (k - 1) 1
def cost (n m : Int) : Int := n * m * (m + 1) / 2
def okB (n k t m : Int) : Bool := decide (cost n m ≤ 4096) && (decide (deg (cost n m) (wt k) / wt k ≤ 64) && decide (deg (cost n m) (wt k) < m * (n - t)))
def parF (n k t : Int) : Nat → Int → List Int × Int
 | 0, _ => ([0, 0, 0], 11)
 | f + 1, m => if okB n k t m then ([m, deg (cost n m) (wt k), deg (cost n m) (wt k) / wt k], 0) else parF n k t f (m + 1)
def bad (n k t : Int) : Bool := decide (n < 1) || decide (64 < n) || decide (k < 0) || decide (n < k) || decide (t < 0) || decide (n < t)
def par (n k t : Int) : List Int × Int := if bad n k t then ([0, 0, 0], 6) else parF n k t 16 1
def limF (n k : Int) : Nat → Int
 | 0 => -1
 | s + 1 => if (par n k s).2 = 0 then s else limF n k s
def lim (n k : Int) : Int × Int := if n < 1 ∨ 64 < n ∨ k < 0 ∨ n < k then (0, 6) else if limF n k (n + 1).toNat = -1 then (0, 11) else (limF n k (n + 1).toNat, 0)
end Go.Ld
namespace Go.Alg
def Pol (R : Type) [CR R] : Type := { f : PS R // ∃ n, Sup n f }
section
variable {R S : Type} [CR R] [CR S]
def Pol.co (f : Pol R) (i : Nat) : R := f.1 i
theorem Pol.ext {f g : Pol R} (h : ∀ i, f.co i = g.co i) : f = g := Subtype.ext (funext h)
instance : Add (Pol R) := ⟨fun f g => ⟨f.1 + g.1, by
 obtain ⟨n, hn⟩ := f.2
 obtain ⟨m, hm⟩ := g.2
 exact ⟨max n m, (hn.mono (Nat.le_max_left n m)).add (hm.mono (Nat.le_max_right n m))⟩⟩⟩
instance : Mul (Pol R) := ⟨fun f g => ⟨f.1 * g.1, by
 obtain ⟨n, hn⟩ := f.2
 obtain ⟨m, hm⟩ := g.2
 exact ⟨_, hn.mul hm⟩⟩⟩
instance : Neg (Pol R) := ⟨fun f => ⟨-f.1, by
 obtain ⟨n, hn⟩ := f.2
 exact ⟨n, hn.neg⟩⟩⟩
instance : Zero (Pol R) := ⟨⟨0, 0, Sup.zero 0⟩⟩
instance : One (Pol R) := ⟨⟨1, 1, Sup.one (Nat.le_refl _)⟩⟩
instance : CR (Pol R) where
 add_assoc a b c := Subtype.ext (add_assoc a.1 b.1 c.1)
 add_comm a b := Subtype.ext (add_comm a.1 b.1)
 zero_add a := Subtype.ext (zero_add a.1)
 neg_add a := Subtype.ext (neg_add a.1)
 mul_assoc a b c := Subtype.ext (mul_assoc a.1 b.1 c.1)
 mul_comm a b := Subtype.ext (mul_comm a.1 b.1)
 one_mul a := Subtype.ext (one_mul a.1)
 mul_add a b c := Subtype.ext (mul_add a.1 b.1 c.1)
theorem co_zero (i : Nat) : (0 : Pol R).co i = 0 := rfl
def pC (a : R) : Pol R := ⟨psC a, 1, fun i hi => by rw [psC, if_neg (by omega)]⟩
def pX : Pol R := ⟨psX, 2, fun i hi => by rw [psX, if_neg (by omega)]⟩
noncomputable def pev (φ : R → S) (x : S) (f : Pol R) : S := evp φ x (Classical.choose f.2) f.1
variable {φ : R → S}
end
end Go.Alg
namespace Go.Fd
open Go.Alg
variable {P : FP}
def pz (P : FP) (z : List Int) : Pol (K P) := ⟨fun i => inK P (z.getD i 0), z.length, fun i hi => by
 have h : z.getD i 0 = 0 := by simp [List.getD_eq_getElem?_getD, List.getElem?_eq_none hi]
 show inK P (z.getD i 0) = 0
 rw [h]; exact ZF (by have := P.q_two; omega)⟩
def trimL : List Int → List Int
 | [] => []
 | a :: l => if trimL l = [] ∧ a = 0 then [] else a :: trimL l
end Go.Fd
namespace Go.Fd
open Go.Alg
variable {P : FP}
theorem pz_nil : pz P [] = 0 := Pol.ext fun i => by
 show inK P 0 = 0
 exact ZF (by have := P.q_two; omega)
def bz (P : FP) (L : List (List Int)) : Pol (Pol (K P)) := ⟨fun j => pz P (L.getD j []), L.length, fun j hj => by
 have h : L.getD j [] = [] := by simp [List.getD_eq_getElem?_getD, List.getElem?_eq_none hj]
 show pz P (L.getD j []) = 0
 rw [h, pz_nil]⟩
noncomputable def val1 (f : Pol (K P)) (x : K P) : K P := pev (fun a => a) x f
noncomputable def val2 (F : Pol (Pol (K P))) (x y : K P) : K P := pev (fun f => val1 f x) y F
noncomputable def subst (F : Pol (Pol (K P))) (h : Pol (K P)) : Pol (K P) := pev (fun f => f) h F
end Go.Fd
namespace Go.Alg
section
variable {R S T : Type} [CR R] [CR S] [CR T]
def hsP (k : Nat) (f : Pol R) : Pol R := ⟨hs k f.1, by
 obtain ⟨n, hn⟩ := f.2
 exact ⟨n - k, hs_sup hn⟩⟩
theorem co_hsP (k : Nat) (f : Pol R) (i : Nat) : (hsP k f).co i = nm (bc (i + k) k) (f.co (i + k)) := rfl
def hs2 (a b : Nat) (F : Pol (Pol R)) : Pol (Pol R) := ⟨fun j => nm (bc (j + b) b) (hsP a (F.co (j + b))), by
 obtain ⟨n, hn⟩ := F.2
 refine ⟨n - b, fun j hj => ?_⟩
 have h0 : F.co (j + b) = 0 := hn (j + b) (by omega)
 have h1 : hsP a (0 : Pol R) = 0 := Pol.ext fun i => by rw [co_hsP, co_zero, Kh]; rfl
 show nm (bc (j + b) b) (hsP a (F.co (j + b))) = 0
 rw [h0, h1, Kh]⟩
end
end Go.Alg
namespace Go.Alg
section
variable {R : Type} [CR R]
theorem QbA {p : Nat → Prop} (h : ∃ n, p n) : ∃ n, p n ∧ ∀ m, m < n → ¬ p m := by
 obtain ⟨n, hn⟩ := h
 induction n using Nat.strongRecOn with
 | _ n ih =>
  by_cases hl : ∃ m, m < n ∧ p m
  ·obtain ⟨m, hm, hp⟩ := hl
   exact ih m hm hp
  ·exact ⟨n, hn, fun m hm hp => hl ⟨m, hm, hp⟩⟩
end
end Go.Alg
namespace Go.Alg
section
variable {R : Type} [CR R]
end
end Go.Alg
namespace Go.Fd
open Go.Pl Go.Alg
variable {P : FP}
theorem inK0 : inK P 0 = 0 := ZF (by have := P.q_two; omega)
theorem inK1 : inK P 1 = 1 := ZF (by have := P.q_two; omega)
noncomputable def cl (f : Pol (K P)) : List Int := trimL (tab (Classical.choose f.2) fun i => (f.co i).1)
theorem tab_at {α : Type} {m : Nat} {f : Nat → α} {i : Nat} {d : α} : (tab m f).getD i d = if i < m then f i else d := by
 rw [List.getD_eq_getElem?_getD]
 split
 ·rename_i h; rw [Za h]; rfl
 ·rename_i h
  rw [List.getElem?_eq_none (by rw [Qs]; omega)]; rfl
theorem k_one : (1 : K P) = inK P 1 := (ZF (by have := P.q_two; omega)).symm
end Go.Fd
