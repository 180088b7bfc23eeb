import Derived.Test.YtcfbigmjjpknfaaGreatDoorW14
import Derived.Test.YtcfbigmjjpknfaaGreatDoorW00
namespace Go.Proofs.YtcfbigmjjpknfaaGreatDoor
open Go Go.Sx Go.Pl Go.RowKit Go.Fd Go.Alg
theorem infoI9 : Tryz.prog.info? 3 = some Tryz.t3 := by kernel_rfl
theorem zvI9 : ZV Tryz.prog 3 [.int .i64 0] := fun w => ⟨_, by simp [zeroValue, typeInfo, infoI9]; rfl, rfl⟩
theorem GFV.one {w : World} {P : FP} {g : Value} (h : GFV w P g) : g.oneCell' = true := by
 obtain ⟨b, mc, exp, log, md, lg, x, rfl, -⟩ := h.ex
 rfl
theorem QbX {Bp : Nat} {w w' : World} {pv v1 v2 : Value} {E : TypeId} {zs : List Int} {ra rc ra' rc' : List Value} (hpv : OwnI Bp w pv E zs) (hpx : ∀ k, pv.ownBlock = some k → k ∉ bks v1 ra ∧ k ∉ bks v2 rc) (hG : Gr (bks v1 ra ++ bks v2 rc) w w')
  (n1 : ∀ k ∈ bks v1 ra', k ∈ bks v1 ra ∨ w.heap.size ≤ k) (n2 : ∀ k ∈ bks v2 rc', k ∈ bks v2 rc ∨ w.heap.size ≤ k) : OwnI Bp w' pv E zs ∧ ∀ k, pv.ownBlock = some k → k ∉ bks v1 ra' ∧ k ∉ bks v2 rc' := by
 refine ⟨Own.gr hpv hG (fun k hk h => (List.mem_append.1 h).elim (hpx k hk).1 (hpx k hk).2), fun k hk => ?_⟩
 have hl := (Own.lt hpv k hk).2
 exact ⟨fun h => (n1 k h).elim (hpx k hk).1 (fun h => by omega), fun h => (n2 k h).elim (hpx k hk).2 (fun h => by omega)⟩
theorem QbQ {w w' : World} {v1 v2 : Value} {T : TypeId} {cs : Array Value} {b : Nat} {ra rc ra' rc' : List Value} (hb : Blk w b T cs) (hx : b ∉ bks v1 ra ∧ b ∉ bks v2 rc) (hG : Gr (bks v1 ra ++ bks v2 rc) w w')
  (n1 : ∀ k ∈ bks v1 ra', k ∈ bks v1 ra ∨ w.heap.size ≤ k) (n2 : ∀ k ∈ bks v2 rc', k ∈ bks v2 rc ∨ w.heap.size ≤ k) : Blk w' b T cs ∧ (b ∉ bks v1 ra' ∧ b ∉ bks v2 rc') := by
 have hl := hb.lt
 exact ⟨hb.gr hG (fun h => (List.mem_append.1 h).elim hx.1 hx.2), fun h => (n1 _ h).elim hx.1 (fun h => by omega), fun h => (n2 _ h).elim hx.2 (fun h => by omega)⟩
theorem elEach {B gb rb ab : Nat} {X0 : List Nat} {g v1 v2 : Value} {wi w : World} {ra rc : List Value} {M1 M2 : List (List Int)} (hel : EL B gb rb ab X0 g v1 v2 wi w ra rc M1 M2) (F : FuncId) (caps : List Value) (M1' M2' : List (List Int)) (hz : M2 = [] → M2' = []) (hcall : ∀ args w, (callFunc F args).run Tryz.prog w = .ok (.enter F args) w)
  (h1 : Calls Tryz.prog F (v1 :: caps).toArray w (RetG (bks v1 ra) w (StepR B w v1 ra M1')))
  (h2 : M2 ≠ [] → ∀ w', Gr (bks v1 ra) w w' → OM B w' v2 22 3 rc M2 → Calls Tryz.prog F (v2 :: caps).toArray w' (RetG (bks v2 rc) w' (StepR B w' v2 rc M2'))) :
  Calls Tryz.prog 249 #[.func (.func F) #[] caps.toArray, .pointer (some ⟨rb, 0, none⟩), .pointer (some ⟨ab, 0, none⟩)] w (RetG (bks v1 ra ++ bks v2 rc) w fun r w' => r = .tuple #[] ∧
   ∃ ra' rc', EL B gb rb ab X0 g v1 v2 wi w' ra' rc' M1' M2' ∧ (∀ k ∈ bks v1 ra', k ∈ bks v1 ra ∨ w.heap.size ≤ k) ∧ (∀ k ∈ bks v2 rc', k ∈ bks v2 rc ∨ w.heap.size ≤ k)) := by
 obtain ⟨x1, x2, _⟩ := hel.rX
 refine (cEach F caps v1 v2 ra rc M1 M2 M1' M2' B rb ab w hel.om1 hel.om2 hel.dis hel.rB hel.aB x1 x2 hz hcall h1 h2).mono fun e w' he => ?_
 cases e with
 | returned v =>
  obtain ⟨hG, hr, ra', rc', o1, o2, n1, n2, hd⟩ := he
  exact ⟨hG, hr, ra', rc', hel.step hG o1 o2 n1 n2 hd, n1, n2⟩
 | panicked c => exact he.elim
 | outgrown => exact he.elim
theorem EL.grow {B gb rb ab : Nat} {X0 : List Nat} {g v1 v2 : Value} {wi w w' : World} {Ze Zc : List Value} {L1 L2 : List (List Int)} {row : Option Nat} (h : EL B gb rb ab X0 g v1 v2 wi w Ze Zc L1 L2) (hg : w.grownBy w' row)
  (hr : ∀ k, row = some k → wi.heap.size ≤ k ∧ k ∉ bks v1 Ze ∧ k ∉ bks v2 Zc ∧ k ≠ gb ∧ k ≠ rb ∧ k ≠ ab) : EL B gb rb ab X0 g v1 v2 wi w' Ze Zc L1 L2 := by
 cases row with
 | none => exact h.ext (Ext.of_grown hg)
 | some k =>
  obtain ⟨a, b, c, d, e, f⟩ := hr k rfl
  exact h.var hg a b c d e f
theorem gInv2 (P : FP) (g : Value) (x : Int) (w : World) (hG : GFV w P g) :
  Calls Tryz.prog 60 #[g, .int .i64 x] w (RetX w fun v _ => ∃ iv er : Int, v = .tuple #[.int .i64 iv, .int .i64 er] ∧ (er = 0 ∧ iv = (opsP P).iv x ∨ er ≠ 0 ∧ (opsP P).iv x = 1)) := by
 refine (gInv P g x w hG).mono fun e w' he => ?_
 cases e with
 | returned v =>
  obtain ⟨hE, rfl⟩ := he
  refine ⟨hE, ?_⟩
  by_cases h : inK P x = 0
  ·exact ⟨0, 7, by rw [if_pos h], .inr ⟨by decide, by simp [opsP, h]⟩⟩
  ·exact ⟨_, 0, by rw [if_neg h], .inl ⟨rfl, by simp [opsP, h]⟩⟩
 | panicked c => exact he.elim
 | outgrown => exact he.elim
set_option maxRecDepth 20000 in
theorem mxElim (P : FP) (g v1 v2 : Value) (Ze Zc : List Value) (L1 L2 : List (List Int)) (cols n1 n2 B : Nat) (w0 w : World) (hG : GFV w0 P g) (hE0 : Ext w0 w) (hB0 : w0.heap.size ≤ B) (hB : B ≤ w.heap.size)
  (hom1 : OM B w v1 22 3 Ze L1) (hom2 : OM B w v2 22 3 Zc L2) (hdis : ∀ k ∈ bks v2 Zc, k ∉ bks v1 Ze) (hl1 : ∀ l ∈ L1, l.length = n1) (hl2 : ∀ l ∈ L2, l.length = n2) (hcn : cols ≤ n1) (h1 : n1 ≤ 100000) (h2 : n2 ≤ 100000) (h3 : L1.length ≤ 100000) (h4 : L2 = [] ∨ L2.length = L1.length) :
  Calls Tryz.prog 149 #[g, v1, .int .i64 cols, v2] w (RetG (bks v1 Ze ++ bks v2 Zc) w fun r w' => ∃ pv d rows1' rows2', r = .tuple #[pv, .int .i64 d] ∧
   OwnI w.heap.size w' pv 3 ((Ml.elim (opsP P) cols cols 0 [] (L1, L2)).2.2.map Int.ofNat) ∧ OM B w' v1 22 3 rows1' (Ml.elim (opsP P) cols cols 0 [] (L1, L2)).1 ∧ OM B w' v2 22 3 rows2' (Ml.elim (opsP P) cols cols 0 [] (L1, L2)).2.1 ∧
   (∀ k ∈ bks v1 rows1', k ∈ bks v1 Ze ++ bks v2 Zc ∨ w.heap.size ≤ k) ∧ (∀ k ∈ bks v2 rows2', k ∈ bks v1 Ze ++ bks v2 Zc ∨ w.heap.size ≤ k) ∧ (∀ k ∈ bks v2 rows2', k ∉ bks v1 rows1') ∧ (∀ k, pv.ownBlock = some k → k ∉ bks v1 rows1' ∧ k ∉ bks v2 rows2')) := by
 have hg1 := hG.one
 have hv11 : v1.oneCell' = true := Value.slice_cells _ (by obtain ⟨a, c, e⟩ := Sl.slice hom1.own.sl; exact ⟨_, _, _, e⟩)
 have hv21 : v2.oneCell' = true := Value.slice_cells _ (by obtain ⟨a, c, e⟩ := Sl.slice hom2.own.sl; exact ⟨_, _, _, e⟩)
 have hbk1 := hom1.bk
 have hbk2 := hom2.bk
 have hX0 : ∀ k ∈ bks v1 Ze ++ bks v2 Zc, w0.heap.size ≤ k := fun k hk => by
  rcases List.mem_append.1 hk with h | h
  ·have := (hbk1 k h).1; omega
  ·have := (hbk2 k h).1; omega
 refine JW Tryz.func149 rfl rfl (Qc (Qb [0,1,2,3,4] rfl (BXV rfl wu rfl rfl (by first | rfl | assumption) ?_)))
 intro gb wa hEa hgB hgb
 refine BXV rfl wu rfl rfl (by first | rfl | assumption) ?_
 intro rb wb hEb hrB hrb
 replace hgB := hgB.ext hEb
 refine BXV rfl wu rfl rfl (by first | rfl | assumption) ?_
 intro ab wc hEc haB hab
 replace hgB := hgB.ext hEc
 replace hrB := hrB.ext hEc
 refine Qk rfl rfl (Qk rfl rfl (Qd (Qa (Qc ?_))))
 have hE := (hEa.trans hEb).trans hEc
 have hE0c := hE0.trans hE
 have hlt3 : gb < wc.heap.size ∧ rb < wc.heap.size ∧ ab < wc.heap.size := ⟨hgB.lt, hrB.lt, haB.lt⟩
 have hza := hEa.size
 have hzb := hEb.size
 have hzc := hEc.size
 have hel : EL B gb rb ab (bks v1 Ze ++ bks v2 Zc) g v1 v2 wc wc Ze Zc L1 L2 := ⟨Gr.refl _ _, hom1.ext hE, hom2.ext hE, hdis, fun k hk => .inl (List.mem_append_left _ hk), fun k hk => .inl (List.mem_append_right _ hk), hgB, hrB, haB⟩
 refine Qb [0] rfl (Qk rfl rfl (Qd (Qa (Qc (Qb [0,1] rfl (Vw rfl (mkf rfl rfl) (Qk rfl rfl (Qd (Qa (Qc (Qb [0] rfl (Qk rfl rfl (Qd (Qa (Qc (Qc ?_))))))))))))))))
 refine Qb [0] rfl (Qk rfl rfl (Qd (Qa (Qf ?_))))
 refine Qv (fun p : Nat × Int × Value × List Nat × (List Value × List Value) × (List (List Int) × List (List Int)) => [(2, .int .i64 cols), (4, .pointer (some ⟨gb, 0, none⟩)), (5, .pointer (some ⟨rb, 0, none⟩)), (7, .pointer (some ⟨ab, 0, none⟩)), (10, .int .i64 p.2.1), (11, .func (.func 249) #[] #[.pointer (some ⟨rb, 0, none⟩), .pointer (some ⟨ab, 0, none⟩)]), (12, p.2.2.1), (13, .int .i64 p.1)])
  (fun p w' => p.1 ≤ cols ∧ EL B gb rb ab (bks v1 Ze ++ bks v2 Zc) g v1 v2 wc w' p.2.2.2.2.1.1 p.2.2.2.2.1.2 p.2.2.2.2.2.1 p.2.2.2.2.2.2 ∧ OwnI wc.heap.size w' p.2.2.1 3 (p.2.2.2.1.map Int.ofNat) ∧
   Ml.elim (opsP P) cols (cols - p.1) p.1 p.2.2.2.1 p.2.2.2.2.2 = Ml.elim (opsP P) cols cols 0 [] (L1, L2) ∧ p.2.2.2.2.2.1.length = L1.length ∧ (∀ l ∈ p.2.2.2.2.2.1, l.length = n1) ∧ (∀ l ∈ p.2.2.2.2.2.2, l.length = n2) ∧ p.2.2.2.2.2.2.length = L2.length ∧ p.2.2.2.1.length ≤ p.1 ∧
   (∀ k, p.2.2.1.ownBlock = some k → k ∉ bks v1 p.2.2.2.2.1.1 ∧ k ∉ bks v2 p.2.2.2.2.1.2)) (fun p => cols - p.1) (0, 1, .slice none 0 0, [], (Ze, Zc), (L1, L2)) ⟨rfl, rfl, rfl, rfl, rfl, rfl, rfl, rfl, trivial⟩
  ⟨by omega, hel, OwnI.nil _ _ _, by simp, rfl, hl1, hl2, rfl, by simp, fun k hk => by cases hk⟩ ?_
 clear hel hgB hrB haB
 rintro ⟨c, det, pv, ps, ⟨ra, rc⟩, ⟨M1, M2⟩⟩ wi ⟨c1, hel, hpv, heq, hm1, hr1, hr2, hm2, hpc, hpx⟩
 dsimp only at c1 hel hpv heq hm1 hr1 hr2 hm2 hpc hpx
 have hpl : (ps.map Int.ofNat).length = ps.length := by simp
 have hpi := OwnI.ints hpv
 have hrl := hel.om1.len
 try dsimp only
 refine Qc (Qc (Qb [0,1,2,3,4,5,6,7,8,9] rfl (mvV rfl rfl (mvV rfl rfl (Qy rfl rfl rfl (mvV rfl rfl ?_))))))
 refine AND (π1 := [4,5,6,7,8,9]) (π2 := []) (tc := 24) (tp := 30) rfl rfl rfl (by
   intro hg
   simp at hg
   refine Vg rfl rfl rfl (mv rfl) (Vg rfl rfl rfl (Zh rfl QA hpi) (Vg rfl rfl rfl (ldB rfl Zm hel.rB) (Vg rfl rfl rfl (Zt rfl QN hel.om1.own.sl) (Vg rfl rfl rfl (Qan rfl rfl) (pkV rfl rfl rfl ?_)))))
   exact Zx rfl) (by
   intro _
   refine SK rfl rfl rfl rfl rfl (SK rfl rfl rfl rfl rfl (SK rfl rfl rfl rfl rfl (SK rfl rfl rfl rfl rfl (SK rfl rfl rfl rfl rfl (pkV rfl rfl rfl ?_)))))
   exact Zx rfl) ?_
 refine Qd (Qa (Qo rfl ?_ ?_))
 ·intro hc
  simp at hc
  obtain ⟨hc1, hc2⟩ := hc
  have hpb := Own.lt hpv
  have hb1 := hel.om1.bk
  have hb2 := hel.om2.bk
  have hlgb := hel.gB.lt
  have hlrb := hel.rB.lt
  have hlab := hel.aB.lt
  have hzi := hel.gr.size
  refine Qe (Qa (Qc (Qf (Qc (Qb [0,1,2,3] rfl (mvV rfl rfl (Vw rfl (Zh rfl QA hpi) (AL rfl wu rfl zvI9 ?_))))))))
  intro tb w1 hE1 hA htb
  refine STV rfl wu rfl rfl sv3 nofun (hA) (rfl) ?_
  intro w2 hg2 hX2 hA2
  refine Qd (Qa (Qc ?_))
  have hE2 := hX2 wi htb hE1
  replace hel := hel.ext hE2
  replace hpv := hpv.ext hE2
  have htX : tb ∉ bks v1 ra ∧ tb ∉ bks v2 rc := ⟨fun h => by have := (hb1 _ h).2; omega, fun h => by have := (hb2 _ h).2; omega⟩
  refine Qb [0,1,2] rfl (Vw rfl (ldB rfl na3 hA2) (AL rfl wu rfl zvI9 ?_))
  intro kb w3 hE3 hK hkb
  refine STV rfl wu rfl rfl sv3 nofun (hK) (rfl) ?_
  intro w4 hg4 hX4 hK4
  refine Qd (Qa (Qc (Qf ?_)))
  have hE4 := hX4 w2 hkb hE3
  replace hel := hel.ext hE4
  replace hpv := hpv.ext hE4
  have hA4 := hA2.ext hE4
  refine Qv (fun k : Nat => [(2, .int .i64 cols), (4, .pointer (some ⟨gb, 0, none⟩)), (5, .pointer (some ⟨rb, 0, none⟩)), (7, .pointer (some ⟨ab, 0, none⟩)), (10, .int .i64 det), (11, .func (.func 249) #[] #[.pointer (some ⟨rb, 0, none⟩), .pointer (some ⟨ab, 0, none⟩)]), (12, pv), (13, .int .i64 c), (14, .pointer (some ⟨tb, 0, none⟩)), (15, .pointer (some ⟨kb, 0, none⟩))])
   (fun k w' => ps.length ≤ k ∧ k ≤ M1.length ∧ EL B gb rb ab (bks v1 Ze ++ bks v2 Zc) g v1 v2 wc w' ra rc M1 M2 ∧ OwnI wc.heap.size w' pv 3 (ps.map Int.ofNat) ∧ Blk w' tb 3 #[.int .i64 ps.length] ∧ Blk w' kb 3 #[.int .i64 k] ∧ Ml.piv M1 c (M1.length - k) k = Ml.piv M1 c (M1.length - ps.length) ps.length)
   (fun k => M1.length - k) ps.length ⟨rfl, rfl, rfl, rfl, rfl, rfl, rfl, rfl, rfl, rfl, trivial⟩ ⟨Nat.le_refl _, by omega, hel, hpv, by rw [← hpl]; exact hA4, by rw [← hpl]; exact hK4, rfl⟩ ?_
  have hz2 := hE2.size
  have hkX : kb ∉ bks v1 ra ∧ kb ∉ bks v2 rc := ⟨fun h => by have := (hb1 _ h).2; omega, fun h => by have := (hb2 _ h).2; omega⟩
  have hkt : kb ≠ tb := by have := hA2.lt; omega
  clear hel hpv hA4 hK4
  rintro k w5 ⟨k1, k2, hel, hpv, hA, hK, hpk⟩
  try dsimp only
  refine Qc (Qc ?_)
  by_cases hkl : k < M1.length
  ·obtain ⟨r, hrk, hro⟩ := hel.om1.get hkl
   have hrlen : (M1.getD k []).length = n1 := hr1 _ (List.mem_of_getElem? (getD_some (d := []) hkl))
   refine Qb [0,1,2,3,4,5,6,7,8,9,10,11,12,13] rfl (Vw rfl (ldB rfl na3 hK) (Vw rfl (ldB rfl Zm hel.rB) (Vw rfl (Zt rfl QN hel.om1.own.sl) (Qy rfl rfl rfl (mvV rfl rfl (KB 40 true rfl (by simp; omega) (Vg rfl rfl rfl (ldB rfl Zm hel.rB) (Vg rfl rfl rfl (ldB rfl na3 hK) (Vg rfl rfl rfl (iad rfl rfl QN hel.om1.own.sl (by omega) (by omega)) ?_)))))))))
   refine Vg rfl rfl rfl (ldE rfl Zk hel.om1.own.sl (by rw [Int.toNat_natCast]; exact hrk) (Ext.refl _)) (Vg rfl rfl rfl (mv rfl) (Vg rfl rfl rfl (QO rfl rfl QA (OwnI.ints hro) (by omega) (by omega)) (Vg rfl rfl rfl (ldI rfl na3 (OwnI.ints hro) (Ext.refl _) (by omega) (by omega)) (Vg rfl rfl rfl (KV rfl rfl) (pkV rfl rfl rfl (Qd (Qa (Qo rfl ?_ ?_))))))))
   ·intro hz
    have hz0 : gi (M1.getD k []) c = 0 := by simpa using hz
    refine Qe (Qa (Qf (Qb [0,1,2] rfl (Vw rfl (ldB rfl na3 hK) (Qw rfl rfl rfl (STV rfl wu rfl rfl sv3 nofun (hK) (rfl) ?_))))))
    intro w6 hg6 hX6 hK6
    refine Qd (Qg ?_)
    exact Qi (k + 1) ⟨rfl, rfl, rfl, rfl, rfl, rfl, rfl, rfl, rfl, rfl, trivial⟩ ⟨by omega, by omega, hel.var hg6 (by omega) hkX.1 hkX.2 (by omega) (by omega) (by omega),
     Own.gr (X := [kb]) hpv (Gr.of_grown hg6 (fun j e => by simp [Option.some.inj e])) (fun j hj e => by have := (hpb j hj).2; have := List.mem_singleton.1 e; omega), hA.grown hg6 (fun e => hkt (Option.some.inj e)), hK6, by rw [← Ml.piv_step hkl hz0]; exact hpk⟩ (by omega)
   ·intro hz
    have hz0 : gi (M1.getD k []) c ≠ 0 := by simpa using hz
    have hpv0 : Ml.piv M1 c (M1.length - ps.length) ps.length = k := by rw [← hpk, Ml.piv_stop (fun _ => hz0)]
    refine Qt (Ql (Qm (Qh (Qa (Qc (Qc (Qb [0,1,2,3] rfl (Vw rfl (ldB rfl na3 hK) (Vw rfl (ldB rfl Zm hel.rB) (Vw rfl (Zt rfl QN hel.om1.own.sl) (QU rfl rfl rfl (Qd (Qa (Qn rfl (by simp; omega) (Qe (Qa (Qc (Qc (Qb [0,1,2] rfl ?_)))))))))))))))))))
    refine Vw rfl (ldB rfl na3 hK) (Vw rfl (ldB rfl na3 hA) (QG rfl rfl rfl (Qd (Qa ?_))))
    have hat : ps.length < M1.length := by omega
    have hz4 : M2 = [] ∨ M2.length = M1.length := by
     rcases h4 with h4 | h4
     ·left
      rw [h4] at hm2
      exact List.eq_nil_of_length_eq_zero hm2
     ·right
      omega
    have hR1 : Ml.RL n1 M1 := hr1
    have hR2 : Ml.RL n2 M2 := hr2
    obtain ⟨hNR1, hNR2⟩ := Ml.stepA_RL (a := ps.length) (k := k) (r := (M1, M2)) hR1 hR2 ⟨fun _ => hkl, fun _ => hat⟩ (by
     rcases hz4 with e | e
     ·rw [e]; simp
     ·dsimp only; rw [e]; exact ⟨fun _ => hkl, fun _ => hat⟩)
    obtain ⟨hNl1, hNl2⟩ := Ml.stepA_len (a := ps.length) (k := k) (r := (M1, M2))
    have hNe : Ml.stepA ps.length k (M1, M2) = if Nat.beq k ps.length then (M1, M2) else (Ml.swapL M1 ps.length k, Ml.swapL M2 ps.length k) := rfl
    generalize hNd : Ml.stepA ps.length k (M1, M2) = N at hNR1 hNR2 hNl1 hNl2 hNe
    obtain ⟨N1, N2⟩ := N
    dsimp only at hNR1 hNR2 hNl1 hNl2
    refine XO (σ := Int × List Value × List Value) (fun s => [(2, .int .i64 cols), (4, .pointer (some ⟨gb, 0, none⟩)), (5, .pointer (some ⟨rb, 0, none⟩)), (7, .pointer (some ⟨ab, 0, none⟩)), (10, .int .i64 s.1), (11, .func (.func 249) #[] #[.pointer (some ⟨rb, 0, none⟩), .pointer (some ⟨ab, 0, none⟩)]), (12, pv), (13, .int .i64 c), (14, .pointer (some ⟨tb, 0, none⟩))])
     (fun s w' => EL B gb rb ab (bks v1 Ze ++ bks v2 Zc) g v1 v2 wc w' s.2.1 s.2.2 N1 N2 ∧ OwnI wc.heap.size w' pv 3 (ps.map Int.ofNat) ∧ (∀ j, pv.ownBlock = some j → j ∉ bks v1 s.2.1 ∧ j ∉ bks v2 s.2.2) ∧ Blk w' tb 3 #[.int .i64 ps.length] ∧ (tb ∉ bks v1 s.2.1 ∧ tb ∉ bks v2 s.2.2)) ?_ ?_
    ·skip
     refine Qo rfl ?_ ?_
     ·intro hke
      have hke' : ¬ k = ps.length := by
       simp at hke
       omega
      rw [if_neg (by simpa using hke')] at hNe
      obtain ⟨rfl, rfl⟩ := Prod.mk.inj hNe
      refine Qc (Qb [0,1,2] rfl (mvV rfl rfl (Vw rfl (mkf rfl rfl) (CVR (fs := []) (cs := [.pointer (some ⟨rb, 0, none⟩), .pointer (some ⟨ab, 0, none⟩)]) (vs := [.func (.func 250) #[] #[.pointer (some ⟨kb, 0, none⟩), .pointer (some ⟨tb, 0, none⟩)]]) rfl wu rfl rfl rfl Tryz.call249 (elEach hel 250 [.pointer (some ⟨kb, 0, none⟩), .pointer (some ⟨tb, 0, none⟩)] (Ml.swapL M1 ps.length k) (Ml.swapL M2 ps.length k) (fun e => by rw [e]; rfl) Tryz.call250 (stSwap v1 ra M1 B kb tb k ps.length _ hel.om1 hK hA hkl hat (fun e => hkX.1 (QQ.2 (.inl e))) (fun e => htX.1 (QQ.2 (.inl e)))) (fun hne w' hG' ho2 => by have hM2 := hz4.resolve_left hne; exact stSwap v2 rc M2 B kb tb k ps.length _ ho2 (hK.gr hG' hkX.1) (hA.gr hG' htX.1) (by omega) (by omega) (fun e => hkX.2 (QQ.2 (.inl e))) (fun e => htX.2 (QQ.2 (.inl e))))) nofun ?_))))
      rintro _ w6 hG6 ⟨rfl, ra', rc', hel6, n61, n62⟩
      refine Qd (Qa ?_)
      obtain ⟨hpv6, hpx6⟩ := QbX hpv hpx hG6 n61 n62
      obtain ⟨hA6, htX6⟩ := QbQ hA htX hG6 n61 n62
      refine Qb [0,1,2,3] rfl (Vw rfl (ldB rfl KZ hel6.gB) (mvV rfl rfl (C rfl wu rfl rfl Tryz.call34 (gNeg P g det _ (hG.ext (hel6.gr.ext hE0c hX0))) ?_)))
      rintro _ w7 hE7 rfl
      refine Qk rfl rfl ?_
      exact Qd (Zb ((-inK P det).1, ra', rc') ⟨rfl, rfl, rfl, rfl, rfl, rfl, rfl, rfl, rfl, trivial⟩ ⟨hel6.ext hE7, hpv6.ext hE7, hpx6, hA6.ext hE7, htX6⟩)
     ·intro hke
      have hke' : k = ps.length := by
       simp at hke
       omega
      rw [if_pos (by simpa using hke')] at hNe
      obtain ⟨rfl, rfl⟩ := Prod.mk.inj hNe
      refine Qe ?_
      exact Zb (det, ra, rc) ⟨rfl, rfl, rfl, rfl, rfl, rfl, rfl, rfl, rfl, trivial⟩ ⟨hel, hpv, hpx, hA, htX⟩
    ·rintro ⟨det2, ra2, rc2⟩ w6 ⟨hel6, hpv6, hpx6, hA6, htX6⟩
     dsimp only at hel6 hpv6 hpx6 hA6 htX6
     clear hel hpv hA hK hpk hpx hNe htX hkX
     have hatN : ps.length < N1.length := by omega
     obtain ⟨r6, hr6, hro6⟩ := hel6.om1.get hatN
     have hr6l := hNR1.get hatN
     have hrl6 := hel6.om1.len
     refine Qc (Qx QK [0,1,2,3,4,5,6,7,8,9,10] (by kernel_rfl) ?_)
     intro w7 hd _
     replace hel6 := hel6.ext hd
     replace hpv6 := hpv6.ext hd
     replace hA6 := hA6.ext hd
     replace hro6 := hro6.ext hd
     refine Vw rfl (ldB rfl KZ hel6.gB) (mvV rfl rfl (Vw rfl (ldB rfl Zm hel6.rB) (Vw rfl (ldB rfl na3 hA6) (Vw rfl (iad rfl rfl QN hel6.om1.own.sl (by omega) (by omega)) (Vw rfl (ldE rfl Zk hel6.om1.own.sl (by rw [Int.toNat_natCast]; exact hr6) (Ext.refl _)) (mvV rfl rfl (Vw rfl (QO rfl rfl QA (OwnI.ints hro6) (by omega) (by omega)) (Vw rfl (ldI rfl na3 (OwnI.ints hro6) (Ext.refl _) (by omega) (by omega)) (C rfl wu rfl rfl Tryz.call61 (gMul P g det2 _ _ (hG.ext (hel6.gr.ext hE0c hX0))) ?_)))))))))
     rintro _ w8 hE8 rfl
     replace hel6 := hel6.ext hE8
     replace hpv6 := hpv6.ext hE8
     replace hA6 := hA6.ext hE8
     replace hro6 := hro6.ext hE8
     refine Qk rfl rfl (Qd (Qa (Qc (Qc ?_))))
     generalize hd3 : (inK P det2 * inK P (gi (N1.getD ps.length []) c)).1 = det3
     refine Kn (σ := Nat × Int × Int) (fun s => [(2, .int .i64 cols), (4, .pointer (some ⟨gb, 0, none⟩)), (5, .pointer (some ⟨rb, 0, none⟩)), (7, .pointer (some ⟨ab, 0, none⟩)), (10, .int .i64 det3), (11, .func (.func 249) #[] #[.pointer (some ⟨rb, 0, none⟩), .pointer (some ⟨ab, 0, none⟩)]), (12, pv), (13, .int .i64 c), (14, .pointer (some ⟨tb, 0, none⟩)), (16, .pointer (some ⟨s.1, 0, none⟩)), (17, .int .i64 s.2.2)])
      (fun s w' => EL B gb rb ab (bks v1 Ze ++ bks v2 Zc) g v1 v2 wc w' ra2 rc2 N1 N2 ∧ OwnI wc.heap.size w' pv 3 (ps.map Int.ofNat) ∧ Blk w' tb 3 #[.int .i64 ps.length] ∧ Blk w' s.1 3 #[.int .i64 s.2.1] ∧ (s.1 ∉ bks v1 ra2 ∧ s.1 ∉ bks v2 rc2) ∧ (s.2.2 = 0 ∧ s.2.1 = (opsP P).iv (gi (N1.getD ps.length []) c) ∨ s.2.2 ≠ 0 ∧ (opsP P).iv (gi (N1.getD ps.length []) c) = 1)) ?_ ?_
     ·skip
      refine Ka QK (.br [0,1,2,3,4,5,6,7] (.leaf [8,9,10,11,12,13,14]) (.leaf [12,8,9,10,11,13,14])) (by kernel_rfl) ?_
      intro w9 hd9 _
      replace hel6 := hel6.ext hd9
      replace hpv6 := hpv6.ext hd9
      replace hA6 := hA6.ext hd9
      replace hro6 := hro6.ext hd9
      refine Qc7 (Vw rfl (ldB rfl KZ hel6.gB) (Vw rfl (ldB rfl Zm hel6.rB) (Vw rfl (ldB rfl na3 hA6) (Vw rfl (iad rfl rfl QN hel6.om1.own.sl (by omega) (by omega)) (Vw rfl (ldE rfl Zk hel6.om1.own.sl (by rw [Int.toNat_natCast]; exact hr6) (Ext.refl _)) (mvV rfl rfl (Vw rfl (QO rfl rfl QA (OwnI.ints hro6) (by omega) (by omega)) (Vw rfl (ldI rfl na3 (OwnI.ints hro6) (Ext.refl _) (by omega) (by omega)) (Qc8 ?_ ?_)))))))))
      ·skip
       refine Jf (C rfl wu rfl rfl Tryz.call60 (gInv2 P g _ _ (hG.ext (hel6.gr.ext hE0c hX0))) ?_)
       rintro _ wa hEa ⟨iv, er, rfl, hiv⟩
       replace hel6 := hel6.ext hEa
       replace hpv6 := hpv6.ext hEa
       replace hA6 := hA6.ext hEa
       try replace hI6 := hI6.ext hEa
       have hzq := hEa.size
       refine mvV rfl rfl (QI rfl rfl rfl (QI rfl rfl rfl ?_))
       have hq1 := hel6.om1.bk
       have hq2 := hel6.om2.bk
       have hq3 := hel6.gB.lt
       have hq4 := hel6.rB.lt
       have hq5 := hel6.aB.lt
       have hq6 := hA6.lt
       have hq7 := Own.lt hpv6
       have hq8 := hel6.gr.size
       refine AL rfl wu rfl zvI9 ?_
       intro ib wa hEa hI6 hib
       replace hel6 := hel6.ext hEa
       replace hpv6 := hpv6.ext hEa
       replace hA6 := hA6.ext hEa
       have hibX : ib ∉ bks v1 ra2 ∧ ib ∉ bks v2 rc2 := ⟨fun h => by have := (hq1 _ h).2; omega, fun h => by have := (hq2 _ h).2; omega⟩
       have hibn : wc.heap.size ≤ ib ∧ ib ≠ gb ∧ ib ≠ rb ∧ ib ≠ ab ∧ ib ≠ tb := ⟨by omega, by omega, by omega, by omega, by omega⟩
       have hibp : ∀ j, pv.ownBlock = some j → j ≠ ib := fun j hj e => by have := (hq7 j hj).2; omega
       refine STV rfl wu rfl rfl sv3 (by intro h; kernel_rfl) (hI6) (rfl) ?_
       intro wb hgb hXb hIb
       refine Qk rfl rfl ?_
       exact ZL (ib, iv, er) ⟨rfl, rfl, rfl, rfl, rfl, rfl, rfl, rfl, rfl, rfl, rfl, trivial⟩ ⟨hel6.var hgb hibn.1 hibX.1 hibX.2 hibn.2.1 hibn.2.2.1 hibn.2.2.2.1, Own.gr (X := [ib]) hpv6 (Gr.of_grown hgb (fun j e => by simp [Option.some.inj e])) (fun j hj e => hibp j hj (List.mem_singleton.1 e)), hA6.grown hgb (fun e => hibn.2.2.2.2 (Option.some.inj e)), hIb, hibX, hiv⟩
      ·skip
       refine Jf ?_
       have hq1 := hel6.om1.bk
       have hq2 := hel6.om2.bk
       have hq3 := hel6.gB.lt
       have hq4 := hel6.rB.lt
       have hq5 := hel6.aB.lt
       have hq6 := hA6.lt
       have hq7 := Own.lt hpv6
       have hq8 := hel6.gr.size
       refine AL rfl wu rfl zvI9 ?_
       intro ib wa hEa hI6 hib
       replace hel6 := hel6.ext hEa
       replace hpv6 := hpv6.ext hEa
       replace hA6 := hA6.ext hEa
       have hibX : ib ∉ bks v1 ra2 ∧ ib ∉ bks v2 rc2 := ⟨fun h => by have := (hq1 _ h).2; omega, fun h => by have := (hq2 _ h).2; omega⟩
       have hibn : wc.heap.size ≤ ib ∧ ib ≠ gb ∧ ib ≠ rb ∧ ib ≠ ab ∧ ib ≠ tb := ⟨by omega, by omega, by omega, by omega, by omega⟩
       have hibp : ∀ j, pv.ownBlock = some j → j ≠ ib := fun j hj e => by have := (hq7 j hj).2; omega
       refine C rfl wu rfl rfl Tryz.call60 (gInv2 P g _ _ (hG.ext (hel6.gr.ext hE0c hX0))) ?_
       rintro _ wa hEa ⟨iv, er, rfl, hiv⟩
       replace hel6 := hel6.ext hEa
       replace hpv6 := hpv6.ext hEa
       replace hA6 := hA6.ext hEa
       try replace hI6 := hI6.ext hEa
       have hzq := hEa.size
       refine mvV rfl rfl (QI rfl rfl rfl (QI rfl rfl rfl (STV rfl wu rfl rfl sv3 (by intro h; kernel_rfl) (hI6) (rfl) ?_)))
       intro wb hgb hXb hIb
       refine Qk rfl rfl ?_
       exact ZL (ib, iv, er) ⟨rfl, rfl, rfl, rfl, rfl, rfl, rfl, rfl, rfl, rfl, rfl, trivial⟩ ⟨hel6.var hgb hibn.1 hibX.1 hibX.2 hibn.2.1 hibn.2.2.1 hibn.2.2.2.1, Own.gr (X := [ib]) hpv6 (Gr.of_grown hgb (fun j e => by simp [Option.some.inj e])) (fun j hj e => hibp j hj (List.mem_singleton.1 e)), hA6.grown hgb (fun e => hibn.2.2.2.2 (Option.some.inj e)), hIb, hibX, hiv⟩
     ·rintro ⟨ib, iv, er⟩ w7b ⟨hel7, hpv7, hA7, hI7, hibX, hiv⟩
      dsimp only at hel7 hpv7 hA7 hI7 hibX hiv
      clear hel6 hpv6 hA6 hro6 hr6 hrl6
      obtain ⟨hKR1, hKR2⟩ := Ml.stepB_RL (o := opsP P) (c := c) (a := ps.length) (r := (N1, N2)) hNR1 hNR2
      obtain ⟨hKl1, hKl2⟩ := Ml.stepB_len (o := opsP P) (c := c) (a := ps.length) (r := (N1, N2))
      have hKe : Ml.stepB (opsP P) c ps.length (N1, N2) = if decide ((opsP P).iv (gi (N1.getD ps.length []) c) = 1) then (N1, N2) else (N1.set ps.length (Ml.scaleR (opsP P) ((opsP P).iv (gi (N1.getD ps.length []) c)) (N1.getD ps.length [])), N2.set ps.length (Ml.scaleR (opsP P) ((opsP P).iv (gi (N1.getD ps.length []) c)) (N2.getD ps.length []))) := rfl
      generalize hKd : Ml.stepB (opsP P) c ps.length (N1, N2) = K at hKR1 hKR2 hKl1 hKl2 hKe
      obtain ⟨K1, K2⟩ := K
      dsimp only at hKR1 hKR2 hKl1 hKl2
      have hz4N : N2 = [] ∨ N2.length = N1.length := by
       rcases hz4 with e | e
       ·left
        rw [e] at hNl2
        exact List.eq_nil_of_length_eq_zero hNl2
       ·right
        omega
      have hE7c := hel7.gr.ext hE0c hX0
      have hB7 : B ≤ w7b.heap.size := by have := hel7.gr.size; omega
      refine Qa (Qc (Qb [0,1,2,3,4,5] rfl (mvV rfl rfl (QU rfl rfl rfl (mvV rfl rfl ?_)))))
      refine AND (π1 := [3,4,5]) (π2 := []) (tc := 89) (tp := 92) rfl rfl rfl (by
        intro hg
        simp at hg
        refine Vg rfl rfl rfl (ldB rfl na3 hI7) (Vg rfl rfl rfl (neqI rfl rfl) (pkV rfl rfl rfl ?_))
        exact Zx rfl) (by
        intro _
        refine SK rfl rfl rfl rfl rfl (SK rfl rfl rfl rfl rfl (pkV rfl rfl rfl ?_))
        exact Zx rfl) ?_
      refine Qd (Qa ?_)
      refine XO (σ := List Value × List Value) (fun s => [(2, .int .i64 cols), (4, .pointer (some ⟨gb, 0, none⟩)), (5, .pointer (some ⟨rb, 0, none⟩)), (7, .pointer (some ⟨ab, 0, none⟩)), (10, .int .i64 det3), (11, .func (.func 249) #[] #[.pointer (some ⟨rb, 0, none⟩), .pointer (some ⟨ab, 0, none⟩)]), (12, pv), (13, .int .i64 c), (14, .pointer (some ⟨tb, 0, none⟩))])
       (fun s w' => EL B gb rb ab (bks v1 Ze ++ bks v2 Zc) g v1 v2 wc w' s.1 s.2 K1 K2 ∧ OwnI wc.heap.size w' pv 3 (ps.map Int.ofNat) ∧ (∀ j, pv.ownBlock = some j → j ∉ bks v1 s.1 ∧ j ∉ bks v2 s.2) ∧ Blk w' tb 3 #[.int .i64 ps.length] ∧ (tb ∉ bks v1 s.1 ∧ tb ∉ bks v2 s.2)) ?_ ?_
      ·skip
       refine Qo rfl ?_ ?_
       ·intro hc4
        simp at hc4
        obtain ⟨he0, hiv1⟩ := hc4
        have hivx : iv = (opsP P).iv (gi (N1.getD ps.length []) c) := by
         rcases hiv with h | h
         ·exact h.2
         ·exact absurd he0 h.1
        rw [← hivx, if_neg (by simpa using hiv1)] at hKe
        obtain ⟨rfl, rfl⟩ := Prod.mk.inj hKe
        obtain ⟨-, -, hgX, -, -, -⟩ := hel7.rX
        have hb17 := hel7.om1.bk
        refine Qb [0,1,2] rfl (mvV rfl rfl (Vw rfl (mkf rfl rfl) (CVR (fs := []) (cs := [.pointer (some ⟨rb, 0, none⟩), .pointer (some ⟨ab, 0, none⟩)]) (vs := [.func (.func 251) #[] #[.pointer (some ⟨gb, 0, none⟩), .pointer (some ⟨ib, 0, none⟩), .pointer (some ⟨tb, 0, none⟩)]]) rfl wu rfl rfl rfl Tryz.call249 (elEach hel7 251 [.pointer (some ⟨gb, 0, none⟩), .pointer (some ⟨ib, 0, none⟩), .pointer (some ⟨tb, 0, none⟩)] (N1.set ps.length (Ml.scaleR (opsP P) iv (N1.getD ps.length []))) (N2.set ps.length (Ml.scaleR (opsP P) iv (N2.getD ps.length []))) (fun e => by rw [e]; rfl) Tryz.call251 (stScale P g v1 ra2 N1 B gb ib tb ps.length iv w0 _ hG hE7c hel7.om1 hel7.gB hI7 hA7 hatN (by omega) hB7) (fun hne w' hG' ho2 => by have hN2 := hz4N.resolve_left hne; have hq := hNR2.get (i := ps.length) (by omega); exact stScale P g v2 rc2 N2 B gb ib tb ps.length iv w0 w' hG (hG'.ext hE7c (fun k hk => by have := (hb17 k hk).1; omega)) ho2 (hel7.gB.gr hG' hgX) (hI7.gr hG' hibX.1) (hA7.gr hG' htX6.1) (by omega) (by omega) (by have := hG'.size; omega))) nofun ?_)))
        rintro _ w8 hG8 ⟨rfl, ra', rc', hel8, n81, n82⟩
        obtain ⟨hpv8, hpx8⟩ := QbX hpv7 hpx6 hG8 n81 n82
        obtain ⟨hA8, htX8⟩ := QbQ hA7 htX6 hG8 n81 n82
        exact Qd (Zb (ra', rc') ⟨rfl, rfl, rfl, rfl, rfl, rfl, rfl, rfl, rfl, trivial⟩ ⟨hel8, hpv8, hpx8, hA8, htX8⟩)
       ·intro hc4
        have hiv1 : (opsP P).iv (gi (N1.getD ps.length []) c) = 1 := by
         rcases hiv with h | h
         ·rw [← h.2]
          simp [h.1] at hc4
          exact hc4
         ·exact h.2
        rw [if_pos (by simpa using hiv1)] at hKe
        obtain ⟨rfl, rfl⟩ := Prod.mk.inj hKe
        refine Qe ?_
        exact Zb (ra2, rc2) ⟨rfl, rfl, rfl, rfl, rfl, rfl, rfl, rfl, rfl, trivial⟩ ⟨hel7, hpv7, hpx6, hA7, htX6⟩
      ·rintro ⟨ra3, rc3⟩ w8 ⟨hel8, hpv8, hpx8, hA8, htX8⟩
       dsimp only at hel8 hpv8 hpx8 hA8 htX8
       clear hel7 hpv7 hA7 hI7 hpx6 htX6 hibX hE7c hB7 hKe
       have hrl8 := hel8.om1.len
       have hz4K : K2 = [] ∨ K2.length = K1.length := by
        rcases hz4N with e | e
        ·left
         rw [e] at hKl2
         exact List.eq_nil_of_length_eq_zero hKl2
        ·right
         omega
       refine Qc (Qc (Qb [0,1,2] rfl (Vw rfl (ldB rfl Zm hel8.rB) (Vw rfl (Zt rfl QN hel8.om1.own.sl) (mvV rfl rfl (Qd (Qa (Qf ?_))))))))
       refine Qv (fun s : Nat × (List Value × List Value) × (List (List Int) × List (List Int)) => [(2, .int .i64 cols), (4, .pointer (some ⟨gb, 0, none⟩)), (5, .pointer (some ⟨rb, 0, none⟩)), (7, .pointer (some ⟨ab, 0, none⟩)), (10, .int .i64 det3), (11, .func (.func 249) #[] #[.pointer (some ⟨rb, 0, none⟩), .pointer (some ⟨ab, 0, none⟩)]), (12, pv), (13, .int .i64 c), (14, .pointer (some ⟨tb, 0, none⟩)), (97, .int .i64 ra3.length), (98, .int .i64 s.1)])
        (fun s w' => s.1 ≤ K1.length ∧ EL B gb rb ab (bks v1 Ze ++ bks v2 Zc) g v1 v2 wc w' s.2.1.1 s.2.1.2 s.2.2.1 s.2.2.2 ∧ OwnI wc.heap.size w' pv 3 (ps.map Int.ofNat) ∧ (∀ j, pv.ownBlock = some j → j ∉ bks v1 s.2.1.1 ∧ j ∉ bks v2 s.2.1.2) ∧ Blk w' tb 3 #[.int .i64 ps.length] ∧ (tb ∉ bks v1 s.2.1.1 ∧ tb ∉ bks v2 s.2.1.2) ∧
         Ml.clear (opsP P) c ps.length (K1.length - s.1) s.1 s.2.2 = Ml.clear (opsP P) c ps.length K1.length 0 (K1, K2) ∧ s.2.2.1.length = K1.length ∧ s.2.2.2.length = K2.length ∧ Ml.RL n1 s.2.2.1 ∧ Ml.RL n2 s.2.2.2) (fun s => K1.length - s.1) (0, (ra3, rc3), (K1, K2)) ⟨rfl, rfl, rfl, rfl, rfl, rfl, rfl, rfl, rfl, rfl, rfl, trivial⟩ ⟨by omega, hel8, hpv8, hpx8, hA8, htX8, rfl, rfl, rfl, hKR1, hKR2⟩ ?_
       clear hel8 hpv8 hpx8 hA8 htX8
       rintro ⟨i, ⟨ra4, rc4⟩, ⟨J1, J2⟩⟩ w9 ⟨i1, hel9, hpv9, hpx9, hA9, htX9, hcl, hJl1, hJl2, hJR1, hJR2⟩
       dsimp only at i1 hel9 hpv9 hpx9 hA9 htX9 hcl hJl1 hJl2 hJR1 hJR2
       have hrl9 := hel9.om1.len
       try dsimp only
       refine Qc (Qb [0] rfl (Qy rfl rfl rfl (Qd (Qa (Qc (Qo rfl ?_ ?_))))))
       ·intro hc5
        simp at hc5
        have hiJ : i < J1.length := by omega
        have hb91 := hel9.om1.bk
        have hb92 := hel9.om2.bk
        have hq3 := hel9.gB.lt
        have hq4 := hel9.rB.lt
        have hq5 := hel9.aB.lt
        have hq7 := Own.lt hpv9
        have hq8 := hel9.gr.size
        have hq9 := hA9.lt
        refine Qe (Qa (Qc (Qf (Qc (Qb [0,1,2] rfl (mvV rfl rfl (AL rfl wu rfl zvI9 ?_)))))))
        intro xb wa hEa hXa hxa
        refine STV rfl wu rfl rfl sv3 nofun (hXa) (rfl) ?_
        intro wb hgb hXb hIb
        refine Qd (Qa (Qc ?_))
        have hEb := hXb w9 hxa hEa
        replace hel9 := hel9.ext hEb
        replace hpv9 := hpv9.ext hEb
        replace hA9 := hA9.ext hEb
        have hxX : xb ∉ bks v1 ra4 ∧ xb ∉ bks v2 rc4 := ⟨fun h => by have := (hb91 _ h).2; omega, fun h => by have := (hb92 _ h).2; omega⟩
        obtain ⟨r9, hr9, hro9⟩ := hel9.om1.get hiJ
        have hr9l := hJR1.get hiJ
        have hzb := hEb.size
        refine Qb [0,1,2,3,4,5,6,7,8] rfl (Vw rfl (ldB rfl Zm hel9.rB) (Vw rfl (ldB rfl na3 hIb) (Vw rfl (iad rfl rfl QN hel9.om1.own.sl (by omega) (by omega)) (Vw rfl (ldE rfl Zk hel9.om1.own.sl (by rw [Int.toNat_natCast]; exact hr9) (Ext.refl _)) (mvV rfl rfl (Vw rfl (QO rfl rfl QA (OwnI.ints hro9) (by omega) (by omega)) (Vw rfl (ldI rfl na3 (OwnI.ints hro9) (Ext.refl _) (by omega) (by omega)) (AL rfl wu rfl zvI9 ?_))))))))
        intro yb wd hEd hYd hyd
        refine STV rfl wu rfl rfl sv3 nofun (hYd) (rfl) ?_
        intro we hge hXe hYe
        refine Qd (Qa (Qc ?_))
        have hEe := hXe wb hyd hEd
        replace hel9 := hel9.ext hEe
        replace hpv9 := hpv9.ext hEe
        replace hA9 := hA9.ext hEe
        replace hIb := hIb.ext hEe
        have hyX : yb ∉ bks v1 ra4 ∧ yb ∉ bks v2 rc4 := ⟨fun h => by have := (hb91 _ h).2; omega, fun h => by have := (hb92 _ h).2; omega⟩
        have hfi : K1.length - i = (K1.length - (i + 1)) + 1 := by omega
        rw [hfi] at hcl
        refine Qb [0,1,2,3,4,5,6] rfl (Vw rfl (ldB rfl na3 hIb) (Vw rfl (ldB rfl na3 hA9) (QG rfl rfl rfl (mvV rfl rfl ?_))))
        refine AND (π1 := [4,5,6]) (π2 := []) (tc := 111) (tp := 114) rfl rfl rfl (by
          intro hg
          simp at hg
          refine Vg rfl rfl rfl (ldB rfl na3 hYe) (Vg rfl rfl rfl (neqI rfl rfl) (pkV rfl rfl rfl ?_))
          exact Zx rfl) (by
          intro _
          refine SK rfl rfl rfl rfl rfl (SK rfl rfl rfl rfl rfl (pkV rfl rfl rfl ?_))
          exact Zx rfl) ?_
        refine Qd (Qa (Qo rfl ?_ ?_))
        ·intro hc6
         simp at hc6
         obtain ⟨hia, hxn⟩ := hc6
         have hia' : i ≠ ps.length := by omega
         have hatJ : ps.length < J1.length := by omega
         rw [Ml.clear_do (r := (J1, J2)) hia' hxn] at hcl
         have hE9c := hel9.gr.ext hE0c hX0
         obtain ⟨-, -, hgX, -, -, -⟩ := hel9.rX
         have hz4J : J2 = [] ∨ J2.length = J1.length := by
          rcases hz4K with e | e
          ·left
           rw [e] at hJl2
           exact List.eq_nil_of_length_eq_zero hJl2
          ·right
           omega
         refine Qb [0,1,2] rfl (mvV rfl rfl (Vw rfl (mkf rfl rfl) ?_))
         refine CVR (fs := []) (cs := [.pointer (some ⟨rb, 0, none⟩), .pointer (some ⟨ab, 0, none⟩)]) (vs := [.func (.func 252) #[] #[.pointer (some ⟨gb, 0, none⟩), .pointer (some ⟨xb, 0, none⟩), .pointer (some ⟨yb, 0, none⟩), .pointer (some ⟨tb, 0, none⟩)]]) rfl wu rfl rfl rfl Tryz.call249 (elEach hel9 252 [.pointer (some ⟨gb, 0, none⟩), .pointer (some ⟨xb, 0, none⟩), .pointer (some ⟨yb, 0, none⟩), .pointer (some ⟨tb, 0, none⟩)] (J1.set i (Ml.addRow (opsP P) (J1.getD i []) ((opsP P).ng (gi (J1.getD i []) c)) (J1.getD ps.length []))) (J2.set i (Ml.addRow (opsP P) (J2.getD i []) ((opsP P).ng (gi (J1.getD i []) c)) (J2.getD ps.length []))) (fun e => by rw [e]; rfl) Tryz.call252 (stAdd P g v1 ra4 J1 B gb xb yb tb i ps.length _ w0 _ hG hE9c hB0 hel9.om1 hel9.gB hIb hYe hA9 hiJ hatJ hia' (by rw [hJR1.get hatJ, hr9l])) (fun hne w' hG' ho2 => by have hJ2 := hz4J.resolve_left hne; have hq := hJR2.get (i := ps.length) (by omega); have hq' := hJR2.get (i := i) (by omega); exact stAdd P g v2 rc4 J2 B gb xb yb tb i ps.length _ w0 w' hG (hG'.ext hE9c (fun k hk => by have := (hb91 k hk).1; omega)) hB0 ho2 (hel9.gB.gr hG' hgX) (hIb.gr hG' hxX.1) (hYe.gr hG' hyX.1) (hA9.gr hG' htX9.1) (by omega) (by omega) hia' (by rw [hq, hq']))) nofun ?_
         rintro _ wf hGf ⟨rfl, ra', rc', helf, nf1, nf2⟩
         refine Qd (Qg (Qa ?_))
         obtain ⟨hpvf, hpxf⟩ := QbX hpv9 hpx9 hGf nf1 nf2
         obtain ⟨hAf, htXf⟩ := QbQ hA9 htX9 hGf nf1 nf2
         refine Qb [0,1] rfl (Qw rfl rfl rfl (mvV rfl rfl (Qd (Qi (i + 1, (ra', rc'), _) ⟨rfl, rfl, rfl, rfl, rfl, rfl, rfl, rfl, rfl, rfl, rfl, trivial⟩ ⟨by dsimp only; omega, helf, hpvf, hpxf, hAf, htXf, hcl, ?_, ?_, ?_, ?_⟩ (by dsimp only; omega)))))
         ·dsimp only
          rw [List.length_set]
          exact hJl1
         ·dsimp only
          rw [List.length_set]
          exact hJl2
         ·exact hJR1.set fun _ => by rw [Ml.addRow_length]; exact hr9l
         ·exact hJR2.set fun h => by rw [Ml.addRow_length]; exact hJR2.get h
        ·intro hc6
         simp at hc6
         have hsk : i = ps.length ∨ gi (Ml.rw J1 i) c = 0 := by
          by_cases e : i = ps.length
          ·exact .inl e
          ·exact .inr (hc6 (by omega))
         rw [Ml.clear_skip hsk] at hcl
         refine Qe (Qg (Qa (Qb [0,1] rfl (Qw rfl rfl rfl (mvV rfl rfl (Qd ?_))))))
         exact Qi (i + 1, (ra4, rc4), (J1, J2)) ⟨rfl, rfl, rfl, rfl, rfl, rfl, rfl, rfl, rfl, rfl, rfl, trivial⟩ ⟨by dsimp only; omega, hel9, hpv9, hpx9, hA9, htX9, hcl, hJl1, hJl2, hJR1, hJR2⟩ (by dsimp only; omega)
       ·intro hc5
        simp at hc5
        have hie : i = K1.length := by omega
        rw [hie, Nat.sub_self] at hcl
        have hstep : Ml.step (opsP P) c ps.length k (M1, M2) = (J1, J2) := by
         rw [Ml.step_eq, hNd, hKd, ← hcl]
         rfl
        have hb91 := hel9.om1.bk
        have hb92 := hel9.om2.bk
        have hq7 := Own.lt hpv9
        have hq8 := hel9.gr.size
        refine Qt (Ql (Qm (Qh (Qa (Qb [0,1,2,3,4] rfl (mvV rfl rfl (mvV rfl rfl (BSI (zs := [(c : Int)]) rfl wu rfl rfl rfl rfl QA ?_))))))))
        intro vz wz hEz hoz hiz hbz
        replace hel9 := hel9.ext hEz
        replace hpv9 := hpv9.ext hEz
        replace hA9 := hA9.ext hEz
        have hzz := hEz.size
        refine API rfl wu rfl rfl rfl QA nofun ?_ (ho := hpv9) (hB := by omega) (hs := hiz) (hE := Ext.refl _) (hlen := by simp only [List.length_map, List.length_cons, List.length_nil]; omega)
        intro py wy hgy hXy hoy hiy hby
        refine Qk rfl rfl (Qd (Qg (Qa (Qb [0,1,2] rfl (mvV rfl rfl (Qw rfl rfl rfl (Qk rfl rfl (Qd ?_))))))))
        have hely := hel9.grow hgy (fun j hj => ⟨by have := (hq7 j hj).1; omega, (hpx9 j hj).1, (hpx9 j hj).2, by have := (hq7 j hj).1; omega, by have := (hq7 j hj).1; omega, by have := (hq7 j hj).1; omega⟩)
        have hcc : cols - c = (cols - (c + 1)) + 1 := by omega
        rw [hcc, Ml.elim_some (k := k) (by omega) (by dsimp only; omega) hpv0 (by dsimp only; omega), hstep] at heq
        refine Qi (c + 1, det3, py, ps ++ [c], (ra4, rc4), (J1, J2)) ⟨rfl, rfl, rfl, rfl, rfl, rfl, rfl, rfl, trivial⟩ ⟨by dsimp only; omega, hely, ?_, heq, by dsimp only; omega, hJR1, hJR2, by dsimp only; omega, by simp; omega, fun j hj => ?_⟩ (by dsimp only; omega)
        ·have e : (ps ++ [c]).map Int.ofNat = ps.map Int.ofNat ++ [(c : Int)] := by simp
         dsimp only
         rw [e]
         exact hoy
        ·rcases hby with e | e
         ·exact hpx9 j (by rw [← e]; exact hj)
         ·have e2 : j = wz.heap.size := by
           dsimp only at hj
           rw [e] at hj
           exact (Option.some.inj hj).symm
          exact ⟨fun h => by have := (hb91 j h).2; omega, fun h => by have := (hb92 j h).2; omega⟩
  ·have hke : k = M1.length := by omega
   have hpv0 : Ml.piv M1 c (M1.length - ps.length) ps.length = M1.length := by
    rw [← hpk, Ml.piv_stop (fun h => absurd h hkl)]
    exact hke
   refine Qb [0,1,2,3,4,5,6,7,8,9,10,11,12,13] rfl (Vw rfl (ldB rfl na3 hK) (Vw rfl (ldB rfl Zm hel.rB) (Vw rfl (Zt rfl QN hel.om1.own.sl) (Qy rfl rfl rfl (mvV rfl rfl (KB 40 false rfl (by simp; omega) (SK rfl rfl rfl rfl rfl (SK rfl rfl rfl rfl rfl (SK rfl rfl rfl rfl rfl ?_)))))))))
   refine SK rfl rfl rfl rfl rfl (SK rfl rfl rfl rfl rfl (SK rfl rfl rfl rfl rfl (SK rfl rfl rfl rfl rfl (SK rfl rfl rfl rfl rfl (pkV rfl rfl rfl (Qd (Qa (Qn rfl (rfl) (Qt (Ql (Qm (Qh (Qa (Qc (Qc (Qb [0,1,2,3] rfl ?_))))))))))))))))
   refine Vw rfl (ldB rfl na3 hK) (Vw rfl (ldB rfl Zm hel.rB) (Vw rfl (Zt rfl QN hel.om1.own.sl) (QU rfl rfl rfl (Qd (Qa (QC rfl (by simp; omega) (Qt (Ql (Qh (Qa (Qb [0,1,2] rfl (mvV rfl rfl (Qw rfl rfl rfl ?_)))))))))))))
   refine Qk rfl rfl (Qd ?_)
   have hcc : cols - c = (cols - (c + 1)) + 1 := by omega
   rw [hcc, Ml.elim_none (by omega) (by dsimp only; omega) hpv0] at heq
   exact Qi (c + 1, det, pv, ps, (ra, rc), (M1, M2)) ⟨rfl, rfl, rfl, rfl, rfl, rfl, rfl, rfl, trivial⟩ ⟨by dsimp only; omega, hel, hpv, heq, hm1, hr1, hr2, hm2, by dsimp only; omega, hpx⟩ (by dsimp only; omega)
 ·intro hc
  have hend := Ml.elim_end (o := opsP P) (cols := cols) (f := cols - c) (c := c) (ps := ps) (r := (M1, M2)) (fun h1 h2 => by
   rw [hpl] at hc
   simp [h1] at hc
   dsimp only at h2
   omega)
  rw [heq] at hend
  refine Qt (Ql (Qm (Qh (Qa (Qc (Qb [0,1,2,3] rfl (mvV rfl rfl (mvV rfl rfl (Qk rfl rfl (Qk rfl rfl (Qd (Qa (Qq (QH rfl rfl rfl ?_))))))))))))))
  rw [hend]
  exact ⟨(Gr.of_ext hE).trans hel.gr, pv, det, ra, rc, rfl, Own.mono hpv (by omega), hel.om1, hel.om2, fun k hk => (hel.n1 k hk).imp id (fun h => by omega), fun k hk => (hel.n2 k hk).imp id (fun h => by omega), hel.dis, hpx⟩
end Go.Proofs.YtcfbigmjjpknfaaGreatDoor
