import Derived.Test.YtcfbigmjjpknfaaGreatDoorW12
import Derived.Test.YtcfbigmjjpknfaaGreatDoorW15
import Derived.Test.YtcfbigmjjpknfaaGreatDoorW03
import Derived.Scope
import Derived.Test.YtcfbigmjjpknfaaGreatDoorW13
import Derived.Test.YtcfbigmjjpknfaaGreatDoorW00
import Derived.Test.YtcfbigmjjpknfaaGreatDoorW10
import Derived.Test.YtcfbigmjjpknfaaGreatDoorW09
namespace Go.Sx
open Go Go.RowKit Go.Pl
theorem cap_block (v : Value) (n : Nat) : (capTo v n).ownBlock = v.ownBlock := by
 cases v <;> try rfl
 rename_i a _ _
 cases a <;> rfl
theorem Sl.capTo {w : World} {v : Value} {xs : List Value} (h : Sl w v xs) {n : Nat} (hn : n ≤ xs.length) : Sl w (capTo v n) (xs.take n) := by
 obtain ⟨⟨a, c, rfl, hc, hx⟩, hl⟩ := h
 have hlen : (xs.take n).length = n := by simp; omega
 refine ⟨⟨a, n, by rw [hlen]; rfl, by rw [hlen]; omega, fun hp => ?_⟩, by rw [hlen]; omega⟩
 rw [hlen] at hp
 obtain ⟨ad, rfl, hcell⟩ := hx (by omega)
 refine ⟨ad, rfl, fun j u hu => ?_⟩
 rw [List.getElem?_take] at hu
 split at hu
 ·exact hcell _ _ hu
 ·cases hu
def LLB (B : Nat) (w : World) (v : Value) (L : List (List Int)) : Prop :=
 ∃ rows, Sl w v rows ∧ rows.length = L.length ∧ (∀ k, v.ownBlock = some k → B ≤ k) ∧ ∀ (i : Nat) r zs, rows[i]? = some r → L[i]? = some zs → Ints w r zs ∧ ∀ k, r.ownBlock = some k → B ≤ k
section
variable {B B' : Nat} {w w' : World} {v : Value} {L : List (List Int)} {E E' : TypeId} {rows : List Value}
theorem LLB.ll (h : LLB B w v L) : LL w v L := by
 obtain ⟨rows, h1, h2, _, h4⟩ := h
 exact ⟨rows, h1, h2, fun i r zs a b => (h4 i r zs a b).1⟩
theorem LLB.ext (h : LLB B w v L) (hE : Ext w w') : LLB B w' v L := by
 obtain ⟨rows, h1, h2, h3, h4⟩ := h
 exact ⟨rows, h1.ext hE, h2, h3, fun i r zs a b => ⟨(h4 i r zs a b).1.ext hE, (h4 i r zs a b).2⟩⟩
theorem LLB.mono (h : LLB B w v L) (hB : B' ≤ B) : LLB B' w v L := by
 obtain ⟨rows, h1, h2, h3, h4⟩ := h
 exact ⟨rows, h1, h2, fun k hk => Nat.le_trans hB (h3 k hk), fun i r zs a b => ⟨(h4 i r zs a b).1, fun k hk => Nat.le_trans hB ((h4 i r zs a b).2 k hk)⟩⟩
theorem LLB.gr {X : List Nat} (h : LLB B w v L) (hg : Gr X w w') (hX : ∀ k ∈ X, k < B) : LLB B w' v L := by
 obtain ⟨rows, h1, h2, h3, h4⟩ := h
 exact ⟨rows, h1.gr hg (fun k hk hx => by have := hX k hx; have := h3 k hk; omega), h2, h3, fun i r zs a b => ⟨(h4 i r zs a b).1.gr hg (fun k hk hx => by have := hX k hx; have := (h4 i r zs a b).2 k hk; omega), (h4 i r zs a b).2⟩⟩
theorem LLB.one (h : LLB B w v L) : v.oneCell' = true := h.ll.one
theorem OM.llb (h : OM B w v E E' rows L) : LLB B w v L :=
 ⟨rows, h.own.sl, h.len, fun k hk => (h.own.lt k hk).1, fun i r zs a b => ⟨OwnI.ints (h.row i r zs a b), fun k hk => (Own.lt (h.row i r zs a b) k hk).1⟩⟩
theorem LLB.cap (h : LLB B w v L) {n : Nat} (hn : n ≤ L.length) : LLB B w (capTo v n) (L.take n) := by
 obtain ⟨rows, h1, h2, h3, h4⟩ := h
 refine ⟨rows.take n, h1.capTo (by omega), by rw [List.length_take, List.length_take, h2], fun k hk => h3 k (by rw [← cap_block v n]; exact hk), fun i r zs a b => ?_⟩
 rw [List.getElem?_take] at a b
 split at a
 ·rename_i hi
  rw [if_pos hi] at b
  exact h4 i r zs a b
 ·cases a
end
section
variable {P : Program} {N : Nat} {Q : Exit → Act → World → Prop} {l : Env} {w : World} {v : Value} {ty : TypeId}
variable {x z m : Operand} {hi : Int} {T : TypeId}
theorem slHMn {w0 : World} {xs : List Value} {E : TypeId} {zv : Value} {b : Nat} (hx : ev l x = some v) (hz : ev l z = some (.int .i64 hi)) (hm : ev l m = some (.int .i64 hi)) (hT : SlT P T E zv 1 b) (hs : Sl w0 v xs)
  (h1 : 0 ≤ hi := by omega) (h2 : hi ≤ xs.length := by omega) : Yl P N (.slice T x none (some z) (some m)) ty l w (capTo v hi.toNat) := fun a ha w' _ o ho _ => by
 obtain ⟨⟨ad, cc, rfl, hc, _⟩, _⟩ := hs
 obtain ⟨j, hj, _, hj2, _⟩ := Jb hT
 have hu : P.underlying T = some (.slice (P.elem T)) := by rw [XJ hT.und]; exact hT.und
 have e : ∀ q : Addr, q.add 0 = q := fun q => by simp [Addr.add]
 have e2 : ad.map (fun x => x.add 0) = ad := by cases ad <;> simp [e]
 simp [execOp, ho, ha.eval hx, ha.eval hz, ha.eval hm, run_sliceAt_slice w' T _ _ _ _ hu, run_slice_hm w' T ad xs.length cc hu .i64 .i64 hi hi h1 (Int.le_refl _) (by omega), XJ hT.und, sizeOf, typeInfo, hj, hj2, capTo, sliced, e2]
theorem Qdg {fn : Func} {t s r b : Nat} {n : Nat} {tb : TypeId} {cs : List Value} {v u : Value} {R : Ending → World → Prop} (hr : fn.results = #[.cell t T, .tmp s, .tmp r]) (hp : lk l t = some (.pointer (some ⟨b, 0, none⟩))) (hv : lk l s = some v) (hu : lk l r = some u)
  (hA : AG P T n) (hB : Blk w b tb cs.toArray) (hn : cs.length = n) (hR : R (.returned (.tuple #[.agg cs.toArray, v, u])) w) :
  Post N (bodyPost P fn R) .ret l w := fun a ha => by
 refine ⟨ha.defers, .tuple #[.agg cs.toArray, v, u], ?_, hR⟩
 have h1 := ha.slots _ _ hp
 have h2 := ha.slots _ _ hv
 have h3 := ha.slots _ _ hu
 have hl := run_loadCells_list (P := P) w ⟨b, 0, none⟩ cs (fun j v hv => by rw [Addr.add_lit]; exact hB.cell (by simpa using hv))
 rw [hn] at hl
 simp [results, hr, h1, h2, h3, asAddr, loadVar, hA.agg w, hA.size w, hl]
end
end Go.Sx
namespace Go.Proofs.YtcfbigmjjpknfaaGreatDoor
open Go Go.Sx Go.Pl Go.RowKit Go.Fd Go.Alg
theorem Qc4 : ZV Tryz.prog 39 [.int .i64 0, .slice none 0 0] := KW
theorem bks_nil : bks (.slice none 0 0) [] = [] := rfl
set_option maxRecDepth 10000 in
theorem Qb7 (P : FP) (g v : Value) (L : List (List Int)) (cols n : Nat) (w : World) (hG : GFV w P g) (hL : LL w v L) (hR : Ml.RL n L) (hcn : cols ≤ n) (h1 : n ≤ 100000) (h3 : L.length ≤ 100000) :
  Calls Tryz.prog 110 #[g, v, .int .i64 cols] w (RetX w fun r w' => ∃ lv pv, r = .tuple #[lv, pv] ∧ LLB w.heap.size w' lv (Ml.canonM (opsP P) L cols).1 ∧ OwnI w.heap.size w' pv 3 ((Ml.canonM (opsP P) L cols).2.map Int.ofNat)) := by
 obtain ⟨e1, -, e3⟩ := Ml.elim_len (o := opsP P) (cols := cols) cols 0 [] (L, []) (Nat.zero_le _)
 refine QS Tryz.func110 rfl rfl (Qc (Qb [0,1] rfl (Qk rfl rfl (Qk rfl rfl (Qd (Qa (Qc (Qb [0,1,2] rfl (mvV rfl rfl (C rfl wu rfl rfl Tryz.call148 (mxClone v L _ hL (by omega) (fun l hl => by rw [hR l hl]; omega)) ?_))))))))))
 rintro r1 w1 hE1 ⟨Ze, hom⟩
 refine Qk rfl rfl (Qd (Qa (Qc ?_)))
 have hbk := hom.bk
 refine Qb [0,1,2,3,4,5,6,7,8] rfl (mvV rfl rfl (mvV rfl rfl (mvV rfl rfl (CG rfl wu rfl rfl Tryz.call149 (mxElim P g r1 (.slice none 0 0) Ze [] L [] cols n 0 w.heap.size w w1 hG hE1 (Nat.le_refl _) hE1.size hom (OM.nil _ _ _ _) (by rw [bks_nil]; simp) hR (by simp) hcn h1 (by omega) h3 (.inl rfl)) nofun ?_))))
 rintro _ w2 hG2 ⟨pv, d, rows1', rows2', rfl, hpv, ho1, ho2, n1, n2, hd, hpx⟩
 refine mvV rfl rfl (QI rfl rfl rfl (QI rfl rfl rfl (Qk rfl rfl (Qk rfl rfl (Qd (Qa (Qc ?_)))))))
 have hX : ∀ k ∈ bks r1 Ze ++ bks (.slice none 0 0) [], w.heap.size ≤ k := fun k hk => by
  rw [bks_nil, List.append_nil] at hk
  exact (hbk k hk).1
 have hE2 := hG2.ext hE1 hX
 have hrl := ho1.len
 dsimp only at e1 e3
 refine Qb [0,1,2,3,4,5,6,7,8] rfl (mvV rfl rfl (mvV rfl rfl (Vw rfl (Zh rfl QA (OwnI.ints hpv)) (mvV rfl rfl (Vw rfl (Zh rfl QA (OwnI.ints hpv)) (Vw rfl (slHMn rfl rfl rfl QN ho1.own.sl (by omega) (by rw [List.length_map]; omega)) (mvV rfl rfl (Qk rfl rfl (Qk rfl rfl ?_)))))))))
 refine Qd (Qa (Qq (QH rfl rfl rfl ?_)))
 refine ⟨hE2, _, _, rfl, ?_, Own.mono hpv hE1.size⟩
 rw [List.length_map, Int.toNat_natCast]
 exact ho1.llb.cap (by omega)
set_option maxRecDepth 10000 in
theorem JZ (p M : Int) (mo v : Value) (md : List Int) (n : Nat) (L : List (List Int)) (w : World) (ok : OkF p M md) (hmd : Ints w mo md) (hL : LL w v L) (hM : MV (fpOf p M md ok.1.1 ok.1.2.1) n L) :
  Calls Tryz.prog 75 #[fv0 p M mo, .agg #[.int .i64 n, v]] w (RetX w fun r w' => ∃ lv pv, r = .tuple #[.agg #[.int .i64 n, lv], pv, .int .i64 0] ∧ LLB w.heap.size w' lv (Ml.canonM (opsP (fpOf p M md ok.1.1 ok.1.2.1)) L n).1 ∧ OwnI w.heap.size w' pv 3 ((Ml.canonM (opsP (fpOf p M md ok.1.1 ok.1.2.1)) L n).2.map Int.ofNat)) := by
 have hv1 := hL.one
 have hn1 := hM.n1
 have hlen := hM.len
 have hR : Ml.RL n L := fun l hl => by have := hM.row l hl; omega
 have hvc := QB hv1
 refine QD Tryz.func75 rfl rfl (Qc (Qb [0,1,2,3,4] rfl (BXA rfl wu rfl rfl ?_)))
 intro fb w1 hE1 hF hfb
 refine BXA rfl wu rfl rfl ?_
 intro mb w2 hE2 hB hmb
 replace hF := hF.ext hE2
 refine AL rfl wu rfl Qc4 ?_
 intro rb w3 hE3 hC hrb
 replace hF := hF.ext hE3
 replace hB := hB.ext hE3
 refine Qk rfl rfl (Qk rfl rfl (Qd (Qa (Qc ?_))))
 have hE := (hE1.trans hE2).trans hE3
 have hz1 := hE1.size
 have hz2 := hE2.size
 have hlB := hB.lt
 have hlC := hC.lt
 refine Qb [0,1,2,3,4,5,6,7,8] rfl (Vw rfl (ldA rfl Zf hF) (Vw rfl (ldA rfl ZP hB) (BSV (r := [.int .i64 n, v]) rfl wu rfl rfl XX rfl (by decide) (by decide) ?_)))
 intro lv w4 hE4 hlv
 refine C rfl wu rfl rfl Tryz.call101 (Qam p M mo v lv md n L _ ok ((hmd.ext hE).ext hE4) hlv hv1 ((hL.ext hE).ext hE4) hM) ?_
 rintro _ w5 hE5 ⟨g, rfl, hG⟩
 refine mvV rfl rfl (QI rfl rfl rfl (QI rfl rfl rfl (Qk rfl rfl (Qk rfl rfl (Qd (Qa (Qc (Qc (Qb [0,1] rfl (mvV rfl rfl (QG rfl rfl rfl (Qd (Qa ?_)))))))))))))
 refine Qn rfl (rfl) (Qe (Qa (Qc ?_)))
 have hE45 := hE4.trans hE5
 replace hB := hB.ext hE45
 replace hC := hC.ext hE45
 replace hE := hE.trans hE45
 have hzE := hE.size
 have hlC5 := hC.lt
 refine Qb [0,1,2,3,4,5,6,7,8,9,10] rfl (mvV rfl rfl (Qz rfl rfl QR (Vw rfl (ldB rfl Zm hB) (Qz rfl rfl QV (Vw rfl (ldB rfl na3 hB) (C rfl wu rfl rfl Tryz.call110 (Qb7 _ g v L n n _ hG (hL.ext hE) hR (Nat.le_refl _) (by omega) (by omega)) ?_))))))
 rintro _ w6 hE6 ⟨lv2, pv, rfl, hlv2, hpv⟩
 refine mvV rfl rfl (QI rfl rfl rfl (QI rfl rfl rfl (Qk rfl rfl (Qk rfl rfl (Qd (Qa (Qc ?_)))))))
 have hlc := QB hlv2.one
 refine Qb [0,1,2,3,4,5,6,7] rfl (Qz rfl rfl QV (Vw rfl (ldB rfl na3 (hB.ext hE6)) (mvV rfl rfl (Vw rfl (bld rfl (QdE n lv2 hlc)) (mvV rfl rfl (STB (vs := [.int .i64 n, lv2]) (cs' := [.int .i64 n, lv2]) rfl wu rfl rfl rfl JN nofun (hC.ext hE6) (by have := hlv2.one; intro v hv; simp only [List.mem_cons, List.not_mem_nil, or_false] at hv; rcases hv with rfl | rfl <;> first | rfl | assumption) rfl rfl rfl ?_))))))
 intro w7 hg7 hX7 hC7
 refine Qk rfl rfl (Qk rfl rfl (Qd (Qa (Qq (Qdg rfl rfl rfl rfl ZP hC7 rfl ?_)))))
 have hG7 : Gr [rb] w6 w7 := Gr.of_grown hg7 (fun k hk => by simp [Option.some.inj hk])
 exact ⟨hX7 w (by omega) (hE.trans hE6), lv2, pv, rfl, (hlv2.gr hG7 (fun k hk => by rw [List.mem_singleton.1 hk]; exact hlC5)).mono hzE, Own.mono (Own.gr hpv hG7 (fun k hk e => by have := (Own.lt hpv k hk).1; have := List.mem_singleton.1 e; omega)) hzE⟩
end Go.Proofs.YtcfbigmjjpknfaaGreatDoor
namespace Go.Proofs.YtcfbigmjjpknfaaGreatDoor
open Go Go.Sx Go.Pl Go.RowKit Go.Fd Go.Alg
set_option maxRecDepth 10000 in
theorem fCheckOk (p M : Int) (mo : Value) (md : List Int) (w : World) (ok : OkF p M md) (hmd : Ints w mo md) :
  Calls Tryz.prog 66 #[fv0 p M mo] w (RetX w fun r _ => r = .int .i64 0) := by
 have hS := ok.1
 obtain ⟨eo, eo0, hp⟩ := Kv hS.1 hS.2.1 hS.2.2.1 hS.2.2.2.1
 obtain ⟨P, hP⟩ : ∃ P, P = fpOf p M md hS.1 hS.2.1 := ⟨_, rfl⟩
 have hPp : P.p = p := by rw [hP]; rfl
 have hPM : (P.M : Int) = M := by rw [hP]; show (M.toNat : Int) = M; have := hS.2.1; omega
 have hPq : P.q = ordZ p M := by rw [eo, hP]; rfl
 have hPmd : P.md = fun j => md.getD j 0 := by rw [hP]; rfl
 have hFV : ∀ w' mc, Ints w' mc md → FV w' P mc md := fun w' mc hi => ⟨hi, by omega, by have := hS.2.2.1; omega, by rw [hPq, eo]; exact hS.2.2.2.1, hPmd, fun h1 => hS.2.2.2.2.2.1 (by omega), fun h1 => by have := (hS.2.2.2.2.2.2 (by omega)).1; omega, (by
   rw [hPp]
   by_cases h1 : M = 1
   ·rw [hS.2.2.2.2.2.1 h1]; intro z hz; cases hz
   ·exact (hS.2.2.2.2.2.2 h1).2)⟩
 have hfv : fv P mo = fv0 p M mo := by rw [fv, fv0, hPp, hPM]
 refine QL Tryz.func66 rfl rfl (Qc (Qb [0,1] rfl (BXA rfl wu rfl rfl ?_)))
 intro fb w1 hE hB hfb
 refine Qk rfl rfl (Qd (Qa (Qc (Qc ?_))))
 replace hmd := hmd.ext hE
 refine Qx QK [0,1,2,3,4,5,6,7,8,9,10,11,12] (by kernel_rfl) ?_
 intro w2 hd _
 replace hE := hE.trans hd
 replace hB := hB.ext hd
 replace hmd := hmd.ext hd
 refine Vw rfl (ldA rfl Zf hB) (C rfl wu rfl rfl Tryz.call55 (fShape p M mo md _ hmd) ?_)
 rintro _ w3 hE3 ⟨b, rfl, hb⟩
 obtain rfl : b = true := hb.2 hS
 replace hB := hB.ext hE3
 replace hE := hE.trans hE3
 replace hmd := hmd.ext hE3
 refine ZC rfl rfl (mvV rfl rfl (KB 6 false rfl (rfl) (Vg rfl rfl rfl (ldA rfl Zf hB) (Vg rfl rfl rfl (fad rfl QY) (Vg rfl rfl rfl (ldB rfl na3 hB) (Vg rfl rfl rfl (fad rfl Zl) (Vg rfl rfl rfl (ldB rfl na3 hB) (C rfl (wg rfl rfl) rfl rfl Tryz.call56 (QbH p M _) ?_))))))))
 rintro _ w4 hE4 rfl
 replace hB := hB.ext hE4
 replace hE := hE.trans hE4
 replace hmd := hmd.ext hE4
 rw [← hPq]
 have hcall := Qap P mo md _ (hFV _ _ hmd)
 rw [hfv] at hcall
 refine C rfl (wg rfl rfl) rfl rfl Tryz.call57 hcall ?_
 rintro e w5 hE5 hgen
 replace hE := hE.trans hE5
 rcases hgen with ⟨rfl, hno⟩ | ⟨x, hx, hei, ge, hge⟩
 ·exfalso; obtain ⟨x, hx⟩ := ok.gen; subst hP; exact hno x hx
 have hesl : ∃ a n c, e = .slice a n c := by obtain ⟨⟨a, c, he, _⟩, _⟩ := hei; exact ⟨_, _, _, he⟩
 refine Vg rfl rfl rfl (eqlN rfl rfl Tryz.underlying22 hesl) (pkV rfl rfl rfl (Qd (Qa (Qn rfl (by simp [hge]) (Qe (Qa (Qc (Qb [0] rfl (Qk rfl rfl (Qd (Qa (Qq (Qj rfl rfl ?_)))))))))))))
 exact ⟨hE, rfl⟩
end Go.Proofs.YtcfbigmjjpknfaaGreatDoor
namespace Go.Sx
open Go Go.RowKit Go.Pl
section
variable {P : Program} {N : Nat} {l : Env} {w : World} {Q : Exit → Act → World → Prop}
theorem wc_scope {c : Code} (h : WC P N c (Exit.noGoto Q) l w) : WC P N (.scope c) Q l w := fun a ha => wp_scope_straight (h a ha)
theorem wc_label {k : Nat} (h : Post N Q .normal l w) : WC P N (.label k) Q l w := fun a ha => wp_label (h a ha)
theorem Ks (h : Post N Q .ret l w) : Post N (Exit.noGoto Q) .ret l w := h
end
section
variable {P : Program} {N : Nat} {l : Env} {w : World} {v : Value} {ty : TypeId} {x y : Operand} {T E : TypeId} {u : Int}
theorem Zg {fn : Func} {t b : Nat} {n : Nat} {tb : TypeId} {cs : List Value} {R : Ending → World → Prop} (hr : fn.results = #[.cell t T]) (hp : lk l t = some (.pointer (some ⟨b, 0, none⟩)))
  (hA : AG P T n) (hB : Blk w b tb cs.toArray) (hn : cs.length = n) (hR : R (.returned (.agg cs.toArray)) w) :
  Post N (bodyPost P fn R) .ret l w := fun a ha => by
 refine ⟨ha.defers, .agg cs.toArray, ?_, hR⟩
 have h1 := ha.slots _ _ hp
 have hl := run_loadCells_list (P := P) w ⟨b, 0, none⟩ cs (fun j v hv => by rw [Addr.add_lit]; exact hB.cell (by simpa using hv))
 rw [hn] at hl
 simp [results, hr, h1, asAddr, loadVar, hA.agg w, hA.size w, hl]
end
end Go.Sx
namespace Go.Proofs.YtcfbigmjjpknfaaGreatDoor
open Go Go.Sx Go.Pl Go.RowKit Go.Fd Go.Alg
theorem Qc1 (n : Int) (w : World) (h1 : 1 ≤ n) (h2 : n ≤ 64) : Calls Tryz.prog 67 #[.int .i64 n] w (RetX w fun r _ => r = .int .i64 0) := by
 refine QL Tryz.func67 rfl rfl (Qc (Qb [0] rfl (Qk rfl rfl (Qd (Qa (Qc (Qc (Qb [0,1,2,3,4,5] rfl (mvV rfl rfl (Qy rfl rfl rfl (mvV rfl rfl (KB 5 false rfl (by simp; omega) ?_))))))))))))
 refine Vg rfl rfl rfl (mv rfl) (Vg rfl rfl rfl (Ju rfl rfl) (pkV rfl rfl rfl (Qd (Qa (Qn rfl (by simp; omega) (Qe (Qa (Qc (Qb [0] rfl (Qk rfl rfl (Qd (Qa (Qq (Qj rfl rfl ?_))))))))))))))
 exact ⟨Ext.refl _, rfl⟩
theorem cdOwn (p M : Int) (mo : Value) (md : List Int) (w : World) (hmd : Ints w mo md) (hl : md.length ≤ 1000000) : Calls Tryz.prog 112 #[fv0 p M mo] w (RetX w fun r w' => ∃ mo', r = fv0 p M mo' ∧ OwnI w.heap.size w' mo' 3 md) := by
 have h1 : mo.oneCell' = true := Value.slice_cells _ (by obtain ⟨a, c, e⟩ := Sl.slice hmd; exact ⟨_, _, _, e⟩)
 refine QL Tryz.func112 rfl rfl (Qc (Qb [0,1] rfl (BXA rfl wu rfl rfl ?_)))
 intro fb w1 hE1 hF hfb
 have hfl := hF.lt
 refine AL rfl wu rfl zeroF ?_
 intro rb w2 hE2 hR hrb
 replace hF := hF.ext hE2
 refine Qd (Qa (Qc ?_))
 have hE := hE1.trans hE2
 have hz1 := hE1.size
 have hz2 := hE2.size
 refine Qb [0,1,2,3,4] rfl (Qz rfl rfl Jm (Vw rfl (ldB rfl Zk hF) (C rfl wu rfl rfl Tryz.call27 (Qby mo md _ (hmd.ext hE) hl) ?_)))
 rintro m2 w3 hE3 ho
 have hlF := hF.lt
 have hlR := hR.lt
 replace hF := hF.ext hE3
 replace hR := hR.ext hE3
 refine Qz rfl rfl Jm ?_
 have h2 : m2.oneCell' = true := Value.slice_cells _ (by obtain ⟨a, c, e⟩ := Sl.slice (OwnI.ints ho); exact ⟨_, _, _, e⟩)
 refine STB (vs := [m2]) (cs := [.int .i64 p, .int .i64 M, mo]) (cs' := [.int .i64 p, .int .i64 M, m2]) rfl wu rfl rfl (QB h2) szSl nofun hF (by simp [h2]) rfl rfl rfl ?_
 intro w4 hg4 hX4 hF4
 refine Qd (Qa (Qc ?_))
 have hlt := ho.lt
 replace hR : Blk w4 rb _ _ := hR.grown hg4 (fun e => by have := Option.some.inj e; omega)
 have ho4 : OwnI w2.heap.size w4 m2 3 md := Own.gr (X := [fb]) ho (Gr.of_grown hg4 (fun k e => by simp [Option.some.inj e])) (fun k hk e => by have := (hlt k hk).1; have := List.mem_singleton.1 e; omega)
 refine Qb [0,1] rfl (Vw rfl (ldA rfl Zf hF4) (STB (vs := [.int .i64 p, .int .i64 M, m2]) (cs := [.int .i64 0, .int .i64 0, .slice none 0 0]) (cs' := [.int .i64 p, .int .i64 M, m2]) rfl wu rfl rfl rfl szF nofun hR oc3 rfl rfl rfl ?_))
 intro w5 hg5 hX5 hR5
 refine Qd (Qa (Qq (Zg rfl rfl Zf hR5 rfl ?_)))
 refine ⟨hX5 w (by omega) (hX4 w (by omega) (hE.trans hE3)), m2, rfl, Own.mono (Own.gr (X := [rb]) ho4 (Gr.of_grown hg5 (fun k e => by simp [Option.some.inj e])) (fun k hk e => by have := (hlt k hk).1; have := List.mem_singleton.1 e; omega)) hE.size⟩
end Go.Proofs.YtcfbigmjjpknfaaGreatDoor
namespace Go.Proofs.YtcfbigmjjpknfaaGreatDoor
open Go Go.Sx Go.Pl Go.RowKit Go.Fd Go.Alg
set_option maxRecDepth 10000 in
theorem cdOf (p M : Int) (mo : Value) (md : List Int) (n : Int) (rv : Value) (w : World) (hmd : Ints w mo md) (hl : md.length ≤ 1000000) (hrv : rv.oneCell' = true) :
  Calls Tryz.prog 76 #[fv0 p M mo, .agg #[.int .i64 n, rv], .int .i64 0] w (RetX w fun r w' => ∃ mo', r = .tuple #[.agg #[.int .i64 p, .int .i64 M, mo', .int .i64 n, rv], .int .i64 0] ∧ OwnI w.heap.size w' mo' 3 md) := by
 have hrc : rv.cells = #[rv] := by cases rv <;> first | rfl | simp [Value.oneCell'] at hrv
 refine QS Tryz.func76 rfl rfl (Qc (Qb [0,1,2,3] rfl (BXA rfl wu rfl rfl ?_)))
 intro fb w1 hE1 hF hfb
 refine BXA rfl wu rfl rfl ?_
 intro mb w2 hE2 hM hmb
 replace hF := hF.ext hE2
 refine AL rfl wu rfl Qc5 ?_
 intro rb w3 hE3 hR hrb
 replace hF := hF.ext hE3
 replace hM := hM.ext hE3
 refine Qk rfl rfl (Qd (Qa (Qc (Qc ?_))))
 have hE := (hE1.trans hE2).trans hE3
 have hz1 := hE1.size
 have hz2 := hE2.size
 refine Qb [0,1] rfl (mvV rfl rfl (QG rfl rfl rfl (Qd (Qa (Qn rfl (rfl) (Qe (Qa (Qc (Qx QK [0,2,3,4,5,1,6,7,8] (by kernel_rfl) ?_)))))))))
 intro w4 hd _
 replace hE := hE.trans hd
 replace hF := hF.ext hd
 replace hM := hM.ext hd
 replace hR := hR.ext hd
 refine Vw rfl (ldA rfl Zf hF) (Qz rfl rfl QV (Vw rfl (ldB rfl na3 hM) (Qz rfl rfl QR (Vw rfl (ldB rfl Zm hM) (C rfl wu rfl rfl Tryz.call112 (cdOwn p M mo md _ (hmd.ext hE) hl) ?_)))))
 rintro _ w5 hE5 ⟨m2, rfl, ho⟩
 have hlR := hR.lt
 replace hR := hR.ext hE5
 refine Vw rfl (bld rfl (bdCd p M m2 n rv hrc)) ?_
 have h2 : m2.oneCell' = true := Value.slice_cells _ (by obtain ⟨a, c, e⟩ := Sl.slice (OwnI.ints ho); exact ⟨_, _, _, e⟩)
 refine STB (vs := [.int .i64 p, .int .i64 M, m2, .int .i64 n, rv]) (cs' := [.int .i64 p, .int .i64 M, m2, .int .i64 n, rv]) rfl wu rfl rfl rfl QbS (by intro h; kernel_rfl) hR oc5 rfl rfl rfl ?_
 intro w6 hg6 hX6 hR6
 refine Qk rfl rfl (Qd (Qa (Qq (QJ rfl rfl rfl Jx hR6 rfl ?_))))
 have hlt := ho.lt
 exact ⟨hX6 w (by omega) (hE.trans hE5), m2, rfl, Own.mono (Own.gr (X := [rb]) ho (Gr.of_grown hg6 (fun k e => by simp [Option.some.inj e])) (fun k hk e => by have := (hlt k hk).1; have := List.mem_singleton.1 e; omega)) hE.size⟩
theorem cdGen (p M : Int) (mo : Value) (n : Int) (rv : Value) (w : World) (_ : mo.oneCell' = true) (hrv : rv.oneCell' = true) :
  Calls Tryz.prog 69 #[.agg #[.int .i64 p, .int .i64 M, mo, .int .i64 n, rv]] w (RetX w fun r _ => r = .agg #[.int .i64 n, rv]) := by
 have hrc : rv.cells = #[rv] := by cases rv <;> first | rfl | simp [Value.oneCell'] at hrv
 refine QL Tryz.func69 rfl rfl (Qc (Qb [0,1] rfl (BXA rfl wu rfl rfl ?_)))
 intro cb w1 hE1 hC hcb
 refine AL rfl wu rfl KW ?_
 intro rb w2 hE2 hR hrb
 replace hC := hC.ext hE2
 refine Qd (Qa (Qc ?_))
 have hz1 := hE1.size
 refine Qb [0,1,2,3,4,5] rfl (Qz rfl rfl Zr (Vw rfl (ldB rfl na3 hC) (Qz rfl rfl ZE (Vw rfl (ldB rfl Zm hC) (Vw rfl (bld rfl (QdE n rv hrc)) (STB (vs := [.int .i64 n, rv]) (cs' := [.int .i64 n, rv]) rfl wu rfl rfl rfl JN nofun hR oc2 rfl rfl rfl ?_))))))
 intro w3 hg3 hX3 hR3
 refine Qd (Qa (Qq (Zg rfl rfl ZP hR3 rfl ?_)))
 exact ⟨hX3 w (by omega) (hE1.trans hE2), rfl⟩
end Go.Proofs.YtcfbigmjjpknfaaGreatDoor
namespace Go.Proofs.YtcfbigmjjpknfaaGreatDoor
open Go Go.Sx Go.Pl Go.RowKit
theorem KC (x : Int) (w : World) : Calls Tryz.prog 364 #[.int .i64 x] w (RetX w fun v _ => v = .bool false) := by
 refine QL Tryz.func364 rfl rfl (Qc (Qb [0] rfl (Qk rfl rfl (Qd (Qa (Qc (Qb [0,1,2,3] rfl (mvV rfl rfl (mvV rfl rfl (QG rfl rfl rfl (Qk rfl rfl ?_)))))))))))
 refine Qd (Qa (Qq (Qj rfl rfl ?_)))
 exact ⟨Ext.refl _, by simp⟩
theorem cmpC (x y : Int) (w : World) : Calls Tryz.prog 322 #[.int .i64 x, .int .i64 y] w (RetX w fun v _ => v = .int .i64 (cmpZ x y)) := by
 refine QD Tryz.func322 rfl rfl (Qc (Qb [0] rfl (Qk rfl rfl (Qd (Qa (Qc (Qb [0,1,2] rfl (mvV rfl rfl (C rfl wu rfl rfl Tryz.call364 (KC x _) ?_)))))))))
 rintro _ w1 hE1 rfl
 refine Qk rfl rfl (Qd (Qa (Qc (Qb [0,1,2] rfl (mvV rfl rfl (C rfl wu rfl rfl Tryz.call364 (KC y _) ?_))))))
 rintro _ w2 hE2 rfl
 refine Qk rfl rfl (Qd (Qa (Qc (Qc ?_))))
 replace hE2 := hE1.trans hE2
 refine Qb [0] rfl (mvV rfl rfl (Qd (Qa (Qn rfl (rfl) (Qe (Qa (Qc (Qc (Qb [0] rfl (mvV rfl rfl (Qd (Qa (Qn rfl (rfl) (Qe (Qa (Qc (Qc ?_)))))))))))))))))
 refine Qb [0,1,2] rfl (mvV rfl rfl (mvV rfl rfl (Qy rfl rfl rfl (Qd (Qa (Qo rfl ?_ ?_))))))
 ·intro h
  simp at h
  refine Qc (Qb [0] rfl (Qk rfl rfl (Qd (Qa (Qq (Qp (Qj rfl rfl ?_)))))))
  exact ⟨hE2, by rw [cmpZ, if_pos h]⟩
 ·intro h
  simp at h
  refine Qe (Qa (Qc (Qc (Qb [0,1,2] rfl (mvV rfl rfl (mvV rfl rfl (ZA rfl rfl rfl (Qd (Qa (Qo rfl ?_ ?_))))))))))
  ·intro h2
   simp at h2
   refine Qc (Qb [0] rfl (Qk rfl rfl (Qd (Qa (Qq (Qp (Qj rfl rfl ?_)))))))
   exact ⟨hE2, by rw [cmpZ, if_neg (by omega), if_pos h2]⟩
  ·intro h2
   simp at h2
   refine Qe (Qa (Qc (Qb [0] rfl (Qk rfl rfl (Qd (Qa (Qq (Qj rfl rfl ?_))))))))
   exact ⟨hE2, by rw [cmpZ, if_neg (by omega), if_neg (by omega)]⟩
set_option maxRecDepth 10000 in
theorem sCompare (a b : Value) (xs ys : List Int) (w : World) (ha : Ints w a xs) (hb : Ints w b ys) :
  Calls Tryz.prog 247 #[a, b] w (RetX w fun v _ => v = .int .i64 (cmpL xs ys)) := by
 have la := ha.le
 have lb := hb.le
 refine QD Tryz.func247 rfl rfl (Qc (Qb [0] rfl (Qk rfl rfl (Qd (Qa (Qc (Qc (Qb [0,1,2] rfl (mvV rfl rfl (Vw rfl (Zh rfl QA) ?_))))))))))
 refine mvV rfl rfl (Qd (Qa (Qf ?_)))
 refine Qv (fun i : Int => [(0, a), (1, b), (9, a), (10, .int .i64 xs.length), (11, .int .i64 i)])
  (fun i w' => 0 ≤ i ∧ i ≤ xs.length ∧ i ≤ ys.length ∧ cmpL xs ys = cmpL (xs.drop i.toNat) (ys.drop i.toNat) ∧ Ext w w') (fun i => (xs.length - i).toNat) 0 ⟨rfl, rfl, rfl, rfl, rfl, trivial⟩ ⟨by omega, by omega, by omega, rfl, Ext.refl _⟩ ?_
 rintro i w1 ⟨h0, h1, h2, hc, hE⟩
 try dsimp only
 refine Qc (Qb [0] rfl (Qy rfl rfl rfl (Qd (Qa (Qc (Qo rfl ?_ ?_))))))
 ·intro h
  simp at h
  refine Qe (Qa (Qc (Qf (Qc (Qb [0,1,2,3,4] rfl (mvV rfl rfl (Vw rfl (QO rfl rfl QA) ?_)))))))
  refine Vw rfl (ldI rfl na3) ?_
  refine Qk rfl rfl (Qk rfl rfl (Qd (Qa (Qc (Qc (Qb [0,1,2,3] rfl (mvV rfl rfl (mvV rfl rfl (Vw rfl (Zh rfl QA) ?_)))))))))
  refine Vw rfl (Xb rfl rfl) (Qd (Qa (Qo rfl ?_ ?_)))
  ·intro h3
   simp at h3
   refine Qc (Qb [0] rfl (Qk rfl rfl (Qd (Qa (Qq (Qp (Qu (Qp (QE (Qu (Qp (Qj rfl rfl ?_))))))))))))
   exact ⟨hE, by rw [hc, cmpL_long h0 h h3]⟩
  ·intro h3
   simp at h3
   refine Qe (Qa (Qc ?_))
   rw [cmpL_drop h0 h h3] at hc
   refine Qb [0,1,2,3,4] rfl (mvV rfl rfl (mvV rfl rfl (Vw rfl (QO rfl rfl QA) ?_)))
   refine Vw rfl (ldI rfl na3) ?_
   refine Qk rfl rfl (Qd (Qa (Qc (Qb [0,1,2,3] rfl (mvV rfl rfl (mvV rfl rfl (C rfl wu rfl rfl Tryz.call322 (cmpC (gi xs i) (gi ys i) _) ?_)))))))
   rintro _ w2 hE2 rfl
   refine Qk rfl rfl (Qd (Qa (Qc ?_)))
   replace hE2 := hE.trans hE2
   refine Qb [0,1] rfl (mvV rfl rfl (QG rfl rfl rfl (Qd (Qa (Qo rfl ?_ ?_)))))
   ·intro h4
    refine Qc (Qb [0,1] rfl (mvV rfl rfl (Qk rfl rfl (Qd (Qa (Qq (Qu (Qp (QE (Qu (Qp (Qj rfl rfl ?_))))))))))))
    refine ⟨hE2, ?_⟩
    rw [hc]
    simp only [cmpZ] at h4 ⊢
    split at h4
    ·rename_i h5; rw [if_pos h5, if_pos h5]
    ·rename_i h5
     split at h4
     ·rename_i h6; rw [if_neg h5, if_pos h6, if_neg h5, if_pos h6]
     ·simp at h4
   ·intro h4
    refine Qe (Qg (Qa (Qb [0,1] rfl (Qw rfl rfl rfl (mvV rfl rfl (Qd (Qi (i + 1) ⟨rfl, rfl, rfl, rfl, rfl, trivial⟩ ⟨by omega, by omega, by omega, ?_, hE2⟩ (by omega))))))))
    rw [hc]
    simp only [cmpZ] at h4
    split at h4
    ·simp at h4
    ·rename_i h5
     split at h4
     ·simp at h4
     ·rename_i h6; rw [if_neg h5, if_neg h6]
 ·intro h
  simp at h
  refine Qt (Ql (Qm (Qh (Qa (Qc (Qc (Qb [0,1,2,3,4] rfl (mvV rfl rfl (Vw rfl (Zh rfl QA) ?_)))))))))
  refine mvV rfl rfl (Vw rfl (Zh rfl QA) ?_)
  refine Qy rfl rfl rfl (Qd (Qa (Qo rfl ?_ ?_)))
  ·intro h3
   simp at h3
   refine Qc (Qb [0] rfl (Qk rfl rfl (Qd (Qa (Qq (Qp (Qj rfl rfl ?_)))))))
   exact ⟨hE, by rw [hc, Qds h h0 (by omega)]⟩
  ·intro h3
   simp at h3
   refine Qe (Qa (Qc (Qb [0] rfl (Qk rfl rfl (Qd (Qa (Qq (Qj rfl rfl ?_))))))))
   exact ⟨hE, by rw [hc, cmpL_end h (by omega)]⟩
end Go.Proofs.YtcfbigmjjpknfaaGreatDoor
namespace Go.Fd
open Go.Pl
end Go.Fd
namespace Go.Proofs.YtcfbigmjjpknfaaGreatDoor
open Go Go.Sx Go.Pl Go.RowKit Go.Fd
theorem Qbh {a b : List Int} {i : Nat} (h : ∀ t : Nat, t < i → gi a t = gi b t) (hi : gi a i = gi b i) : ∀ t : Nat, t < i + 1 → gi a t = gi b t := fun t ht => by
 by_cases e : t = i
 ·rw [e]; exact hi
 ·exact h t (by omega)
theorem Qdm {a b : List Int} (hl : a.length = b.length) (h : ∀ t : Nat, t < a.length → gi a t = gi b t) : a = b := by
 refine List.ext_getElem hl fun i h1 h2 => ?_
 have := h i h1
 simpa [gi, List.getD_eq_getElem?_getD, h1, h2] using this
set_option maxRecDepth 10000 in
theorem sEqual (u v : Value) (a b : List Int) (w : World) (hu : Ints w u a) (hv : Ints w v b) :
  Calls Tryz.prog 109 #[u, v] w (RetX w fun r _ => r = .bool (decide (a = b))) := by
 have hal := hu.le
 have hbl := hv.le
 refine QD Tryz.func109 rfl rfl (Qc (Qb [0] rfl (Qk rfl rfl (Qd (Qa (Qc (Qc (Qb [0,1,2,3,4] rfl (mvV rfl rfl (Vw rfl (Zh rfl QA) ?_))))))))))
 refine mvV rfl rfl (Vw rfl (Zh rfl QA) ?_)
 refine QG rfl rfl rfl (Qd (Qa (Qo rfl ?_ ?_)))
 ·intro h
  simp at h
  refine Qc (Qb [0] rfl (Qk rfl rfl (Qd (Qa (Qq (Qp (Qj rfl rfl ?_)))))))
  exact ⟨Ext.refl _, by rw [decide_eq_false (fun e => h (by rw [e]))]⟩
 ·intro h
  simp at h
  refine Qe (Qa (Qc (Qc (Qb [0,1,2] rfl (mvV rfl rfl (Vw rfl (Zh rfl QA) ?_))))))
  refine mvV rfl rfl (Qd (Qa (Qf ?_)))
  refine Qv (fun i : Nat => [(0, u), (1, v), (12, .int .i64 a.length), (13, .int .i64 i)])
   (fun i w' => i ≤ a.length ∧ Ext w w' ∧ ∀ t : Nat, t < i → gi a t = gi b t) (fun i => a.length - i) 0 ⟨rfl, rfl, rfl, rfl, trivial⟩ ⟨by omega, Ext.refl _, fun t ht => by omega⟩ ?_
  rintro i w1 ⟨i1, hE, hq⟩
  have hui := hu.ext hE
  have hvi := hv.ext hE
  try dsimp only
  refine Qc (Qb [0] rfl (Qy rfl rfl rfl (Qd (Qa (Qc (Qo rfl ?_ ?_))))))
  ·intro hc
   simp at hc
   refine Qe (Qa (Qc (Qf (Qc (Qb [0,1] rfl (mvV rfl rfl (Qk rfl rfl (Qd (Qa (Qc (Qx QK [0,1,2,3,4,5,6,7,8] (by kernel_rfl) ?_)))))))))))
   intro w2 hd _
   replace hE := hE.trans hd
   replace hui := hui.ext hd
   replace hvi := hvi.ext hd
   refine mvV rfl rfl (mvV rfl rfl (Vw rfl (QO rfl rfl QA hui (by omega) (by omega)) (Vw rfl (ldI rfl na3 hui) (mvV rfl rfl (mvV rfl rfl (Vw rfl (QO rfl rfl QA hvi (by omega) (by omega)) (Vw rfl (ldI rfl na3 hvi) (QG rfl rfl rfl (Qd (Qa ?_))))))))))
   refine Qo rfl ?_ ?_
   ·intro h2
    simp at h2
    refine Qc (Qb [0] rfl (Qk rfl rfl (Qd (Qa (Qq (Qu (Qp (QE (Qu (Qp (Qj rfl rfl ?_)))))))))))
    exact ⟨hE, by rw [decide_eq_false (fun e => h2 (by rw [e]))]⟩
   ·intro h2
    simp at h2
    refine Qe (Qg (Qa (Qb [0,1] rfl (Qw rfl rfl rfl (mvV rfl rfl (Qd ?_))))))
    exact Qi (i + 1) ⟨rfl, rfl, rfl, rfl, trivial⟩ ⟨by omega, hE, Qbh hq h2⟩ (by omega)
  ·intro hc
   simp at hc
   refine Qt (Ql (Qm (Qh (Qa (Qc (Qb [0] rfl (Qk rfl rfl (Qd (Qa (Qq (Qj rfl rfl ?_)))))))))))
   exact ⟨hE, by rw [decide_eq_true (Qdm (by omega) fun t ht => hq t (by omega))]⟩
theorem Qda {A B : List (List Int)} {i : Nat} (h : ∀ t : Nat, t < i → A.getD t [] = B.getD t []) (hi : A.getD i [] = B.getD i []) : ∀ t : Nat, t < i + 1 → A.getD t [] = B.getD t [] := fun t ht => by
 by_cases e : t = i
 ·rw [e]; exact hi
 ·exact h t (by omega)
theorem Qca {A B : List (List Int)} (hl : A.length = B.length) (h : ∀ t : Nat, t < A.length → A.getD t [] = B.getD t []) : A = B := by
 refine List.ext_getElem hl fun i h1 h2 => ?_
 have := h i h1
 simpa [List.getD_eq_getElem?_getD, h1, h2] using this
set_option maxRecDepth 10000 in
theorem Qdc (u v : Value) (A B : List (List Int)) (w : World) (hu : LL w u A) (hv : LL w v B) :
  Calls Tryz.prog 108 #[u, v, .func (.func 109) #[] #[]] w (RetX w fun r _ => r = .bool (decide (A = B))) := by
 obtain ⟨rows, hs, hrl, hrr⟩ := hu.row
 obtain ⟨Zc, hs2, hrl2, hrr2⟩ := hv.row
 have hal := hs.le
 have hbl := hs2.le
 refine QS Tryz.func108 rfl rfl (Qc (Qb [0] rfl (Qk rfl rfl (Qd (Qa (Qc (Qc (Qb [0,1,2,3,4] rfl (mvV rfl rfl (Vw rfl (Zt rfl QN hs) (mvV rfl rfl (Vw rfl (Zt rfl QN hs2) ?_))))))))))))
 refine QG rfl rfl rfl (Qd (Qa (Qo rfl ?_ ?_)))
 ·intro h
  simp at h
  refine Qc (Qb [0] rfl (Qk rfl rfl (Qd (Qa (Qq (Qp (Qj rfl rfl ?_)))))))
  exact ⟨Ext.refl _, by rw [decide_eq_false (fun e => h (by rw [hrl, hrl2, e]))]⟩
 ·intro h
  simp at h
  refine Qe (Qa (Qc (Qc (Qb [0,1,2] rfl (mvV rfl rfl (Vw rfl (Zt rfl QN hs) (mvV rfl rfl (Qd (Qa (Qf ?_))))))))))
  refine Qv (fun i : Nat => [(0, u), (1, v), (2, .func (.func 109) #[] #[]), (15, u), (16, .int .i64 rows.length), (17, .int .i64 i)])
   (fun i w' => i ≤ A.length ∧ Ext w w' ∧ ∀ t : Nat, t < i → A.getD t [] = B.getD t []) (fun i => A.length - i) 0 ⟨rfl, rfl, rfl, rfl, rfl, rfl, trivial⟩ ⟨by omega, Ext.refl _, fun t ht => by omega⟩ ?_
  rintro i w1 ⟨i1, hE, hq⟩
  try dsimp only
  refine Qc (Qb [0] rfl (Qy rfl rfl rfl (Qd (Qa (Qc (Qo rfl ?_ ?_))))))
  ·intro hc
   simp at hc
   obtain ⟨r, hr, hri⟩ := hrr i (by omega)
   obtain ⟨r2, hr2, hri2⟩ := hrr2 i (by omega)
   refine Qe (Qa (Qc (Qf (Qc (Qb [0,1,2,3,4] rfl (mvV rfl rfl (Vw rfl (iad rfl rfl QN hs (by omega) (by omega)) (Vw rfl (ldE rfl Zk hs hr) (Qk rfl rfl (Qk rfl rfl (Qd (Qa (Qc (Qb [0,1,2,3,4] rfl (mvV rfl rfl ?_)))))))))))))))
   refine mvV rfl rfl (Vw rfl (iad rfl rfl QN hs2 (by omega) (by omega)) (Vw rfl (ldE rfl Zk hs2 hr2) (Qk rfl rfl (Qd (Qa (Qc (Qb [0,1,2,3,4] rfl (mvV rfl rfl (mvV rfl rfl (mvV rfl rfl (CVX (fs := []) (cs := []) (vs := [r, r2]) rfl wu rfl rfl rfl Tryz.call109 (sEqual r r2 _ _ _ (hri.ext hE) (hri2.ext hE)) ?_)))))))))))
   rintro _ w2 hE2 rfl
   replace hE := hE.trans hE2
   refine ZC rfl rfl (Qd (Qa (Qo rfl ?_ ?_)))
   ·intro h2
    simp at h2
    refine Qc (Qb [0] rfl (Qk rfl rfl (Qd (Qa (Qq (Qu (Qp (QE (Qu (Qp (Qj rfl rfl ?_)))))))))))
    exact ⟨hE, by rw [decide_eq_false (fun e => h2 (by rw [e]))]⟩
   ·intro h2
    simp at h2
    refine Qe (Qg (Qa (Qb [0,1] rfl (Qw rfl rfl rfl (mvV rfl rfl (Qd ?_))))))
    exact Qi (i + 1) ⟨rfl, rfl, rfl, rfl, rfl, rfl, trivial⟩ ⟨by omega, hE, Qda hq (by simpa using h2)⟩ (by omega)
  ·intro hc
   simp at hc
   refine Qt (Ql (Qm (Qh (Qa (Qc (Qb [0] rfl (Qk rfl rfl (Qd (Qa (Qq (Qj rfl rfl ?_)))))))))))
   exact ⟨hE, by rw [decide_eq_true (Qca (by omega) fun t ht => hq t (by omega))]⟩
set_option maxRecDepth 10000 in
theorem bLen64 (n : Int) (w : World) (h0 : 0 ≤ n) (h1 : n ≤ 12) : Calls Tryz.prog 319 #[.int .u64 n] w (RetX w fun r _ => ∃ k, r = .int .i64 k) := by
 have hw8 : IntKind.u8.wrap n = n := by simp [IntKind.wrap, IntKind.bits, IntKind.signed]; omega
 refine QL Tryz.func319 rfl rfl (Qc (Qb [0] rfl (Qk rfl rfl (Qd (Qa (Qc (Qc (Qb [0,1] rfl (mvV rfl rfl (Vw rfl (geqK rfl rfl) (Qd (Qa (Qn rfl (by simp; omega) ?_)))))))))))))
 refine Qe (Qa (Qc (Qc (Qb [0,1] rfl (mvV rfl rfl (Vw rfl (geqK rfl rfl) (Qd (Qa (Qn rfl (by simp; omega) (Qe (Qa (Qc (Qc (Qb [0,1] rfl (mvV rfl rfl (Vw rfl (geqK rfl rfl) ?_))))))))))))))))
 refine Qd (Qa (Qn rfl (by simp; omega) (Qe (Qa (Qc (Qb [0,1,2,3,4,5,6] rfl (mvV rfl rfl (mvV rfl rfl (Vw rfl (cvK (q := .u8) rfl (by kernel_rfl) (by kernel_rfl)) ?_)))))))))
 rw [hw8]
 refine Vw rfl (ixS (u := n) rfl rfl (by kernel_rfl) h0 (by exact Int.lt_of_le_of_lt h1 (by decide +kernel))) (Vw rfl (cvK (q := .i64) rfl (by kernel_rfl) (by kernel_rfl)) (Vw rfl (addW rfl rfl) (Qk rfl rfl (Qd (Qa (Qq (Qj rfl rfl ?_)))))))
 exact ⟨Ext.refl _, _, rfl⟩
set_option maxRecDepth 10000 in
theorem bLen (n : Int) (w : World) (h0 : 0 ≤ n) (h1 : n ≤ 12) : Calls Tryz.prog 239 #[.int .u64 n] w (RetX w fun r _ => ∃ k, r = .int .i64 k) := by
 refine QL Tryz.func239 rfl rfl (Qc (Qb [0] rfl (Qk rfl rfl (Qd (Qa (Qc (Qn rfl (rfl) (Qe (Qa (Qc (Qb [0,1,2] rfl (mvV rfl rfl (C rfl wu rfl rfl Tryz.call319 (bLen64 n _ h0 h1) ?_)))))))))))))
 rintro _ w1 hE ⟨k, rfl⟩
 refine Qk rfl rfl (Qd (Qa (Qq (Qj rfl rfl ?_))))
 exact ⟨hE, _, rfl⟩
end Go.Proofs.YtcfbigmjjpknfaaGreatDoor
