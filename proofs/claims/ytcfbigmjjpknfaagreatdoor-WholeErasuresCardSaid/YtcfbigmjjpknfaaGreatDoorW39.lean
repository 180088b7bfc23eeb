import Derived.Test.YtcfbigmjjpknfaaGreatDoorW27
import Derived.Test.YtcfbigmjjpknfaaGreatDoorW38
import Derived.Test.YtcfbigmjjpknfaaGreatDoorW17
namespace Go.Proofs.YtcfbigmjjpknfaaGreatDoor
open Go Go.Sx Go.Pl Go.RowKit Go.Fd Go.Alg
set_option maxRecDepth 10000 in
theorem mxCheckE (p M : Int) (mo v : Value) (md : List Int) (n : Nat) (L : List (List Int)) (w : World) (ok : OkF p M md) (hmd : Ints w mo md) (hL : LL w v L) (hM : MV (fpOf p M md ok.1.1 ok.1.2.1) n L) :
  Calls Tryz.prog 54 #[fv0 p M mo, .agg #[.int .i64 n, v]] w (RetX w fun r _ => r = .int .i64 0) := by
 have hv1 := hL.one
 have hvc := QB hv1
 refine QD Tryz.func54 rfl rfl (Qc (Qb [0,1,2] rfl (BXA rfl wu rfl rfl ?_)))
 intro fb w1 hE1 hF hfb
 refine BXA rfl wu rfl rfl ?_
 intro mb w2 hE2 hB hmb
 replace hF := hF.ext hE2
 refine Qk rfl rfl (Qd (Qa (Qc ?_)))
 have hE := hE1.trans hE2
 refine Qb [0,1,2,3,4,5,6,7,8] rfl (Vw rfl (ldA rfl Zf hF) (Vw rfl (ldA rfl ZP hB) (BSV (r := [.int .i64 n, v]) rfl wu rfl rfl XX rfl (by decide) (by decide) ?_)))
 intro lv w4 hE4 hlv
 refine C rfl wu rfl rfl Tryz.call101 (Qam p M mo v lv md n L _ ok ((hmd.ext hE).ext hE4) hlv hv1 ((hL.ext hE).ext hE4) hM) ?_
 rintro _ w5 hE5 ⟨g, rfl, hG⟩
 refine mvV rfl rfl (QI rfl rfl rfl (QI rfl rfl rfl (Qk rfl rfl (Qk rfl rfl (Qd (Qa (Qc (Qb [0,1] rfl (mvV rfl rfl (Qk rfl rfl (Qd (Qa (Qq ?_)))))))))))))
 refine Qj rfl rfl ?_
 exact ⟨hE.trans (hE4.trans hE5), rfl⟩
set_option maxRecDepth 10000 in
theorem plGraph (p M : Int) (mo v : Value) (md : List Int) (n : Nat) (L : List (List Int)) (w : World) (ok : OkF p M md) (hmd : Ints w mo md) (hL : LL w v L) (hM : MV (fpOf p M md ok.1.1 ok.1.2.1) n L) (h1 : 1 ≤ n) (h2 : n ≤ 64) :
  Calls Tryz.prog 21 #[fv0 p M mo, .agg #[.int .i64 n, v]] w (RetX w fun r w' => ∃ tv, r = .tuple #[.agg #[.int .i64 n, tv], .int .i64 0] ∧ LLB w.heap.size w' tv (L.map fun l => Ml.posL l n)) := by
 have hv1 := hL.one
 have hvc := QB hv1
 have hlen := hM.len
 have hR : Ml.RL n L := fun l hl => by have := hM.row l hl; omega
 obtain ⟨rs, hsl, hrl, hrow⟩ := hL.row
 refine QD Tryz.func21 rfl rfl (Qc (Qb [0,1,2,3] rfl (BXA rfl wu rfl rfl ?_)))
 intro fb w1 hE1 hF hfb
 refine BXA rfl wu rfl rfl ?_
 intro mb w2 hE2 hB hmb
 replace hF := hF.ext hE2
 refine AL rfl wu rfl zv58 ?_
 intro rb w3 hE3 hC hrb
 replace hF := hF.ext hE3
 replace hB := hB.ext hE3
 refine Qk rfl rfl (Qd (Qa (Qc (Qc ?_))))
 have hE := (hE1.trans hE2).trans hE3
 have hz1 := hE1.size
 have hz2 := hE2.size
 refine Qb [0,1,2,3] rfl (Vw rfl (ldA rfl Zf hF) (Vw rfl (ldA rfl ZP hB) (C rfl wu rfl rfl Tryz.call54 (mxCheckE p M mo v md n L _ ok (hmd.ext hE) (hL.ext hE) hM) ?_)))
 rintro _ w4 hE4 rfl
 refine Qk rfl rfl (Qd (Qa (Qc (Qb [0,1] rfl (mvV rfl rfl (QG rfl rfl rfl (Qd (Qa (Qn rfl (rfl) (Qe (Qa (Qc (Qc ?_)))))))))))))
 replace hB := hB.ext hE4
 replace hC := hC.ext hE4
 replace hE := hE.trans hE4
 refine Qb [0,1,2,3,4,5,6,7] rfl (Qz rfl rfl QV (Vw rfl (ldB rfl na3 hB) (Qy rfl rfl rfl (mvV rfl rfl (KB 23 false rfl (decide_eq_false (by omega)) (Vg rfl rfl rfl (fad rfl QV) (Vg rfl rfl rfl (ldB rfl na3 hB) (Vg rfl rfl rfl (Ju rfl rfl) (pkV rfl rfl rfl ?_)))))))))
 refine Qd (Qa (Qn rfl (by simp; omega) (Qe (Qa (Qc ?_)))))
 have hlC := hC.lt
 refine Qb [0,1,2,3,4] rfl (Qz rfl rfl QV (Vw rfl (ldB rfl na3 hB) (Vw rfl (bld rfl (bd58_0 (.int .i64 n) rfl)) (AL rfl wu rfl zv58 ?_))))
 intro ob w7 hE7 hO hob
 refine STB (vs := [.int .i64 n, .slice none 0 0]) (cs' := [.int .i64 n, .slice none 0 0]) rfl wu rfl rfl rfl sv58 nofun (by assumption) (by first | exact oc2 | exact oc3 | exact oc5 | (simp [Value.oneCell']; done)) rfl rfl rfl ?_
 intro w8 hg8 hX8 hO8
 refine Qd (Qa (Qc (Qc ?_)))
 have hE8 := hX8 w4 hob hE7
 have hBe := hB.ext hE8
 have hzE := hE.size
 refine Qb [0,1,2,3] rfl (Qz rfl rfl QR (Vw rfl (ldB rfl Zm hBe) (Vw rfl (Zt rfl QN ((hsl.ext hE).ext hE8)) (mvV rfl rfl (Qd (Qa (Qf ?_)))))))
 have hlO := hO8.lt
 refine Qv (fun s : Nat × Value × List Value => [(4, .pointer (some ⟨rb, 0, none⟩)), (7, .pointer (some ⟨ob, 0, none⟩)), (33, v), (34, .int .i64 rs.length), (35, .int .i64 s.1)])
  (fun s w' => s.1 ≤ L.length ∧ Ext w4 w' ∧ w8.heap.size ≤ w'.heap.size ∧ Blk w' ob 58 #[.int .i64 n, s.2.1] ∧ OM w8.heap.size w' s.2.1 22 3 s.2.2 ((L.take s.1).map fun l => Ml.posL l n)) (fun s => L.length - s.1) (0, .slice none 0 0, []) ⟨rfl, rfl, rfl, rfl, rfl, trivial⟩ ⟨by omega, hE8, Nat.le_refl _, hO8, OM.nil _ _ _ _⟩ ?_
 clear hO8 hO
 rintro ⟨j, ov, rws⟩ wi ⟨j1, hEi, hzi, hOi, hom⟩
 dsimp only at j1 hEi hzi hOi hom
 have hEwi := hE.trans hEi
 try dsimp only
 refine Qc (Qb [0] rfl (Qy rfl rfl rfl (Qd (Qa (Qc (Qo rfl ?_ ?_))))))
 ·intro hc
  simp at hc
  obtain ⟨r, hri, hrr⟩ := hrow j (by omega)
  have hrlen := hR.get (i := j) (by omega)
  have hml : ((L.take j).map fun l => Ml.posL l n).length ≤ L.length := by simp; omega
  have hrr := hrr.ext hEwi
  refine Qe (Qa (Qc (Qf (Qc (Qb [0,1,2] rfl (Vw rfl (iad rfl rfl QN (hsl.ext hEwi) (by omega) (by omega)) (Vw rfl (ldE rfl Zk (hsl.ext hEwi) (by rw [Int.toNat_natCast]; exact hri) (Ext.refl _)) (Qk rfl rfl (Qd (Qa (Qc (Qb [0] rfl (Qk rfl rfl (Qd (Qa (Qc (Qc (Qb [0,1,2] rfl ?_))))))))))))))))))
  refine mvV rfl rfl (Vw rfl (Zh rfl QA hrr) (mvV rfl rfl (Qd (Qa (Qf ?_)))))
  rw [hrlen]
  refine Qv (fun s : Nat × Value => [(4, .pointer (some ⟨rb, 0, none⟩)), (7, .pointer (some ⟨ob, 0, none⟩)), (10, s.2), (33, v), (34, .int .i64 rs.length), (35, .int .i64 j), (39, r), (40, .int .i64 n), (41, .int .i64 s.1)])
   (fun s w' => s.1 ≤ n ∧ Ext wi w' ∧ OwnI wi.heap.size w' s.2 3 (Ml.posL (L.getD j []) s.1)) (fun s => n - s.1) (0, .slice none 0 0) ⟨rfl, rfl, rfl, rfl, rfl, rfl, rfl, rfl, rfl, trivial⟩ ⟨by omega, Ext.refl _, OwnI.nil _ _ _⟩ ?_
  rintro ⟨i, lv⟩ wk ⟨i1, hEk, ho⟩
  dsimp only at i1 hEk ho
  have hrk := hrr.ext hEk
  have holt := Own.lt ho
  have hpl := Ml.posL_length (l := L.getD j []) (n := i)
  try dsimp only
  refine Qc (Qb [0] rfl (Qy rfl rfl rfl (Qd (Qa (Qc (Qo rfl ?_ ?_))))))
  ·intro hk
   simp at hk
   refine Qe (Qa (Qc (Qf (Qc (Qb [0,1,2,3,4] rfl (mvV rfl rfl (Vw rfl (QO rfl rfl QA hrk (by omega) (by omega)) (Vw rfl (ldI rfl na3 hrk (Ext.refl _) (by omega) (by omega)) (Qk rfl rfl (Qk rfl rfl (Qd (Qa (Qc (Qb [0,1] rfl (mvV rfl rfl ?_)))))))))))))))
   refine QG rfl rfl rfl (Qd (Qa (Qo rfl ?_ ?_)))
   ·intro h
    have h' : gi (L.getD j []) i ≠ 0 := by simpa using h
    refine Qb [0,1,2,3,4] rfl (mvV rfl rfl (mvV rfl rfl (BSI (zs := [(i : Int)]) rfl wu rfl rfl rfl rfl QA ?_)))
    intro tv wa hEa ht hti htb
    have hEka := hEk.trans hEa
    replace ho := OwnI.ext ho hEa
    refine API rfl wu rfl rfl rfl QA nofun ?_
    intro lv2 wb hgb hXb ho2 hib hvb
    refine Qk rfl rfl (Qd (Qg (Qa (Qb [0,1] rfl (Qw rfl rfl rfl (mvV rfl rfl (Qd ?_)))))))
    exact Qi (i + 1, lv2) ⟨rfl, rfl, rfl, rfl, rfl, rfl, rfl, rfl, rfl, trivial⟩ ⟨by dsimp only; omega, hXb wi (Nat.le_refl _) (hEk.trans hEa), by dsimp only; rw [Ml.posL_yes h']; exact ho2⟩ (by dsimp only; omega)
   ·intro h
    have h' : gi (L.getD j []) i = 0 := by simpa using h
    refine Qe (Qg (Qa (Qb [0,1] rfl (Qw rfl rfl rfl (mvV rfl rfl (Qd ?_))))))
    exact Qi (i + 1, lv) ⟨rfl, rfl, rfl, rfl, rfl, rfl, rfl, rfl, rfl, trivial⟩ ⟨by dsimp only; omega, hEk, by dsimp only; rw [Ml.posL_no h']; exact ho⟩ (by dsimp only; omega)
  ·intro hk
   simp at hk
   have ein : i = n := by omega
   rw [ein] at ho
   have hb9 := hom.bk
   have hom := hom.ext hEk
   have hOk := hOi.ext hEk
   have hzk := hEk.size
   refine Qt (Ql (Qm (Qh (Qa (Qb [0,1,2,3,4,5,6] rfl (Qz rfl rfl QbG (Vw rfl (ldB rfl Zm hOk) (mvV rfl rfl (BS (us := [lv]) rfl wu rfl rfl rfl rfl QN (by have := (OwnI.ints ho).one; intro u hu; rw [List.mem_singleton.1 hu]; exact this) ?_)))))))))
   intro tv wb hEb htv htb
   have hzb := hEb.size
   replace hom := hom.ext hEb
   have hOk := hOk.ext hEb
   refine APOM (w1 := wi) rfl wu rfl rfl rfl QN nofun hom htv.sl (OwnI.ext ho hEb) (fun k hk => (hb9 k hk).2) (Nat.le_refl _) (by omega) (by omega) (by omega) ?_
   intro ov2 wc hgc homc hvbc2
   replace hgc : wb.grownBy wc ov.ownBlock := hgc
   refine Qz rfl rfl QbG ?_
   have hOc : Blk wc ob 58 #[.int .i64 n, ov] := hOk.grown hgc (fun e => by have := (hb9 ob (QQ.2 (.inl e))).1; omega)
   have h21 := homc.own.sl.one
   refine STB (k := 1) (n := 1) (vs := [ov2]) (cs := [.int .i64 n, ov]) (cs' := [.int .i64 n, ov2]) rfl wu rfl rfl (QB h21) sv25 nofun hOc (by intro v hv; simp only [List.mem_cons, List.not_mem_nil, or_false] at hv; rcases hv with rfl; exact h21) rfl rfl rfl ?_
   intro we hge hXe hOe
   refine Qd (Qg (Qa (Qb [0,1] rfl (Qw rfl rfl rfl (mvV rfl rfl (Qd (Qi (j + 1, ov2, rws ++ [lv]) ⟨rfl, rfl, rfl, rfl, rfl, trivial⟩ ⟨by dsimp only; omega, hXe w4 hob (((hEi.trans hEk).trans hEb).grown hgc hom.own hE8.size), by have := hgc.size; have := hge.size; omega, hOe, ?_⟩ (by dsimp only; omega))))))))
   dsimp only
   rw [Ml.take_step (d := []) (by omega), List.map_append]
   exact homc.gr (X := [ob]) (Gr.of_grown hge (fun j e => by simp [Option.some.inj e])) (fun k hk e => by have := (homc.bk k hk).1; have := List.mem_singleton.1 e; omega)
 ·intro hc
  simp at hc
  obtain rfl : j = L.length := by omega
  rw [List.take_length] at hom
  have ho1 := hom.own.sl.one
  have hz68 := hE8.size
  refine Qt (Ql (Qm (Qh (Qa (Qc (Qb [0,1,2] rfl (Vw rfl (ldA rfl ag58 hOi) (STB (vs := [.int .i64 n, ov]) (cs' := [.int .i64 n, ov]) rfl wu rfl rfl rfl sv58 nofun (hC.ext hEi) oc2 rfl rfl rfl ?_))))))))
  intro wz hgz hXz hCz
  refine Qk rfl rfl (Qd (Qa (Qq ?_)))
  have hGz : Gr [rb] wi wz := Gr.of_grown hgz (fun k hk => by simp [Option.some.inj hk])
  refine QJ rfl rfl rfl ag58 hCz rfl ?_
  exact ⟨hXz w (by omega) hEwi, ov, rfl, (hom.llb.gr hGz (fun k hk => by rw [List.mem_singleton.1 hk]; omega)).mono (by omega)⟩
end Go.Proofs.YtcfbigmjjpknfaaGreatDoor
namespace Go.Proofs.YtcfbigmjjpknfaaGreatDoor
open Go Go.Sx Go.Pl Go.RowKit Go.Fd Go.Alg
theorem infoGp : Tryz.prog.info? 61 = some Tryz.t61 := by kernel_rfl
theorem zvGp : ZV Tryz.prog 61 [.pointer none] := fun w => ⟨_, by simp [zeroValue, typeInfo, infoGp]; rfl, rfl⟩
theorem infoBs : Tryz.prog.info? 68 = some Tryz.t68 := by kernel_rfl
theorem zvBs : ZV Tryz.prog 68 [.slice none 0 0] := fun w => ⟨_, by simp [zeroValue, typeInfo, infoBs]; rfl, rfl⟩
theorem ob_sym {u v : Value} (h : u.ownBlock ≠ v.ownBlock ∨ u.ownBlock = none) : v.ownBlock ≠ u.ownBlock ∨ v.ownBlock = none := by
 rcases h with h | h
 ·exact .inl (Ne.symm h)
 ·rw [h]
  cases v.ownBlock with
  | none => exact .inr rfl
  | some k => exact .inl (by simp)
theorem plNot (P : FP) (g : Value) (gb : Nat) (x : Int) (w : World) (hB : Blk w gb 61 #[g]) (hG : GFV w P g) :
  Calls Tryz.prog 24 #[.int .i64 x, .pointer (some ⟨gb, 0, none⟩)] w (RetX w fun r _ => r = .bool (!(decide (0 ≤ x) && decide (x < P.q)))) := by
 refine QD Tryz.func24 rfl rfl (Qc (Qb [0] rfl (Qk rfl rfl (Qd (Qa (Qc (Qb [0,1,2,3,4] rfl (Vw rfl (ldB rfl KZ hB) (mvV rfl rfl (C rfl wu rfl rfl Tryz.call25 (gIs P g x _ hG) ?_))))))))))
 rintro _ w2 hE rfl
 refine ZC rfl rfl (Qk rfl rfl (Qd (Qa (Qq (Qj rfl rfl ?_)))))
 exact ⟨hE, rfl⟩
set_option maxRecDepth 10000 in
theorem plOther (bv : Value) (n : Nat) (b : Nat → Bool) (ib nb : Nat) (i x : Int) (w : World) (hI : Blk w ib 3 #[.int .i64 i]) (hN : Blk w nb 68 #[bv]) (hb : Sl w bv (Ml.boolV n b)) (hx : 0 ≤ x ∧ x < (n : Int)) :
  Calls Tryz.prog 31 #[.int .i64 x, .pointer (some ⟨ib, 0, none⟩), .pointer (some ⟨nb, 0, none⟩)] w (RetX w fun r _ => r = .bool (decide (x ≠ i) && b x.toNat)) := by
 have hbl := Ml.boolV_length (n := n) (b := b)
 refine QS Tryz.func31 rfl rfl (Qc (Qb [0] rfl (Qk rfl rfl (Qd (Qa (Qc ?_))))))
 by_cases h : x = i
 ·skip
  refine Qb [0,1,2,3,4,5,6,7,8,9] rfl (mvV rfl rfl (Vw rfl (ldB rfl na3 hI) (QG rfl rfl rfl (mvV rfl rfl (KB 8 false rfl (decide_eq_false (fun hn => hn h)) (SK rfl rfl rfl rfl rfl (SK rfl rfl rfl rfl rfl (SK rfl rfl rfl rfl rfl (SK rfl rfl rfl rfl rfl ?_)))))))))
  refine pkV rfl rfl rfl (Qk rfl rfl (Qd (Qa (Qq (Qj rfl rfl ?_)))))
  exact ⟨Ext.refl _, by rw [decide_eq_false (fun hn => hn h)]; rfl⟩
 ·skip
  refine Qb [0,1,2,3,4,5,6,7,8,9] rfl (mvV rfl rfl (Vw rfl (ldB rfl na3 hI) (QG rfl rfl rfl (mvV rfl rfl (KB 8 true rfl (decide_eq_true h) (Vg rfl rfl rfl (ldB rfl na68 hN) (Vg rfl rfl rfl (mv rfl) (Vg rfl rfl rfl (iad rfl rfl QaE hb (by omega) (by omega)) (Vg rfl rfl rfl (ldE rfl na4 hb (Ml.boolV_get (k := x.toNat) (by omega)) (Ext.refl _)) ?_)))))))))
  refine pkV rfl rfl rfl (Qk rfl rfl (Qd (Qa (Qq (Qj rfl rfl ?_)))))
  exact ⟨Ext.refl _, by rw [decide_eq_true h]; rfl⟩
set_option maxRecDepth 10000 in
theorem plOpen (bv : Value) (n : Nat) (b : Nat → Bool) (nb : Nat) (x : Int) (w : World) (hN : Blk w nb 68 #[bv]) (hb : Sl w bv (Ml.boolV n b)) (hx : 0 ≤ x ∧ x < (n : Int)) :
  Calls Tryz.prog 35 #[.int .i64 x, .pointer (some ⟨nb, 0, none⟩)] w (RetX w fun r _ => r = .bool (b x.toNat)) := by
 have hbl := Ml.boolV_length (n := n) (b := b)
 refine QD Tryz.func35 rfl rfl (Qc (Qb [0] rfl (Qk rfl rfl (Qd (Qa (Qc (Qb [0,1,2,3,4] rfl (Vw rfl (ldB rfl na68 hN) (mvV rfl rfl (Vw rfl (iad rfl rfl QaE hb (by omega) (by omega)) (Vw rfl (ldE rfl na4 hb (Ml.boolV_get (k := x.toNat) (by omega)) (Ext.refl _)) ?_)))))))))))
 refine Qk rfl rfl (Qd (Qa (Qq (Qj rfl rfl ?_))))
 exact ⟨Ext.refl _, rfl⟩
theorem QaN {H : List (List Int)} {n j : Nat} (hj : j < H.length) : (H.map fun l => Ml.posL l n).getD j [] = Ml.posL (Ml.rw H j) n := by
 simp [Ml.rw, List.getD_eq_getElem?_getD, hj]
theorem pos_ne {P : FP} {H : List (List Int)} {n : Nat} (hM : MV P n H) {j k : Nat} (hj : j < H.length) (hk : k < n) : kM P H j k ≠ 0 ↔ (k : Int) ∈ Ml.posL (Ml.rw H j) n := by
 have e : Ml.rw H j = H[j] := by simp [Ml.rw, List.getD_eq_getElem?_getD, hj]
 have hl : H[j].length = n := by have := hM.row _ (List.getElem_mem hj); omega
 have hr := InR.get (P := P) (v := H[j]) (hM.el _ (List.getElem_mem hj)) (k := (k : Int)) (by omega) (by omega)
 rw [kM, e]
 constructor
 ·intro h
  exact Ml.posL_mem.2 ⟨k, hk, fun h0 => h (by rw [h0, inK0]), rfl⟩
 ·intro h
  obtain ⟨k', _, h0, e'⟩ := Ml.posL_mem.1 h
  obtain rfl : k' = k := by omega
  exact inK_ne hr h0
theorem pos_lo {H : List (List Int)} {n : Nat} : ∀ l ∈ H.map fun l => Ml.posL l n, ∀ x ∈ l, 0 ≤ x ∧ x < (n : Int) := fun l hl x hx => by
 obtain ⟨r, _, rfl⟩ := List.mem_map.1 hl
 obtain ⟨k, hk, _, rfl⟩ := Ml.posL_mem.1 hx
 omega
set_option maxRecDepth 20000 in
theorem plPeel (P : FP) (p M : Int) (mo hv uv sv : Value) (md : List Int) (n : Nat) (H : List (List Int)) (y S : List Int) (wv : Nat → K P) (w : World) (ok : OkF p M md) (hPe : fpOf p M md ok.1.1 ok.1.2.1 = P) (hmd : Ints w mo md) (hH : LL w hv H) (hM : MV P n H) (h1 : 1 ≤ n) (h2 : n ≤ 64) (hy : Ints w uv y) (hyl : y.length = n)
  (hyin : InR P y) (hS : Ints w sv S) (ha : AscIn n S) (hgen : ∃ g : K P, HasOrder g (n1 P)) (hw : Oth P H n wv) (hyw : ∀ i : Nat, i < n → (i : Int) ∉ S → inK P (gi y i) = wv i) :
  Calls Tryz.prog 9 #[fv0 p M mo, .agg #[.int .i64 n, hv], uv, sv] w (RetX w fun r w' => ∃ ov rv o rest, r = .tuple #[ov, rv, .int .i64 0] ∧ Ints w' ov o ∧ Ints w' rv rest ∧
   (rest.length = 0 → o = rowL P n wv ∧ ∀ v : Nat → K P, Oth P H n v → (∀ j, j < n → (j : Int) ∉ S → v j = 0) → ∀ i, i < n → v i = 0)) := by
 have hv1 := hH.one
 have hvc := QB hv1
 have hSle := hS.le
 have hRl : Ml.RL n H := fun l hl => by have := hM.row l hl; omega
 obtain ⟨hrs, hhs, hhl, hhrow⟩ := hH.row
 have hCl : (H.map fun l => Ml.posL l n).length = H.length := List.length_map _
 have hHlen := hM.len
 refine JW Tryz.func9 rfl rfl (Qc (Qb [0,1,2,3,4] rfl (BXA rfl wu rfl rfl ?_)))
 intro fb w1 hE1 hF hfb
 refine BXA rfl wu rfl rfl ?_
 intro mb w2 hE2 hB hmb
 replace hF := hF.ext hE2
 refine Qk rfl rfl (Qk rfl rfl (Qk rfl rfl (Qd (Qa (Qc ?_)))))
 have hE := hE1.trans hE2
 refine Qb [0,1,2,3,4,5,6,7,8] rfl (Vw rfl (ldA rfl Zf hF) (Vw rfl (ldA rfl ZP hB) (C rfl wu rfl rfl Tryz.call21 (plGraph p M mo hv md n H _ ok (hmd.ext hE) (hH.ext hE) (by rw [hPe]; exact hM) h1 h2) ?_)))
 rintro _ w4 hE4 ⟨tv, rfl, hTL⟩
 refine mvV rfl rfl (QI rfl rfl rfl (QI rfl rfl rfl ?_))
 have ht1 := hTL.one
 refine AL rfl wu rfl zv58 ?_
 intro tb w5 hE5 hT0 htb
 refine STB (vs := [.int .i64 n, tv]) (cs' := [.int .i64 n, tv]) rfl wu rfl rfl rfl sv58 nofun (by assumption) (by first | exact oc2 | exact oc3 | exact oc5 | (simp [Value.oneCell']; done)) rfl rfl rfl ?_
 intro w6 hg6 hX6 hT
 refine Qk rfl rfl (Qd (Qa (Qc (Qc ?_))))
 have hE46 := hE4.trans (hX6 w4 htb hE5)
 replace hTL := hTL.ll.ext (hX6 w4 htb hE5)
 replace hF := hF.ext hE46
 replace hB := hB.ext hE46
 replace hE := hE.trans hE46
 clear hT0 hE5 hg6 hX6 hE46 hE4
 refine Qb [0,1] rfl (mvV rfl rfl (QG rfl rfl rfl (Qd (Qa (Qn rfl (rfl) (Qe (Qa (Qc (Qb [0,1,2,3,4,5,6,7] rfl (Vw rfl (ldA rfl Zf hF) (C rfl wu rfl rfl Tryz.call22 (fNew p M mo md _ (hmd.ext hE)) ?_)))))))))))
 rintro r0 w8 hE8 hr0
 obtain ⟨g, rfl, hG⟩ := Qb3 ok hr0
 rw [hPe] at hG
 have hg1 := hG.one
 refine mvV rfl rfl (QI rfl rfl rfl (QI rfl rfl rfl (AL rfl wu rfl zvGp ?_)))
 intro gb w9 hE9 hG0 hgb
 refine STV rfl wu rfl rfl sv61 nofun (hG0) (hg1) ?_
 intro w10 hg10 hX10 hGB
 refine Qk rfl rfl (Qd (Qa (Qc (Qf (Qc ?_)))))
 have hE80 := hE8.trans (hX10 w8 hgb hE9)
 replace hG := hG.ext (hX10 w8 hgb hE9)
 replace hB := hB.ext hE80
 replace hT := hT.ext hE80
 replace hTL := hTL.ext hE80
 replace hE := hE.trans hE80
 clear hG0 hE9 hg10 hX10 hE80 hE8 hr0
 refine Qb [0,1,2] rfl (mvV rfl rfl (QG rfl rfl rfl (Qk rfl rfl (Qd (Qa (Qn rfl (rfl) (Qc ?_)))))))
 have hyi := hy.ext hE
 refine Qb [0,1,2,3,4,5] rfl (mvV rfl rfl (Vw rfl (Zh rfl QA hyi) (Qz rfl rfl QV (Vw rfl (ldB rfl na3 hB) (QG rfl rfl rfl (Qk rfl rfl (Qd (Qa (Qn rfl (decide_eq_false (by omega)) (Qc ?_))))))))))
 have hany : (y.any fun x => !(decide (0 ≤ x) && decide (x < P.q))) = false := by
  rw [List.any_eq_false]
  intro x hx
  have := hyin x hx
  simp [this.1, this.2]
 refine Qb [0,1,2,3] rfl (mvV rfl rfl (Vw rfl (mkf rfl rfl) (C rfl wu rfl rfl Tryz.call23 (ZI 24 [.pointer (some ⟨gb, 0, none⟩)] (fun x => !(decide (0 ≤ x) && decide (x < P.q))) Tryz.call24 uv y _ hyi (fun x _ w' hX => plNot P g gb x w' (hGB.ext hX) (hG.ext hX))) ?_)))
 rintro _ w11 hE11 rfl
 refine Qk rfl rfl (Qd (Qa (Qn rfl (hany) (Qc ?_))))
 replace hE := hE.trans hE11
 replace hG := hG.ext hE11
 replace hB := hB.ext hE11
 replace hT := hT.ext hE11
 replace hTL := hTL.ext hE11
 replace hGB := hGB.ext hE11
 clear hE11 hyi hany
 refine Qb [0,1,2,3,4,5] rfl (mvV rfl rfl (Qz rfl rfl QV (Vw rfl (ldB rfl na3 hB) (C rfl wu rfl rfl Tryz.call26 (plSet sv S n _ (hS.ext hE) ha) ?_))))
 rintro _ w12 hE12 rfl
 refine ZC rfl rfl (Qk rfl rfl (Qd (Qa (Qn rfl (rfl) (Qe (Qg (Qa (Qc ?_))))))))
 replace hE := hE.trans hE12
 replace hG := hG.ext hE12
 replace hB := hB.ext hE12
 replace hT := hT.ext hE12
 replace hTL := hTL.ext hE12
 replace hGB := hGB.ext hE12
 clear hE12
 refine Qb [0,1,2] rfl (mvV rfl rfl (C rfl wu rfl rfl Tryz.call27 (Qby uv y _ (hy.ext hE) (by omega)) ?_))
 intro ov w13 hE13 ho
 refine Qk rfl rfl (Qd (Qa (Qc (Qb [0,1,2,3,4] rfl (Vw rfl (ldA rfl ag58 (hT.ext hE13)) (mvV rfl rfl (C rfl wu rfl rfl Tryz.call28 (plMask tv sv S n _ ht1 (hS.ext (hE.trans hE13)) ha.lo (by omega)) ?_)))))))
 intro bmv w14 hE14 hm
 have hm1 : bmv.oneCell' = true := Sl.one hm.sl
 refine AL rfl wu rfl zvBs ?_
 intro nb w15 hE15 hN0 hnb
 refine STV rfl wu rfl rfl sv68 nofun (hN0) (hm1) ?_
 intro w16 hg16 hX16 hN
 refine Qd (Qa (Qc (Qc ?_)))
 have hX146 := hX16 w14 hnb hE15
 have hz13 := hE13.size
 have hz14 := hE14.size
 have holt := Own.lt ho
 have hmlt := Own.lt hm
 have hX126 := (hE13.trans hE14).trans hX146
 have hm := hm.ext hX146
 have ho := OwnI.ext (OwnI.ext ho hE14) hX146
 have hovm : ov.ownBlock ≠ bmv.ownBlock ∨ ov.ownBlock = none := by
  cases hob : ov.ownBlock with
  | none => exact .inr rfl
  | some k => exact .inl fun e => by have := (holt k hob).2; have := (hmlt k e.symm).1; omega
 have hovb : ∀ k, ov.ownBlock = some k → w12.heap.size ≤ k ∧ k < nb := fun k hk => by have := holt k hk; omega
 have hmvb : ∀ k, bmv.ownBlock = some k → w12.heap.size ≤ k ∧ k < nb := fun k hk => by have := hmlt k hk; omega
 replace hm := hm.mono (B' := w12.heap.size) hz13
 have hnb12 : w12.heap.size ≤ nb := by omega
 clear hN0 hE15 hg16 hX16 hX146 holt hmlt hE13 hE14 hz13 hz14
 refine Qb [0,1,2] rfl (mvV rfl rfl (Vw rfl (Zh rfl QA (hS.ext (hE.trans hX126))) (mvV rfl rfl (Qd (Qa (Qf ?_))))))
 rw [← Ml.zerL_zero (y := y) (S := S)] at ho
 refine Qv (fun k : Nat => [(5, .pointer (some ⟨mb, 0, none⟩)), (11, .pointer (some ⟨tb, 0, none⟩)), (13, .pointer (some ⟨gb, 0, none⟩)), (14, ov), (15, .pointer (some ⟨nb, 0, none⟩)), (64, sv), (65, .int .i64 S.length), (66, .int .i64 k)])
  (fun k w' => k ≤ S.length ∧ Ext w12 w' ∧ OwnI w12.heap.size w' ov 3 (Ml.zerL y S k) ∧ Sx.Own w12.heap.size w' bmv 4 (Ml.boolV n (Ml.inB S S.length)) ∧ Blk w' nb 68 #[bmv]) (fun k => S.length - k) 0 ⟨rfl, rfl, rfl, rfl, rfl, rfl, rfl, rfl, trivial⟩ ⟨by omega, hX126, ho, hm, hN⟩ ?_
 clear ho hm hN hX126
 rintro k w17 ⟨k1, hX, ho, hm, hN⟩
 have hSi := hS.ext (hE.trans hX)
 try dsimp only
 refine Qc (Qb [0] rfl (Qy rfl rfl rfl (Qd (Qa (Qc (Qo rfl ?_ ?_))))))
 ·intro hc
  simp at hc
  have hb := ha.lo (gi S k) (by rw [Jw hc]; exact List.getElem_mem _)
  have hzl := Ml.zerL_length (y := y) (S := S) (i := k)
  refine Qe (Qa (Qc (Qf (Qc (Qb [0,1,2] rfl (Vw rfl (QO rfl rfl QA hSi (by omega) (by omega)) (Vw rfl (ldI rfl na3 hSi (Ext.refl _) (by omega) (by omega)) (Qk rfl rfl (Qd (Qa (Qb [0,1,2,3] rfl (mvV rfl rfl (mvV rfl rfl (Vw rfl (QO rfl rfl QA (OwnI.ints ho) (by omega) (by omega)) ?_))))))))))))))
  refine STI rfl wu rfl rfl sz3 nofun ?_
  intro w18 hg18 hX18 ho18 hi18
  refine Qd (Qg (Qa (Qb [0,1] rfl (Qw rfl rfl rfl (mvV rfl rfl (Qd ?_))))))
  rw [Ml.zerL_set hc hb.1] at ho18
  have hm18 := Own.kept hm hg18 (ob_sym hovm)
  exact Qi (k + 1) ⟨rfl, rfl, rfl, rfl, rfl, rfl, rfl, rfl, trivial⟩ ⟨by omega, hX18 w12 (Nat.le_refl _) hX, ho18, hm18, hN.grown hg18 (fun e => by have := hovb nb e; omega)⟩ (by omega)
 ·intro hc
  simp at hc
  obtain rfl : k = S.length := by omega
  have hP0 : Peels P n H S wv (Ml.inB S S.length) (Ml.zerL y S S.length) := Peels.start (by rw [Ml.zerL_length, hyl]) (InR.tab fun j hj => by
    split
    ·have := P.q_two; omega
    ·exact InR.get hyin (by omega) (by omega)) (fun i _ => Ml.inB_mem) (fun i hi hn => by rw [Ml.zerL_get (by omega), if_neg hn]; exact hyw i hi hn) (fun i hi hin => by rw [Ml.zerL_get (by omega), if_pos hin])
  generalize Ml.inB S S.length = b0 at *
  generalize Ml.zerL y S S.length = o0 at *
  clear hc k1 hyw hyin hyl hy
  refine Qt (Ql (Qm (Qh (Qa (Qc (Qc (Qb [0,1,2,3,4] rfl (Vw rfl (ldA rfl ag58 (hT.ext hX)) (Vw rfl (ldB rfl na68 hN) (C rfl wu rfl rfl Tryz.call29 (plAlone tv bmv (H.map fun l => Ml.posL l n) n b0 _ (hTL.ext hX) hm.sl pos_lo) ?_))))))))))
  rintro _ w18 hE18 ⟨z0, rfl, hz0⟩
  refine AL rfl wu rfl zvI9 ?_
  intro ib0 w19 hE19 hI0 hib0
  refine STV rfl wu rfl rfl sv3 nofun (hI0) (rfl) ?_
  intro w20 hg20 hX20 hI
  refine Qd (Qa (Qf ?_))
  have hX189 := hE18.trans (hX20 w18 hib0 hE19)
  have hzA := hE18.size
  have hNlt := hN.lt
  have hib : nb < ib0 := by omega
  replace hX := hX.trans hX189
  replace ho := OwnI.ext ho hX189
  replace hm := hm.ext hX189
  replace hN := hN.ext hX189
  clear hI0 hE19 hg20 hX20 hX189 hE18 hzA hib0 hNlt hSi
  refine Qv (fun s : Nat × Int × (Nat → Bool) × List Int => [(5, .pointer (some ⟨mb, 0, none⟩)), (11, .pointer (some ⟨tb, 0, none⟩)), (13, .pointer (some ⟨gb, 0, none⟩)), (14, ov), (15, .pointer (some ⟨nb, 0, none⟩)), (18, .pointer (some ⟨s.1, 0, none⟩))])
   (fun s w' => Ext w12 w' ∧ OwnI w12.heap.size w' ov 3 s.2.2.2 ∧ Sx.Own w12.heap.size w' bmv 4 (Ml.boolV n s.2.2.1) ∧ Blk w' nb 68 #[bmv] ∧ Blk w' s.1 3 #[.int .i64 s.2.1] ∧ nb < s.1 ∧ Peels P n H S wv s.2.2.1 s.2.2.2 ∧ (s.2.1 < 0 ∨ ∃ i : Nat, s.2.1 = i ∧ i < n ∧ Alone s.2.2.1 (H.map fun l => Ml.posL l n) i)) (fun s => (Ml.leftL s.2.2.1 n).length) (ib0, z0, b0, o0)
   ⟨rfl, rfl, rfl, rfl, rfl, rfl, trivial⟩ ⟨hX, ho, hm, hN, hI, hib, hP0, hz0⟩ ?_
  clear hX ho hm hN hI hib hP0 hz0
  rintro ⟨ib, z, b, o⟩ wi ⟨hX, ho, hm, hN, hI, hib, hP, hz⟩
  dsimp only at hX ho hm hN hI hib hP hz
  have hol := hP.len
  have hbl := Ml.boolV_length (n := n) (b := b)
  try dsimp only
  refine Qc (Qc (Qb [0,1] rfl (Vw rfl (ldB rfl na3 hI) (Vw rfl (Xb rfl rfl) (Qd (Qa (Qo rfl ?_ ?_)))))))
  ·intro hc
   have hc := of_decide_eq_true hc
   obtain ⟨i, rfl, hin, hal⟩ : ∃ i : Nat, z = i ∧ i < n ∧ Alone b (H.map fun l => Ml.posL l n) i := hz.resolve_left (by omega)
   obtain ⟨hbi, j0, hj0, hmem0, hall0⟩ := hal
   rw [hCl] at hj0
   obtain ⟨trs, hts, htl, htrow⟩ := (hTL.ext hX).row
   rw [hCl] at htl
   refine Qe (Qa (Qc (Qf (Qc (Qc (Qb [0,1,2,3] rfl (Qz rfl rfl QbG (Vw rfl (ldB rfl Zm (hT.ext hX)) (Vw rfl (Zt rfl QN hts) (mvV rfl rfl (Qd (Qa (Qf ?_)))))))))))))
   rw [htl]
   refine Qv (fun j : Nat => [(5, .pointer (some ⟨mb, 0, none⟩)), (11, .pointer (some ⟨tb, 0, none⟩)), (13, .pointer (some ⟨gb, 0, none⟩)), (14, ov), (15, .pointer (some ⟨nb, 0, none⟩)), (18, .pointer (some ⟨ib, 0, none⟩)), (83, tv), (84, .int .i64 H.length), (85, .int .i64 j)])
    (fun j w' => j ≤ j0 ∧ Ext wi w') (fun j => H.length - j) 0 ⟨rfl, rfl, rfl, rfl, rfl, rfl, rfl, rfl, rfl, trivial⟩ ⟨by omega, Ext.refl _⟩ ?_
   rintro j wj ⟨j1, hEj⟩
   try dsimp only
   refine Qc (Qb [0] rfl (Qy rfl rfl rfl (Qd (Qa (Qc (QC rfl (decide_eq_true (by omega)) (Qe (Qa (Qc (Qf (Qc ?_)))))))))))
   obtain ⟨r, hrj, hri⟩ := htrow j (by rw [hCl]; omega)
   rw [QaN (by omega)] at hri
   replace hri := hri.ext hEj
   refine Qb [0,1,2,3,4] rfl (mvV rfl rfl (Vw rfl (iad rfl rfl QN (hts.ext hEj) (by omega) (by omega)) (Vw rfl (ldE rfl Zk (hts.ext hEj) (by rw [Int.toNat_natCast]; exact hrj) (Ext.refl _)) (Qk rfl rfl (Qk rfl rfl (Qd (Qa (Qc ?_))))))))
   have hlo : ∀ x ∈ Ml.posL (Ml.rw H j) n, 0 ≤ x ∧ x < (n : Int) := fun x hx => by
    obtain ⟨k, hk, _, rfl⟩ := Ml.posL_mem.1 hx
    omega
   have hmj := hm.ext hEj
   have hNj := hN.ext hEj
   have hIj := hI.ext hEj
   by_cases hmem : (i : Int) ∈ Ml.posL (Ml.rw H j) n
   rotate_left
   ·skip
    have hjn : j ≠ j0 := fun e => hmem (by rw [e, ← QaN hj0]; exact hmem0)
    refine Qb [0,1,2,3,4,5,6,7,8] rfl (mvV rfl rfl (Vw rfl (ldB rfl na3 hIj) (C rfl wu rfl rfl Tryz.call30 (ZX r (Ml.posL (Ml.rw H j) n) i _ hri) ?_)))
    rintro _ wk hEk rfl
    refine mvV rfl rfl (KB 93 false rfl (decide_eq_false hmem) (SK rfl rfl rfl rfl rfl (SK rfl rfl rfl rfl rfl (SK rfl rfl rfl rfl rfl (SK rfl rfl rfl rfl rfl (pkV rfl rfl rfl (Qd (Qa (Qn rfl (rfl) (Qe (Qg (Qa ?_))))))))))))
    refine Qb [0,1] rfl (Qw rfl rfl rfl (mvV rfl rfl (Qd ?_)))
    exact Qi (j + 1) ⟨rfl, rfl, rfl, rfl, rfl, rfl, rfl, rfl, rfl, trivial⟩ ⟨by omega, hEj.trans hEk⟩ (by omega)
   refine Qb [0,1,2,3,4,5,6,7,8] rfl (mvV rfl rfl (Vw rfl (ldB rfl na3 hIj) (C rfl wu rfl rfl Tryz.call30 (ZX r (Ml.posL (Ml.rw H j) n) i _ hri) ?_)))
   rintro _ wk hEk rfl
   refine mvV rfl rfl (KB 93 true rfl (decide_eq_true hmem) (Vg rfl rfl rfl (mv rfl) (Vg rfl rfl rfl (mkf rfl rfl) (C rfl (wg rfl rfl) rfl rfl Tryz.call23 (ZI 31 [.pointer (some ⟨ib, 0, none⟩), .pointer (some ⟨nb, 0, none⟩)] (fun x => decide (x ≠ (i : Int)) && b x.toNat) Tryz.call31 r (Ml.posL (Ml.rw H j) n) _ (hri.ext hEk) (fun x hx w' hX => plOther bmv n b ib nb i x w' ((hIj.ext hEk).ext hX) ((hNj.ext hEk).ext hX) ((hmj.sl.ext hEk).ext hX) (hlo x hx))) ?_))))
   rintro _ wl hEl rfl
   refine Vg rfl rfl rfl (notB rfl) (pkV rfl rfl rfl (Qd (Qa (Qo rfl ?_ ?_))))
   rotate_left
   ·intro hno
    have hjn : j ≠ j0 := fun e => by
     have h3 : ((Ml.posL (Ml.rw H j) n).any fun x => decide (x ≠ (i : Int)) && b x.toNat) = true := by simpa using hno
     obtain ⟨x, hx, hx2⟩ := List.any_eq_true.1 h3
     rw [Bool.and_eq_true] at hx2
     have h4 := hall0 x (by rw [QaN hj0, ← e]; exact hx) hx2.2
     exact of_decide_eq_true hx2.1 h4
    refine Qe (Qg (Qa (Qb [0,1] rfl (Qw rfl rfl rfl (mvV rfl rfl (Qd ?_))))))
    exact Qi (j + 1) ⟨rfl, rfl, rfl, rfl, rfl, rfl, rfl, rfl, rfl, trivial⟩ ⟨by omega, (hEj.trans hEk).trans hEl⟩ (by omega)
   intro hyes
   have hanyF : ((Ml.posL (Ml.rw H j) n).any fun x => decide (x ≠ (i : Int)) && b x.toNat) = false := by simpa using hyes
   have hjH : j < H.length := by omega
   have hnz := (pos_ne hM hjH hin).2 hmem
   have hst := hP.step hgen hw hjH hin hbi hnz (fun k hk hne hkz => by
    have hx := List.any_eq_false.1 hanyF k ((pos_ne hM hjH hk).1 hkz)
    have hki : ¬ ((k : Int) = i) := fun e => hne (by omega)
    simpa [hki] using hx)
   have hEl := (hEj.trans hEk).trans hEl
   clear hEk hEj hmj hNj hIj hri hyes hanyF
   obtain ⟨hr, hhj, hhr⟩ := hhrow j hjH
   have hrln : (Ml.rw H j).length = n := hRl.get hjH
   have hhr : Ints w hr (Ml.rw H j) := hhr
   have hIl := hI.ext hEl
   have hBl := hB.ext (hX.trans hEl)
   have hGBl := hGB.ext (hX.trans hEl)
   have hGl := hG.ext (hX.trans hEl)
   have hhsl := hhs.ext (hE.trans (hX.trans hEl))
   have hhrl := hhr.ext (hE.trans (hX.trans hEl))
   have hol' := OwnI.ext ho hEl
   have hNl := hN.ext hEl
   have hml := hm.ext hEl
   have hXl := hX.trans hEl
   clear hEl
   refine Qc (Qx QK [0,1,2,3,4,5,6,7,9,10,11,12,13,14,15,16,8,17,18,19,20,21,22] (by kernel_rfl) ?_)
   intro wd hd _
   replace hIl := hIl.ext hd
   replace hBl := hBl.ext hd
   replace hGBl := hGBl.ext hd
   replace hGl := hGl.ext hd
   replace hhsl := hhsl.ext hd
   replace hhrl := hhrl.ext hd
   replace hNl := hNl.ext hd
   replace hml := hml.ext hd
   replace hXl := hXl.trans hd
   replace hol' := hol'.ext hd
   refine Vw rfl (ldB rfl KZ hGBl) (Vw rfl (ldB rfl KZ hGBl) (Qz rfl rfl QR (Vw rfl (ldB rfl Zm hBl) (mvV rfl rfl (Vw rfl (iad rfl rfl QN hhsl (by omega) (by omega)) (Vw rfl (ldE rfl Zk hhsl (by rw [Int.toNat_natCast]; exact hhj) (Ext.refl _)) (mvV rfl rfl (Qz rfl rfl QR (Vw rfl (ldB rfl Zm hBl) ?_)))))))))
   refine mvV rfl rfl (Vw rfl (iad rfl rfl QN hhsl (by omega) (by omega)) (Vw rfl (ldE rfl Zk hhsl (by rw [Int.toNat_natCast]; exact hhj) (Ext.refl _)) (Vw rfl (ldB rfl na3 hIl) (Vw rfl (QO rfl rfl QA hhrl (by omega) (by omega)) (Vw rfl (ldI rfl na3 hhrl (Ext.refl _) (by omega) (by omega)) (C rfl wu rfl rfl Tryz.call33 (gDot P g hr ov (Ml.rw H j) o n _ hGl hhrl (OwnI.ints hol') hrln hol) ?_))))))
   rintro _ wa hEa rfl
   refine C rfl wu rfl rfl Tryz.call32 (gDiv P g _ _ _ (hGl.ext hEa) hnz) ?_
   rintro _ wb hEb rfl
   rw [Zi]
   refine mvV rfl rfl (QI rfl rfl rfl (QI rfl rfl rfl (Qk rfl rfl (Qk rfl rfl (Qd (Qa (Qc ?_)))))))
   have hEab := hEa.trans hEb
   replace hIl := hIl.ext hEab
   replace hBl := hBl.ext hEab
   replace hGBl := hGBl.ext hEab
   replace hGl := hGl.ext hEab
   replace hNl := hNl.ext hEab
   replace hml := hml.ext hEab
   replace hXl := hXl.trans hEab
   replace hol' := OwnI.ext hol' hEab
   clear hEab hEa hEb
   refine Qx QK [0,1,2,3,4,5,6] (by kernel_rfl) ?_
   intro we he _
   replace hIl := hIl.ext he
   replace hBl := hBl.ext he
   replace hGBl := hGBl.ext he
   replace hGl := hGl.ext he
   replace hNl := hNl.ext he
   replace hml := hml.ext he
   replace hXl := hXl.trans he
   replace hol' := hol'.ext he
   refine mvV rfl rfl (Vw rfl (ldB rfl na3 hIl) (Vw rfl (ldB rfl KZ hGBl) (mvV rfl rfl (C rfl wu rfl rfl Tryz.call34 (gNeg P g _ _ hGl) ?_))))
   rintro _ wf hEf rfl
   rw [Zi]
   replace hol' := OwnI.ext hol' hEf
   replace hIl := hIl.ext hEf
   replace hNl := hNl.ext hEf
   replace hml := hml.ext hEf
   replace hXl := hXl.trans hEf
   refine Vw rfl (QO rfl rfl QA (OwnI.ints hol') (by omega) (by omega)) (STI rfl wu rfl rfl sz3 (by intro h; kernel_rfl) ?_ (ho := hol') (h0 := by omega) (h1 := by omega))
   intro wg hgg hXg hog hig
   refine Qd (Qa (Qt (ZB rfl (Ql (Qm (Qh (Qa ?_)))))))
   replace hXl := hXg w12 (Nat.le_refl _) hXl
   replace hIl := hIl.grown hgg (fun e => by have := hovb ib e; omega)
   replace hNl := hNl.grown hgg (fun e => by have := hovb nb e; omega)
   replace hml := Own.kept hml hgg (ob_sym hovm)
   refine Qb [0,1,2,3] rfl (Vw rfl (ldB rfl na68 hNl) (Vw rfl (ldB rfl na3 hIl) (Vw rfl (iad rfl rfl QaE hml.sl (by omega) (by omega)) (ST rfl wu rfl rfl sz4 rfl nofun ?_ hml (by omega) (by omega)))))
   intro wh hgh hmh
   rw [Int.toNat_natCast, Ml.boolV_off] at hmh
   refine Qd (Qg (Qa (Qc (Qc ?_))))
   replace hXl := hXl.grown hgh hml (Nat.le_refl _)
   have hog' := Own.kept hog hgh hovm
   replace hIl := hIl.grown hgh (fun e => by have := hmvb ib e; omega)
   replace hNl := hNl.grown hgh (fun e => by have := hmvb nb e; omega)
   refine Qb [0] rfl (Vw rfl (ldB rfl na3 hIl) (Qd (Qa (Qb [0,1] rfl (AL rfl wu rfl zvI9 ?_)))))
   intro ib2 wm hEm hJ0 hib2
   refine STV rfl wu rfl rfl sv3 nofun (hJ0) (rfl) ?_
   intro wn hgn hXn hJ
   refine Qd (Qa ?_)
   have hEn := hXn wh hib2 hEm
   have hlt2 := hNl.lt
   refine Qb [0,1,2,3] rfl (Vw rfl (ldA rfl ag58 ((hT.ext hXl).ext hEn)) (Vw rfl (ldB rfl na68 (hNl.ext hEn)) (C rfl wu rfl rfl Tryz.call29 (plAlone tv bmv (H.map fun l => Ml.posL l n) n (Ml.offB b i) _ ((hTL.ext hXl).ext hEn) (hmh.ext hEn).sl pos_lo) ?_)))
   rintro _ wo hEo ⟨z2, rfl, hz2⟩
   refine STV rfl wu rfl rfl sv3 nofun ((hJ.ext hEo)) (rfl) ?_
   intro wp hgp hXp hJ2
   refine Qd ?_
   have hEnp : Ext wh wp := hXp wh hib2 (hEn.trans hEo)
   refine Qi (ib2, z2, Ml.offB b i, si o (i : Int) (-(dotZ P (Ml.rw H j) o n * invK P (kM P H j i))).1) ⟨rfl, rfl, rfl, rfl, rfl, rfl, trivial⟩ ⟨hXl.trans hEnp, OwnI.ext hog' hEnp, hmh.ext hEnp, hNl.ext hEnp, hJ2, by dsimp only; omega, hst, hz2⟩ ?_
   have := Ml.leftL_off hbi n
   rw [if_pos hin] at this
   dsimp only
   omega
  ·intro hc
   clear hz hI hib hc
   obtain ⟨trs, hts, htl, htrow⟩ := (hTL.ext hX).row
   rw [hCl] at htl
   refine Qt (Ql (Qm (Qh (Qa (Qc (Qc (Qb [0,1,2,3] rfl (Qz rfl rfl QbG (Vw rfl (ldB rfl Zm (hT.ext hX)) (Vw rfl (Zt rfl QN hts) (mvV rfl rfl (Qd (Qa (Qf ?_))))))))))))))
   rw [htl]
   refine Qv (fun j : Nat => [(5, .pointer (some ⟨mb, 0, none⟩)), (13, .pointer (some ⟨gb, 0, none⟩)), (14, ov), (15, .pointer (some ⟨nb, 0, none⟩)), (132, tv), (133, .int .i64 H.length), (134, .int .i64 j)])
    (fun j w' => j ≤ H.length ∧ Ext wi w') (fun j => H.length - j) 0 ⟨rfl, rfl, rfl, rfl, rfl, rfl, rfl, trivial⟩ ⟨by omega, Ext.refl _⟩ ?_
   rintro j wj ⟨j1, hEj⟩
   try dsimp only
   refine Qc (Qb [0] rfl (Qy rfl rfl rfl (Qd (Qa (Qc (Qo rfl ?_ ?_))))))
   ·intro hjc
    simp at hjc
    obtain ⟨r, hrj, hri⟩ := htrow j (by rw [hCl]; omega)
    rw [QaN hjc] at hri
    replace hri := hri.ext hEj
    refine Qe (Qa (Qc (Qf (Qc (Qb [0,1,2,3,4] rfl (mvV rfl rfl (Vw rfl (iad rfl rfl QN (hts.ext hEj) (by omega) (by omega)) (Vw rfl (ldE rfl Zk (hts.ext hEj) (by rw [Int.toNat_natCast]; exact hrj) (Ext.refl _)) (Qk rfl rfl (Qk rfl rfl (Qd (Qa (Qc ?_)))))))))))))
    have hlo : ∀ x ∈ Ml.posL (Ml.rw H j) n, 0 ≤ x ∧ x < (n : Int) := fun x hx => by
     obtain ⟨k, hk, _, rfl⟩ := Ml.posL_mem.1 hx
     omega
    obtain ⟨hr, hhj, hhr⟩ := hhrow j hjc
    have hrln : (Ml.rw H j).length = n := hRl.get hjc
    have hhr : Ints w hr (Ml.rw H j) := hhr
    have hBl := hB.ext (hX.trans hEj)
    have hGBl := hGB.ext (hX.trans hEj)
    have hGl := hG.ext (hX.trans hEj)
    have hhsl := hhs.ext (hE.trans (hX.trans hEj))
    have hhrl := hhr.ext (hE.trans (hX.trans hEj))
    have hol' := OwnI.ext ho hEj
    have hNl := hN.ext hEj
    have hml := hm.ext hEj
    by_cases hopen : ((Ml.posL (Ml.rw H j) n).any fun x => b x.toNat) = true
    ·skip
     refine Qx QK [0,1,2,3,4,5,6,7,8,9,10,11,12,13,14] (by kernel_rfl) ?_
     intro wd hd _
     replace hri := hri.ext hd
     replace hNl := hNl.ext hd
     replace hml := hml.ext hd
     replace hEj := hEj.trans hd
     refine mvV rfl rfl (Vw rfl (mkf rfl rfl) (C rfl wu rfl rfl Tryz.call23 (ZI 35 [.pointer (some ⟨nb, 0, none⟩)] (fun x => b x.toNat) Tryz.call35 r (Ml.posL (Ml.rw H j) n) _ hri (fun x hx w' hX => plOpen bmv n b nb x w' (hNl.ext hX) (hml.sl.ext hX) (hlo x hx))) ?_))
     rintro _ wa hEa rfl
     refine ZC rfl rfl (mvV rfl rfl (KB 143 false rfl (by rw [hopen]; rfl) (SK rfl rfl rfl rfl rfl (SK rfl rfl rfl rfl rfl (SK rfl rfl rfl rfl rfl (SK rfl rfl rfl rfl rfl (SK rfl rfl rfl rfl rfl (SK rfl rfl rfl rfl rfl (SK rfl rfl rfl rfl rfl ?_)))))))))
     refine SK rfl rfl rfl rfl rfl (SK rfl rfl rfl rfl rfl (pkV rfl rfl rfl (Qd (Qa (Qn rfl (rfl) (Qe (Qg (Qa (Qb [0,1] rfl (Qw rfl rfl rfl (mvV rfl rfl (Qd ?_))))))))))))
     exact Qi (j + 1) ⟨rfl, rfl, rfl, rfl, rfl, rfl, rfl, trivial⟩ ⟨by omega, hEj.trans hEa⟩ (by omega)
    ·have hopen : ((Ml.posL (Ml.rw H j) n).any fun x => b x.toNat) = false := by simpa using hopen
     have hfit := hP.fit hw hjc (fun k hk hkz => by
      have hx := List.any_eq_false.1 hopen k ((pos_ne hM hjc hk).1 hkz)
      simpa using hx)
     refine Qx QK [0,1,2,3,4,5,6,7,8,9,10,11,12,13,14] (by kernel_rfl) ?_
     intro wd hd _
     replace hri := hri.ext hd
     replace hNl := hNl.ext hd
     replace hml := hml.ext hd
     replace hEj := hEj.trans hd
     replace hBl := hBl.ext hd
     replace hGBl := hGBl.ext hd
     replace hGl := hGl.ext hd
     replace hhsl := hhsl.ext hd
     replace hhrl := hhrl.ext hd
     replace hol' := hol'.ext hd
     refine mvV rfl rfl (Vw rfl (mkf rfl rfl) (C rfl wu rfl rfl Tryz.call23 (ZI 35 [.pointer (some ⟨nb, 0, none⟩)] (fun x => b x.toNat) Tryz.call35 r (Ml.posL (Ml.rw H j) n) _ hri (fun x hx w' hX => plOpen bmv n b nb x w' (hNl.ext hX) (hml.sl.ext hX) (hlo x hx))) ?_))
     rintro _ wa hEa rfl
     replace hBl := hBl.ext hEa
     replace hGBl := hGBl.ext hEa
     replace hGl := hGl.ext hEa
     replace hhsl := hhsl.ext hEa
     replace hhrl := hhrl.ext hEa
     replace hol' := OwnI.ext hol' hEa
     refine ZC rfl rfl (mvV rfl rfl (KB 143 true rfl (by rw [hopen]; rfl) (Vg rfl rfl rfl (ldB rfl KZ hGBl) (Vg rfl rfl rfl (fad rfl QR) (Vg rfl rfl rfl (ldB rfl Zm hBl) (Vg rfl rfl rfl (mv rfl) (Vg rfl rfl rfl (iad rfl rfl QN hhsl (by omega) (by omega)) (Vg rfl rfl rfl (ldE rfl Zk hhsl (by rw [Int.toNat_natCast]; exact hhj) (Ext.refl _)) (Vg rfl rfl rfl (mv rfl) ?_)))))))))
     refine C rfl (wg rfl rfl) rfl rfl Tryz.call33 (gDot P g hr ov (Ml.rw H j) o n _ hGl hhrl (OwnI.ints hol') hrln hol) ?_
     rintro _ wb hEb rfl
     rw [hfit]
     refine Vg rfl rfl rfl (neqI rfl rfl) (pkV rfl rfl rfl (Qd (Qa (Qn rfl (rfl) (Qe (Qg (Qa (Qb [0,1] rfl (Qw rfl rfl rfl (mvV rfl rfl (Qd ?_)))))))))))
     exact Qi (j + 1) ⟨rfl, rfl, rfl, rfl, rfl, rfl, rfl, trivial⟩ ⟨by omega, (hEj.trans hEa).trans hEb⟩ (by omega)
   ·intro hjc
    refine Qt (Ql (Qm (Qh (Qa (Qc (Qb [0,1,2,3,4,5] rfl (mvV rfl rfl (Vw rfl (ldB rfl na68 (hN.ext hEj)) (C rfl wu rfl rfl Tryz.call36 (plLeft bmv n b _ (hm.sl.ext hEj) (by omega)) ?_)))))))))
    intro rv wa hEa hrv
    refine Qk rfl rfl (Qk rfl rfl (Qk rfl rfl (Qd (Qa (Qq (Qbr rfl rfl rfl rfl ?_))))))
    exact ⟨(hE.trans hX).trans (hEj.trans hEa), ov, rv, o, Ml.leftL b n, rfl, (OwnI.ints ho).ext (hEj.trans hEa), OwnI.ints hrv, fun h0 => hP.all h0⟩
end Go.Proofs.YtcfbigmjjpknfaaGreatDoor
