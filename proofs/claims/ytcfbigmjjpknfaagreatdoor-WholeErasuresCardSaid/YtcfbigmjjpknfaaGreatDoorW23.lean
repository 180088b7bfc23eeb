import Derived.Test.YtcfbigmjjpknfaaGreatDoorW22
import Derived.Maps.Range
import Derived.Test.YtcfbigmjjpknfaaGreatDoorW12
import Derived.Test.YtcfbigmjjpknfaaGreatDoorW05
namespace Go.Proofs.YtcfbigmjjpknfaaGreatDoor
open Go Go.Sx Go.Pl Go.RowKit Go.Lib
def GFK : ByteArray := ⟨#[103, 102]⟩
theorem inf137 : Tryz.prog.info? 137 = some Tryz.t137 := by kernel_rfl
theorem ms137 : MapST Tryz.prog 137 (.slice none 0 0) :=
 ⟨⟨9, 182, by kernel_rfl, by kernel_rfl, fun w => by simp [zeroValue, typeInfo, inf182]; rfl⟩⟩
theorem QbM (s : ByteArray) (m : Value) (w : World) (hm : m.oneCell' = true) : Calls Tryz.prog 119 #[.string s, m] w (RetX w fun r w' => ∃ b, r = .agg #[.string s, .func (.func 159) #[] #[.pointer (some ⟨b, 0, none⟩)], .nilFunc] ∧ Blk w' b 181 #[m]) := by
 refine QD Tryz.func119 rfl rfl (Qc (Qb [0,1] rfl (BXV rfl wu rfl rfl (by first | rfl | assumption) ?_)))
 intro b w1 hE1 hB hb
 refine AL rfl wu rfl XW ?_
 intro rb w2 hE2 hR hrb
 replace hB := hB.ext hE2
 refine Qd (Qa (Qc ?_))
 have hz1 := hE1.size
 refine Qb [0,1,2,3] rfl (mvV rfl rfl (Vw rfl (mkf rfl rfl) (Vw rfl (bld rfl (KQ _ _ _ rfl rfl rfl)) (STB (vs := [.string s, .func (.func 159) #[] #[.pointer (some ⟨b, 0, none⟩)], .nilFunc]) (cs' := [.string s, .func (.func 159) #[] #[.pointer (some ⟨b, 0, none⟩)], .nilFunc]) rfl wu rfl rfl rfl XY nofun (by assumption) (by first | exact oc2 | exact oc3 | exact oc5 | (simp [Value.oneCell']; done)) rfl rfl rfl ?_))))
 intro w3 hg3 hX3 hR3
 refine Qd (Qa (Qq (Zg rfl rfl KT hR3 rfl ?_)))
 exact ⟨hX3 w (by omega) (hE1.trans hE2), b, rfl, hB.grown hg3 (fun e => Blk.neT hB hR (by decide) (Option.some.inj e).symm)⟩
def allKs : List (List ByteArray) := [ksFamilies, ksAlgebraic, ksModified, ksCombined]
def later (i : Nat) : List ByteArray := (allKs.drop i).flatten
theorem XG {i : Nat} (h : i < 4) : later i = allKs.getD i [] ++ later (i + 1) := by
 match i, h with
 | 0, _ => rfl
 | 1, _ => rfl
 | 2, _ => rfl
 | 3, _ => rfl
set_option maxRecDepth 20000 in
theorem Qcb : (later 0).Nodup := by decide +kernel
theorem Qcc {i : Nat} (h : i < 4) {a b : ByteArray} (ha : a ∈ allKs.getD i []) (hb : b ∈ later (i + 1)) : a ≠ b := by
 have h1 : (later i).Nodup := by
  have : (later 0) = (allKs.take i).flatten ++ later i := by rw [later, later, ← List.flatten_append, List.take_append_drop, List.drop_zero]
  have h2 := Qcb
  rw [this] at h2
  exact (List.nodup_append.1 h2).2.1
 rw [XG h] at h1
 exact (List.nodup_append.1 h1).2.2 a ha b hb
set_option maxRecDepth 20000 in
theorem QcT : ∀ k ∈ later 0, GFK ≠ k := by decide +kernel
theorem ham_in : HAM ∈ later 0 := by
 have h : (later 0).any (fun k => decide (k = HAM)) = true := by decide +kernel
 obtain ⟨k, hk, e⟩ := List.any_eq_true.1 h
 rw [decide_eq_true_iff] at e
 rw [← e]
 exact hk
def GfRow (w : World) (r : List Value) : Prop := ∃ b, r = [.string ⟨#[78]⟩, .func (.func 159) #[] #[.pointer (some ⟨b, 0, none⟩)], .nilFunc] ∧
 Blk w b 181 #[.func (.func 120) #[] #[]]
theorem GfRow.ext {w w' : World} {r : List Value} (h : GfRow w r) (hE : Ext w w') : GfRow w' r := by
 obtain ⟨b, h1, h2⟩ := h
 exact ⟨b, h1, h2.ext hE⟩
structure TabOK (w : World) (tb : Nat) : Prop where
 ex : ∃ zs gv hv g1 g2 hr, MapS w tb zs ∧ sget zs GFK = some gv ∧ RowsV w gv 3 [g1, g2] ∧ GfRow w g1 ∧ (∃ s f, g2 = [.string s, f, .nilFunc] ∧ s.size = 3) ∧ sget zs HAM = some hv ∧ RowsV w hv 3 [hr] ∧ HamRow w (.agg hr.toArray)
theorem TabOK.ext {w w' : World} {tb : Nat} (h : TabOK w tb) (hE : Ext w w') : TabOK w' tb := by
 obtain ⟨zs, gv, hv, g1, g2, hr, h1, h2, h3, h4, h5, h6, h7, h8⟩ := h
 exact ⟨zs, gv, hv, g1, g2, hr, h1.ext hE, h2, h3.ext hE, h4.ext hE, h5, h6, h7.ext hE, h8.ext hE⟩
theorem sget_some {zs : List SE} {k : ByteArray} (h : ∃ z ∈ zs, z.1 = k) : ∃ v, sget zs k = some v := by
 cases hs : sget zs k with
 | some v => exact ⟨v, rfl⟩
 | none =>
  obtain ⟨z, hz, e⟩ := h
  exact absurd e (Xj.1 hs z hz)
structure TLoop (ws w' : World) (w : World) (tb : Nat) (gv : Value) (hr : List Value) (zs : List SE) (rest : List ByteArray) : Prop where
 gr : ws.grownBy w' (some tb)
 ext : Ext w w'
 map : MapS w' tb zs
 gf : sget zs GFK = some gv
 ham : ∀ hv, sget zs HAM = some hv → RowsV w' hv 3 [hr]
 keys : ∀ k ∈ rest, ∀ z ∈ zs, z.1 ≠ k
 has : HAM ∈ rest ∨ ∃ z ∈ zs, z.1 = HAM
theorem grown_ext {w w' w'' : World} {r : Option Nat} (h : w.grownBy w' r) (hE : Ext w' w'') : w.grownBy w'' r :=
 h.andThen (row' := none) ⟨hE.os, hE.tape, hE.output, hE.size, fun k hk _ => hE.block k hk⟩ (by simp)
theorem TLoop.step {ws w1 w2 w : World} {tb : Nat} {gv : Value} {hr : List Value} {zs : List SE} {rest : List ByteArray} (h : TLoop ws w1 w tb gv hr zs rest) (hE : Ext w1 w2) : TLoop ws w2 w tb gv hr zs rest :=
 ⟨grown_ext h.gr hE, h.ext.trans hE, h.map.ext hE, h.gf, fun hv hh => (h.ham hv hh).ext hE, h.keys, h.has⟩
theorem TLoop.iter {ws w1 w2 w : World} {tb r b : Nat} {gv : Value} {hr : List Value} {zs ms lf : List SE} {rest : List ByteArray} (h : TLoop ws w1 w tb gv hr zs rest) (hI : ItM w1 r b ms lf) (hg : w1.grownBy w2 (some r)) (hr2 : ws.heap.size ≤ r) (hX : ∀ w0 : World, w0.heap.size ≤ r → Ext w0 w1 → Ext w0 w2) (hw : w.heap.size ≤ ws.heap.size) : TLoop ws w2 w tb gv hr zs rest :=
 ⟨h.gr.andThen hg (fun j e => .inl (by have := Option.some.inj e; omega)), hX w (by omega) h.ext, h.map.kept hg (fun e => hI.neM h.map (Option.some.inj e).symm), h.gf,
  fun hv hh => (h.ham hv hh).kept hg (fun k e => by rw [← e]; exact (h.ham hv hh).neI (by simp) (by decide) hI), h.keys, h.has⟩
theorem TLoop.put {ws w1 w2 w : World} {tb : Nat} {gv v : Value} {hr row : List Value} {zs : List SE} {rest rest' : List ByteArray} {k : ByteArray} (h : TLoop ws w1 w tb gv hr zs rest) (hg : w1.grownBy w2 (some tb)) (hX : ∀ w0 : World, w0.heap.size ≤ tb → Ext w0 w1 → Ext w0 w2) (hw : w.heap.size ≤ tb)
  (hM : MapS w2 tb (zs ++ [(k, v)])) (hv : RowsV w1 v 3 [row]) (hham : k = HAM → row = hr) (_ : k ∈ rest) (_ : GFK ≠ k) (hr1 : ∀ q ∈ rest', q ∈ rest ∧ q ≠ k) (hr2 : ∀ q ∈ rest, q = k ∨ q ∈ rest') : TLoop ws w2 w tb gv hr (zs ++ [(k, v)]) rest' := by
 refine ⟨h.gr.andThen hg (fun j e => .inr e), hX w hw h.ext, hM, ?_, fun u hu => ?_, fun q hq z hz => ?_, ?_⟩
 ·rw [Qbj, h.gf]; rfl
 ·rw [Qbj] at hu
  cases hs : sget zs HAM with
  | some u' =>
   rw [hs] at hu
   obtain rfl : u' = u := by simpa using hu
   exact (h.ham _ hs).kept hg (fun j e => by rw [← e]; exact (h.ham _ hs).neM (by simp) (by decide) h.map)
  | none =>
   rw [hs] at hu
   by_cases hkh : HAM = k
   ·rw [if_pos hkh] at hu
    obtain rfl : v = u := by simpa using hu
    rw [← hham hkh.symm]
    exact hv.kept hg (fun j e => by rw [← e]; exact hv.neM (by simp) (by decide) h.map)
   ·rw [if_neg hkh] at hu
    simp at hu
 ·rcases List.mem_append.1 hz with hz | hz
  ·exact h.keys q (hr1 q hq).1 z hz
  ·obtain rfl := List.mem_singleton.1 hz
   exact (hr1 q hq).2.symm
 ·rcases h.has with h1 | ⟨z, hz, e⟩
  ·rcases hr2 _ h1 with e | h2
   ·exact .inr ⟨_, List.mem_append_right _ (List.mem_singleton.2 rfl), e.symm⟩
   ·exact .inl h2
  ·exact .inr ⟨z, List.mem_append_left _ hz, e⟩
set_option maxRecDepth 20000 in
theorem cTable (w : World) : Calls Tryz.prog 88 #[] w (RetX w fun r w' => ∃ tb, r = .map (some tb) ∧ TabOK w' tb) := by
 refine Qau Tryz.func88 rfl (Qc (Qb [0] rfl (Qk rfl rfl (Qd (Qa (Qc (Qb [0,1,2,3,4,5,6] rfl (MMS rfl wu rfl ?_))))))))
 intro tb w1 hE hM htb
 refine C rfl wu rfl rfl Tryz.call119 (QbM ⟨#[78]⟩ _ _ rfl) ?_
 rintro _ w2 hE2 ⟨c1, rfl, hC1⟩
 replace hM := hM.ext hE2
 replace hE := hE.trans hE2
 refine C rfl wu rfl rfl Tryz.call119 (QbM ⟨#[78, 78, 76]⟩ _ _ rfl) ?_
 rintro _ w3 hE3 ⟨c2, rfl, -⟩
 replace hM := hM.ext hE3
 replace hE := hE.trans hE3
 replace hC1 := hC1.ext hE3
 refine BSV2 rfl wu rfl rfl rfl Qc9 ?_
 intro gv w4 hE4 hgv _
 replace hM := hM.ext hE4
 replace hE := hE.trans hE4
 replace hC1 := hC1.ext hE4
 refine INS (k := GFK) rfl wu rfl rfl rfl ms137 nofun hM rfl ?_
 intro w5 hg5 hX5 hM5
 replace hE := hX5 w htb hE
 replace hgv := hgv.kept hg5 (fun k e => by rw [← e]; exact hgv.neM (by simp) (by decide) hM)
 replace hC1 := hC1.grown hg5 (fun e => hC1.neM hM (Option.some.inj e).symm)
 replace hM := hM5
 clear hM5 hg5 hX5
 refine mvV rfl rfl (Qk rfl rfl (Qd (Qa (Qc (Qc ?_)))))
 have hz5 := hE.size
 have hltm := hM.lt
 refine Qb [0,1,2,3,4,5,6] rfl (C rfl wu rfl rfl Tryz.call123 (cFamilies _) ?_)
 rintro _ w6 hE6 ⟨b0, q, rfl, hb0, hF0, hH⟩
 replace hM := hM.ext hE6
 replace hE := hE.trans hE6
 replace hC1 := hC1.ext hE6
 replace hgv := hgv.ext hE6
 have hz6 := hE6.size
 refine C rfl wu rfl rfl Tryz.call124 (Qdx _) ?_
 rintro _ w7 hE7 ⟨b1, rfl, hb1, hF1⟩
 replace hM := hM.ext hE7
 replace hE := hE.trans hE7
 replace hC1 := hC1.ext hE7
 replace hgv := hgv.ext hE7
 have hz7 := hE7.size
 replace hF0 := hF0.ext hE7
 replace hH := hH.ext hE7
 refine C rfl wu rfl rfl Tryz.call125 (cModified _) ?_
 rintro _ w8 hE8 ⟨b2, rfl, hb2, hF2⟩
 replace hM := hM.ext hE8
 replace hE := hE.trans hE8
 replace hC1 := hC1.ext hE8
 replace hgv := hgv.ext hE8
 have hz8 := hE8.size
 replace hF0 := hF0.ext hE8
 replace hF1 := hF1.ext hE8
 replace hH := hH.ext hE8
 refine C rfl wu rfl rfl Tryz.call126 (cCombined _) ?_
 rintro _ w9 hE9 ⟨b3, rfl, hb3, hF3⟩
 replace hM := hM.ext hE9
 replace hE := hE.trans hE9
 replace hC1 := hC1.ext hE9
 replace hgv := hgv.ext hE9
 have hz9 := hE9.size
 replace hF0 := hF0.ext hE9
 replace hF1 := hF1.ext hE9
 replace hF2 := hF2.ext hE9
 replace hH := hH.ext hE9
 refine BS (us := [.map (some b0), .map (some b1), .map (some b2), .map (some b3)]) rfl wu rfl rfl rfl rfl ty185 (by simp [Value.oneCell']) ?_
 intro sv ws hEs hsv hsvb
 replace hM := hM.ext hEs
 replace hE := hE.trans hEs
 replace hC1 := hC1.ext hEs
 replace hgv := hgv.ext hEs
 have hzs := hEs.size
 replace hF0 := hF0.ext hEs
 replace hF1 := hF1.ext hEs
 replace hF2 := hF2.ext hEs
 replace hF3 := hF3.ext hEs
 replace hH := hH.ext hEs
 have hsl := hsv.sl
 refine Vw rfl (Zt rfl ty185 hsl) (mvV rfl rfl (Qd (Qa (Qf ?_))))
 obtain ⟨hr, hq, hr3⟩ : ∃ hr : List Value, q = .agg hr.toArray ∧ hr.length = 3 := by
  obtain ⟨x1, x2, x3, x4, x5, e, -⟩ := hH
  exact ⟨_, e, rfl⟩
 have hbs : ∀ i, i < 4 → ∃ mb, ([.map (some b0), .map (some b1), .map (some b2), .map (some b3)] : List Value)[i]? = some (.map (some mb)) ∧ mb ≠ tb ∧ FM ws mb (allKs.getD i []) (if i = 0 then some q else none) := by
  intro i hi
  match i, hi with
  | 0, _ => exact ⟨b0, rfl, by omega, hF0⟩
  | 1, _ => exact ⟨b1, rfl, by omega, hF1⟩
  | 2, _ => exact ⟨b2, rfl, by omega, hF2⟩
  | 3, _ => exact ⟨b3, rfl, by omega, hF3⟩
 have hsvt : sv.ownBlock ≠ some tb := by rw [hsvb]; intro e; have := Option.some.inj e; omega
 have hhg : HAM ≠ GFK := by decide
 refine Qv (fun p : Nat × List SE => [(15, sv), (16, .int .i64 4), (17, .int .i64 p.1), (1, .map (some tb))])
  (fun p w' => p.1 ≤ 4 ∧ TLoop ws w' w tb gv hr p.2 (later p.1)) (fun p => 4 - p.1) (0, [(GFK, gv)]) ⟨rfl, rfl, rfl, rfl, trivial⟩
  ⟨by omega, ⟨World.grownBy.refl ws _, hE, hM, by simp [sget], fun hv hh => by simp [sget, hhg] at hh, fun k hk z hz => by obtain rfl := List.mem_singleton.1 hz; exact QcT k hk, .inl ham_in⟩⟩ ?_
 rintro ⟨i, zs⟩ w1' ⟨i4, hT⟩
 dsimp only at i4 hT
 have hsl1 : Sl w1' sv [.map (some b0), .map (some b1), .map (some b2), .map (some b3)] := hsl.gr (X := [tb]) (Gr.of_grown hT.gr (fun k e => by simp [Option.some.inj e])) (fun k hk e => hsvt (by rw [hk, List.mem_singleton.1 e]))
 try dsimp only
 refine Qc (Qb [0] rfl (Qy rfl rfl rfl (Qd (Qa (Qc (Qo rfl ?_ ?_))))))
 ·intro hc
  simp at hc
  replace hc : i < 4 := by omega
  obtain ⟨mb, hxi, hmt, ms, hms, hmk, hmc, hmh⟩ := hbs i hc
  have hmi : MapS w1' mb ms := hms.kept hT.gr (fun e => hmt (Option.some.inj e))
  have hgi : ([.map (some b0), .map (some b1), .map (some b2), .map (some b3)] : List Value)[((i : Int)).toNat]? = some (.map (some mb)) := by rw [Int.toNat_natCast]; exact hxi
  refine Qe (Qa (Qc (Qf (Qc (Qb [0,1,2] rfl (Vw rfl (iad rfl rfl ty185 hsl1 (by omega) (by simp; omega)) (Vw rfl (ldE rfl na183 hsl1 hgi (Ext.refl _)) (Qk rfl rfl (Qd (Qa (Qc (Qb [0,1] rfl (mvV rfl rfl (RGM rfl wu rfl rfl Zq hmi ?_))))))))))))))
  intro r w2' hE2' hI hr2
  refine Qd (Qa (Qf ?_))
  have hzt := hT.gr.size
  refine Qv (fun p : List SE × List SE => [(15, sv), (16, .int .i64 4), (17, .int .i64 i), (1, .map (some tb)), (22, .pointer (some ⟨r, 0, none⟩))])
   (fun p w' => (∀ z ∈ p.2, z ∈ ms) ∧ ItM w' r mb ms p.2 ∧ TLoop ws w' w tb gv hr p.1 (p.2.map (·.1) ++ later (i + 1))) (fun p => p.2.length) (zs, ms) ⟨rfl, rfl, rfl, rfl, rfl, trivial⟩
   ⟨fun z hz => hz, hI, by dsimp only; rw [hmk, ← XG hc]; exact hT.step hE2'⟩ ?_
  clear hT hI hsl1 hmi
  rintro ⟨zs2, lf⟩ w3' ⟨hlf, hI3, hT3⟩
  dsimp only at hlf hI3 hT3
  try dsimp only
  refine Qc ?_
  by_cases hl : lf = []
  ·subst hl
   refine Qb [0,1] rfl (NXMn rfl wu rfl rfl hI3 nofun (QI rfl rfl rfl (Qd (Qa (Qc (Qn rfl (rfl) (Qt (Ql (Qm (Qh (Qg (Qa (Qb [0,1] rfl (Qw rfl rfl rfl (mvV rfl rfl (Qd ?_))))))))))))))))
   exact Qi (i + 1, zs2) ⟨rfl, rfl, rfl, rfl, trivial⟩ ⟨by dsimp only; omega, by simpa using hT3⟩ (by dsimp only; omega)
  ·skip
   refine Qb [0,1] rfl (NXMy rfl wu rfl rfl hI3 hl nofun ?_)
   intro z hz w4' hg4 hX4 hI4 hN4
   refine QI rfl rfl rfl (Qd (Qa (Qc ?_)))
   have hT4 := hT3.iter hI3 hg4 (by omega) hX4 (by omega)
   have hzm := hlf z hz
   obtain ⟨s, f, g, hz2, hf1, hg1⟩ := hmc z hzm
   have hzk : z.1 ∈ allKs.getD i [] := by rw [← hmk]; exact List.mem_map.2 ⟨z, hzm, rfl⟩
   have hzr : z.1 ∈ lf.map (·.1) ++ later (i + 1) := List.mem_append_left _ (List.mem_map.2 ⟨z, hz, rfl⟩)
   have hnone : sget zs2 z.1 = none := Xj.2 (hT3.keys _ hzr)
   have hham : z.1 = HAM → ([.string s, f, g] : List Value) = hr := fun e => by
    have h1 := hmh z hzm e
    by_cases hi0 : i = 0
    ·rw [if_pos hi0, Option.some.injEq, hq, hz2] at h1
     injection h1 with h1
     have := congrArg Array.toList h1
     simpa using this.symm
    ·rw [if_neg hi0] at h1
     cases h1
   have hgk : GFK ≠ z.1 := QcT _ (by
    have h0 : later 0 = (allKs.take i).flatten ++ later i := by rw [later, later, ← List.flatten_append, List.take_append_drop, List.drop_zero]
    rw [h0, XG hc]
    exact List.mem_append_right _ (List.mem_append_left _ hzk))
   refine QC rfl (rfl) (Qe (Qa (Qf (Qc (Qb [0,1,2,3,4,5] rfl (ENM rfl wu rfl rfl hN4 (QI rfl rfl rfl (QI rfl rfl rfl (AL rfl wu rfl XW ?_)))))))))
   intro yb w5' hE5 hY hyb
   refine Qk rfl rfl (STB (vs := [.string s, f, g]) (cs' := [.string s, f, g]) rfl wu rfl rfl (by rw [hz2]; rfl) XY nofun hY oc3 rfl rfl rfl ?_)
   intro w6' hg6' hX6' hY6
   refine Qd (Qa ?_)
   have hE6' := hX6' w4' hyb hE5
   have hT6 := hT4.step hE6'
   have hI6 := hI4.ext hE6'
   refine Qb [0,1,2,3,4,5,6,7,8] rfl (mvV rfl rfl (mvV rfl rfl (mvV rfl rfl (mvV rfl rfl (Vw rfl (lkS rfl rfl ms137 hT6.map) ?_)))))
   rw [hnone, Option.getD_none]
   refine Vw rfl (ldA rfl KT hY6) (BSV (r := [.string s, f, g]) rfl wu rfl rfl Qc9 rfl (by decide) (by decide) ?_)
   intro tv w7' hE7' htv
   refine APV (r := [.string s, f, g]) (L := []) rfl wu rfl rfl rfl Qc9 rfl (by decide) nofun ?_ (ho := OwnV.nil _ _ _ _) (hB := Nat.le_refl _) (h1c := by intro v hv; simp only [List.mem_cons, List.not_mem_nil, or_false] at hv; rcases hv with rfl | rfl | rfl <;> first | rfl | assumption) (hs := htv) (hE := Ext.refl _) (hlen := by simp) (hlen1 := by simp)
   intro nv w8' hg8' hX8' hn8 hb8
   have hE8' : Ext w7' w8' := Ext.of_grown hg8'
   have hT8 := (hT6.step hE7').step hE8'
   have hI8 := (hI6.ext hE7').ext hE8'
   refine MUS rfl wu rfl rfl rfl ms137 nofun hT8.map hnone ?_
   intro w9' hg9 hX9 hM9
   refine Qd (Qg (Qi (zs2 ++ [(z.1, nv)], lf.filter fun y => !decide (y.1 = z.1)) ⟨rfl, rfl, rfl, rfl, rfl, trivial⟩ ⟨fun y hy => hlf y (List.mem_filter.1 hy).1, hI8.kept hg9 (fun e => hmt (Option.some.inj e)) (fun e => hI8.neM hT8.map (Option.some.inj e)), ?_⟩ (filt_len hz)))
   refine hT8.put hg9 hX9 htb hM9 hn8.read hham hzr hgk (fun k hk => ?_) (fun k hk => ?_)
   ·dsimp only at hk
    rcases List.mem_append.1 hk with hk | hk
    ·obtain ⟨y, hy, rfl⟩ := List.mem_map.1 hk
     have hy' := List.mem_filter.1 hy
     exact ⟨List.mem_append_left _ (List.mem_map.2 ⟨y, hy'.1, rfl⟩), by simpa using hy'.2⟩
    ·exact ⟨List.mem_append_right _ hk, (Qcc hc hzk hk).symm⟩
   ·dsimp only
    rcases List.mem_append.1 hk with hk | hk
    ·obtain ⟨y, hy, rfl⟩ := List.mem_map.1 hk
     by_cases e : y.1 = z.1
     ·exact .inl e
     ·exact .inr (List.mem_append_left _ (List.mem_map.2 ⟨y, List.mem_filter.2 ⟨hy, by simpa using e⟩, rfl⟩))
    ·exact .inr (List.mem_append_right _ hk)
 ·intro hc
  simp at hc
  obtain rfl : i = 4 := by omega
  refine Qt (Ql (Qm (Qh (Qa (Qc (Qb [0,1] rfl (mvV rfl rfl (Qk rfl rfl (Qd (Qa (Qq (Qj rfl rfl ?_))))))))))))
  obtain ⟨hv, hhv⟩ := sget_some (hT.has.resolve_left (by simp [later, allKs]))
  have hX : ∀ {k : Nat}, k ≠ tb → some tb ≠ some k := fun hk e => hk (Option.some.inj e).symm
  obtain ⟨cb, e1, hcb⟩ : GfRow w1' [.string ⟨#[78]⟩, .func (.func 159) #[] #[.pointer (some ⟨c1, 0, none⟩)], .nilFunc] := ⟨c1, rfl, hC1.grown hT.gr (hX (hC1.neM hM))⟩
  refine ⟨hT.ext, tb, rfl, ⟨zs, gv, hv, _, _, hr, hT.map, hT.gf, hgv.kept hT.gr (fun j e => by rw [← e]; exact hgv.neM (by simp) (by decide) hM), ⟨cb, e1, hcb⟩, ⟨_, _, rfl, rfl⟩, hhv, hT.ham _ hhv, ?_⟩⟩
  rw [← hq]
  obtain ⟨y1, y2, y3, y4, y5, e, h1, h2⟩ := hH
  exact ⟨y1, y2, y3, y4, y5, e, h1.grown hT.gr (hX (h1.neM hM)), h2.grown hT.gr (hX (h2.neM hM))⟩
end Go.Proofs.YtcfbigmjjpknfaaGreatDoor
namespace Go.Proofs.YtcfbigmjjpknfaaGreatDoor
open Go Go.Sx Go.Pl Go.RowKit Go.Lib Go.Lg
theorem eqlFE {P : Program} {N : Nat} {l : Env} {w : World} {v : Value} {x y : Operand} {T T' ty : TypeId} {ps rs : Array TypeId} {b c : Bool} (hx : ev l x = some v) (hy : ev l y = some .nilFunc) (hT : P.underlying T = some (.func ps rs b)) (hv : (c = true ∧ v = .nilFunc) ∨ (c = false ∧ ∃ f fs cs, v = .func f fs cs)) :
  Yl P N (.binOp .eql T x y T') ty l w (.bool c) := by
 rcases hv with ⟨rfl, rfl⟩ | ⟨rfl, f, fs, cs, rfl⟩
 ·have hd : ∃ d, Op.maxDepth = d + 1 := ⟨Op.maxDepth - 1, rfl⟩
  obtain ⟨d, hd⟩ := hd
  refine Zn hx hy (fun w => ?_) (fun w x y => ?_)
  ·simp [binOp, Op.equal, hd, Op.equalIn, run_underlying hT]
  ·unfold eqGuard
   split <;> rfl
 ·have hd : ∃ d, Op.maxDepth = d + 1 := ⟨Op.maxDepth - 1, rfl⟩
  obtain ⟨d, hd⟩ := hd
  refine Zn hx hy (fun w => ?_) (fun w x y => ?_)
  ·simp [binOp, Op.equal, hd, Op.equalIn, run_underlying hT]
  ·unfold eqGuard
   split <;> rfl
theorem na137 : NA Tryz.prog 137 := fun w => Tryz.isAgg137 w
theorem na174 : NA Tryz.prog 174 := fun w => Tryz.isAgg174 w
theorem na173 : NA Tryz.prog 173 := fun w => Tryz.isAgg173 w
theorem inf140 : Tryz.prog.info? 140 = some Tryz.t140 := by kernel_rfl
theorem sv140 : ∀ w, (sizeOf 140).run Tryz.prog w = .ok 1 w := fun w => by simp [sizeOf, typeInfo, inf140]; rfl
theorem ag140 : AG Tryz.prog 140 1 := ⟨fun w => by simp [isAgg, run_underlying Tryz.underlying140], sv140⟩
theorem fa140_0 : FA Tryz.prog 140 0 0 := fun a w => by
 simp [Instr.fieldAt, run_underlying Tryz.underlying140, Instr.sureAddr, fieldPlace]
set_option maxRecDepth 20000 in
theorem cRow (tb : Nat) (zs : List SE) (nm s1 : ByteArray) (n : Int) (rv f1 l1 av : Value) (rest : List (List Value)) (L : List (List Value)) (isF : Bool) (w : World) (hM : MapS w tb zs) (hg : sget zs nm = some rv) (hrv : RowsV w rv 3 ([.string s1, f1, l1] :: rest))
  (hlow : (isF = true ∧ l1 = .nilFunc) ∨ (isF = false ∧ ∃ f fs cs, l1 = .func f fs cs)) (hf1 : f1.oneCell' = true) (hsz : s1.size = L.length) (hav : RowsV w av 5 L) :
  Calls Tryz.prog 127 #[.agg #[.map (some tb)], .agg #[.int .i64 3, .string nm, .int .i64 n, .slice none 0 0, av], .bool isF] w (RetX w fun r _ => r = .tuple #[.agg #[.string s1, f1, l1], .int .i64 0]) := by
 have hl1 : l1.oneCell' = true := by rcases hlow with ⟨-, rfl⟩ | ⟨-, _, _, _, rfl⟩ <;> rfl
 have hrn : rv.ownBlock.isNone = false := by
  obtain ⟨⟨a, c, rfl, h2, h3⟩, -⟩ := hrv
  obtain ⟨ad, rfl, -⟩ := h3 (by simp)
  rfl
 have hrs : ∃ a n c, rv = .slice a n c := by
  obtain ⟨⟨a, c, rfl, h2, h3⟩, -⟩ := hrv
  exact ⟨_, _, _, rfl⟩
 refine QS Tryz.func127 rfl rfl (Qc (Qb [0,1,2,3] rfl (BXA rfl wu rfl rfl ?_)))
 intro kb w1 hE1 hK hkb
 replace hM := hM.ext hE1
 replace hrv := hrv.ext hE1
 replace hav := hav.ext hE1
 refine BXA rfl wu rfl rfl ?_
 intro xb w2 hE2 hX hxb
 replace hM := hM.ext hE2
 replace hrv := hrv.ext hE2
 replace hav := hav.ext hE2
 replace hK := hK.ext hE2
 refine AL rfl wu rfl XW ?_
 intro rb w3 hE3 hR hrb
 replace hM := hM.ext hE3
 replace hrv := hrv.ext hE3
 replace hav := hav.ext hE3
 replace hK := hK.ext hE3
 replace hX := hX.ext hE3
 refine Qk rfl rfl (Qd (Qa (Qc ?_)))
 have hE := (hE1.trans hE2).trans hE3
 have hz1 := hE1.size
 have hz2 := hE2.size
 refine Qb [0,1,2,3,4,5] rfl (Qz rfl rfl fa140_0 (Vw rfl (ldB rfl na137) ?_))
 refine Qz rfl rfl QcX (Vw rfl (ldB rfl na9) ?_)
 refine Vw rfl (lkS rfl rfl ms137 hM) ?_
 rw [hg, Option.getD_some]
 refine Qk rfl rfl (Qd (Qa (Qc (Qf (Qc (Qb [0,1,2,3,4,5,6,7,8,9,10,11,12] rfl (Qz rfl rfl KI (Vw rfl (ldB rfl na3) ?_))))))))
 refine QU rfl rfl rfl (mvV rfl rfl (KB 20 false rfl (rfl) (Vg rfl rfl rfl (fad rfl KI) (Vg rfl rfl rfl (ldB rfl na3) ?_))))
 refine Vg rfl rfl rfl (KV rfl rfl) (Vg rfl rfl rfl (mv rfl) (KB 24 true rfl (rfl) (Vg rfl rfl rfl (mv rfl) (Vg rfl rfl rfl (eqlN rfl rfl Tryz.underlying182 hrs) ?_))))
 rw [hrn]
 refine Vg rfl rfl rfl (pk rfl rfl) (pkV rfl rfl rfl (Qk rfl rfl (Qd (Qa (Qn rfl (rfl) (Qc (Qb [0,1,2,3,4,5,6,7,8,9,10,11,12] rfl (Qz rfl rfl KI (Vw rfl (ldB rfl na3) ?_)))))))))
 refine QG rfl rfl rfl (mvV rfl rfl (KB 34 false rfl (rfl) (Vg rfl rfl rfl (mv rfl) (Vg rfl rfl rfl (mv rfl) (Vg rfl rfl rfl (KU rfl rfl Qc9 hrv (by omega) (by simp)) (Vg rfl rfl rfl (fadE rfl fa176_2 hrv (by omega) (by simp)) (Vg rfl rfl rfl (ldF rfl na174 rfl hrv (Ext.refl _) (by omega) (by simp)) (Vg rfl rfl rfl (eqlFE rfl rfl Tryz.underlying174 hlow) (Vg rfl rfl rfl (neqB rfl rfl und4) ?_)))))))))
 refine pkV rfl rfl rfl (Qk rfl rfl (Qd (Qa (Qn rfl (by simp) (Qe (Qg (Qa (Qc (Qc (Qb [0,1,2] rfl (mvV rfl rfl (Vw rfl (QaT rfl Qc9 hrv) (mvV rfl rfl (Qd (Qa (Qf ?_))))))))))))))))
 refine Qv (fun _ : Unit => [(3, .pointer (some ⟨kb, 0, none⟩)), (4, .pointer (some ⟨xb, 0, none⟩)), (6, .pointer (some ⟨rb, 0, none⟩)), (44, rv), (45, .int .i64 ([.string s1, f1, l1] :: rest).length), (46, .int .i64 0)]) (fun _ w' => w' = w3) (fun _ => 0) () ⟨rfl, rfl, rfl, rfl, rfl, rfl, trivial⟩ rfl ?_
 rintro _ w4 rfl
 try dsimp only
 refine Qc (Qb [0] rfl (Qy rfl rfl rfl (Qd (Qa (Qc (QC rfl (by simp) (Qe (Qa (Qc (Qf (Qc (Qb [0,1,2,3] rfl (Vw rfl (KU rfl rfl Qc9 hrv (by omega) (by simp)) (Vw rfl (ldV rfl KT hrv (Ext.refl _) (by omega) (by simp)) (AL rfl wu rfl XW ?_)))))))))))))))
 intro yb w5 hE5 hY hyb
 refine STB (vs := [.string s1, f1, l1]) (cs' := [.string s1, f1, l1]) rfl wu rfl rfl rfl XY nofun (by assumption) (by first | exact oc2 | exact oc3 | exact oc5 | (simp [Value.oneCell']; done)) rfl rfl rfl ?_
 intro w6 hg6 hX6 hY6
 refine Qd (Qa (Qc ?_))
 have hE6 := hX6 w4 hyb hE5
 replace hX := hX.ext hE6
 replace hR := hR.ext hE6
 replace hav := hav.ext hE6
 refine Qb [0,1,2,3,4,5,6] rfl (Qz rfl rfl fa176_0 (Vw rfl (ldB rfl na9) ?_))
 refine Vw rfl (Qdn rfl XQ) ?_
 refine Qz rfl rfl Jv (Vw rfl (ldB rfl na44) ?_)
 refine Vw rfl (QaT rfl QbO hav) (QU rfl rfl rfl (Qd (Qa (QC rfl (by simp; omega) (Qc (Qb [0,1,2] rfl (Vw rfl (ldA rfl KT) ?_)))))))
 refine STB (vs := [.string s1, f1, l1]) (cs' := [.string s1, f1, l1]) rfl wu rfl rfl rfl XY nofun (by assumption) (by first | exact oc2 | exact oc3 | exact oc5 | (simp [Value.oneCell']; done)) rfl rfl rfl ?_
 intro w7 hg7 hX7 hR7
 refine Qk rfl rfl (Qd (Qa (Qq (Qu (Qp (QE (Qu (Qp (QJ rfl rfl rfl KT hR7 rfl ?_)))))))))
 exact ⟨hX7 w (by omega) (hE.trans hE6), rfl⟩
end Go.Proofs.YtcfbigmjjpknfaaGreatDoor
namespace Go.Proofs.YtcfbigmjjpknfaaGreatDoor
open Go Go.Sx Go.Pl Go.RowKit Go.Lib Go.Lg
def vN (n : Int) : List Value := [.int .i64 0, .int .i64 0, .slice none 0 0, .int .i64 0, .int .i64 0, .slice none 0 0, .int .i64 0, .slice none 0 0, .int .i64 n, .slice none 0 0]
def vF (a b c : Value) : List Value := [a, b, c, .int .i64 0, .int .i64 0, .slice none 0 0, .int .i64 0, .slice none 0 0, .int .i64 0, .slice none 0 0]
def vC (a b c d e : Value) : List Value := [.int .i64 0, .int .i64 0, .slice none 0 0, a, b, c, d, e, .int .i64 0, .slice none 0 0]
def v0 : List Value := [.int .i64 0, .int .i64 0, .slice none 0 0, .int .i64 0, .int .i64 0, .slice none 0 0, .int .i64 0, .slice none 0 0, .int .i64 0, .slice none 0 0]
set_option maxRecDepth 20000 in
theorem cArgN (tb : Nat) (nm : ByteArray) (n : Int) (av : Value) (w : World) (_ : av.oneCell' = true) :
  Calls Tryz.prog 128 #[.agg #[.map (some tb)], .agg #[.int .i64 1, .string nm, .int .i64 n, .slice none 0 0, av], .int .u8 78] w (RetX w fun r _ => r = .tuple #[.agg (vN n).toArray, .int .i64 0]) := by
 refine QS Tryz.func128 rfl rfl (Qc (Qb [0,1,2,3] rfl (BXA rfl wu rfl rfl ?_)))
 intro kb w1 hE1 hK hkb
 refine BXA rfl wu rfl rfl ?_
 intro xb w2 hE2 hX hxb
 replace hK := hK.ext hE2
 refine AL rfl wu rfl zv91 ?_
 intro rb w3 hE3 hR hrb
 replace hK := hK.ext hE3
 replace hX := hX.ext hE3
 refine Qk rfl rfl (Qd (Qa (Qc (Qf (Qc ?_)))))
 have hE := (hE1.trans hE2).trans hE3
 have hz1 := hE1.size
 have hz2 := hE2.size
 refine Qb [0,1,2,3,4,5,6] rfl (mvV rfl rfl (Vw rfl (eqlK rfl rfl) (mvV rfl rfl (KB 11 false rfl (rfl) (Vg rfl rfl rfl (mv rfl) (Vg rfl rfl rfl (eqlK rfl rfl) (pkV rfl rfl rfl (Qk rfl rfl (Qd (Qa ?_))))))))))
 refine Qn rfl (rfl) (Qc (Qb [0,1,2,3] rfl (Qz rfl rfl KI (Vw rfl (ldB rfl na3) ?_))))
 refine QU rfl rfl rfl (Qk rfl rfl (Qd (Qa (Qn rfl (rfl) (Qc (Qb [0,1,2,3,4,5,6,7] rfl (mvV rfl rfl (Vw rfl (eqlK rfl rfl) (mvV rfl rfl (KB 30 true rfl (rfl) ?_))))))))))
 refine Vg rfl rfl rfl (fad rfl KI) (Vg rfl rfl rfl (ldB rfl na3) ?_)
 refine Vg rfl rfl rfl (KV rfl rfl) (pkV rfl rfl rfl (Qk rfl rfl (Qd (Qa (QC rfl (rfl) (Qc (Qb [0,1,2,3,4] rfl (Qz rfl rfl QcW (Vw rfl (ldB rfl na3) ?_)))))))))
 refine Vw rfl (bld rfl (bd91_2 _ rfl)) (STB (vs := vN n) (cs' := vN n) rfl wu rfl rfl rfl sv91 nofun hR (by simp [vN, Value.oneCell']) rfl rfl rfl ?_)
 intro w4 hg4 hX4 hR4
 refine Qk rfl rfl (Qd (Qa (Qq (Qu (Qp (QJ rfl rfl rfl ag91 hR4 rfl ?_))))))
 exact ⟨hX4 w (by omega) hE, rfl⟩
set_option maxRecDepth 20000 in
theorem cArgF (tb : Nat) (k : Int) (nm : ByteArray) (n : Int) (av : Value) (u : List Value) (w : World) (_ : av.oneCell' = true) (hu : u.length = 10) (hu1 : ∀ v ∈ u, v.oneCell' = true)
  (hm : ∀ w', Ext w w' → Calls Tryz.prog 89 #[.agg #[.map (some tb)], .agg #[.int .i64 k, .string nm, .int .i64 n, .slice none 0 0, av], .bool true] w' (RetX w' fun r _ => r = .tuple #[.agg u.toArray, .int .i64 0])) :
  Calls Tryz.prog 128 #[.agg #[.map (some tb)], .agg #[.int .i64 k, .string nm, .int .i64 n, .slice none 0 0, av], .int .u8 70] w (RetX w fun r _ => r = .tuple #[.agg u.toArray, .int .i64 0]) := by
 refine QS Tryz.func128 rfl rfl (Qc (Qb [0,1,2,3] rfl (BXA rfl wu rfl rfl ?_)))
 intro kb w1 hE1 hK hkb
 refine BXA rfl wu rfl rfl ?_
 intro xb w2 hE2 hX hxb
 replace hK := hK.ext hE2
 refine AL rfl wu rfl zv91 ?_
 intro rb w3 hE3 hR hrb
 replace hK := hK.ext hE3
 replace hX := hX.ext hE3
 refine Qk rfl rfl (Qd (Qa (Qc (Qf (Qc ?_)))))
 have hE := (hE1.trans hE2).trans hE3
 have hz1 := hE1.size
 have hz2 := hE2.size
 refine Qb [0,1,2,3,4,5,6] rfl (mvV rfl rfl (Vw rfl (eqlK rfl rfl) (mvV rfl rfl (KB 11 true rfl (rfl) (SK rfl rfl rfl rfl rfl (SK rfl rfl rfl rfl rfl (pkV rfl rfl rfl (Qk rfl rfl (Qd (Qa ?_))))))))))
 refine QC rfl (rfl) (Qc (Qb [0,1,2,3,4,5,6,7,8] rfl (Vw rfl (ldA rfl ag140) ?_)))
 refine Vw rfl (ldA rfl XV) ?_
 refine mvV rfl rfl (Vw rfl (eqlK rfl rfl) (C rfl wu rfl rfl Tryz.call89 (hm w3 hE) ?_))
 rintro _ w4 hE4 rfl
 replace hR := hR.ext hE4
 refine QI rfl rfl rfl (QI rfl rfl rfl (STB (vs := u) (cs' := u) rfl wu rfl rfl rfl sv91 nofun hR hu1 hu rfl (by simp [putAt, hu]) ?_))
 intro w5 hg5 hX5 hR5
 refine Qk rfl rfl (Qd (Qa (Qq (Qu (Qp (QJ rfl rfl rfl ag91 hR5 hu ?_))))))
 exact ⟨hX5 w (by omega) (hE.trans hE4), rfl⟩
end Go.Proofs.YtcfbigmjjpknfaaGreatDoor
namespace Go.Proofs.YtcfbigmjjpknfaaGreatDoor
open Go Go.Sx Go.Pl Go.RowKit Go.Lib Go.Lg
set_option maxRecDepth 20000 in
theorem cMean (tb : Nat) (zs : List SE) (nm s1 : ByteArray) (n : Int) (rv l1 av : Value) (F : FuncId) (fb : Nat) (rest : List (List Value)) (L vals : List (List Value)) (isF : Bool) (w : World) (hM : MapS w tb zs) (hg : sget zs nm = some rv)
  (hrv : RowsV w rv 3 ([.string s1, .func (.func F) #[] #[.pointer (some ⟨fb, 0, none⟩)], l1] :: rest))
  (hlow : (isF = true ∧ l1 = .nilFunc) ∨ (isF = false ∧ ∃ f fs cs, l1 = .func f fs cs)) (hsz : s1.size = L.length) (hav : RowsV w av 5 L) (hLc : ∀ c ∈ L, ∀ v ∈ c, v.oneCell' = true) (hvl : vals.length = L.length) (hLs : L.length ≤ 1000) (hv10 : ∀ u ∈ vals, u.length = 10 ∧ ∀ v ∈ u, v.oneCell' = true)
  (harg : ∀ (i : Nat) (h : i < s1.size) (c u : List Value), L[i]? = some c → vals[i]? = some u → ∀ w', Ext w w' → Calls Tryz.prog 128 #[.agg #[.map (some tb)], .agg c.toArray, .int .u8 ((s1[i]'h).toNat : Int)] w' (RetX w' fun r _ => r = .tuple #[.agg u.toArray, .int .i64 0]))
  (Ψ : Nat → List Value → World → Prop) (hΨ1 : ∀ B rc w w' k, Ψ B rc w → w.grownBy w' (some k) → k < B → Ψ B rc w') (hΨ2 : ∀ B B' rc w, B' ≤ B → Ψ B rc w → Ψ B' rc w)
  (hcall : ∀ args w, (callFunc F args).run Tryz.prog w = .ok (.enter F args) w)
  (hfun : ∀ v w', Ext w w' → RowsV w' v 10 vals → Calls Tryz.prog F #[v, .pointer (some ⟨fb, 0, none⟩)] w' (RetX w' fun r w'' => ∃ rc : List Value, r = .tuple #[.agg rc.toArray, .int .i64 0] ∧ rc.length = 10 ∧ (∀ v ∈ rc, v.oneCell' = true) ∧ Ψ w'.heap.size rc w'')) :
  Calls Tryz.prog 89 #[.agg #[.map (some tb)], .agg #[.int .i64 3, .string nm, .int .i64 n, .slice none 0 0, av], .bool isF] w (RetX w fun r w' => ∃ rc : List Value, r = .tuple #[.agg rc.toArray, .int .i64 0] ∧ rc.length = 10 ∧ (∀ v ∈ rc, v.oneCell' = true) ∧ Ψ w.heap.size rc w') := by
 have hl1 : l1.oneCell' = true := by rcases hlow with ⟨-, rfl⟩ | ⟨-, _, _, _, rfl⟩ <;> rfl
 have hav1 : av.oneCell' = true := by
  obtain ⟨⟨a, c, rfl, h2, h3⟩, -⟩ := hav
  rfl
 have havr := hav.rows
 have hav0 := hav
 refine QS Tryz.func89 rfl rfl (Qc (Qb [0,1,2,3] rfl (BXA rfl wu rfl rfl ?_)))
 intro kb w1 hE1 hK hkb
 refine BXA rfl wu rfl rfl ?_
 intro xb w2 hE2 hX hxb
 replace hK := hK.ext hE2
 refine AL rfl wu rfl zv91 ?_
 intro rb w3 hE3 hR hrb
 replace hK := hK.ext hE3
 replace hX := hX.ext hE3
 refine Qk rfl rfl (Qd (Qa (Qc ?_)))
 have hE := (hE1.trans hE2).trans hE3
 have hz1 := hE1.size
 have hz2 := hE2.size
 have hz3 := hE3.size
 refine Qb [0,1,2,3,4,5,6,7,8,9] rfl (Vw rfl (ldA rfl ag140) ?_)
 refine Vw rfl (ldA rfl XV) ?_
 refine mvV rfl rfl (C rfl wu rfl rfl Tryz.call127 ((cRow tb zs nm s1 n rv (.func (.func F) #[] #[.pointer (some ⟨fb, 0, none⟩)]) l1 av rest L isF _ (hM.ext hE) hg (hrv.ext hE) hlow rfl hsz (hav.ext hE))) ?_)
 rintro _ w4 hE4 rfl
 replace hE := hE.trans hE4
 replace hK := hK.ext hE4
 replace hX := hX.ext hE4
 replace hR := hR.ext hE4
 have hz4 := hE4.size
 refine mvV rfl rfl (QI rfl rfl rfl (QI rfl rfl rfl (AL rfl wu rfl XW ?_)))
 intro r8 w5 hE5 hY hr8
 replace hK := hK.ext hE5
 replace hX := hX.ext hE5
 replace hR := hR.ext hE5
 refine STB (vs := [.string s1, .func (.func F) #[] #[.pointer (some ⟨fb, 0, none⟩)], l1]) (cs' := [.string s1, .func (.func F) #[] #[.pointer (some ⟨fb, 0, none⟩)], l1]) rfl wu rfl rfl rfl XY nofun (by assumption) (by first | exact oc2 | exact oc3 | exact oc5 | (simp [Value.oneCell']; done)) rfl rfl rfl ?_
 intro w6 hg6 hX6 hY6
 refine Qk rfl rfl (Qd (Qa (Qc (Qc ?_))))
 have hE6 := hX6 w4 hr8 hE5
 have hz6 := hE6.size
 have hz5 := hE5.size
 replace hE := hE.trans hE6
 replace hX := hX.grown hg6 (fun e => Blk.neT hX hY (by decide) (Option.some.inj e).symm)
 replace hR := hR.grown hg6 (fun e => Blk.neT hR hY (by decide) (Option.some.inj e).symm)
 replace hK := hK.grown hg6 (fun e => Blk.neT hK hY (by decide) (Option.some.inj e).symm)
 have hlK := hK.lt
 have hlR := hR.lt
 refine Qb [0,1] rfl (mvV rfl rfl (QG rfl rfl rfl (Qd (Qa (Qn rfl (rfl) (Qe (Qa (Qc ?_))))))))
 replace hav := hav.ext hE
 have hlY := hY6.lt
 refine Qb [0,1,2,3,4] rfl (Qz rfl rfl Jv (Vw rfl (ldB rfl na44) ?_))
 refine Vw rfl (QaT rfl QbO hav) (MKV (n := L.length) rfl wu rfl rfl ty178 rfl (by decide) ?_)
 intro ov w7 hE7 hov hovb
 replace hav := hav.ext hE7
 replace hE := hE.trans hE7
 replace hK := hK.ext hE7
 replace hX := hX.ext hE7
 replace hR := hR.ext hE7
 replace hY6 := hY6.ext hE7
 refine Qk rfl rfl (Qd (Qa (Qc (Qc ?_))))
 have hz7 := hE7.size
 refine Qb [0,1,2,3] rfl (Qz rfl rfl Jv (Vw rfl (ldB rfl na44) ?_))
 refine Vw rfl (QaT rfl QbO hav) (mvV rfl rfl (Qd (Qa (Qf ?_))))
 refine Qv (fun i : Nat => [(3, .pointer (some ⟨kb, 0, none⟩)), (6, .pointer (some ⟨rb, 0, none⟩)), (8, .pointer (some ⟨r8, 0, none⟩)), (10, ov), (29, av), (30, .int .i64 L.length), (31, .int .i64 i)])
  (fun i w' => i ≤ L.length ∧ Ext w w' ∧ Blk w' kb 140 #[.map (some tb)] ∧ Blk w' rb 91 v0.toArray ∧ Blk w' r8 176 #[.string s1, .func (.func F) #[] #[.pointer (some ⟨fb, 0, none⟩)], l1] ∧ OwnV w6.heap.size w' ov 91 10 (vals.take i ++ List.replicate (L.length - i) v0))
  (fun i => L.length - i) 0 ⟨rfl, rfl, rfl, rfl, rfl, rfl, rfl, trivial⟩ ⟨by omega, hE, hK, hR, hY6, by
   have h0 : vals.take 0 ++ List.replicate (L.length - 0) v0 = List.replicate L.length v0 := by simp
   rw [h0]
   exact hov⟩ ?_
 clear hE hK hR hY6 hov hX hav
 rintro i wi ⟨i1, hE, hK, hR, hY, hov⟩
 have hav := hav0.ext hE
 try dsimp only
 refine Qc (Qb [0] rfl (Qy rfl rfl rfl (Qd (Qa (Qc (Qo rfl ?_ ?_))))))
 ·intro hc
  simp at hc
  replace hc : i < L.length := by omega
  have hci : L[i]? = some (L[i]'hc) := List.getElem?_eq_getElem hc
  have hui : vals[i]? = some (vals[i]'(by omega)) := List.getElem?_eq_getElem (by omega)
  generalize L[i]'hc = c at hci
  generalize vals[i]'(by omega) = u at hui
  have hcm : c ∈ L := List.mem_of_getElem? hci
  have hc5 := havr c hcm
  have hc1 := hLc c hcm
  obtain ⟨hu10, hu1⟩ := hv10 u (List.mem_of_getElem? hui)
  have hgd : L.getD ((i : Int)).toNat [] = c := by rw [Int.toNat_natCast, List.getD_eq_getElem?_getD, hci]; rfl
  have hcx : (c.drop 0).take 5 = c := by rw [List.drop_zero, ← hc5, List.take_length]
  have hol : (vals.take i ++ List.replicate (L.length - i) v0).length = L.length := by rw [List.length_append, List.length_take, List.length_replicate]; omega
  refine Qe (Qa (Qc (Qf (Qc (Qb [0,1,2,3,4,5] rfl (mvV rfl rfl (Vw rfl (KU rfl rfl QbO hav (by omega) (by omega)) (Vw rfl (ldV rfl XV hav (Ext.refl _) (by omega) (by omega)) ?_))))))))
  rw [hgd]
  refine AL rfl wu rfl zv46 ?_
  intro yb wa hEa hYb hyb
  refine Qk rfl rfl (STB (vs := c) (cs' := c) rfl wu rfl rfl rfl QdD nofun hYb hc1 hc5 rfl (by simp [putAt, hc5]) ?_)
  intro wb hgb hXb hYc
  refine Qd (Qa (Qc ?_))
  have hEb := hXb wi hyb hEa
  replace hE := hE.trans hEb
  replace hK := hK.ext hEb
  replace hR := hR.ext hEb
  replace hY := hY.ext hEb
  replace hov := hov.ext hEb
  clear hYb hav
  refine Qx QK [0,1,2,3,4,5,6,7,8,9,10,11,12,13,14] (by kernel_rfl) ?_
  intro wd hd _
  replace hE := hE.trans hd
  replace hK := hK.ext hd
  replace hR := hR.ext hd
  replace hY := hY.ext hd
  replace hov := hov.ext hd
  replace hYc := hYc.ext hd
  refine mvV rfl rfl (mvV rfl rfl (Vw rfl (ldA rfl ag140) ?_))
  refine Vw rfl (ldA rfl XV hYc (by rw [hc5]; rfl)) ?_
  rw [hcx]
  refine Qz rfl rfl fa176_0 (Vw rfl (ldB rfl na9) ?_)
  refine mvV rfl rfl (Vw rfl (ixS (u := i) rfl rfl XQ (by omega) (by omega)) (C rfl wu rfl rfl Tryz.call128 ((harg i (by omega) c u hci hui _ hE)) ?_))
  rintro _ we hEe rfl
  replace hE := hE.trans hEe
  replace hK := hK.ext hEe
  replace hR := hR.ext hEe
  replace hY := hY.ext hEe
  replace hov := hov.ext hEe
  refine mvV rfl rfl (QI rfl rfl rfl (QI rfl rfl rfl (Vw rfl (KU rfl rfl ty178 (OwnV.read hov) (by omega) (by omega)) (STRV (cs := u) rfl wu rfl rfl rfl sv91 hu1 hu10 (by intro h; kernel_rfl) ?_ (ho := hov) (h0 := by omega) (hu := by omega)))))
  intro wf hgf hXf hovf
  refine Qk rfl rfl (Qd (Qa (Qc (Qb [0,1] rfl (mvV rfl rfl (QG rfl rfl rfl (Qd (Qa (Qn rfl (rfl) (Qe (Qg (Qa (Qb [0,1] rfl (Qw rfl rfl rfl ?_))))))))))))))
  refine mvV rfl rfl (Qd (Qi (i + 1) ⟨rfl, rfl, rfl, rfl, rfl, rfl, rfl, trivial⟩ ⟨by omega, hXf w (by omega) hE, hK.grown hgf (fun e => by have := (hov.lt _ e).1; omega), hR.grown hgf (fun e => by have := (hov.lt _ e).1; omega), hY.grown hgf (fun e => by have := (hov.lt _ e).1; omega), ?_⟩ (by omega)))
  rw [Int.toNat_natCast, Kd hvl hc hui] at hovf
  exact hovf
 ·intro hc
  simp at hc
  obtain rfl : i = L.length := by omega
  rw [Nat.sub_self, List.replicate_zero, List.append_nil, ← hvl, List.take_length] at hov
  have hlRi := hR.lt
  refine Qt (Ql (Qm (Qh (Qa (Qc (Qb [0,1,2,3,4,5,6,7] rfl (Qz rfl rfl fa176_1 (Vw rfl (ldB rfl na173) ?_))))))))
  refine mvV rfl rfl (CVX (fs := []) (cs := [.pointer (some ⟨fb, 0, none⟩)]) (vs := [ov]) rfl wu rfl rfl rfl hcall (hfun ov _ hE hov.read) ?_)
  rintro _ w8 hE8 ⟨rc, rfl, hrc, hrc1, hps⟩
  replace hR := hR.ext hE8
  refine QI rfl rfl rfl (QI rfl rfl rfl (STB (vs := rc) (cs' := rc) rfl wu rfl rfl rfl sv91 nofun hR hrc1 hrc rfl (by simp [putAt, hrc, v0]) ?_))
  intro w9 hg9 hX9 hR9
  refine Qk rfl rfl (Qd (Qa (Qq (QJ rfl rfl rfl ag91 hR9 hrc ?_))))
  exact ⟨hX9 w (by omega) (hE.trans hE8), rc, rfl, hrc, hrc1, hΨ2 _ _ _ _ hE.size (hΨ1 _ _ _ _ _ hps hg9 hlRi)⟩
end Go.Proofs.YtcfbigmjjpknfaaGreatDoor
namespace Go.Proofs.YtcfbigmjjpknfaaGreatDoor
open Go Go.Sx Go.Pl Go.RowKit Go.Lib Go.Lg
theorem zv24 : ZV Tryz.prog 24 [.int .i64 0, .int .i64 0, .slice none 0 0] := zeroF
def f2 : List Value := [.int .i64 2, .int .i64 1, .slice none 0 0]
set_option maxRecDepth 20000 in
theorem Qdv (w : World) : Calls Tryz.prog 121 #[.int .i64 2] w (RetX w fun r _ => r = .tuple #[.agg f2.toArray, .int .i64 0]) := by
 refine QL Tryz.func121 rfl rfl (Qc (Qb [0,1] rfl (AL rfl wu rfl zv24 ?_)))
 intro rb w1 hE hR hrb
 refine Qk rfl rfl (Qd (Qa (Qc (Qc (Qb [0,1,2,3,4,5] rfl (mvV rfl rfl (Qy rfl rfl rfl (mvV rfl rfl (KB 10 false rfl (rfl) (Vg rfl rfl rfl (mv rfl) (Vg rfl rfl rfl (Ju rfl rfl) (pkV rfl rfl rfl ?_))))))))))))
 refine Qd (Qa (Qn rfl (rfl) (Qe (Qa (Qc (Qb [0] rfl (Qk rfl rfl (Qd (Qa (Qc (Qf ?_)))))))))))
 refine Qv (fun _ : Unit => [(0, .int .i64 2), (2, .pointer (some ⟨rb, 0, none⟩)), (4, .int .i64 2)]) (fun _ w' => w' = w1) (fun _ => 0) () ⟨rfl, rfl, rfl, trivial⟩ rfl ?_
 rintro _ wa rfl
 try dsimp only
 refine Qc (Qc (Qb [0,1,2,3] rfl (mvV rfl rfl (mvV rfl rfl (Vw rfl (Qbe rfl rfl (by decide) (by decide)) (QG rfl rfl rfl (Qd (Qa (Qn rfl (rfl) (Qt (Ql (Qm (Qh (Qa (Qc (Qb [0] rfl ?_))))))))))))))))
 refine Qk rfl rfl (Qd (Qa (Qc (Qf ?_))))
 refine Qv (fun _ : Unit => [(0, .int .i64 2), (2, .pointer (some ⟨rb, 0, none⟩)), (4, .int .i64 2), (5, .int .i64 1)]) (fun _ w' => w' = wa) (fun _ => 0) () ⟨rfl, rfl, rfl, rfl, trivial⟩ rfl ?_
 rintro _ wb rfl
 try dsimp only
 refine Qc (Qc (Qb [0,1,2,3,4,5,6,7,8] rfl (mvV rfl rfl (mvV rfl rfl (C rfl wu rfl rfl Tryz.call56 (QbH 2 1 _) ?_)))))
 rintro _ w2 hE2 rfl
 rw [show ordZ 2 1 = 2 by decide]
 refine mvV rfl rfl (Qy rfl rfl rfl (mvV rfl rfl (KB 26 false rfl (rfl) (SK rfl rfl rfl rfl rfl (SK rfl rfl rfl rfl rfl (pkV rfl rfl rfl (Qd (Qa (Qn rfl (rfl) (Qt (Ql (Qm (Qh (Qa (Qc (Qc ?_))))))))))))))))
 replace hR := hR.ext hE2
 replace hE := hE.trans hE2
 refine Qb [0,1,2,3,4] rfl (mvV rfl rfl (mvV rfl rfl (C rfl wu rfl rfl Tryz.call56 (QbH 2 1 _) ?_)))
 rintro _ w3 hE3 rfl
 rw [show ordZ 2 1 = 2 by decide]
 refine mvV rfl rfl (QG rfl rfl rfl (Qd (Qa (Qn rfl (rfl) (Qe (Qa (Qc (Qc ?_))))))))
 replace hR := hR.ext hE3
 replace hE := hE.trans hE3
 refine Qb [0,1] rfl (mvV rfl rfl (QU rfl rfl rfl (Qd (Qa (QC rfl (rfl) (Qc (Qb [0,1,2,3] rfl (mvV rfl rfl (Vw rfl (bld rfl (bd24_0_1 _ _ rfl rfl)) (STB (vs := [.int .i64 2, .int .i64 1, .slice none 0 0]) (cs' := [.int .i64 2, .int .i64 1, .slice none 0 0]) rfl wu rfl rfl rfl sv24 nofun (by assumption) (by first | exact oc2 | exact oc3 | exact oc5 | (simp [Value.oneCell']; done)) rfl rfl rfl ?_))))))))))
 intro w4 hg4 hX4 hR4
 refine Qk rfl rfl (Qd (Qa (Qq (Qp (QJ rfl rfl rfl Zf hR4 rfl ?_)))))
 exact ⟨hX4 w (by omega) hE, rfl⟩
end Go.Proofs.YtcfbigmjjpknfaaGreatDoor
