import Derived.Test.YtcfbigmjjpknfaaGreatDoorW21
import Derived.Test.YtcfbigmjjpknfaaGreatDoorW11
namespace Go.Proofs.YtcfbigmjjpknfaaGreatDoor
open Go Go.Sx Go.Pl Go.RowKit Go.Lib
def CallV (v : Value) : Prop := ∃ (s : ByteArray) (f g : Value), v = .agg #[.string s, f, g] ∧ f.oneCell' = true ∧ g.oneCell' = true
def RowC (w : World) (s : ByteArray) (m g r : Value) : Prop := ∃ b, r = .agg #[.string s, .func (.func 259) #[] #[.pointer (some ⟨b, 0, none⟩)], g] ∧ Blk w b 216 #[m]
theorem Blk.neT {w : World} {g g' : Nat} {t t' : TypeId} {cs cs' : Array Value} (h : Blk w g t cs) (h' : Blk w g' t' cs') (hn : Nat.beq t t' = false) : g ≠ g' := by
 rintro rfl
 rw [Blk] at h h'
 rw [h] at h'
 simp only [Option.some.injEq, Obj.cells.injEq] at h'
 rw [h'.2.1] at hn
 simp at hn
theorem Zj (s : ByteArray) (m g : Value) (w : World) (hm : m.oneCell' = true) (hg : g.oneCell' = true) : Calls Tryz.prog 165 #[.string s, m, g] w (RetX w fun r w' => RowC w' s m g r) := by
 have hgc : g.cells = #[g] := by cases g <;> first | rfl | simp [Value.oneCell'] at hg
 refine QS Tryz.func165 rfl rfl (Qc (Qb [0,1] rfl (BXV rfl wu rfl rfl (by first | rfl | assumption) ?_)))
 intro b w1 hE1 hB hb
 refine AL rfl wu rfl XW ?_
 intro rb w2 hE2 hR hrb
 replace hB := hB.ext hE2
 refine Qd (Qa (Qc ?_))
 have hz1 := hE1.size
 refine Qb [0,1,2,3,4] rfl (mvV rfl rfl (Vw rfl (mkf rfl rfl) (mvV rfl rfl (Vw rfl (bld rfl (KQ _ _ _ rfl rfl hgc)) (STB (vs := [.string s, .func (.func 259) #[] #[.pointer (some ⟨b, 0, none⟩)], g]) (cs' := [.string s, .func (.func 259) #[] #[.pointer (some ⟨b, 0, none⟩)], g]) rfl wu rfl rfl rfl XY nofun (by assumption) (by first | exact oc2 | exact oc3 | exact oc5 | (simp [Value.oneCell']; done)) rfl rfl rfl ?_)))))
 intro w3 hg3 hX3 hR3
 refine Qd (Qa (Qq (Zg rfl rfl KT hR3 rfl ?_)))
 have hlt := hB.lt
 have hb2 := Array.getElem?_eq_some_iff.1 hR
 have := hE2.size
 exact ⟨hX3 w (by omega) (hE1.trans hE2), b, rfl, (hg3.block b hlt (by intro e; have h := Option.some.inj e; rw [h] at hlt hB; have := Blk.lt hB; exact absurd hB (by rw [Blk, show w2.heap[rb]? = _ from hR]; intro h; simp at h))).trans hB⟩
theorem Qav (m g : Value) (w : World) (hm : m.oneCell' = true) (hg : g.oneCell' = true) : Calls Tryz.prog 161 #[m, g] w (RetX w fun r w' => CallV r ∧ ∃ b, RowC w' ⟨#[70, 78]⟩ (.func (.func 257) #[] #[.pointer (some ⟨b, 0, none⟩)]) g r ∧ Blk w' b 214 #[m]) := by
 refine QD Tryz.func161 rfl rfl (Qc (Qb [0,1] rfl (BXV rfl wu rfl rfl (by first | rfl | assumption) ?_)))
 intro b w1 hE1 hB hb
 refine AL rfl wu rfl XW ?_
 intro rb w2 hE2 hR hrb
 replace hB := hB.ext hE2
 refine Qd (Qa (Qc ?_))
 have hz1 := hE1.size
 have hz2 := hE2.size
 refine Qb [0,1,2,3] rfl (Vw rfl (mkf rfl rfl) (mvV rfl rfl (C rfl wu rfl rfl Tryz.call165 (Zj ⟨#[70, 78]⟩ _ g _ rfl hg) ?_)))
 rintro _ w3 hE3 ⟨b3, rfl, hB3⟩
 replace hB := hB.ext hE3
 replace hR := hR.ext hE3
 have hlR := hR.lt
 have hlB := hB.lt
 have hl3 := hB3.lt
 have hne3 := Blk.neT hB3 hR (by decide)
 have hneB := Blk.neT hB hR (by decide)
 refine STB (vs := [.string ⟨#[70, 78]⟩, .func (.func 259) #[] #[.pointer (some ⟨b3, 0, none⟩)], g]) (cs' := [.string ⟨#[70, 78]⟩, .func (.func 259) #[] #[.pointer (some ⟨b3, 0, none⟩)], g]) rfl wu rfl rfl rfl XY nofun hR oc3 rfl rfl rfl ?_
 intro w4 hg4 hX4 hR4
 refine Qd (Qa (Qq (Zg rfl rfl KT hR4 rfl ?_)))
 have h3 := (hg4.block b3 hl3 (fun e => hne3 (Option.some.inj e))).trans hB3
 exact ⟨hX4 w (by omega) ((hE1.trans hE2).trans hE3), ⟨_, _, _, rfl, rfl, hg⟩, b, ⟨b3, rfl, h3⟩, (hg4.block b hlB (fun e => hneB (Option.some.inj e))).trans hB⟩
theorem Xv (m g : Value) (w : World) (hm : m.oneCell' = true) (hg : g.oneCell' = true) : Calls Tryz.prog 200 #[m, g] w (RetX w fun r w' => CallV r ∧ ∃ b, RowC w' ⟨#[67]⟩ (.func (.func 281) #[] #[.pointer (some ⟨b, 0, none⟩)]) g r ∧ Blk w' b 234 #[m]) := by
 refine QD Tryz.func200 rfl rfl (Qc (Qb [0,1] rfl (BXV rfl wu rfl rfl (by first | rfl | assumption) ?_)))
 intro b w1 hE1 hB hb
 refine AL rfl wu rfl XW ?_
 intro rb w2 hE2 hR hrb
 replace hB := hB.ext hE2
 refine Qd (Qa (Qc ?_))
 have hz1 := hE1.size
 have hz2 := hE2.size
 refine Qb [0,1,2,3] rfl (Vw rfl (mkf rfl rfl) (mvV rfl rfl (C rfl wu rfl rfl Tryz.call165 (Zj ⟨#[67]⟩ _ g _ rfl hg) ?_)))
 rintro _ w3 hE3 ⟨b3, rfl, hB3⟩
 replace hB := hB.ext hE3
 replace hR := hR.ext hE3
 have hlR := hR.lt
 have hlB := hB.lt
 have hl3 := hB3.lt
 have hne3 := Blk.neT hB3 hR (by decide)
 have hneB := Blk.neT hB hR (by decide)
 refine STB (vs := [.string ⟨#[67]⟩, .func (.func 259) #[] #[.pointer (some ⟨b3, 0, none⟩)], g]) (cs' := [.string ⟨#[67]⟩, .func (.func 259) #[] #[.pointer (some ⟨b3, 0, none⟩)], g]) rfl wu rfl rfl rfl XY nofun hR oc3 rfl rfl rfl ?_
 intro w4 hg4 hX4 hR4
 refine Qd (Qa (Qq (Zg rfl rfl KT hR4 rfl ?_)))
 have h3 := (hg4.block b3 hl3 (fun e => hne3 (Option.some.inj e))).trans hB3
 exact ⟨hX4 w (by omega) ((hE1.trans hE2).trans hE3), ⟨_, _, _, rfl, rfl, hg⟩, b, ⟨b3, rfl, h3⟩, (hg4.block b hlB (fun e => hneB (Option.some.inj e))).trans hB⟩
theorem Qba (m g : Value) (w : World) (hm : m.oneCell' = true) (hg : g.oneCell' = true) : Calls Tryz.prog 204 #[m, g] w (RetX w fun r w' => CallV r ∧ ∃ b, RowC w' ⟨#[67, 76]⟩ (.func (.func 282) #[] #[.pointer (some ⟨b, 0, none⟩)]) g r ∧ Blk w' b 41 #[m]) := by
 refine QD Tryz.func204 rfl rfl (Qc (Qb [0,1] rfl (BXV rfl wu rfl rfl (by first | rfl | assumption) ?_)))
 intro b w1 hE1 hB hb
 refine AL rfl wu rfl XW ?_
 intro rb w2 hE2 hR hrb
 replace hB := hB.ext hE2
 refine Qd (Qa (Qc ?_))
 have hz1 := hE1.size
 have hz2 := hE2.size
 refine Qb [0,1,2,3] rfl (Vw rfl (mkf rfl rfl) (mvV rfl rfl (C rfl wu rfl rfl Tryz.call165 (Zj ⟨#[67, 76]⟩ _ g _ rfl hg) ?_)))
 rintro _ w3 hE3 ⟨b3, rfl, hB3⟩
 replace hB := hB.ext hE3
 replace hR := hR.ext hE3
 have hlR := hR.lt
 have hlB := hB.lt
 have hl3 := hB3.lt
 have hne3 := Blk.neT hB3 hR (by decide)
 have hneB := Blk.neT hB hR (by decide)
 refine STB (vs := [.string ⟨#[67, 76]⟩, .func (.func 259) #[] #[.pointer (some ⟨b3, 0, none⟩)], g]) (cs' := [.string ⟨#[67, 76]⟩, .func (.func 259) #[] #[.pointer (some ⟨b3, 0, none⟩)], g]) rfl wu rfl rfl rfl XY nofun hR oc3 rfl rfl rfl ?_
 intro w4 hg4 hX4 hR4
 refine Qd (Qa (Qq (Zg rfl rfl KT hR4 rfl ?_)))
 have h3 := (hg4.block b3 hl3 (fun e => hne3 (Option.some.inj e))).trans hB3
 exact ⟨hX4 w (by omega) ((hE1.trans hE2).trans hE3), ⟨_, _, _, rfl, rfl, hg⟩, b, ⟨b3, rfl, h3⟩, (hg4.block b hlB (fun e => hneB (Option.some.inj e))).trans hB⟩
theorem cOver (m g : Value) (w : World) (hm : m.oneCell' = true) (hg : g.oneCell' = true) : Calls Tryz.prog 214 #[m, g] w (RetX w fun r w' => CallV r ∧ ∃ b, RowC w' ⟨#[67, 70]⟩ (.func (.func 292) #[] #[.pointer (some ⟨b, 0, none⟩)]) g r ∧ Blk w' b 237 #[m]) := by
 refine QD Tryz.func214 rfl rfl (Qc (Qb [0,1] rfl (BXV rfl wu rfl rfl (by first | rfl | assumption) ?_)))
 intro b w1 hE1 hB hb
 refine AL rfl wu rfl XW ?_
 intro rb w2 hE2 hR hrb
 replace hB := hB.ext hE2
 refine Qd (Qa (Qc ?_))
 have hz1 := hE1.size
 have hz2 := hE2.size
 refine Qb [0,1,2,3] rfl (Vw rfl (mkf rfl rfl) (mvV rfl rfl (C rfl wu rfl rfl Tryz.call165 (Zj ⟨#[67, 70]⟩ _ g _ rfl hg) ?_)))
 rintro _ w3 hE3 ⟨b3, rfl, hB3⟩
 replace hB := hB.ext hE3
 replace hR := hR.ext hE3
 have hlR := hR.lt
 have hlB := hB.lt
 have hl3 := hB3.lt
 have hne3 := Blk.neT hB3 hR (by decide)
 have hneB := Blk.neT hB hR (by decide)
 refine STB (vs := [.string ⟨#[67, 70]⟩, .func (.func 259) #[] #[.pointer (some ⟨b3, 0, none⟩)], g]) (cs' := [.string ⟨#[67, 70]⟩, .func (.func 259) #[] #[.pointer (some ⟨b3, 0, none⟩)], g]) rfl wu rfl rfl rfl XY nofun hR oc3 rfl rfl rfl ?_
 intro w4 hg4 hX4 hR4
 refine Qd (Qa (Qq (Zg rfl rfl KT hR4 rfl ?_)))
 have h3 := (hg4.block b3 hl3 (fun e => hne3 (Option.some.inj e))).trans hB3
 exact ⟨hX4 w (by omega) ((hE1.trans hE2).trans hE3), ⟨_, _, _, rfl, rfl, hg⟩, b, ⟨b3, rfl, h3⟩, (hg4.block b hlB (fun e => hneB (Option.some.inj e))).trans hB⟩
theorem cTwo (m g : Value) (w : World) (hm : m.oneCell' = true) (hg : g.oneCell' = true) : Calls Tryz.prog 221 #[m, g] w (RetX w fun r w' => CallV r ∧ ∃ b, RowC w' ⟨#[67, 67]⟩ (.func (.func 296) #[] #[.pointer (some ⟨b, 0, none⟩)]) g r ∧ Blk w' b 240 #[m]) := by
 refine QD Tryz.func221 rfl rfl (Qc (Qb [0,1] rfl (BXV rfl wu rfl rfl (by first | rfl | assumption) ?_)))
 intro b w1 hE1 hB hb
 refine AL rfl wu rfl XW ?_
 intro rb w2 hE2 hR hrb
 replace hB := hB.ext hE2
 refine Qd (Qa (Qc ?_))
 have hz1 := hE1.size
 have hz2 := hE2.size
 refine Qb [0,1,2,3] rfl (Vw rfl (mkf rfl rfl) (mvV rfl rfl (C rfl wu rfl rfl Tryz.call165 (Zj ⟨#[67, 67]⟩ _ g _ rfl hg) ?_)))
 rintro _ w3 hE3 ⟨b3, rfl, hB3⟩
 replace hB := hB.ext hE3
 replace hR := hR.ext hE3
 have hlR := hR.lt
 have hlB := hB.lt
 have hl3 := hB3.lt
 have hne3 := Blk.neT hB3 hR (by decide)
 have hneB := Blk.neT hB hR (by decide)
 refine STB (vs := [.string ⟨#[67, 67]⟩, .func (.func 259) #[] #[.pointer (some ⟨b3, 0, none⟩)], g]) (cs' := [.string ⟨#[67, 67]⟩, .func (.func 259) #[] #[.pointer (some ⟨b3, 0, none⟩)], g]) rfl wu rfl rfl rfl XY nofun hR oc3 rfl rfl rfl ?_
 intro w4 hg4 hX4 hR4
 refine Qd (Qa (Qq (Zg rfl rfl KT hR4 rfl ?_)))
 have h3 := (hg4.block b3 hl3 (fun e => hne3 (Option.some.inj e))).trans hB3
 exact ⟨hX4 w (by omega) ((hE1.trans hE2).trans hE3), ⟨_, _, _, rfl, rfl, hg⟩, b, ⟨b3, rfl, h3⟩, (hg4.block b hlB (fun e => hneB (Option.some.inj e))).trans hB⟩
end Go.Proofs.YtcfbigmjjpknfaaGreatDoor
namespace Go.Proofs.YtcfbigmjjpknfaaGreatDoor
open Go Go.Sx Go.Pl Go.RowKit Go.Lib
def HAM : ByteArray := ⟨#[104, 97, 109, 109, 105, 110, 103]⟩
theorem Zq : MapST Tryz.prog 183 (.agg #[.string ⟨#[]⟩, .nilFunc, .nilFunc]) :=
 ⟨⟨9, 176, by kernel_rfl, by kernel_rfl, fun w => by simp [zeroValue, typeInfo, inf176]; rfl⟩⟩
def FM (w : World) (b : Nat) (ks : List ByteArray) (o : Option Value) : Prop :=
 ∃ zs, MapS w b zs ∧ zs.map (·.1) = ks ∧ (∀ z ∈ zs, CallV z.2) ∧ (∀ z ∈ zs, z.1 = HAM → o = some z.2)
theorem FM.nil {w : World} {b : Nat} (h : MapS w b []) : FM w b [] none := ⟨[], h, rfl, by simp, by simp⟩
theorem FM.ext {w w' : World} {b : Nat} {ks : List ByteArray} {o : Option Value} (h : FM w b ks o) (hE : Ext w w') : FM w' b ks o := by
 obtain ⟨zs, h1, h2⟩ := h
 exact ⟨zs, h1.ext hE, h2⟩
theorem FM.ne {w : World} {b g : Nat} {t : TypeId} {cs : Array Value} {ks : List ByteArray} {o : Option Value} (h : FM w b ks o) (hB : Blk w g t cs) : g ≠ b := by
 obtain ⟨zs, ⟨es, c, h1, -⟩, -⟩ := h
 rintro rfl
 rw [Blk, h1] at hB
 cases hB
section
variable {P : Program} {N : Nat} {l : Env} {w : World} {ops : Array Oper} {dr : Bool} {Q : Act → World → Prop} {π : List Nat} {i d : Nat} {v : Value} {ty : TypeId} {pos : String} {after : Array Edge} {g : Option (Nat × Bool)}
variable {x y c p : Operand} {T : TypeId} {zv : Value}
theorem INF {b : Nat} {ks : List ByteArray} {o : Option Value} {k : ByteArray} (hi : ops[i]? = some ⟨none, .insert T p x y, ty, pos, after, g⟩) (hw : Wt ops N l g) (hp : ev l p = some (.map (some b))) (hx : ev l x = some (.string k)) (hy : ev l y = some v) (hT : MapST P T zv)
  (htl : dr = true → isTail ops i = true) (hM : FM w b ks o) (hn : ks.all (fun q => !decide (q = k)) = true) (hv : CallV v) (o' : Option Value) (ho : (k = HAM ∧ o' = some v ∧ o = none) ∨ (k ≠ HAM ∧ o' = o))
  (h : ∀ w', w.grownBy w' (some b) → (∀ w0, w0.heap.size ≤ b → Ext w0 w → Ext w0 w') → FM w' b (ks ++ [k]) o' → WR P N ops dr Q π l w') : WR P N ops dr Q (i :: π) l w := by
 obtain ⟨zs, h1, h2, h3, h4⟩ := hM
 have hnone : sget zs k = none := Xj.2 fun z hz e => by
  have hm : z.1 ∈ ks := by rw [← h2]; exact List.mem_map.2 ⟨z, hz, rfl⟩
  have := List.all_eq_true.1 hn _ hm
  simp [e] at this
 refine INS hi hw hp hx hy hT htl h1 hnone fun w' hg hX hM' => h w' hg hX ⟨_, hM', by simp [h2], fun z hz => ?_, fun z hz e => ?_⟩
 ·rcases List.mem_append.1 hz with hz | hz
  ·exact h3 z hz
  ·obtain rfl := List.mem_singleton.1 hz
   exact hv
 ·rcases List.mem_append.1 hz with hz | hz
  ·have h5 := h4 z hz e
   rcases ho with ⟨-, -, ho⟩ | ⟨-, ho⟩
   ·rw [ho] at h5; cases h5
   ·rw [ho, h5]
  ·obtain rfl := List.mem_singleton.1 hz
   rcases ho with ⟨-, ho, -⟩ | ⟨ho, -⟩
   ·exact ho
   ·exact absurd e ho
end
def HamRow (w : World) (r : Value) : Prop := ∃ b b2 f fs cs, r = .agg #[.string ⟨#[70, 78]⟩, .func (.func 259) #[] #[.pointer (some ⟨b, 0, none⟩)], .func f fs cs] ∧
 Blk w b 216 #[.func (.func 257) #[] #[.pointer (some ⟨b2, 0, none⟩)]] ∧ Blk w b2 214 #[.func (.func 170) #[] #[]]
theorem HamRow.ext {w w' : World} {r : Value} (h : HamRow w r) (hE : Ext w w') : HamRow w' r := by
 obtain ⟨b, b2, f, fs, cs, h1, h2, h3⟩ := h
 exact ⟨b, b2, f, fs, cs, h1, h2.ext hE, h3.ext hE⟩
theorem HamRow.kept {w w' : World} {r : Value} {mb : Nat} {ks : List ByteArray} {o : Option Value} (h : HamRow w r) (hM : FM w mb ks o) (hg : w.grownBy w' (some mb)) : HamRow w' r := by
 obtain ⟨b, b2, f, fs, cs, h1, h2, h3⟩ := h
 exact ⟨b, b2, f, fs, cs, h1, (hg.block b h2.lt (fun e => hM.ne h2 (Option.some.inj e))).trans h2, (hg.block b2 h3.lt (fun e => hM.ne h3 (Option.some.inj e))).trans h3⟩
def ksFamilies : List ByteArray := [⟨#[122, 101, 114, 111]⟩, ⟨#[119, 104, 111, 108, 101]⟩, ⟨#[109, 97, 116, 114, 105, 120]⟩, ⟨#[114, 101, 112]⟩, ⟨#[112, 97, 114, 105, 116, 121]⟩, ⟨#[104, 97, 109, 109, 105, 110, 103]⟩, ⟨#[115, 105, 109, 112, 108, 101, 120]⟩, ⟨#[114, 109]⟩, ⟨#[114, 101, 115, 105, 100, 117, 101]⟩, ⟨#[103, 111, 108, 97, 121]⟩]
set_option maxRecDepth 20000 in
theorem cFamilies (w : World) : Calls Tryz.prog 123 #[] w (RetX w fun r w' => ∃ b q, r = .map (some b) ∧ w.heap.size ≤ b ∧ FM w' b ksFamilies (some q) ∧ HamRow w' q) := by
 refine Qau Tryz.func123 rfl (Qc (Qb [0] rfl (Qk rfl rfl (Qd (Qa (Qc (Qb [0] rfl (Qk rfl rfl (Qd (Qa (Qc (Qb [0,1,2,3,4,5,6,7,8,9,10,11,12,13,14,15,16,17,18,19,20,21,22,23] rfl (MMS rfl wu rfl ?_)))))))))))))
 intro mb wm hE hM0 hmb
 have hM := FM.nil hM0
 clear hM0
 refine C rfl wu rfl rfl Tryz.call161 (Qav _ _ _ rfl rfl) ?_
 rintro rn1 wn1 hEn1 ⟨hvn1, -⟩
 replace hM := hM.ext hEn1
 replace hE := hE.trans hEn1
 refine INF (k := ⟨#[122, 101, 114, 111]⟩) rfl wu rfl rfl rfl Zq nofun hM (by decide +kernel) hvn1 _ (.inr ⟨by decide +kernel, rfl⟩) ?_
 intro wkn1 hgkn1 hXkn1 hMkn1
 replace hM := hMkn1
 replace hE := hXkn1 w hmb hE
 refine C rfl wu rfl rfl Tryz.call161 (Qav _ _ _ rfl rfl) ?_
 rintro rn2 wn2 hEn2 ⟨hvn2, -⟩
 replace hM := hM.ext hEn2
 replace hE := hE.trans hEn2
 refine INF (k := ⟨#[119, 104, 111, 108, 101]⟩) rfl wu rfl rfl rfl Zq nofun hM (by decide +kernel) hvn2 _ (.inr ⟨by decide +kernel, rfl⟩) ?_
 intro wkn2 hgkn2 hXkn2 hMkn2
 replace hM := hMkn2
 replace hE := hXkn2 w hmb hE
 refine C rfl wu rfl rfl Tryz.call165 (Zj ⟨#[70, 78, 76]⟩ _ _ _ rfl rfl) ?_
 rintro _ wn3 hEn3 ⟨cn3, rfl, -⟩
 replace hM := hM.ext hEn3
 replace hE := hE.trans hEn3
 refine INF (k := ⟨#[109, 97, 116, 114, 105, 120]⟩) rfl wu rfl rfl rfl Zq nofun hM (by decide +kernel) ⟨_, _, _, rfl, rfl, rfl⟩ _ (.inr ⟨by decide +kernel, rfl⟩) ?_
 intro wkn3 hgkn3 hXkn3 hMkn3
 replace hM := hMkn3
 replace hE := hXkn3 w hmb hE
 refine mvV rfl rfl (C rfl wu rfl rfl Tryz.call161 (Qav _ _ _ rfl rfl) ?_)
 rintro rn4 wn4 hEn4 ⟨hvn4, -⟩
 replace hM := hM.ext hEn4
 replace hE := hE.trans hEn4
 refine INF (k := ⟨#[114, 101, 112]⟩) rfl wu rfl rfl rfl Zq nofun hM (by decide +kernel) hvn4 _ (.inr ⟨by decide +kernel, rfl⟩) ?_
 intro wkn4 hgkn4 hXkn4 hMkn4
 replace hM := hMkn4
 replace hE := hXkn4 w hmb hE
 refine C rfl wu rfl rfl Tryz.call161 (Qav _ _ _ rfl rfl) ?_
 rintro rn5 wn5 hEn5 ⟨hvn5, -⟩
 replace hM := hM.ext hEn5
 replace hE := hE.trans hEn5
 refine INF (k := ⟨#[112, 97, 114, 105, 116, 121]⟩) rfl wu rfl rfl rfl Zq nofun hM (by decide +kernel) hvn5 _ (.inr ⟨by decide +kernel, rfl⟩) ?_
 intro wkn5 hgkn5 hXkn5 hMkn5
 replace hM := hMkn5
 replace hE := hXkn5 w hmb hE
 refine C rfl wu rfl rfl Tryz.call161 (Qav _ _ _ rfl rfl) ?_
 rintro rn6 wn6 hEn6 ⟨hvn6, dn6, ⟨cn6, hrn6, hbn6⟩, hdn6⟩
 replace hM := hM.ext hEn6
 replace hE := hE.trans hEn6
 have hH : HamRow wn6 rn6 := ⟨cn6, dn6, _, _, _, hrn6, hbn6, hdn6⟩
 refine INF (k := ⟨#[104, 97, 109, 109, 105, 110, 103]⟩) rfl wu rfl rfl rfl Zq nofun hM (by decide +kernel) hvn6 _ (.inl ⟨rfl, rfl, rfl⟩) ?_
 intro wkn6 hgkn6 hXkn6 hMkn6
 replace hH := hH.kept hM hgkn6
 replace hM := hMkn6
 replace hE := hXkn6 w hmb hE
 refine C rfl wu rfl rfl Tryz.call161 (Qav _ _ _ rfl rfl) ?_
 rintro rn7 wn7 hEn7 ⟨hvn7, -⟩
 replace hM := hM.ext hEn7
 replace hE := hE.trans hEn7
 replace hH := hH.ext hEn7
 refine INF (k := ⟨#[115, 105, 109, 112, 108, 101, 120]⟩) rfl wu rfl rfl rfl Zq nofun hM (by decide +kernel) hvn7 _ (.inr ⟨by decide +kernel, rfl⟩) ?_
 intro wkn7 hgkn7 hXkn7 hMkn7
 replace hH := hH.kept hM hgkn7
 replace hM := hMkn7
 replace hE := hXkn7 w hmb hE
 refine C rfl wu rfl rfl Tryz.call165 (Zj ⟨#[78, 78]⟩ _ _ _ rfl rfl) ?_
 rintro _ wn8 hEn8 ⟨cn8, rfl, -⟩
 replace hM := hM.ext hEn8
 replace hE := hE.trans hEn8
 replace hH := hH.ext hEn8
 refine INF (k := ⟨#[114, 109]⟩) rfl wu rfl rfl rfl Zq nofun hM (by decide +kernel) ⟨_, _, _, rfl, rfl, rfl⟩ _ (.inr ⟨by decide +kernel, rfl⟩) ?_
 intro wkn8 hgkn8 hXkn8 hMkn8
 replace hH := hH.kept hM hgkn8
 replace hM := hMkn8
 replace hE := hXkn8 w hmb hE
 refine C rfl wu rfl rfl Tryz.call165 (Zj ⟨#[78]⟩ _ _ _ rfl rfl) ?_
 rintro _ wn9 hEn9 ⟨cn9, rfl, -⟩
 replace hM := hM.ext hEn9
 replace hE := hE.trans hEn9
 replace hH := hH.ext hEn9
 refine INF (k := ⟨#[114, 101, 115, 105, 100, 117, 101]⟩) rfl wu rfl rfl rfl Zq nofun hM (by decide +kernel) ⟨_, _, _, rfl, rfl, rfl⟩ _ (.inr ⟨by decide +kernel, rfl⟩) ?_
 intro wkn9 hgkn9 hXkn9 hMkn9
 replace hH := hH.kept hM hgkn9
 replace hM := hMkn9
 replace hE := hXkn9 w hmb hE
 refine C rfl wu rfl rfl Tryz.call165 (Zj ⟨#[78]⟩ _ _ _ rfl rfl) ?_
 rintro _ wn10 hEn10 ⟨cn10, rfl, -⟩
 replace hM := hM.ext hEn10
 replace hE := hE.trans hEn10
 replace hH := hH.ext hEn10
 refine INF (k := ⟨#[103, 111, 108, 97, 121]⟩) rfl wu rfl rfl rfl Zq nofun hM (by decide +kernel) ⟨_, _, _, rfl, rfl, rfl⟩ _ (.inr ⟨by decide +kernel, rfl⟩) ?_
 intro wkn10 hgkn10 hXkn10 hMkn10
 replace hH := hH.kept hM hgkn10
 replace hM := hMkn10
 replace hE := hXkn10 w hmb hE
 refine mvV rfl rfl (Qk rfl rfl (Qd (Qa (Qq (Qj rfl rfl ?_)))))
 exact ⟨hE, mb, _, rfl, hmb, hM, hH⟩
def ksModified : List ByteArray := [⟨#[100, 117, 97, 108]⟩, ⟨#[104, 117, 108, 108]⟩, ⟨#[112, 117, 110, 99, 116, 117, 114, 101]⟩, ⟨#[115, 104, 111, 114, 116, 101, 110]⟩, ⟨#[115, 117, 98, 99, 111, 100, 101]⟩, ⟨#[112, 101, 114, 109, 117, 116, 101]⟩, ⟨#[101, 120, 112, 117, 114, 103, 97, 116, 101]⟩, ⟨#[97, 117, 103, 109, 101, 110, 116]⟩, ⟨#[101, 120, 116, 101, 110, 100]⟩, ⟨#[115, 117, 98, 102, 105, 101, 108, 100]⟩, ⟨#[116, 114, 97, 99, 101]⟩, ⟨#[108, 105, 102, 116]⟩, ⟨#[105, 110, 116, 101, 114, 108, 101, 97, 118, 101]⟩]
set_option maxRecDepth 20000 in
theorem cModified (w : World) : Calls Tryz.prog 125 #[] w (RetX w fun r w' => ∃ b, r = .map (some b) ∧ w.heap.size ≤ b ∧ FM w' b ksModified none) := by
 refine Qau Tryz.func125 rfl (Qc (Qb [0] rfl (Qk rfl rfl (Qd (Qa (Qc (Qb [0,1,2,3,4,5,6,7,8,9,10,11,12,13,14,15,16,17,18,19,20,21,22,23,24,25,26,27,28] rfl (MMS rfl wu rfl ?_))))))))
 intro mb wm hE hM0 hmb
 have hM := FM.nil hM0
 clear hM0
 refine C rfl wu rfl rfl Tryz.call200 (Xv _ _ _ rfl rfl) ?_
 rintro rn1 wn1 hEn1 ⟨hvn1, -⟩
 replace hM := hM.ext hEn1
 replace hE := hE.trans hEn1
 refine INF (k := ⟨#[100, 117, 97, 108]⟩) rfl wu rfl rfl rfl Zq nofun hM (by decide +kernel) hvn1 _ (.inr ⟨by decide +kernel, rfl⟩) ?_
 intro wkn1 hgkn1 hXkn1 hMkn1
 replace hM := hMkn1
 replace hE := hXkn1 w hmb hE
 refine C rfl wu rfl rfl Tryz.call200 (Xv _ _ _ rfl rfl) ?_
 rintro rn2 wn2 hEn2 ⟨hvn2, -⟩
 replace hM := hM.ext hEn2
 replace hE := hE.trans hEn2
 refine INF (k := ⟨#[104, 117, 108, 108]⟩) rfl wu rfl rfl rfl Zq nofun hM (by decide +kernel) hvn2 _ (.inr ⟨by decide +kernel, rfl⟩) ?_
 intro wkn2 hgkn2 hXkn2 hMkn2
 replace hM := hMkn2
 replace hE := hXkn2 w hmb hE
 refine C rfl wu rfl rfl Tryz.call204 (Qba _ _ _ rfl rfl) ?_
 rintro rn3 wn3 hEn3 ⟨hvn3, -⟩
 replace hM := hM.ext hEn3
 replace hE := hE.trans hEn3
 refine INF (k := ⟨#[112, 117, 110, 99, 116, 117, 114, 101]⟩) rfl wu rfl rfl rfl Zq nofun hM (by decide +kernel) hvn3 _ (.inr ⟨by decide +kernel, rfl⟩) ?_
 intro wkn3 hgkn3 hXkn3 hMkn3
 replace hM := hMkn3
 replace hE := hXkn3 w hmb hE
 refine C rfl wu rfl rfl Tryz.call204 (Qba _ _ _ rfl rfl) ?_
 rintro rn4 wn4 hEn4 ⟨hvn4, -⟩
 replace hM := hM.ext hEn4
 replace hE := hE.trans hEn4
 refine INF (k := ⟨#[115, 104, 111, 114, 116, 101, 110]⟩) rfl wu rfl rfl rfl Zq nofun hM (by decide +kernel) hvn4 _ (.inr ⟨by decide +kernel, rfl⟩) ?_
 intro wkn4 hgkn4 hXkn4 hMkn4
 replace hM := hMkn4
 replace hE := hXkn4 w hmb hE
 refine C rfl wu rfl rfl Tryz.call204 (Qba _ _ _ rfl rfl) ?_
 rintro rn5 wn5 hEn5 ⟨hvn5, -⟩
 replace hM := hM.ext hEn5
 replace hE := hE.trans hEn5
 refine INF (k := ⟨#[115, 117, 98, 99, 111, 100, 101]⟩) rfl wu rfl rfl rfl Zq nofun hM (by decide +kernel) hvn5 _ (.inr ⟨by decide +kernel, rfl⟩) ?_
 intro wkn5 hgkn5 hXkn5 hMkn5
 replace hM := hMkn5
 replace hE := hXkn5 w hmb hE
 refine C rfl wu rfl rfl Tryz.call204 (Qba _ _ _ rfl rfl) ?_
 rintro rn6 wn6 hEn6 ⟨hvn6, -⟩
 replace hM := hM.ext hEn6
 replace hE := hE.trans hEn6
 refine INF (k := ⟨#[112, 101, 114, 109, 117, 116, 101]⟩) rfl wu rfl rfl rfl Zq nofun hM (by decide +kernel) hvn6 _ (.inr ⟨by decide +kernel, rfl⟩) ?_
 intro wkn6 hgkn6 hXkn6 hMkn6
 replace hM := hMkn6
 replace hE := hXkn6 w hmb hE
 refine C rfl wu rfl rfl Tryz.call200 (Xv _ _ _ rfl rfl) ?_
 rintro rn7 wn7 hEn7 ⟨hvn7, -⟩
 replace hM := hM.ext hEn7
 replace hE := hE.trans hEn7
 refine INF (k := ⟨#[101, 120, 112, 117, 114, 103, 97, 116, 101]⟩) rfl wu rfl rfl rfl Zq nofun hM (by decide +kernel) hvn7 _ (.inr ⟨by decide +kernel, rfl⟩) ?_
 intro wkn7 hgkn7 hXkn7 hMkn7
 replace hM := hMkn7
 replace hE := hXkn7 w hmb hE
 refine C rfl wu rfl rfl Tryz.call200 (Xv _ _ _ rfl rfl) ?_
 rintro rn8 wn8 hEn8 ⟨hvn8, -⟩
 replace hM := hM.ext hEn8
 replace hE := hE.trans hEn8
 refine INF (k := ⟨#[97, 117, 103, 109, 101, 110, 116]⟩) rfl wu rfl rfl rfl Zq nofun hM (by decide +kernel) hvn8 _ (.inr ⟨by decide +kernel, rfl⟩) ?_
 intro wkn8 hgkn8 hXkn8 hMkn8
 replace hM := hMkn8
 replace hE := hXkn8 w hmb hE
 refine C rfl wu rfl rfl Tryz.call200 (Xv _ _ _ rfl rfl) ?_
 rintro rn9 wn9 hEn9 ⟨hvn9, -⟩
 replace hM := hM.ext hEn9
 replace hE := hE.trans hEn9
 refine INF (k := ⟨#[101, 120, 116, 101, 110, 100]⟩) rfl wu rfl rfl rfl Zq nofun hM (by decide +kernel) hvn9 _ (.inr ⟨by decide +kernel, rfl⟩) ?_
 intro wkn9 hgkn9 hXkn9 hMkn9
 replace hM := hMkn9
 replace hE := hXkn9 w hmb hE
 refine C rfl wu rfl rfl Tryz.call214 (cOver _ _ _ rfl rfl) ?_
 rintro rn10 wn10 hEn10 ⟨hvn10, -⟩
 replace hM := hM.ext hEn10
 replace hE := hE.trans hEn10
 refine INF (k := ⟨#[115, 117, 98, 102, 105, 101, 108, 100]⟩) rfl wu rfl rfl rfl Zq nofun hM (by decide +kernel) hvn10 _ (.inr ⟨by decide +kernel, rfl⟩) ?_
 intro wkn10 hgkn10 hXkn10 hMkn10
 replace hM := hMkn10
 replace hE := hXkn10 w hmb hE
 refine C rfl wu rfl rfl Tryz.call214 (cOver _ _ _ rfl rfl) ?_
 rintro rn11 wn11 hEn11 ⟨hvn11, -⟩
 replace hM := hM.ext hEn11
 replace hE := hE.trans hEn11
 refine INF (k := ⟨#[116, 114, 97, 99, 101]⟩) rfl wu rfl rfl rfl Zq nofun hM (by decide +kernel) hvn11 _ (.inr ⟨by decide +kernel, rfl⟩) ?_
 intro wkn11 hgkn11 hXkn11 hMkn11
 replace hM := hMkn11
 replace hE := hXkn11 w hmb hE
 refine C rfl wu rfl rfl Tryz.call214 (cOver _ _ _ rfl rfl) ?_
 rintro rn12 wn12 hEn12 ⟨hvn12, -⟩
 replace hM := hM.ext hEn12
 replace hE := hE.trans hEn12
 refine INF (k := ⟨#[108, 105, 102, 116]⟩) rfl wu rfl rfl rfl Zq nofun hM (by decide +kernel) hvn12 _ (.inr ⟨by decide +kernel, rfl⟩) ?_
 intro wkn12 hgkn12 hXkn12 hMkn12
 replace hM := hMkn12
 replace hE := hXkn12 w hmb hE
 refine C rfl wu rfl rfl Tryz.call165 (Zj ⟨#[67, 78]⟩ _ _ _ rfl rfl) ?_
 rintro _ wn13 hEn13 ⟨cn13, rfl, -⟩
 replace hM := hM.ext hEn13
 replace hE := hE.trans hEn13
 refine INF (k := ⟨#[105, 110, 116, 101, 114, 108, 101, 97, 118, 101]⟩) rfl wu rfl rfl rfl Zq nofun hM (by decide +kernel) ⟨_, _, _, rfl, rfl, rfl⟩ _ (.inr ⟨by decide +kernel, rfl⟩) ?_
 intro wkn13 hgkn13 hXkn13 hMkn13
 replace hM := hMkn13
 replace hE := hXkn13 w hmb hE
 refine mvV rfl rfl (Qk rfl rfl (Qd (Qa (Qq (Qj rfl rfl ?_)))))
 exact ⟨hE, mb, rfl, hmb, hM⟩
def ksCombined : List ByteArray := [⟨#[106, 111, 105, 110]⟩, ⟨#[109, 101, 101, 116]⟩, ⟨#[115, 117, 109]⟩, ⟨#[112, 108, 111, 116, 107, 105, 110]⟩, ⟨#[106, 117, 120, 116, 97, 112, 111, 115, 101]⟩, ⟨#[112, 114, 111, 100, 117, 99, 116]⟩, ⟨#[99, 111, 110, 99, 97, 116]⟩, ⟨#[120]⟩]
set_option maxRecDepth 20000 in
theorem cCombined (w : World) : Calls Tryz.prog 126 #[] w (RetX w fun r w' => ∃ b, r = .map (some b) ∧ w.heap.size ≤ b ∧ FM w' b ksCombined none) := by
 refine Qau Tryz.func126 rfl (Qc (Qb [0] rfl (Qk rfl rfl (Qd (Qa (Qc (Qb [0] rfl (Qk rfl rfl (Qd (Qa (Qc (Qb [0,1,2,3,4,5,6,7,8,9,10,11,12,13,14,15,16,17,18,19,20] rfl (MMS rfl wu rfl ?_)))))))))))))
 intro mb wm hE hM0 hmb
 have hM := FM.nil hM0
 clear hM0
 refine C rfl wu rfl rfl Tryz.call221 (cTwo _ _ _ rfl rfl) ?_
 rintro rn1 wn1 hEn1 ⟨hvn1, -⟩
 replace hM := hM.ext hEn1
 replace hE := hE.trans hEn1
 refine INF (k := ⟨#[106, 111, 105, 110]⟩) rfl wu rfl rfl rfl Zq nofun hM (by decide +kernel) hvn1 _ (.inr ⟨by decide +kernel, rfl⟩) ?_
 intro wkn1 hgkn1 hXkn1 hMkn1
 replace hM := hMkn1
 replace hE := hXkn1 w hmb hE
 refine C rfl wu rfl rfl Tryz.call221 (cTwo _ _ _ rfl rfl) ?_
 rintro rn2 wn2 hEn2 ⟨hvn2, -⟩
 replace hM := hM.ext hEn2
 replace hE := hE.trans hEn2
 refine INF (k := ⟨#[109, 101, 101, 116]⟩) rfl wu rfl rfl rfl Zq nofun hM (by decide +kernel) hvn2 _ (.inr ⟨by decide +kernel, rfl⟩) ?_
 intro wkn2 hgkn2 hXkn2 hMkn2
 replace hM := hMkn2
 replace hE := hXkn2 w hmb hE
 refine C rfl wu rfl rfl Tryz.call221 (cTwo _ _ _ rfl rfl) ?_
 rintro rn3 wn3 hEn3 ⟨hvn3, -⟩
 replace hM := hM.ext hEn3
 replace hE := hE.trans hEn3
 refine INF (k := ⟨#[115, 117, 109]⟩) rfl wu rfl rfl rfl Zq nofun hM (by decide +kernel) hvn3 _ (.inr ⟨by decide +kernel, rfl⟩) ?_
 intro wkn3 hgkn3 hXkn3 hMkn3
 replace hM := hMkn3
 replace hE := hXkn3 w hmb hE
 refine C rfl wu rfl rfl Tryz.call221 (cTwo _ _ _ rfl rfl) ?_
 rintro rn4 wn4 hEn4 ⟨hvn4, -⟩
 replace hM := hM.ext hEn4
 replace hE := hE.trans hEn4
 refine INF (k := ⟨#[112, 108, 111, 116, 107, 105, 110]⟩) rfl wu rfl rfl rfl Zq nofun hM (by decide +kernel) hvn4 _ (.inr ⟨by decide +kernel, rfl⟩) ?_
 intro wkn4 hgkn4 hXkn4 hMkn4
 replace hM := hMkn4
 replace hE := hXkn4 w hmb hE
 refine C rfl wu rfl rfl Tryz.call221 (cTwo _ _ _ rfl rfl) ?_
 rintro rn5 wn5 hEn5 ⟨hvn5, -⟩
 replace hM := hM.ext hEn5
 replace hE := hE.trans hEn5
 refine INF (k := ⟨#[106, 117, 120, 116, 97, 112, 111, 115, 101]⟩) rfl wu rfl rfl rfl Zq nofun hM (by decide +kernel) hvn5 _ (.inr ⟨by decide +kernel, rfl⟩) ?_
 intro wkn5 hgkn5 hXkn5 hMkn5
 replace hM := hMkn5
 replace hE := hXkn5 w hmb hE
 refine mvV rfl rfl (C rfl wu rfl rfl Tryz.call221 (cTwo _ _ _ rfl rfl) ?_)
 rintro rn6 wn6 hEn6 ⟨hvn6, -⟩
 replace hM := hM.ext hEn6
 replace hE := hE.trans hEn6
 refine INF (k := ⟨#[112, 114, 111, 100, 117, 99, 116]⟩) rfl wu rfl rfl rfl Zq nofun hM (by decide +kernel) hvn6 _ (.inr ⟨by decide +kernel, rfl⟩) ?_
 intro wkn6 hgkn6 hXkn6 hMkn6
 replace hM := hMkn6
 replace hE := hXkn6 w hmb hE
 refine mvV rfl rfl (C rfl wu rfl rfl Tryz.call165 (Zj ⟨#[67, 67, 76]⟩ _ _ _ rfl rfl) ?_)
 rintro _ wn7 hEn7 ⟨cn7, rfl, -⟩
 replace hM := hM.ext hEn7
 replace hE := hE.trans hEn7
 refine INF (k := ⟨#[99, 111, 110, 99, 97, 116]⟩) rfl wu rfl rfl rfl Zq nofun hM (by decide +kernel) ⟨_, _, _, rfl, rfl, rfl⟩ _ (.inr ⟨by decide +kernel, rfl⟩) ?_
 intro wkn7 hgkn7 hXkn7 hMkn7
 replace hM := hMkn7
 replace hE := hXkn7 w hmb hE
 refine C rfl wu rfl rfl Tryz.call165 (Zj ⟨#[67, 67, 67]⟩ _ _ _ rfl rfl) ?_
 rintro _ wn8 hEn8 ⟨cn8, rfl, -⟩
 replace hM := hM.ext hEn8
 replace hE := hE.trans hEn8
 refine INF (k := ⟨#[120]⟩) rfl wu rfl rfl rfl Zq nofun hM (by decide +kernel) ⟨_, _, _, rfl, rfl, rfl⟩ _ (.inr ⟨by decide +kernel, rfl⟩) ?_
 intro wkn8 hgkn8 hXkn8 hMkn8
 replace hM := hMkn8
 replace hE := hXkn8 w hmb hE
 refine mvV rfl rfl (Qk rfl rfl (Qd (Qa (Qq (Qj rfl rfl ?_)))))
 exact ⟨hE, mb, rfl, hmb, hM⟩
def ksAlgebraic : List ByteArray := [⟨#[99, 121, 99, 108, 105, 99]⟩, ⟨#[98, 99, 104]⟩, ⟨#[114, 115]⟩, ⟨#[103, 114, 115]⟩, ⟨#[97, 108, 116, 101, 114, 110, 97, 110, 116]⟩, ⟨#[103, 111, 112, 112, 97]⟩]
theorem inf222 : Tryz.prog.info? 222 = some Tryz.t222 := by kernel_rfl
theorem sv222 : ∀ w, (sizeOf 222).run Tryz.prog w = .ok 1 w := fun w => by simp [sizeOf, typeInfo, inf222]; rfl
theorem zv222 : ZV Tryz.prog 222 [.nilFunc] := fun w => ⟨_, by simp [zeroValue, typeInfo, inf222]; rfl, rfl⟩
set_option maxRecDepth 20000 in
theorem Qdx (w : World) : Calls Tryz.prog 124 #[] w (RetX w fun r w' => ∃ b, r = .map (some b) ∧ w.heap.size ≤ b ∧ FM w' b ksAlgebraic none) := by
 refine Qau Tryz.func124 rfl (Qc (Qb [0] rfl (Qk rfl rfl (Qd (Qa (Qc (Qb [0,1] rfl (AL rfl wu rfl zv222 ?_))))))))
 intro gb w1 hE1 hG hgb
 refine STV rfl wu rfl rfl sv222 nofun hG rfl ?_
 intro w2 hg2 hX2 hG2
 refine Qd (Qa (Qc ?_))
 have hE2 := hX2 w hgb hE1
 have hz2 := hE2.size
 refine Qb [0,1,2,3,4,5,6,7,8,9,10,11,12,13,14,15,16] rfl (MMS rfl wu rfl ?_)
 intro mb wm hE hM0 hmb
 have hM := FM.nil hM0
 clear hM0
 replace hE := hE2.trans hE
 replace hmb : w.heap.size ≤ mb := by omega
 refine C rfl wu rfl rfl Tryz.call165 (Zj ⟨#[70, 78, 76]⟩ _ _ _ rfl rfl) ?_
 rintro _ wn0 hEn0 ⟨cn0, rfl, -⟩
 replace hM := hM.ext hEn0
 replace hE := hE.trans hEn0
 refine INF (k := ⟨#[99, 121, 99, 108, 105, 99]⟩) rfl wu rfl rfl rfl Zq nofun hM (by decide +kernel) ⟨_, _, _, rfl, rfl, rfl⟩ _ (.inr ⟨by decide +kernel, rfl⟩) ?_
 intro wkn0 hgkn0 hXkn0 hMkn0
 replace hM := hMkn0
 replace hE := hXkn0 w hmb hE
 refine C rfl wu rfl rfl Tryz.call165 (Zj ⟨#[70, 70, 78, 78, 78]⟩ _ _ _ rfl rfl) ?_
 rintro _ wn1 hEn1 ⟨cn1, rfl, -⟩
 replace hM := hM.ext hEn1
 replace hE := hE.trans hEn1
 refine INF (k := ⟨#[98, 99, 104]⟩) rfl wu rfl rfl rfl Zq nofun hM (by decide +kernel) ⟨_, _, _, rfl, rfl, rfl⟩ _ (.inr ⟨by decide +kernel, rfl⟩) ?_
 intro wkn1 hgkn1 hXkn1 hMkn1
 replace hM := hMkn1
 replace hE := hXkn1 w hmb hE
 refine C rfl wu rfl rfl Tryz.call165 (Zj ⟨#[70, 78, 78]⟩ _ _ _ rfl rfl) ?_
 rintro _ wn2 hEn2 ⟨cn2, rfl, -⟩
 replace hM := hM.ext hEn2
 replace hE := hE.trans hEn2
 refine INF (k := ⟨#[114, 115]⟩) rfl wu rfl rfl rfl Zq nofun hM (by decide +kernel) ⟨_, _, _, rfl, rfl, rfl⟩ _ (.inr ⟨by decide +kernel, rfl⟩) ?_
 intro wkn2 hgkn2 hXkn2 hMkn2
 replace hM := hMkn2
 replace hE := hXkn2 w hmb hE
 refine C rfl wu rfl rfl Tryz.call165 (Zj ⟨#[70, 78, 76, 76]⟩ _ _ _ rfl rfl) ?_
 rintro _ wn3 hEn3 ⟨cn3, rfl, -⟩
 replace hM := hM.ext hEn3
 replace hE := hE.trans hEn3
 refine INF (k := ⟨#[103, 114, 115]⟩) rfl wu rfl rfl rfl Zq nofun hM (by decide +kernel) ⟨_, _, _, rfl, rfl, rfl⟩ _ (.inr ⟨by decide +kernel, rfl⟩) ?_
 intro wkn3 hgkn3 hXkn3 hMkn3
 replace hM := hMkn3
 replace hE := hXkn3 w hmb hE
 refine C rfl wu rfl rfl Tryz.call165 (Zj ⟨#[70, 70, 78, 76, 76]⟩ _ _ _ rfl rfl) ?_
 rintro _ wn4 hEn4 ⟨cn4, rfl, -⟩
 replace hM := hM.ext hEn4
 replace hE := hE.trans hEn4
 refine INF (k := ⟨#[97, 108, 116, 101, 114, 110, 97, 110, 116]⟩) rfl wu rfl rfl rfl Zq nofun hM (by decide +kernel) ⟨_, _, _, rfl, rfl, rfl⟩ _ (.inr ⟨by decide +kernel, rfl⟩) ?_
 intro wkn4 hgkn4 hXkn4 hMkn4
 replace hM := hMkn4
 replace hE := hXkn4 w hmb hE
 refine Vw rfl (mkf rfl rfl) (Vw rfl (mkf rfl rfl) (C rfl wu rfl rfl Tryz.call165 (Zj ⟨#[70, 70, 76, 76]⟩ _ _ _ rfl rfl) ?_))
 rintro _ wn5 hEn5 ⟨cn5, rfl, -⟩
 replace hM := hM.ext hEn5
 replace hE := hE.trans hEn5
 refine INF (k := ⟨#[103, 111, 112, 112, 97]⟩) rfl wu rfl rfl rfl Zq nofun hM (by decide +kernel) ⟨_, _, _, rfl, rfl, rfl⟩ _ (.inr ⟨by decide +kernel, rfl⟩) ?_
 intro wkn5 hgkn5 hXkn5 hMkn5
 replace hM := hMkn5
 replace hE := hXkn5 w hmb hE
 refine mvV rfl rfl (Qk rfl rfl (Qd (Qa (Qq (Qj rfl rfl ?_)))))
 exact ⟨hE, mb, rfl, hmb, hM⟩
end Go.Proofs.YtcfbigmjjpknfaaGreatDoor
namespace Go.Sx
open Go Go.RowKit Go.Pl Go.MapKept Go.ChangeMaps
theorem RowsV.cellsAt {w : World} {v : Value} {s : Nat} {L : List (List Value)} (h : RowsV w v s L) (hL : 0 < L.length) (hs : 0 < s) {k : Nat} (hk : v.ownBlock = some k) : ∃ a b c, w.heap[k]? = some (.cells a b c) := by
 obtain ⟨⟨a, c, hv, h2, h3⟩, h4, h5⟩ := h
 obtain ⟨ad, rfl, hc⟩ := h3 hL
 have hlen : 0 < (flatV L).length := by
  rw [flatV, ZD h4]
  exact Nat.mul_pos hL hs
 have h0 := hc 0 _ (List.getElem?_eq_getElem hlen)
 have hb : (ad.add 0).block = ad.block := by unfold Addr.add; split <;> rfl
 have hk' : ad.block = k := by rw [hv] at hk; exact Option.some.inj hk
 unfold World.cell? at h0
 rw [hb, hk'] at h0
 cases hx : w.heap[k]? with
 | none => simp [hx] at h0
 | some o =>
  cases o with
  | cells a b c => exact ⟨a, b, c, rfl⟩
  | _ => simp [hx] at h0
theorem RowsV.neM {w : World} {v : Value} {s : Nat} {L : List (List Value)} (h : RowsV w v s L) (hL : 0 < L.length) (hs : 0 < s) {b : Nat} {zs : List SE} (hM : MapS w b zs) : v.ownBlock ≠ some b := fun e => by
 obtain ⟨x, y, z, h1⟩ := h.cellsAt hL hs e
 obtain ⟨es, c, h2, -⟩ := hM
 rw [h1] at h2
 cases h2
theorem RowsV.neI {w : World} {v : Value} {s : Nat} {L : List (List Value)} (h : RowsV w v s L) (hL : 0 < L.length) (hs : 0 < s) {r b : Nat} {zs lf : List SE} (hI : ItM w r b zs lf) : v.ownBlock ≠ some r := fun e => by
 obtain ⟨x, y, z, h1⟩ := h.cellsAt hL hs e
 obtain ⟨es, clock, since, seen, c0, h2, h3, h4, h5, h6⟩ := hI
 rw [h1] at h5
 cases h5
theorem Blk.neM {w : World} {g : Nat} {t : TypeId} {cs : Array Value} (h : Blk w g t cs) {b : Nat} {zs : List SE} (hM : MapS w b zs) : g ≠ b := by
 obtain ⟨es, c, h2, -⟩ := hM
 rintro rfl
 rw [Blk, h2] at h
 cases h
theorem ItM.neM {w : World} {r b m : Nat} {zs lf ms : List SE} (h : ItM w r b zs lf) (hM : MapS w m ms) : r ≠ m := by
 obtain ⟨es, clock, since, seen, c0, h2, h3, h4, h5, h6⟩ := h
 obtain ⟨es', c, h7, -⟩ := hM
 rintro rfl
 rw [h5] at h7
 cases h7
theorem fill_two3 {cells : Array Value} {a b c d e f : Value} (hc : cells.size = 6) : Instr.fill (fun i => some (i * 3, 3)) cells [(0, .agg #[a, b, c]), (1, .agg #[d, e, f])] = some #[a, b, c, d, e, f] := by
 obtain ⟨l⟩ := cells
 match l, hc with
 | [x0, x1, x2, x3, x4, x5], _ => rfl
section
variable {P : Program} {N : Nat} {l : Env} {w : World} {ops : Array Oper} {dr : Bool} {Q : Act → World → Prop} {π : List Nat} {i d : Nat} {v : Value} {op : Op} {ty : TypeId} {pos : String} {after : Array Edge} {g : Option (Nat × Bool)}
variable {x y c p : Operand} {u z : Int} {T T' E : TypeId} {s b : Nat} {zv : Value}
theorem BSV2 {a1 a2 a3 b1 b2 b3 : Value} (hi : ops[i]? = some ⟨some d, .buildSlice T 2 #[(0, x), (1, y)], ty, pos, after, g⟩) (hw : Wt ops N l g) (hd : Nat.blt d N = true) (hx : ev l x = some (.agg #[a1, a2, a3])) (hy : ev l y = some (.agg #[b1, b2, b3])) (hT : SlT P T E zv 3 b)
  (h : ∀ v w', Ext w w' → RowsV w' v 3 [[a1, a2, a3], [b1, b2, b3]] → w.heap.size ≤ w.heap.size → WR P N ops dr Q π ((d, v) :: l) w') : WR P N ops dr Q (i :: π) l w := by
 obtain ⟨j, hj, hj1, hj2, _⟩ := Jb hT
 have hown : (w.alloc (.cells #[a1, a2, a3, b1, b2, b3] E)).ownsRow w.heap.size E 3 (.slice (some ⟨w.heap.size, 0, none⟩) 2 2) 2 (flatV [[a1, a2, a3], [b1, b2, b3]]) :=
  ⟨by simp [flatV], .inr ⟨w.heap.size, 2, #[a1, a2, a3, b1, b2, b3], rfl, Nat.le_refl _, heap_alloc_new w _, Nat.le_refl _, by unfold maxLen; omega, by simp, by simp [flatV]⟩⟩
 have hro : RowsV (w.alloc (.cells #[a1, a2, a3, b1, b2, b3] E)) (.slice (some ⟨w.heap.size, 0, none⟩) 2 2) 3 [[a1, a2, a3], [b1, b2, b3]] := OwnV.read (B := w.heap.size) (E := E) ⟨hown, by simp, by simp⟩
 refine F (v := .slice (some ⟨w.heap.size, 0, none⟩) 2 2) (w' := w.alloc (.cells #[a1, a2, a3, b1, b2, b3] E)) hi hw rfl hd (fun a ha => ?_) (fun _ _ => Ext.alloc _ _) (h _ _ (Ext.alloc _ _) hro (Nat.le_refl _))
 have hf : ∀ cells : Array Value, cells.size = 6 → Instr.fill (fun i => some (i * 3, 3)) cells [(0, .agg #[a1, a2, a3]), (1, .agg #[b1, b2, b3])] = some #[a1, a2, a3, b1, b2, b3] := fun cells hc => fill_two3 hc
 simp [execOp, ha.eval hx, ha.eval hy, Instr.buildSlice, run_underlying hT.und, sizeOf, typeInfo, hj, hj1, hj2, newRow, zeroValue, hf]
theorem NXMn {r b : Nat} {zs : List SE} (hi : ops[i]? = some ⟨some d, .next x false, ty, pos, after, g⟩) (hw : Wt ops N l g) (hd : Nat.blt d N = true) (hx : ev l x = some (.pointer (some ⟨r, 0, none⟩))) (hI : ItM w r b zs [])
  (htl : dr = true → isTail ops i = true) (h0 : WR P N ops dr Q π ((d, .tuple #[.bool false]) :: l) w) : WR P N ops dr Q (i :: π) l w :=
 NXM hi hw hd hx hI htl (fun _ => h0) (fun z hz => by cases hz)
theorem NXMy {r b : Nat} {zs lf : List SE} (hi : ops[i]? = some ⟨some d, .next x false, ty, pos, after, g⟩) (hw : Wt ops N l g) (hd : Nat.blt d N = true) (hx : ev l x = some (.pointer (some ⟨r, 0, none⟩))) (hI : ItM w r b zs lf) (hne : lf ≠ [])
  (htl : dr = true → isTail ops i = true)
  (h1 : ∀ z, z ∈ lf → ∀ w', w.grownBy w' (some r) → (∀ w0, w0.heap.size ≤ r → Ext w0 w → Ext w0 w') → ItM w' r b zs (lf.filter fun y => !decide (y.1 = z.1)) → EnM w' r z →
   WR P N ops dr Q π ((d, .tuple #[.bool true, .string z.1, z.2]) :: l) w') : WR P N ops dr Q (i :: π) l w :=
 NXM hi hw hd hx hI htl (fun e => absurd e hne) h1
end
end Go.Sx
