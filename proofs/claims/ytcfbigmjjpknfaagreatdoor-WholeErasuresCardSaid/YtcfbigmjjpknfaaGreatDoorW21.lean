import Derived.Test.YtcfbigmjjpknfaaGreatDoorW20
import Derived.Test.YtcfbigmjjpknfaaGreatDoorW08
import Derived.Test.YtcfbigmjjpknfaaGreatDoorW03
import Derived.Maps.OwnSet
import Derived.Test.YtcfbigmjjpknfaaGreatDoorW10
import Derived.Maps.RangeRun
namespace Go.Proofs.YtcfbigmjjpknfaaGreatDoor
open Go Go.Sx Go.Pl Go.RowKit Go.Lg Go.Lib
structure WS (w : World) (bb b2 b3 : Nat) (bv : Value) (n : Nat) (x : Ex) (cs : List Value) : Prop where
 bst : BSt w bb bv n
 blk2 : Blk w b2 168 #[.pointer (some ⟨bb, 0, none⟩)]
 blk3 : Blk w b3 46 cs.toArray
 ex : EX (fun q => q < bb) w x cs
 n2 : bv.ownBlock ≠ some b2
 n3 : bv.ownBlock ≠ some b3
 l2 : bb < b2
 l3 : bb < b3
theorem WS.ext {w w' : World} {bb b2 b3 : Nat} {bv : Value} {n : Nat} {x : Ex} {cs : List Value} (h : WS w bb b2 b3 bv n x cs) (hE : Ext w w') : WS w' bb b2 b3 bv n x cs :=
 ⟨h.bst.ext hE, h.blk2.ext hE, h.blk3.ext hE, h.ex.ext hE, h.n2, h.n3, h.l2, h.l3⟩
theorem Qct {bb k : Nat} {bv : Value} (h : bb < k) (hn : bv.ownBlock ≠ some k) : k ∉ XB bb bv := fun hx => by
 rcases List.mem_cons.1 hx with e | hx
 ·omega
 ·exact hn (by simpa using hx)
theorem WS.next {w w' : World} {bb b2 b3 : Nat} {bv bv' : Value} {n n' : Nat} {x : Ex} {cs : List Value} (h : WS w bb b2 b3 bv n x cs) (hg : Gr (XB bb bv) w w') (hb : BSt w' bb bv' n') (hn : NewB w bv bv') : WS w' bb b2 b3 bv' n' x cs :=
 ⟨hb, h.blk2.gr hg (Qct h.l2 h.n2), h.blk3.gr hg (Qct h.l3 h.n3), EX.bst h.bst h.ex hg, fun e => by
  rcases hn _ e with h1 | h1
  ·exact h.n2 h1
  ·have := h.blk2.lt; omega, fun e => by
  rcases hn _ e with h1 | h1
  ·exact h.n3 h1
  ·have := h.blk3.lt; omega, h.l2, h.l3⟩
def WPost (w : World) (bb : Nat) (bv : Value) (n : Nat) : Value → World → Prop := fun r w' => r = .tuple #[] ∧ ∃ bv' n', n' ≤ n ∧ BSt w' bb bv' n' ∧ NewB w bv bv'
def WriteAt (d : Nat) : Prop := ∀ (x : Ex) (cs : List Value) (bb : Nat) (bv : Value) (n : Nat) (w : World), depth x ≤ d → EX (fun q => q < bb) w x cs → okE x = true → BSt w bb bv n → n + wlen x ≤ 60000 →
  Calls Tryz.prog 117 #[.pointer (some ⟨bb, 0, none⟩), .agg cs.toArray] w (RetG (XB bb bv) w (WPost w bb bv (n + wlen x)))
set_option maxRecDepth 10000 in
theorem lOne {d : Nat} (ih : WriteAt d) {nm : ByteArray} {k nn : Int} {xs : List Ex} {cs : List Value} {bb b2 b3 : Nat} {bv : Value} {n : Nat} {w : World} (h : WS w bb b2 b3 bv n (.mk k nm nn xs) cs) (hd : depthL xs ≤ d) (hok : okL xs = true) {i : Nat} {x : Ex} (hi : xs[i]? = some x) (hn : n + wlen x ≤ 60000) :
  Calls Tryz.prog 158 #[.int .i64 i, .pointer (some ⟨b2, 0, none⟩), .pointer (some ⟨b3, 0, none⟩)] w (RetG (XB bb bv) w (WPost w bb bv (n + wlen x))) := by
 obtain ⟨av, L, rfl, hav, hin, hL⟩ := h.ex
 have hlen := EXL.len hL
 have hil : i < xs.length := (List.getElem?_eq_some_iff.1 hi).1
 obtain ⟨c, hci, hcx⟩ := hL.get hi
 have hgd : L.getD ((i : Int)).toNat [] = c := by rw [Int.toNat_natCast, List.getD_eq_getElem?_getD, hci]; rfl
 have hb2 := h.blk2
 have hb3 := h.blk3
 have hbs := h.bst
 have hle := hav.le
 refine QS Tryz.func158 rfl rfl (Qx QK [0,1,2,3,4,5,6] (by kernel_rfl) ?_)
 intro w1 hd1 _
 replace hb2 := hb2.ext hd1
 replace hb3 := hb3.ext hd1
 replace hbs := hbs.ext hd1
 replace hav := hav.ext hd1
 replace hcx := hcx.ext hd1
 refine Vw rfl (ldB rfl Qaa) ?_
 refine Qz rfl rfl Jv (Vw rfl (ldB rfl na44) ?_)
 refine mvV rfl rfl (Vw rfl (KU rfl rfl QbO hav (by omega) (by omega)) (Vw rfl (ldV rfl XV hav (Ext.refl _) (by omega) (by omega)) ?_))
 rw [hgd]
 refine CG rfl wu rfl rfl Tryz.call117 (ih x c bb bv n _ (by have := Jn hi; omega) hcx (Qb1 hok hi) hbs hn) (by intro h; kernel_rfl) ?_
 rintro _ w2 hG2 ⟨rfl, bv2, n2, hn2, hbs2, hnb⟩
 refine Qd (QX rfl ?_)
 exact ⟨(Gr.of_ext hd1).trans hG2, rfl, bv2, n2, hn2, hbs2, fun q hq => (hnb q hq).imp id (fun h => by have := hd1.size; omega)⟩
set_option maxRecDepth 10000 in
theorem lJoin {d : Nat} (ih : WriteAt d) {nm : ByteArray} {k nn : Int} {xs : List Ex} {cs : List Value} {bb b2 b3 : Nat} {bv : Value} {n : Nat} {w : World} (h : WS w bb b2 b3 bv n (.mk k nm nn xs) cs) (hd : depthL xs ≤ d) (hok : okL xs = true) (hn : n + wlenL xs ≤ 60000) (hxl : xs.length ≤ 100000) :
  Calls Tryz.prog 153 #[.int .i64 xs.length, .func (.func 158) #[] #[.pointer (some ⟨b2, 0, none⟩), .pointer (some ⟨b3, 0, none⟩)], .pointer (some ⟨b2, 0, none⟩)] w (RetG (XB bb bv) w (WPost w bb bv (n + wlenL xs))) := by
 refine QS Tryz.func153 rfl rfl (Qc (Qb [0,1] rfl (mvV rfl rfl (mvV rfl rfl (Qd (Qa (Qf ?_)))))))
 refine Qv (fun p : Nat × Value × Nat => [(6, .int .i64 xs.length), (7, .int .i64 p.1), (1, .func (.func 158) #[] #[.pointer (some ⟨b2, 0, none⟩), .pointer (some ⟨b3, 0, none⟩)]), (2, .pointer (some ⟨b2, 0, none⟩))])
  (fun p w' => p.1 ≤ xs.length ∧ Gr (XB bb bv) w w' ∧ NewB w bv p.2.1 ∧ WS w' bb b2 b3 p.2.1 p.2.2 (.mk k nm nn xs) cs ∧ p.2.2 ≤ n + wlenL (xs.take p.1)) (fun p => xs.length - p.1) (0, bv, n) ⟨rfl, rfl, rfl, rfl, trivial⟩ ⟨by omega, Gr.refl _ _, NewB.refl _ _, h, by simp⟩ ?_
 rintro ⟨i, bv1, n1⟩ w1 ⟨i1, hG, hnb, hW, hn1⟩
 dsimp only at i1 hnb hW hn1
 have hz1 := hG.size
 try dsimp only
 refine Qc (Qb [0] rfl (Qy rfl rfl rfl (Qd (Qa (Qc (Qo rfl ?_ ?_))))))
 ·intro hc
  simp at hc
  have hxi : xs[i]? = some (xs[i]'hc) := List.getElem?_eq_getElem hc
  have hwt := Qad hxi
  have hwl := Qcv (xs := xs) (i + 1)
  have hb2 := hW.blk2
  refine Qe (Qa (Qc (Qf (Qc (Qb [0,1] rfl (mvV rfl rfl (Qk rfl rfl (Qd (Qa (Qc (Qc (Qb [0,1] rfl (mvV rfl rfl (ZA rfl rfl rfl (Qd (Qa ?_))))))))))))))))
  refine XO (fun _ : Value × Nat => [(6, .int .i64 xs.length), (7, .int .i64 i), (5, .int .i64 i), (1, .func (.func 158) #[] #[.pointer (some ⟨b2, 0, none⟩), .pointer (some ⟨b3, 0, none⟩)]), (2, .pointer (some ⟨b2, 0, none⟩))])
   (fun p w' => Gr (XB bb bv) w w' ∧ NewB w bv p.1 ∧ WS w' bb b2 b3 p.1 p.2 (.mk k nm nn xs) cs ∧ p.2 ≤ n1 + 2) ?_ ?_
  ·skip
   refine Qo rfl ?_ ?_
   ·intro hc2
    refine Qb [0,1] rfl (Vw rfl (ldB rfl Qaa) ?_)
    refine CG rfl wu rfl rfl Tryz.call154 (JH bb n1 bv1 _ _ hW.bst (by exact Nat.le_trans (Nat.add_le_add_left (show _ ≤ 2 by decide +kernel) n1) (by omega))) nofun ?_
    rintro _ w2 hG2 ⟨bv2, hbs2, hnb2⟩
    refine Qd (Zb (bv2, n1 + 2) ⟨rfl, rfl, rfl, rfl, rfl, trivial⟩ ⟨XB.comp hG hnb hG2, hnb.trans hnb2 hz1, hW.next hG2 hbs2 hnb2, Nat.le_refl _⟩)
   ·intro hc2
    refine Qe ?_
    exact Zb (bv1, n1) ⟨rfl, rfl, rfl, rfl, rfl, trivial⟩ ⟨hG, hnb, hW, by omega⟩
  ·rintro ⟨bv2, n2⟩ w2 ⟨hG2, hnb2, hW2, hn2⟩
   dsimp only at hnb2 hW2 hn2
   have hz2 := hG2.size
   refine Qb [0,1,2] rfl (mvV rfl rfl (mvV rfl rfl (CVR (fs := []) (cs := [.pointer (some ⟨b2, 0, none⟩), .pointer (some ⟨b3, 0, none⟩)]) (vs := [.int .i64 i]) rfl wu rfl rfl rfl Tryz.call158 (lOne ih hW2 hd hok hxi (by omega)) nofun ?_)))
   rintro _ w3 hG3 ⟨rfl, bv3, n3, hn3, hbs3, hnb3⟩
   refine Qd (Qg (Qa (Qb [0,1] rfl (Qw rfl rfl rfl (mvV rfl rfl (Qd ?_))))))
   exact Qi (i + 1, bv3, n3) ⟨rfl, rfl, rfl, rfl, trivial⟩ ⟨by dsimp only; omega, XB.comp hG2 hnb2 hG3, hnb2.trans hnb3 hz2, hW2.next hG3 hbs3 hnb3, by dsimp only; omega⟩ (by dsimp only; omega)
 ·intro hc
  simp at hc
  have hi : xs.take i = xs := List.take_of_length_le hc
  rw [hi] at hn1
  refine Qt (Ql (Qm (Qh (QX rfl ?_))))
  exact ⟨hG, rfl, bv1, n1, hn1, hW.bst, hnb⟩
set_option maxRecDepth 20000 in
theorem lWrite : ∀ d, WriteAt d := by
 intro d
 induction d with
 | zero => intro x cs bb bv n w hd; cases x; rw [depth] at hd; omega
 | succ d ih =>
 intro x cs bb bv n w hd hx hok hbs hn
 have hokx := hok
 have hcells := hx.cells
 have hx0 := hx
 obtain ⟨k, nm, nn, xs⟩ := x
 obtain ⟨av, L, rfl, hav, hin, hL⟩ := hx
 have hlen := EXL.len hL
 have hle := hav.le
 rw [depth] at hd
 have hbl := hbs.lt
 have hblk := hbs.blk
 rw [wlen] at hn ⊢
 refine QD Tryz.func117 rfl rfl (Qc (Qb [0,1] rfl (BXV rfl wu rfl rfl (by first | rfl | assumption) ?_)))
 intro b2 w1 hE1 hB2 hb2
 refine BXA rfl wu rfl rfl ?_
 intro b3 w2 hE2 hB3 hb3
 replace hB2 := hB2.ext hE2
 refine Qd (Qa (Qc (Qc ?_)))
 have hz1 := hE1.size
 have hz2 := hE2.size
 have hE := hE1.trans hE2
 have hW : WS w2 bb b2 b3 bv n (.mk k nm nn xs) [.int .i64 k, .string nm, .int .i64 nn, .slice none 0 0, av] := ⟨hbs.ext hE, hB2, hB3, hx0.ext hE, fun e => by have := hblk _ e; omega, fun e => by have := hblk _ e; omega, by omega, by omega⟩
 clear hB2 hB3
 refine Qb [0,1,2] rfl ?_
 have hB2 := hW.blk2
 refine Vw rfl (ldB rfl Qaa) ?_
 refine C rfl wu rfl rfl Tryz.call118 (bLenB bb n bv _ hW.bst) ?_
 rintro _ w3 hE3 rfl
 refine ZA rfl rfl rfl (Qd (Qa ?_))
 replace hW := hW.ext hE3
 replace hE := hE.trans hE3
 clear hB2
 have hB2 := hW.blk2
 have hB3 := hW.blk3
 refine Qn rfl (by simp; omega) (Qe (Qa (Qc (Qb [0,1] rfl (Vw rfl (mkf rfl rfl) (Qk rfl rfl (Qd (Qa (Qc (Qb [0,1] rfl (Qz rfl rfl KI (Vw rfl (ldB rfl na3) ?_))))))))))))
 refine Qd (Qa (Qf (Qc ?_)))
 rw [okE, Bool.or_eq_true] at hok
 rcases hok with hok | hok
 ·simp only [Bool.and_eq_true, decide_eq_true_eq] at hok
  obtain ⟨⟨⟨⟨rfl, rfl⟩, h0⟩, h9⟩, he⟩ := hok
  refine Qb [0,1] rfl (QU rfl rfl rfl (Qk rfl rfl (Qd (Qa (QC rfl (rfl) (Qx QK [0,1,2,3,4] (by kernel_rfl) ?_))))))
  intro w4 hd4 _
  replace hE := hE.trans hd4
  replace hB2 := hB2.ext hd4
  replace hB3 := hB3.ext hd4
  replace hW := hW.ext hd4
  refine Vw rfl (ldB rfl Qaa) ?_
  refine Qz rfl rfl QcW (Vw rfl (ldB rfl na3) ?_)
  refine C rfl wu rfl rfl Tryz.call155 (bItoa nn _ h0 h9) ?_
  rintro _ w5 hE5 ⟨s, rfl, hs⟩
  replace hE := hE.trans hE5
  replace hW := hW.ext hE5
  refine CG rfl wu rfl rfl Tryz.call154 (JH bb n bv s _ hW.bst (by omega)) (by intro h; kernel_rfl) ?_
  rintro _ w6 hG6 ⟨bv6, hbs6, hnb6⟩
  refine Qd (Qg (QX rfl ?_))
  exact ⟨(Gr.of_ext hE).trans hG6, rfl, bv6, n + s.size, by omega, hbs6, fun q hq => (hnb6 q hq).imp id (fun h => by have := hE.size; omega)⟩
 ·simp only [Bool.and_eq_true, decide_eq_true_eq] at hok
  obtain ⟨⟨⟨rfl, rfl⟩, hnm⟩, hxs⟩ := hok
  refine Qb [0,1] rfl (QU rfl rfl rfl (Qk rfl rfl (Qd (Qa (Qn rfl (rfl) (Qc (Qb [0,1] rfl (QU rfl rfl rfl (Qk rfl rfl (Qd (Qa ?_)))))))))))
  refine Qn rfl (rfl) (Qc (Qb [0,1] rfl (QU rfl rfl rfl (Qk rfl rfl (Qd (Qa (Qn rfl (rfl) (Qc (Qb [0,1] rfl (QU rfl rfl rfl ?_))))))))))
  refine Qk rfl rfl (Qd (Qa (QC rfl (rfl) (Qc ?_))))
  have hxl : xs.length ≤ 60000 := by
   have : ∀ ys : List Ex, ys.length ≤ wlenL ys := by
    intro ys
    induction ys with
    | nil => simp
    | cons y ys ih => rw [wlenL, List.length_cons]; omega
   have := this xs
   omega
  refine Qb [0,1,2,3] rfl (Vw rfl (ldB rfl Qaa) ?_)
  refine Qz rfl rfl QcX (Vw rfl (ldB rfl na9) ?_)
  refine CG rfl wu rfl rfl Tryz.call154 (JH bb n bv nm _ hW.bst (by omega)) nofun ?_
  rintro _ w4 hG4 ⟨bv4, hbs4, hnb4⟩
  refine Qd (Qa (Qc ?_))
  have hW4 := hW.next hG4 hbs4 hnb4
  have hB24 := hW4.blk2
  refine Qb [0,1] rfl (Vw rfl (ldB rfl Qaa) ?_)
  refine CG rfl wu rfl rfl Tryz.call156 (Qaw bb (n + nm.size) bv4 _ _ hW4.bst (by omega)) nofun ?_
  rintro _ w5 hG5 ⟨bv5, hbs5, hnb5⟩
  refine Qd (Qa (Qc ?_))
  have hW5 := hW4.next hG5 hbs5 hnb5
  have hB35 := hW5.blk3
  obtain ⟨av', L', hcs', hav5, _, hL5⟩ := hW5.ex
  obtain rfl : av = av' := by simpa using hcs'
  refine Qb [0,1,2,3,4,5] rfl (mvV rfl rfl (Qz rfl rfl Jv (Vw rfl (ldB rfl na44) ?_)))
  refine Vw rfl (QaT rfl QbO hav5) ?_
  rw [EXL.len hL5]
  refine Vw rfl (mkf rfl rfl) (CVR (fs := []) (cs := [.pointer (some ⟨b2, 0, none⟩)]) (vs := [.int .i64 xs.length, .func (.func 158) #[] #[.pointer (some ⟨b2, 0, none⟩), .pointer (some ⟨b3, 0, none⟩)]]) rfl wu rfl rfl rfl Tryz.call153 (lJoin ih hW5 (by omega) hxs (by omega) (by omega)) nofun ?_)
  rintro _ w6 hG6 ⟨rfl, bv6, n6, hn6, hbs6, hnb6⟩
  refine Qd (Qa ?_)
  have hW6 := hW5.next hG6 hbs6 hnb6
  have hB26 := hW6.blk2
  refine Qb [0,1] rfl (Vw rfl (ldB rfl Qaa) ?_)
  refine CG rfl wu rfl rfl Tryz.call156 (Qaw bb n6 bv6 _ _ hW6.bst (by omega)) nofun ?_
  rintro _ w7 hG7 ⟨bv7, hbs7, hnb7⟩
  refine Qd (Qg (QX rfl ?_))
  have hs3 := hE.size
  have hs4 := hG4.size
  have hs5 := hG5.size
  have hs6 := hG6.size
  have n5 := hnb4.trans hnb5 hs4
  have n6' := n5.trans hnb6 (by omega)
  have n7 := n6'.trans hnb7 (by omega)
  exact ⟨(Gr.of_ext hE).trans (XB.comp (XB.comp (XB.comp hG4 hnb4 hG5) n5 hG6) n6' hG7), rfl, bv7, n6 + 1, by omega, hbs7, fun q hq => (n7 q hq).imp id (fun h => by omega)⟩
set_option maxRecDepth 10000 in
theorem lCheck (S : Nat → Prop) (x : Ex) (cs : List Value) (w : World) (hx : EX S w x cs) (hok : okE x = true) (hd : depth x ≤ 32) (hs : size x ≤ 1024) (hl : wlen x ≤ 50000) :
  Calls Tryz.prog 87 #[.agg cs.toArray] w (RetX w fun r _ => r = .int .i64 0) := by
 have hcells := hx.cells
 have hcx : (cs.drop 0).take 5 = cs := by rw [List.drop_zero, ← hcells.1, List.take_length]
 refine QL Tryz.func87 rfl rfl (Qc (Qb [0,1] rfl (BXA rfl wu rfl rfl ?_)))
 intro b w1 hE hB hb
 refine Qk rfl rfl (Qd (Qa (Qc (Qc ?_))))
 have hble : Nat.ble (0 + 5) cs.length = true := by rw [hcells.1]; rfl
 refine Qb [0,1,2] rfl (Vw rfl (ldA rfl XV hB hble) ?_)
 rw [hcx]
 refine C rfl wu rfl rfl Tryz.call114 (lForm S 32 x cs _ hd (hx.ext hE) hok) ?_
 rintro _ w2 hE2 rfl
 replace hE := hE.trans hE2
 replace hB := hB.ext hE2
 refine ZC rfl rfl (Qd (Qa (Qn rfl (rfl) (Qe (Qa (Qc (Qb [0,1,2,3,4,5,6] rfl (Vw rfl (ldA rfl XV hB hble) ?_))))))))
 rw [hcx]
 refine C rfl wu rfl rfl Tryz.call115 (lMeasure S 32 x cs _ hd (by omega) (hx.ext hE)) ?_
 rintro _ w3 hE3 rfl
 replace hE := hE.trans hE3
 replace hB := hB.ext hE3
 refine mvV rfl rfl (QI rfl rfl rfl (QI rfl rfl rfl (Qk rfl rfl (Qk rfl rfl (Qd (Qa (Qc (Qc (Qb [0,1,2,3,4,5,6,7,8,9,10] rfl (mvV rfl rfl (ZC rfl rfl (mvV rfl rfl ?_))))))))))))
 refine KB 16 false rfl (rfl) (Vg rfl rfl rfl (mv rfl) (Vg rfl rfl rfl (Ju rfl rfl) (pkV rfl rfl rfl (mvV rfl rfl (KB 20 false rfl (by simp; omega) (Vg rfl rfl rfl (ldA rfl XV hB hble) ?_))))))
 rw [hcx]
 refine C rfl (wg rfl rfl) rfl rfl Tryz.call116 (lSize S 32 x cs _ hd (by omega) (hx.ext hE)) ?_
 rintro _ w4 hE4 rfl
 replace hE := hE.trans hE4
 replace hB := hB.ext hE4
 refine Vg rfl rfl rfl (Ju rfl rfl) (pkV rfl rfl rfl (Qd (Qa (Qn rfl (by simp; omega) (Qe (Qa (Qc (Qb [0] rfl (AL rfl wu rfl zv171 ?_)))))))))
 intro bb w5 hE5 hBB hbb
 refine Qd (Qa (Qc ?_))
 have hz := hE.size
 have hbb2 := hB.lt
 have hbs : BSt w5 bb (.slice none 0 0) 0 := ⟨_, [], hBB, .inl rfl, Own.nil _ _ _, rfl⟩
 have hx5 : EX (fun q => q < bb) w5 x cs := EX.gr (X := []) (Gr.of_ext (hE.trans hE5)) (fun q hq _ => ⟨by simp, by omega⟩) _ _ hx
 replace hB := hB.ext hE5
 replace hE := hE.trans hE5
 refine Qb [0,1] rfl (Vw rfl (ldA rfl XV hB hble) ?_)
 rw [hcx]
 refine CG rfl wu rfl rfl Tryz.call117 (lWrite 32 x cs bb _ 0 _ hd hx5 hok hbs (by omega)) nofun ?_
 rintro _ w6 hG6 ⟨rfl, bv6, n6, hn6, hbs6, hnb6⟩
 refine Qd (Qa (Qc (Qc ?_)))
 have hE6 : Ext w w6 := hG6.ext hE (fun k hk => by simp [XB, Value.ownBlock] at hk; omega)
 refine Qb [0,1] rfl (C rfl wu rfl rfl Tryz.call118 (bLenB bb n6 bv6 _ hbs6) ?_)
 rintro _ w7 hE7 rfl
 refine ZA rfl rfl rfl (Qd (Qa (Qn rfl (by simp; omega) (Qe (Qa (Qc (Qb [0] rfl (Qk rfl rfl (Qd (Qa (Qq (Qj rfl rfl ?_))))))))))))
 exact ⟨hE6.trans hE7, rfl⟩
end Go.Proofs.YtcfbigmjjpknfaaGreatDoor
namespace Go.Sx
open Go Go.RowKit Go.Pl Go.MapKept Go.ChangeMaps
section
variable {P : Program} {N : Nat} {l : Env} {w : World} {ops : Array Oper} {dr : Bool} {Q : Act → World → Prop} {π : List Nat} {i d : Nat} {v : Value} {op : Op} {ty : TypeId} {pos : String} {after : Array Edge} {g : Option (Nat × Bool)}
variable {x y c p : Operand} {T : TypeId}
end
end Go.Sx
namespace Go.Sx
open Go Go.RowKit Go.Pl Go.MapKept Go.ChangeMaps
abbrev SE := ByteArray × Value
def sget : List SE → ByteArray → Option Value
 | [], _ => none
 | z :: zs, k => if k = z.1 then some z.2 else sget zs k
theorem Qbj {zs : List SE} {k a : ByteArray} {b : Value} : sget (zs ++ [(a, b)]) k = (sget zs k).or (if k = a then some b else none) := by
 induction zs with
 | nil => by_cases h : k = a <;> simp [sget, h]
 | cons z zs ih =>
  simp only [List.cons_append, sget]
  split
  ·simp
  ·exact ih
theorem Xj {zs : List SE} {k : ByteArray} : sget zs k = none ↔ ∀ z ∈ zs, z.1 ≠ k := by
 induction zs with
 | nil => simp [sget]
 | cons z zs ih =>
  simp only [sget, List.mem_cons, forall_eq_or_imp]
  by_cases h : k = z.1
  ·simp [h]
  ·rw [if_neg h, ih]
   exact ⟨fun h1 => ⟨fun e => h e.symm, h1⟩, fun h1 => h1.2⟩
def sE (z : SE) : Value × Value := (.string z.1, z.2)
def kvE (e : MapEntry) : Value × Value := (e.key, e.val)
def MapS (w : World) (b : Nat) (zs : List SE) : Prop :=
 ∃ es clock, w.heap[b]? = some (.map es clock) ∧ es.toList.map kvE = zs.map sE ∧ Stamped es clock
theorem MapS.lt {w : World} {b : Nat} {zs : List SE} (h : MapS w b zs) : b < w.heap.size := by
 obtain ⟨es, c, h1, -⟩ := h
 exact (Array.getElem?_eq_some_iff.1 h1).1
theorem MapS.ext {w w' : World} {b : Nat} {zs : List SE} (h : MapS w b zs) (hE : Ext w w') : MapS w' b zs := by
 have hlt := h.lt
 obtain ⟨es, c, h1, h2⟩ := h
 exact ⟨es, c, (Below.block hE b hlt).trans h1, h2⟩
theorem MapS.kept {w w' : World} {b : Nat} {zs : List SE} {row : Option Nat} (h : MapS w b zs) (hg : w.grownBy w' row) (hb : some b ≠ row) : MapS w' b zs := by
 have hlt := h.lt
 obtain ⟨es, c, h1, h2⟩ := h
 exact ⟨es, c, (hg.block b hlt hb).trans h1, h2⟩
theorem bbeq (a b : ByteArray) : (a == b) = decide (a = b) := by
 cases h : (a == b) with
 | true => exact (decide_eq_true ((bytes_beq a b).1 h)).symm
 | false => exact (decide_eq_false (fun e => by rw [(bytes_beq a b).2 e] at h; cases h)).symm
theorem JE (k : ByteArray) : ∀ (es : List MapEntry) (zs : List SE) (i : Nat), es.map kvE = zs.map sE →
  ∃ o : Option (Nat × Value), Instr.findNow .string (.string k) es i = some o ∧ o.map (·.2) = sget zs k
 | [], zs, i, h => by
  cases zs with
  | nil => exact ⟨none, rfl, rfl⟩
  | cons z zs => simp at h
 | e :: es, zs, i, h => by
  cases zs with
  | nil => simp at h
  | cons z zs =>
   simp only [List.map_cons, List.cons.injEq, sE, kvE, Prod.mk.injEq] at h
   obtain ⟨⟨h1, h2⟩, h3⟩ := h
   by_cases hk : k = z.1
   ·refine ⟨some (i, e.val), ?_, ?_⟩
    ·simp [Instr.findNow, Instr.sameNow, h1, bbeq, hk]
    ·simp [sget, hk, h2]
   ·obtain ⟨o, h4, h5⟩ := JE k es zs (i + 1) h3
    refine ⟨o, ?_, ?_⟩
    ·have hb : (k == z.1) = false := by rw [bbeq, decide_eq_false hk]
     simp [Instr.findNow, Instr.sameNow, h1, hb, h4]
    ·simp [sget, hk, h5]
theorem keys_ne {es : List MapEntry} {zs : List SE} {k : ByteArray} (h : es.map kvE = zs.map sE) (hn : sget zs k = none) : ∀ x ∈ es, x.key ≠ .string k := by
 intro x hx e
 have hm : kvE x ∈ zs.map sE := by rw [← h]; exact List.mem_map.2 ⟨x, hx, rfl⟩
 obtain ⟨z, hz, hzx⟩ := List.mem_map.1 hm
 have h1 : Value.string z.1 = x.key := congrArg Prod.fst hzx
 rw [e] at h1
 injection h1 with h1
 exact Xj.1 hn z hz h1
structure MapST (P : Program) (T : TypeId) (zv : Value) : Prop where
 u : ∃ K E, P.underlying T = some (.map K E) ∧ P.underlying K = some .string ∧ ∀ w, (zeroValue E).run P w = .ok zv w
section
variable {P : Program} {N : Nat} {l : Env} {w : World} {ops : Array Oper} {dr : Bool} {Q : Act → World → Prop} {π : List Nat} {i d : Nat} {v : Value} {op : Op} {ty : TypeId} {pos : String} {after : Array Edge} {g : Option (Nat × Bool)}
variable {x y c p : Operand} {T : TypeId} {zv : Value}
theorem MMS (hi : ops[i]? = some ⟨some d, .makeMap T none, ty, pos, after, g⟩) (hw : Wt ops N l g) (hd : Nat.blt d N = true)
  (h : ∀ b w', Ext w w' → MapS w' b [] → w.heap.size ≤ b → WR P N ops dr Q π ((d, .map (some b)) :: l) w') : WR P N ops dr Q (i :: π) l w := by
 refine F (v := .map (some w.heap.size)) (w' := w.alloc (.map #[] 0)) hi hw rfl hd (fun a ha => ?_) (fun _ _ => Ext.alloc _ _) (h _ _ (Ext.alloc _ _) ⟨#[], 0, heap_alloc_new w _, rfl, stamped_empty 0⟩ (Nat.le_refl _))
 simp [execOp, Instr.makeMap, Result.andThen]
theorem lkS {b : Nat} {zs : List SE} {k : ByteArray} (hx : ev l x = some (.map (some b))) (hy : ev l y = some (.string k)) (hT : MapST P T zv) (hM : MapS w b zs) :
  Yl P N (.lookup T x y false) ty l w ((sget zs k).getD zv) := fun a ha w' hE' oo ho _ => by
 replace hE' := hE'.resolve_left (by simp [isM])
 obtain ⟨K, E, hu, hk, hz⟩ := hT.u
 obtain ⟨es, clock, hb, he, -⟩ := hM.ext hE'
 obtain ⟨o, h1, h2⟩ := JE k es.toList zs 0 he
 have hf := run_findKey (P := P) (w := w') hk h1
 have hc : (Instr.checkKey es.isEmpty 10000 K (.string k)).run P w' = .ok () w' := run_checkKey hk (show IsKey .string (.string k) from trivial) es.isEmpty 9999
 cases o with
 | none =>
  cases hm : sget zs k with
  | some u => simp [hm] at h2
  | none => simp [execOp, ho, ha.eval hx, ha.eval hy, Instr.lookup, run_underlying hu, hz, Result.andThen, MapKept.run_getObj_map hb, hc, hf]
 | some o =>
  cases hm : sget zs k with
  | none => simp [hm] at h2
  | some u =>
   simp [hm] at h2
   simp [execOp, ho, ha.eval hx, ha.eval hy, Instr.lookup, run_underlying hu, h2, Result.andThen, MapKept.run_getObj_map hb, hc, hf]
theorem upS {op : Op} {b : Nat} {zs : List SE} {k : ByteArray} (hop : op = .mapUpdate T p x y ∨ op = .insert T p x y) (hi : ops[i]? = some ⟨none, op, ty, pos, after, g⟩) (hw : Wt ops N l g) (hp : ev l p = some (.map (some b))) (hx : ev l x = some (.string k)) (hy : ev l y = some v) (hT : MapST P T zv)
  (htl : dr = true → isTail ops i = true) (hM : MapS w b zs) (hn : sget zs k = none)
  (h : ∀ w', w.grownBy w' (some b) → (∀ w0, w0.heap.size ≤ b → Ext w0 w → Ext w0 w') → MapS w' b (zs ++ [(k, v)]) → WR P N ops dr Q π l w') : WR P N ops dr Q (i :: π) l w := by
 obtain ⟨K, E, hu, hk, hz⟩ := hT.u
 obtain ⟨es, clock, hb, he, hst⟩ := hM
 obtain ⟨o, h1, h2⟩ := JE k es.toList zs 0 he
 have ho : o = none := by cases o with
  | none => rfl
  | some o => simp [hn] at h2
 subst ho
 have hf := run_findKey (P := P) (w := w) hk h1
 have hc : (Instr.checkKey false 10000 K (.string k)).run P w = .ok () w := run_checkKey hk (show IsKey .string (.string k) from trivial) false 9999
 have hg : w.grownBy (setBlock w b (.map (es.push { key := .string k, val := v, born := clock }) (clock + 1))) (some b) :=
  World.mapTurned.grown ⟨es, clock, _, _, hb, rfl⟩
 refine F0 (w' := setBlock w b (.map (es.push { key := .string k, val := v, born := clock }) (clock + 1))) hi hw (by rcases hop with rfl | rfl <;> rfl) (fun a ha => ?_) (fun hd ht => by rw [htl hd] at ht; cases ht)
  (h _ hg (fun w0 hB0 hE => ?_) ⟨_, _, (heap_set hb).1, by simp [he, sE, kvE], stamped_push hst (keys_ne he hn)⟩)
 ·rcases hop with rfl | rfl <;>
  simp [execOp, ha.eval hp, ha.eval hx, ha.eval hy, Instr.mapUpdate, Sem.run_bind, run_underlying hu, Result.andThen, MapKept.run_getObj_map hb, hc, hf, run_setObj_map _ hb, setBlock]
 ·exact Below.grown hE hg hE.size (fun j hj => by cases hj; exact hB0)
theorem MUS {b : Nat} {zs : List SE} {k : ByteArray} (hi : ops[i]? = some ⟨none, .mapUpdate T p x y, ty, pos, after, g⟩) (hw : Wt ops N l g) (hp : ev l p = some (.map (some b))) (hx : ev l x = some (.string k)) (hy : ev l y = some v) (hT : MapST P T zv)
  (htl : dr = true → isTail ops i = true) (hM : MapS w b zs) (hn : sget zs k = none)
  (h : ∀ w', w.grownBy w' (some b) → (∀ w0, w0.heap.size ≤ b → Ext w0 w → Ext w0 w') → MapS w' b (zs ++ [(k, v)]) → WR P N ops dr Q π l w') : WR P N ops dr Q (i :: π) l w :=
 upS (.inl rfl) hi hw hp hx hy hT htl hM hn h
theorem INS {b : Nat} {zs : List SE} {k : ByteArray} (hi : ops[i]? = some ⟨none, .insert T p x y, ty, pos, after, g⟩) (hw : Wt ops N l g) (hp : ev l p = some (.map (some b))) (hx : ev l x = some (.string k)) (hy : ev l y = some v) (hT : MapST P T zv)
  (htl : dr = true → isTail ops i = true) (hM : MapS w b zs) (hn : sget zs k = none)
  (h : ∀ w', w.grownBy w' (some b) → (∀ w0, w0.heap.size ≤ b → Ext w0 w → Ext w0 w') → MapS w' b (zs ++ [(k, v)]) → WR P N ops dr Q π l w') : WR P N ops dr Q (i :: π) l w :=
 upS (.inr rfl) hi hw hp hx hy hT htl hM hn h
def ItM (w : World) (r b : Nat) (zs lf : List SE) : Prop :=
 ∃ es clock since seen c0, w.heap[b]? = some (.map es clock) ∧ es.toList.map kvE = zs.map sE ∧ Stamped es clock ∧ w.heap[r]? = some (.mapIter (some b) since seen c0) ∧
  (∀ x ∈ es.toList, x.born < since) ∧ since ≤ c0 ∧ since ≤ clock ∧ (leftOf es seen).toList.map kvE = lf.map sE
theorem ItM.kept {w w' : World} {r b : Nat} {zs lf : List SE} {row : Option Nat} (h : ItM w r b zs lf) (hg : w.grownBy w' row) (hb : some b ≠ row) (hr : some r ≠ row) : ItM w' r b zs lf := by
 obtain ⟨es, clock, since, seen, c0, h1, h2, h3, h4, h5⟩ := h
 exact ⟨es, clock, since, seen, c0, (hg.block b (Array.getElem?_eq_some_iff.1 h1).1 hb).trans h1, h2, h3, (hg.block r (Array.getElem?_eq_some_iff.1 h4).1 hr).trans h4, h5⟩
theorem ItM.ext {w w' : World} {r b : Nat} {zs lf : List SE} (h : ItM w r b zs lf) (hE : Ext w w') : ItM w' r b zs lf :=
 h.kept (row := none) ⟨hE.os, hE.tape, hE.output, hE.size, fun k hk _ => hE.block k hk⟩ (by simp) (by simp)
theorem ItM.lt {w : World} {r b : Nat} {zs lf : List SE} (h : ItM w r b zs lf) : r < w.heap.size ∧ b < w.heap.size ∧ r ≠ b := by
 obtain ⟨es, clock, since, seen, c0, h1, h2, h3, h4, h5⟩ := h
 refine ⟨(Array.getElem?_eq_some_iff.1 h4).1, (Array.getElem?_eq_some_iff.1 h1).1, fun e => ?_⟩
 rw [e, h1] at h4
 cases h4
theorem RGM {b : Nat} {zs : List SE} (hi : ops[i]? = some ⟨some d, .range T x, ty, pos, after, g⟩) (hw : Wt ops N l g) (hd : Nat.blt d N = true) (hx : ev l x = some (.map (some b))) (hT : MapST P T zv) (hM : MapS w b zs)
  (h : ∀ r w', Ext w w' → ItM w' r b zs zs → w.heap.size ≤ r → WR P N ops dr Q π ((d, .pointer (some ⟨r, 0, none⟩)) :: l) w') : WR P N ops dr Q (i :: π) l w := by
 obtain ⟨K, E, hu, hk, hz⟩ := hT.u
 have hlt := hM.lt
 obtain ⟨es, clock, hb, he, hst⟩ := hM
 refine F (v := .pointer (some ⟨w.heap.size, 0, none⟩)) (w' := w.alloc (.mapIter (some b) clock #[] clock)) hi hw rfl hd (fun a ha => ?_) (fun _ _ => Ext.alloc _ _)
  (h _ _ (Ext.alloc _ _) ⟨es, clock, clock, #[], clock, (heap_alloc_old w _ hlt).trans hb, he, hst, heap_alloc_new w _, hst.1, Nat.le_refl _, Nat.le_refl _, ?_⟩ (Nat.le_refl _))
 ·simp [execOp, ha.eval hx, run_range_map w T K E b es clock hu hb]
 ·have : leftOf es #[] = es := by unfold leftOf; simp
  rw [this]
  exact he
def EnM (w : World) (r : Nat) (z : SE) : Prop := ∀ P : Program, (Instr.entry (.pointer (some ⟨r, 0, none⟩))).run P w = .ok (.tuple #[.string z.1, z.2]) w
theorem kv_inj {es : List MapEntry} {a b : MapEntry} (hn : (es.map (·.key)).Nodup) (ha : a ∈ es) (hb : b ∈ es) (h : a.key = b.key) : a = b := by
 induction es with
 | nil => cases ha
 | cons e es ih =>
  simp only [List.map_cons, List.nodup_cons] at hn
  rcases List.mem_cons.1 ha with rfl | ha' <;> rcases List.mem_cons.1 hb with rfl | hb'
  ·rfl
  ·exact absurd (List.mem_map.2 ⟨b, hb', h.symm⟩) hn.1
  ·exact absurd (List.mem_map.2 ⟨a, ha', h⟩) hn.1
  ·exact ih hn.2 ha' hb'
def isKS (v : Value) (k : ByteArray) : Bool := match v with | .string s => decide (s = k) | _ => false
theorem isKS_iff {v : Value} {k : ByteArray} : isKS v k = true ↔ v = .string k := by
 cases v <;> simp [isKS]
theorem QbF : ∀ (es : List MapEntry) (zs : List SE) (z : SE) (f : MapEntry → Bool), es.map kvE = zs.map sE → (∀ x ∈ es, f x = !isKS x.key z.1) → (es.filter f).map kvE = (zs.filter fun y => !decide (y.1 = z.1)).map sE
 | [], [], _, _, _, _ => rfl
 | [], _ :: _, _, _, h, _ => by simp at h
 | _ :: _, [], _, _, h, _ => by simp at h
 | e :: es, y :: zs, z, f, h, hf => by
  simp only [List.map_cons, List.cons.injEq] at h
  have ih := QbF es zs z f h.2 (fun x hx => hf x (List.mem_cons_of_mem _ hx))
  have hk : e.key = .string y.1 := congrArg Prod.fst h.1
  have h1 := hf e (List.mem_cons_self ..)
  rw [hk] at h1
  by_cases hy : y.1 = z.1
  ·simp [h1, hy, ih, isKS]
  ·simp [h1, hy, ih, h.1, isKS]
theorem NXM {r b : Nat} {zs lf : List SE} (hi : ops[i]? = some ⟨some d, .next x false, ty, pos, after, g⟩) (hw : Wt ops N l g) (hd : Nat.blt d N = true) (hx : ev l x = some (.pointer (some ⟨r, 0, none⟩))) (hI : ItM w r b zs lf)
  (htl : dr = true → isTail ops i = true) (h0 : lf = [] → WR P N ops dr Q π ((d, .tuple #[.bool false]) :: l) w)
  (h1 : ∀ z, z ∈ lf → ∀ w', w.grownBy w' (some r) → (∀ w0, w0.heap.size ≤ r → Ext w0 w → Ext w0 w') → ItM w' r b zs (lf.filter fun y => !decide (y.1 = z.1)) → EnM w' r z →
   WR P N ops dr Q π ((d, .tuple #[.bool true, .string z.1, z.2]) :: l) w') : WR P N ops dr Q (i :: π) l w := by
 have hne := hI.lt.2.2
 obtain ⟨es, clock, since, seen, c0, hb, he, hst, hr, hold, hsc, hsk, hlf⟩ := hI
 rcases run_next_at (P := P) w ty r b since c0 seen es clock hr hb hold hsc with ⟨hz, hrun⟩ | ⟨e, hel, w1, hal, hrun⟩
 ·have hl : lf = [] := by
   have := congrArg List.length hlf
   simp [hz] at this
   exact List.eq_nil_of_length_eq_zero this.symm
  exact F (v := .tuple #[.bool false]) (w' := w) hi hw rfl hd (fun a ha => by simp [execOp, ha.eval hx, hrun]) (fun _ _ => Ext.refl w) (h0 hl)
 ·obtain ⟨hem, hes⟩ := mem_left hel
  have hmz : kvE e ∈ lf.map sE := by rw [← hlf]; exact List.mem_map.2 ⟨e, hel, rfl⟩
  obtain ⟨z, hz, hze⟩ := List.mem_map.1 hmz
  have hk : e.key = .string z.1 := (congrArg Prod.fst hze).symm
  have hv : e.val = z.2 := (congrArg Prod.snd hze).symm
  have hr1 : w1.heap[r]? = some (.mapIter (some b) since seen c0) := by rcases hal with rfl | rfl <;> exact hr
  have hb1 : w1.heap[b]? = some (.map es clock) := by rcases hal with rfl | rfl <;> exact hb
  have hset := heap_set (o' := .mapIter (some b) since (seen.push e.born) clock) hr1
  have hb' : (setBlock w1 r (.mapIter (some b) since (seen.push e.born) clock)).heap[b]? = some (.map es clock) := (hset.2 b (fun e1 => hne e1.symm)).trans hb1
  have hg : w.grownBy (setBlock w1 r (.mapIter (some b) since (seen.push e.born) clock)) (some r) := by
   rcases hal with rfl | rfl <;> exact ⟨rfl, rfl, rfl, by simp [setBlock], fun i _ hi => hset.2 i (fun e1 => hi (by rw [e1]))⟩
  rw [hk, hv] at hrun
  refine F (v := .tuple #[.bool true, .string z.1, z.2]) (w' := setBlock w1 r (.mapIter (some b) since (seen.push e.born) clock)) hi hw rfl hd (fun a ha => by simp [execOp, ha.eval hx, hrun]) (fun hd ht => by rw [htl hd] at ht; cases ht)
   (h1 z hz _ hg (fun w0 hB0 hE => Below.grown hE hg hE.size (fun j hj => by cases hj; exact hB0)) ⟨es, clock, since, seen.push e.born, clock, hb', he, hst, hset.1, hold, hsk, hsk, ?_⟩ (fun P' => ?_))
  ·have hsplit : (leftOf es (seen.push e.born)).toList = (leftOf es seen).toList.filter fun x => !isKS x.key z.1 := by
    unfold leftOf
    rw [Array.toList_filter, Array.toList_filter, List.filter_filter]
    refine List.filter_congr fun y hy => ?_
    rw [contains_push]
    by_cases hyb : y.born = e.born
    ·have : y = e := by
      have hn := hst.2.1
      exact born_inj hn hy hem hyb
     subst this
     simp [hk, isKS]
    ·have hyk : y.key ≠ .string z.1 := fun e1 => hyb (by rw [kv_inj hst.2.2 hy hem (e1.trans hk.symm)])
     have : isKS y.key z.1 = false := by cases h : isKS y.key z.1 with
      | false => rfl
      | true => exact absurd (isKS_iff.1 h) hyk
     simp [hyb, this]
   rw [hsplit]
   exact QbF _ _ _ _ hlf (fun _ _ => rfl)
  ·have := run_entry_at (P := P') _ r b since seen es clock e hset.1 hb' hem hst.2.1
   rw [hk, hv] at this
   exact this
theorem ENM {r : Nat} {z : SE} (hi : ops[i]? = some ⟨some d, .entry x, ty, pos, after, g⟩) (hw : Wt ops N l g) (hd : Nat.blt d N = true) (hx : ev l x = some (.pointer (some ⟨r, 0, none⟩))) (hN : EnM w r z)
  (h : WR P N ops dr Q π ((d, .tuple #[.string z.1, z.2]) :: l) w) : WR P N ops dr Q (i :: π) l w :=
 F (v := .tuple #[.string z.1, z.2]) (w' := w) hi hw rfl hd (fun a ha => by simp [execOp, ha.eval hx, hN P]) (fun _ _ => Ext.refl w) h
theorem filt_len {lf : List SE} {z : SE} (hz : z ∈ lf) : (lf.filter fun y => !decide (y.1 = z.1)).length < lf.length := by
 induction lf with
 | nil => cases hz
 | cons y lf ih =>
  rcases List.mem_cons.1 hz with rfl | h
  ·have := List.length_filter_le (fun y : SE => !decide (y.1 = z.1)) lf
   simp
   exact Nat.lt_succ_of_le (by simpa using this)
  ·have := ih h
   rw [List.filter_cons]
   split
   ·simp only [List.length_cons]; omega
   ·simp only [List.length_cons]; omega
end
end Go.Sx
