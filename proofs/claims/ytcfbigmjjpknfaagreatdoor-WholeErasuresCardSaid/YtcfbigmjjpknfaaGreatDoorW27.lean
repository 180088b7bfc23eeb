import Derived.Test.YtcfbigmjjpknfaaGreatDoorW17
import Derived.Test.YtcfbigmjjpknfaaGreatDoorW26
import Derived.Test.YtcfbigmjjpknfaaGreatDoorW00
namespace Go.Sx
open Go Go.RowKit Go.Pl
theorem fill_two2 {cells : Array Value} {a b c d : Value} (hc : cells.size = 4) : Instr.fill (fun i => some (i * 2, 2)) cells [(0, .agg #[a, b]), (1, .agg #[c, d])] = some #[a, b, c, d] := by
 obtain ⟨l⟩ := cells
 match l, hc with
 | [x0, x1, x2, x3], _ => rfl
section
variable {P : Program} {N : Nat} {l : Env} {w : World} {ops : Array Oper} {dr : Bool} {Q : Act → World → Prop} {π : List Nat} {i d : Nat} {v : Value} {op : Op} {ty : TypeId} {pos : String} {after : Array Edge} {g : Option (Nat × Bool)}
variable {x y : Operand} {T E : TypeId} {b : Nat} {zv : Value}
theorem BSV22 {a1 a2 b1 b2 : Value} (hi : ops[i]? = some ⟨some d, .buildSlice T 2 #[(0, x), (1, y)], ty, pos, after, g⟩) (hw : Wt ops N l g) (hd : Nat.blt d N = true) (hx : ev l x = some (.agg #[a1, a2])) (hy : ev l y = some (.agg #[b1, b2])) (hT : SlT P T E zv 2 b)
  (h : ∀ v w', Ext w w' → RowsV w' v 2 [[a1, a2], [b1, b2]] → WR P N ops dr Q π ((d, v) :: l) w') : WR P N ops dr Q (i :: π) l w := by
 obtain ⟨j, hj, hj1, hj2, _⟩ := Jb hT
 have hown : (w.alloc (.cells #[a1, a2, b1, b2] E)).ownsRow w.heap.size E 2 (.slice (some ⟨w.heap.size, 0, none⟩) 2 2) 2 (flatV [[a1, a2], [b1, b2]]) :=
  ⟨by simp [flatV], .inr ⟨w.heap.size, 2, #[a1, a2, b1, b2], rfl, Nat.le_refl _, heap_alloc_new w _, Nat.le_refl _, by unfold maxLen; omega, by simp, by simp [flatV]⟩⟩
 have hro : RowsV (w.alloc (.cells #[a1, a2, b1, b2] E)) (.slice (some ⟨w.heap.size, 0, none⟩) 2 2) 2 [[a1, a2], [b1, b2]] := OwnV.read (B := w.heap.size) (E := E) ⟨hown, by simp, by simp⟩
 refine F (v := .slice (some ⟨w.heap.size, 0, none⟩) 2 2) (w' := w.alloc (.cells #[a1, a2, b1, b2] E)) hi hw rfl hd (fun a ha => ?_) (fun _ _ => Ext.alloc _ _) (h _ _ (Ext.alloc _ _) hro)
 have hf : ∀ cells : Array Value, cells.size = 4 → Instr.fill (fun i => some (i * 2, 2)) cells [(0, .agg #[a1, a2]), (1, .agg #[b1, b2])] = some #[a1, a2, b1, b2] := fun cells hc => fill_two2 hc
 simp [execOp, ha.eval hx, ha.eval hy, Instr.buildSlice, run_underlying hT.und, sizeOf, typeInfo, hj, hj1, hj2, newRow, zeroValue, hf]
end
end Go.Sx
namespace Go.Proofs.YtcfbigmjjpknfaaGreatDoor
open Go Go.Sx Go.Pl Go.RowKit Go.Fd Go.Alg
set_option maxRecDepth 10000 in
theorem mxOpen2 (p M : Int) (mo v1 v2 lv : Value) (md : List Int) (n1 n2 : Int) (L1 L2 : List (List Int)) (w : World) (ok : OkF p M md) (hmd : Ints w mo md) (hlv : RowsV w lv 2 [[.int .i64 n1, v1], [.int .i64 n2, v2]]) (hL1 : LL w v1 L1) (hM1 : MV (fpOf p M md ok.1.1 ok.1.2.1) n1 L1) (hL2 : LL w v2 L2) (hM2 : MV (fpOf p M md ok.1.1 ok.1.2.1) n2 L2) :
  Calls Tryz.prog 101 #[fv0 p M mo, lv] w (RetX w fun r w' => ∃ g, r = .tuple #[g, .int .i64 0] ∧ GFV w' (fpOf p M md ok.1.1 ok.1.2.1) g) := by
 have hv11 := hL1.one
 have hv21 := hL2.one
 refine QD Tryz.func101 rfl rfl (Qc (Qb [0,1,2] rfl (BXA rfl wu rfl rfl ?_)))
 intro fb w1 hE hB hfb
 refine Qk rfl rfl (Qk rfl rfl (Qd (Qa (Qc ?_))))
 replace hmd := hmd.ext hE
 refine Qb [0,1,2,3,4,5,6] rfl (Vw rfl (ldA rfl Zf hB) (C rfl wu rfl rfl Tryz.call22 (fNew p M mo md _ hmd) ?_))
 rintro r0 w2 hE2 hr0
 obtain ⟨g, rfl, hG⟩ := Qb3 ok hr0
 refine mvV rfl rfl (QI rfl rfl rfl (QI rfl rfl rfl (Qk rfl rfl (Qk rfl rfl (Qd (Qa (Qc (Qc ?_))))))))
 replace hE := hE.trans hE2
 refine Qb [0,1] rfl (mvV rfl rfl (QG rfl rfl rfl (Qd (Qa (Qn rfl (rfl) (Qe (Qa (Qc (Qc (Qb [0,1,2] rfl (mvV rfl rfl (Vw rfl (QaT rfl XX (hlv.ext hE)) (mvV rfl rfl ?_)))))))))))))
 refine Qd (Qa (Qf ?_))
 refine Qv (fun i : Nat => [(6, g), (18, lv), (19, .int .i64 2), (20, .int .i64 i)]) (fun i w' => i ≤ 2 ∧ Ext w w' ∧ GFV w' (fpOf p M md ok.1.1 ok.1.2.1) g) (fun i => 2 - i) 0 ⟨rfl, rfl, rfl, rfl, trivial⟩ ⟨by omega, hE, hG⟩ ?_
 clear hE hG hB
 rintro i w3 ⟨i1, hE, hG⟩
 try dsimp only
 refine Qc (Qb [0] rfl (Qy rfl rfl rfl (Qd (Qa (Qc (Qo rfl ?_ ?_))))))
 ·intro hc
  simp at hc
  rcases (show i = 0 ∨ i = 1 by omega) with rfl | rfl
  ·skip
   refine Qe (Qa (Qc (Qf (Qc (Qb [0,1,2,3] rfl (Vw rfl (KU rfl rfl XX (hlv.ext hE) (by decide) (by simp)) (Vw rfl (ldV rfl ZP (hlv.ext hE) (Ext.refl _) (by decide) (by simp)) (AL rfl wu rfl KW ?_))))))))
   intro mb w4 hE4 hB4 hmb
   refine STB (vs := [.int .i64 n1, v1]) (cs' := [.int .i64 n1, v1]) rfl wu rfl rfl rfl JN nofun (by assumption) (by first | exact oc2 | exact oc3 | exact oc5 | (simp [Value.oneCell']; done)) rfl rfl rfl ?_
   intro w5 hg5 hX5 hB5
   refine Qd (Qa (Qc ?_))
   have hE5 := hX5 w3 hmb hE4
   replace hE := hE.trans hE5
   replace hG := hG.ext hE5
   refine Qb [0,1,2,3] rfl (mvV rfl rfl (Vw rfl (ldA rfl ZP hB5) (C rfl wu rfl rfl Tryz.call141 (Qb6 _ g v1 n1 L1 _ hG (hL1.ext hE) hM1) ?_)))
   rintro _ w6 hE6 rfl
   refine Qk rfl rfl (Qd (Qa (Qc (Qb [0,1] rfl (mvV rfl rfl (QG rfl rfl rfl (Qd (Qa (Qn rfl (rfl) (Qe (Qg (Qa (Qb [0,1] rfl (Qw rfl rfl rfl ?_))))))))))))))
   refine mvV rfl rfl (Qd ?_)
   exact Qi 1 ⟨rfl, rfl, rfl, rfl, trivial⟩ ⟨by omega, hE.trans hE6, hG.ext hE6⟩ (by omega)
  ·skip
   refine Qe (Qa (Qc (Qf (Qc (Qb [0,1,2,3] rfl (Vw rfl (KU rfl rfl XX (hlv.ext hE) (by decide) (by simp)) (Vw rfl (ldV rfl ZP (hlv.ext hE) (Ext.refl _) (by decide) (by simp)) (AL rfl wu rfl KW ?_))))))))
   intro mb w4 hE4 hB4 hmb
   refine STB (vs := [.int .i64 n2, v2]) (cs' := [.int .i64 n2, v2]) rfl wu rfl rfl rfl JN nofun (by assumption) (by first | exact oc2 | exact oc3 | exact oc5 | (simp [Value.oneCell']; done)) rfl rfl rfl ?_
   intro w5 hg5 hX5 hB5
   refine Qd (Qa (Qc ?_))
   have hE5 := hX5 w3 hmb hE4
   replace hE := hE.trans hE5
   replace hG := hG.ext hE5
   refine Qb [0,1,2,3] rfl (mvV rfl rfl (Vw rfl (ldA rfl ZP hB5) (C rfl wu rfl rfl Tryz.call141 (Qb6 _ g v2 n2 L2 _ hG (hL2.ext hE) hM2) ?_)))
   rintro _ w6 hE6 rfl
   refine Qk rfl rfl (Qd (Qa (Qc (Qb [0,1] rfl (mvV rfl rfl (QG rfl rfl rfl (Qd (Qa (Qn rfl (rfl) (Qe (Qg (Qa (Qb [0,1] rfl (Qw rfl rfl rfl ?_))))))))))))))
   refine mvV rfl rfl (Qd ?_)
   exact Qi 2 ⟨rfl, rfl, rfl, rfl, trivial⟩ ⟨by omega, hE.trans hE6, hG.ext hE6⟩ (by omega)
 ·intro hc
  refine Qt (Ql (Qm (Qh (Qa (Qc (Qb [0,1,2] rfl (mvV rfl rfl (Qk rfl rfl (Qk rfl rfl (Qd (Qa (Qq (QH rfl rfl rfl ?_)))))))))))))
  exact ⟨hE, g, rfl, hG⟩
set_option maxRecDepth 10000 in
theorem mxVec (P : FP) (g xv rv : Value) (xs : List Int) (L : List (List Int)) (cols : Nat) (w : World) (hG : GFV w P g) (hx : Ints w xv xs) (hL : LL w rv L) (hR : Ml.RL cols L) (hc1 : 1 ≤ cols) (hc2 : cols ≤ 100000) (hxl : xs.length = L.length) :
  Calls Tryz.prog 111 #[g, xv, rv, .int .i64 cols] w (RetX w fun r w' => OwnI w.heap.size w' r 3 (Ml.vecM (opsP P) xs L cols)) := by
 have hxle := hx.le
 obtain ⟨rs, hsl, hrl, hrow⟩ := hL.row
 refine JW Tryz.func111 rfl rfl (Qc (Qb [0] rfl (Qk rfl rfl (Qd (Qa (Qc (Qb [0,1,2] rfl (mvV rfl rfl (MKI (n := cols) rfl wu rfl rfl QA ?_)))))))))
 intro ov w1 hE1 ho hoi hob
 refine Qk rfl rfl (Qd (Qa (Qc (Qc (Qb [0,1,2] rfl (mvV rfl rfl (Vw rfl (Zh rfl QA (hx.ext hE1)) (mvV rfl rfl (Qd (Qa (Qf ?_)))))))))))
 refine Qv (fun i : Nat => [(0, g), (2, rv), (9, ov), (14, xv), (15, .int .i64 xs.length), (16, .int .i64 i)])
  (fun i w' => i ≤ xs.length ∧ Ext w w' ∧ OwnI w.heap.size w' ov 3 (Ml.vecFold (opsP P) xs L cols i)) (fun i => xs.length - i) 0 ⟨rfl, rfl, rfl, rfl, rfl, rfl, trivial⟩ ⟨by omega, hE1, ho⟩ ?_
 clear ho hoi
 rintro i w2 ⟨i1, hE, ho⟩
 have hxi := hx.ext hE
 have hs2 := hsl.ext hE
 have hfl := Ml.vecFold_length (o := opsP P) (x := xs) (rows := L) (cols := cols) i
 try dsimp only
 refine Qc (Qb [0] rfl (Qy rfl rfl rfl (Qd (Qa (Qc (Qo rfl ?_ ?_))))))
 ·intro hc
  simp at hc
  obtain ⟨r, hri, hrr⟩ := hrow i (by omega)
  have hrlen := hR.get (i := i) (by omega)
  refine Qe (Qa (Qc (Qf (Qc (Qb [0,1,2,3,4] rfl (mvV rfl rfl (Vw rfl (QO rfl rfl QA hxi (by omega) (by omega)) (Vw rfl (ldI rfl na3 hxi (Ext.refl _) (by omega) (by omega)) (Qk rfl rfl (Qk rfl rfl (Qd (Qa (Qc (Qb [0,1] rfl (mvV rfl rfl ?_)))))))))))))))
  refine QG rfl rfl rfl (Qd (Qa (Qo rfl ?_ ?_)))
  ·intro hn
   have hn' : gi xs i ≠ 0 := by simpa using hn
   obtain ⟨kr, hkr, hkl⟩ := hrr.lt (by omega)
   have holt := Own.lt ho
   have hX : ∀ k ∈ ov.ownBlock.toList, w.heap.size ≤ k := fun k hk => (holt k (by simpa using hk)).1
   refine Qb [0,1,2,3,4,5,6,7] rfl (mvV rfl rfl (mvV rfl rfl (mvV rfl rfl (mvV rfl rfl (mvV rfl rfl (Vw rfl (iad rfl rfl QN hs2 (by omega) (by omega)) (Vw rfl (ldE rfl Zk hs2 (by rw [Int.toNat_natCast]; exact hri) (Ext.refl _)) (CG rfl wu rfl rfl Tryz.call150 (mxAdd P g ov r _ (Ml.vecFold (opsP P) xs L cols i) (L.getD i []) w.heap.size w _ hG hE (Nat.le_refl _) ho (hrr.ext hE) (fun k hk e => by rw [hkr] at e; have := Option.some.inj e; have := (holt k hk).1; omega) (by omega)) nofun ?_))))))))
   rintro _ w3 hG3 ⟨rfl, ho3⟩
   refine Qd (Qg (Qa (Qb [0,1] rfl (Qw rfl rfl rfl (mvV rfl rfl (Qd (Qi (i + 1) ⟨rfl, rfl, rfl, rfl, rfl, rfl, trivial⟩ ⟨by omega, hG3.ext hE hX, ?_⟩ (by omega))))))))
   rw [Ml.vecFold_succ, if_neg hn']
   exact ho3
  ·intro hn
   have hn' : gi xs i = 0 := by simpa using hn
   refine Qe (Qg (Qa (Qb [0,1] rfl (Qw rfl rfl rfl (mvV rfl rfl (Qd (Qi (i + 1) ⟨rfl, rfl, rfl, rfl, rfl, rfl, trivial⟩ ⟨by omega, hE, ?_⟩ (by omega))))))))
   rw [Ml.vecFold_succ, if_pos hn']
   exact ho
 ·intro hc
  simp at hc
  obtain rfl : i = xs.length := by omega
  refine Qt (Ql (Qm (Qh (Qa (Qc (Qb [0,1] rfl (mvV rfl rfl (Qk rfl rfl (Qd (Qa (Qq (Qj rfl rfl ?_))))))))))))
  exact ⟨hE, ho⟩
set_option maxRecDepth 10000 in
theorem mxMul (p M : Int) (mo va vb : Value) (md : List Int) (na nb : Nat) (A B : List (List Int)) (w : World) (ok : OkF p M md) (hmd : Ints w mo md) (hA : LL w va A) (hMA : MV (fpOf p M md ok.1.1 ok.1.2.1) na A) (hB : LL w vb B) (hMB : MV (fpOf p M md ok.1.1 ok.1.2.1) nb B) (hab : na = B.length) (hnb : 1 ≤ nb) :
  Calls Tryz.prog 74 #[fv0 p M mo, .agg #[.int .i64 na, va], .agg #[.int .i64 nb, vb]] w (RetX w fun r w' => ∃ rv, r = .tuple #[.agg #[.int .i64 nb, rv], .int .i64 0] ∧ LLB w.heap.size w' rv (Ml.mulM (opsP (fpOf p M md ok.1.1 ok.1.2.1)) A B nb)) := by
 have hva1 := hA.one
 have hvb1 := hB.one
 have hvac := QB hva1
 have hvbc := QB hvb1
 have hnb2 := hMB.n1
 have hAl := hMA.len
 have hRA : Ml.RL na A := fun l hl => by have := hMA.row l hl; omega
 have hRB : Ml.RL nb B := fun l hl => by have := hMB.row l hl; omega
 obtain ⟨rsa, hsa, hrla, hrowa⟩ := hA.row
 obtain ⟨rsb, hsb, hrlb, -⟩ := hB.row
 refine QS Tryz.func74 rfl rfl (Qc (Qb [0,1,2,3,4] rfl (BXA rfl wu rfl rfl ?_)))
 intro fb w1 hE1 hF hfb
 refine BXA rfl wu rfl rfl ?_
 intro ma w2 hE2 hBa hma
 replace hF := hF.ext hE2
 refine BXA rfl wu rfl rfl ?_
 intro mb w3 hE3 hBb hmb
 replace hF := hF.ext hE3
 replace hBa := hBa.ext hE3
 refine AL rfl wu rfl Qc4 ?_
 intro rb w4 hE4 hC hrb
 replace hF := hF.ext hE4
 replace hBa := hBa.ext hE4
 replace hBb := hBb.ext hE4
 refine Qk rfl rfl (Qd (Qa (Qc ?_)))
 have hE := ((hE1.trans hE2).trans hE3).trans hE4
 have hz1 := hE1.size
 have hz2 := hE2.size
 have hz3 := hE3.size
 refine Qb [0,1,2,3,4,5,6,7,8,9] rfl (Vw rfl (ldA rfl Zf hF) (Vw rfl (ldA rfl ZP hBa) (Vw rfl (ldA rfl ZP hBb) (BSV22 rfl wu rfl rfl rfl XX ?_))))
 intro lv w5 hE5 hlv
 refine C rfl wu rfl rfl Tryz.call101 (mxOpen2 p M mo va vb lv md na nb A B _ ok ((hmd.ext hE).ext hE5) hlv ((hA.ext hE).ext hE5) hMA ((hB.ext hE).ext hE5) hMB) ?_
 rintro _ w6 hE6 ⟨g, rfl, hG⟩
 refine mvV rfl rfl (QI rfl rfl rfl (QI rfl rfl rfl (Qk rfl rfl (Qk rfl rfl (Qd (Qa (Qc (Qc (Qb [0,1] rfl (mvV rfl rfl (QG rfl rfl rfl (Qd (Qa ?_)))))))))))))
 refine Qn rfl (rfl) (Qe (Qa (Qc (Qc ?_))))
 have hE56 := hE5.trans hE6
 replace hBa := hBa.ext hE56
 replace hBb := hBb.ext hE56
 replace hC := hC.ext hE56
 replace hE := hE.trans hE56
 refine Qb [0,1,2,3,4,5] rfl (Qz rfl rfl QV (Vw rfl (ldB rfl na3 hBa) (Qz rfl rfl QR (Vw rfl (ldB rfl Zm hBb) (Vw rfl (Zt rfl QN (hsb.ext hE)) (QG rfl rfl rfl (Qd (Qa (Qn rfl (by simp; omega) (Qe (Qa (Qc ?_))))))))))))
 have hlC := hC.lt
 have hC6 := hC
 have hBb6 := hBb
 have hG6 := hG
 have hEw6 := hE
 refine Qb [0,1,2,3,4] rfl (Qz rfl rfl QV (Vw rfl (ldB rfl na3 hBb) (Vw rfl (bld rfl (bd39_0 (.int .i64 nb) rfl)) (AL rfl wu rfl KW ?_))))
 intro ob w7 hE7 hO hob
 refine STB (vs := [.int .i64 nb, .slice none 0 0]) (cs' := [.int .i64 nb, .slice none 0 0]) rfl wu rfl rfl rfl JN nofun (by assumption) (by first | exact oc2 | exact oc3 | exact oc5 | (simp [Value.oneCell']; done)) rfl rfl rfl ?_
 intro w8 hg8 hX8 hO8
 refine Qd (Qa (Qc (Qc ?_)))
 have hE8 := hX8 w6 hob hE7
 replace hBa := hBa.ext hE8
 replace hBb := hBb.ext hE8
 replace hC := hC.ext hE8
 have hzE := hE.size
 replace hE := hE.trans hE8
 replace hG := hG.ext hE8
 refine Qb [0,1,2,3] rfl (Qz rfl rfl QR (Vw rfl (ldB rfl Zm hBa) (Vw rfl (Zt rfl QN (hsa.ext hE)) (mvV rfl rfl (Qd (Qa (Qf ?_)))))))
 refine Qv (fun s : Nat × Value × List Value => [(5, .pointer (some ⟨mb, 0, none⟩)), (6, .pointer (some ⟨rb, 0, none⟩)), (8, g), (10, .pointer (some ⟨ob, 0, none⟩)), (36, va), (37, .int .i64 rsa.length), (38, .int .i64 s.1)])
  (fun s w' => s.1 ≤ A.length ∧ Ext w6 w' ∧ w8.heap.size ≤ w'.heap.size ∧ Blk w' ob 39 #[.int .i64 nb, s.2.1] ∧ OM w8.heap.size w' s.2.1 22 3 s.2.2 (Ml.mulM (opsP (fpOf p M md ok.1.1 ok.1.2.1)) (A.take s.1) B nb)) (fun s => A.length - s.1) (0, .slice none 0 0, []) ⟨rfl, rfl, rfl, rfl, rfl, rfl, rfl, trivial⟩ ⟨by omega, hE8, Nat.le_refl _, hO8, OM.nil _ _ _ _⟩ ?_
 have hlO := hO8.lt
 clear hO8
 rintro ⟨i, ov, rws⟩ wi ⟨i1, hEi, hzi, hOi, hom⟩
 dsimp only at i1 hEi hzi hOi hom
 have hEwi := hEw6.trans hEi
 try dsimp only
 refine Qc (Qb [0] rfl (Qy rfl rfl rfl (Qd (Qa (Qc (Qo rfl ?_ ?_))))))
 ·intro hc
  simp at hc
  obtain ⟨r, hri, hrr⟩ := hrowa i (by omega)
  have hrlen := hRA.get (i := i) (by omega)
  have hml : (Ml.mulM (opsP (fpOf p M md ok.1.1 ok.1.2.1)) (A.take i) B nb).length ≤ A.length := by simp [Ml.mulM]; omega
  refine Qe (Qa (Qc (Qf (Qc (Qb [0,1,2] rfl (Vw rfl (iad rfl rfl QN (hsa.ext hEwi) (by omega) (by omega)) (Vw rfl (ldE rfl Zk (hsa.ext hEwi) (by rw [Int.toNat_natCast]; exact hri) (Ext.refl _)) (Qk rfl rfl (Qd (Qa (Qx QK [0,1,2,3,4,5,6,7,8,9,10,11,12] (by kernel_rfl) ?_)))))))))))
  intro wd hd _
  replace hEi := hEi.trans hd
  replace hOi := hOi.ext hd
  replace hom := hom.ext hd
  replace hEwi := hEwi.trans hd
  refine Qz rfl rfl QR (Vw rfl (ldB rfl Zm hOi) (mvV rfl rfl (mvV rfl rfl (Qz rfl rfl QR (Vw rfl (ldB rfl Zm (hBb6.ext hEi)) (Qz rfl rfl QV (Vw rfl (ldB rfl na3 (hBb6.ext hEi)) (C rfl wu rfl rfl Tryz.call111 (mxVec _ g r vb (A.getD i []) B nb _ (hG6.ext hEi) (hrr.ext hEwi) (hB.ext hEwi) hRB hnb (by omega) (by omega)) ?_))))))))
  rintro nr wa hEa hnr
  refine BS (us := [nr]) rfl wu rfl rfl rfl rfl QN (by have := (OwnI.ints hnr).one; intro u hu; rw [List.mem_singleton.1 hu]; exact this) ?_
  intro tv wb hEb htv htb
  have hbk := hom.bk
  replace hom := (hom.ext hEa).ext hEb
  replace hOi := (hOi.ext hEa).ext hEb
  have hzd := hd.size
  have hza := hEa.size
  have hzb := hEb.size
  refine APOM (w1 := wd) rfl wu rfl rfl rfl QN (by intro h h2; exact absurd h2 (by decide +kernel)) hom htv.sl (OwnI.ext hnr hEb) (fun k hk => (hbk k hk).2) (Nat.le_refl _) (by omega) (by omega) (by omega) ?_
  intro ov2 wc hgc homc hvbc2
  replace hgc : wb.grownBy wc ov.ownBlock := hgc
  refine Qz rfl rfl QR ?_
  have hOc : Blk wc ob 39 #[.int .i64 nb, ov] := hOi.grown hgc (fun e => by have := (hbk ob (QQ.2 (.inl e))).1; omega)
  have h21 := homc.own.sl.one
  refine STB (k := 1) (n := 1) (vs := [ov2]) (cs := [.int .i64 nb, ov]) (cs' := [.int .i64 nb, ov2]) rfl wu rfl rfl (QB h21) sv25 (by intro h; kernel_rfl) hOc (by intro v hv; simp only [List.mem_cons, List.not_mem_nil, or_false] at hv; rcases hv with rfl; exact h21) rfl rfl rfl ?_
  intro we hge hXe hOe
  refine Qd (Qg (Qa (Qb [0,1] rfl (Qw rfl rfl rfl (mvV rfl rfl (Qd (Qi (i + 1, ov2, rws ++ [nr]) ⟨rfl, rfl, rfl, rfl, rfl, rfl, rfl, trivial⟩ ⟨by dsimp only; omega, hXe w6 hob (((hEi.trans hEa).trans hEb).grown hgc hom.own hE8.size), by have := hgc.size; have := hge.size; omega, hOe, ?_⟩ (by dsimp only; omega))))))))
  dsimp only
  rw [Ml.mulM_step (by omega)]
  exact homc.gr (X := [ob]) (Gr.of_grown hge (fun j e => by simp [Option.some.inj e])) (fun k hk e => by have := (homc.bk k hk).1; have := List.mem_singleton.1 e; omega)
 ·intro hc
  simp at hc
  obtain rfl : i = A.length := by omega
  rw [List.take_length] at hom
  have ho1 := hom.own.sl.one
  have hz68 := hE8.size
  refine Qt (Ql (Qm (Qh (Qa (Qc (Qb [0,1,2] rfl (Vw rfl (ldA rfl ZP hOi) (STB (vs := [.int .i64 nb, ov]) (cs' := [.int .i64 nb, ov]) rfl wu rfl rfl rfl JN nofun (hC6.ext hEi) oc2 rfl rfl rfl ?_))))))))
  intro wz hgz hXz hCz
  refine Qk rfl rfl (Qd (Qa (Qq ?_)))
  have hGz : Gr [rb] wi wz := Gr.of_grown hgz (fun k hk => by simp [Option.some.inj hk])
  refine QJ rfl rfl rfl ZP hCz rfl ?_
  exact ⟨hXz w (by omega) hEwi, ov, rfl, (hom.llb.gr hGz (fun k hk => by rw [List.mem_singleton.1 hk]; omega)).mono (by omega)⟩
set_option maxRecDepth 10000 in
theorem mxInverse (p M : Int) (mo v : Value) (md : List Int) (n : Nat) (L R : List (List Int)) (w : World) (ok : OkF p M md) (hmd : Ints w mo md) (hL : LL w v L) (hM : MV (fpOf p M md ok.1.1 ok.1.2.1) n L) (hn : L.length = n) (hinv : Ml.inverseM (opsP (fpOf p M md ok.1.1 ok.1.2.1)) L n = some R) :
  Calls Tryz.prog 133 #[fv0 p M mo, .agg #[.int .i64 n, v]] w (RetX w fun r w' => ∃ rv, r = .tuple #[.agg #[.int .i64 n, rv], .int .i64 0] ∧ LLB w.heap.size w' rv R) := by
 have hv1 := hL.one
 have hn1 := hM.n1
 have hlen := hM.len
 have hR : Ml.RL n L := fun l hl => by have := hM.row l hl; omega
 have hvc := QB hv1
 obtain ⟨rs, hsl, hrl, -⟩ := hL.row
 have hul : (Ml.unitM n).length = n := by rw [Ml.unitM, Qs]
 have huR : Ml.RL n (Ml.unitM n) := fun l hl => by
  obtain ⟨i, hi, rfl⟩ := List.getElem_of_mem hl
  rw [hul] at hi
  have h3 := Za (f := fun i => tab n fun j => if i = j then (1 : Int) else 0) hi
  rw [List.getElem?_eq_getElem (by rw [Qs]; exact hi)] at h3
  show (Ml.unitM n)[i].length = n
  rw [show (Ml.unitM n)[i] = tab n fun j => if i = j then (1 : Int) else 0 from Option.some.inj h3, Qs]
 have hpl : ¬ (Ml.elim (opsP (fpOf p M md ok.1.1 ok.1.2.1)) n n 0 [] (L, Ml.unitM n)).2.2.length < n ∧ (Ml.elim (opsP (fpOf p M md ok.1.1 ok.1.2.1)) n n 0 [] (L, Ml.unitM n)).2.1 = R := by
  unfold Ml.inverseM at hinv
  dsimp only at hinv
  split at hinv
  ·cases hinv
  ·rename_i h
   exact ⟨fun h' => h (by rw [Nat.blt_eq]; exact h'), Option.some.inj hinv⟩
 refine QD Tryz.func133 rfl rfl (Qc (Qb [0,1,2,3] rfl (BXA rfl wu rfl rfl ?_)))
 intro fb w1 hE1 hF hfb
 refine BXA rfl wu rfl rfl ?_
 intro mb w2 hE2 hB hmb
 replace hF := hF.ext hE2
 refine AL rfl wu rfl Qc4 ?_
 intro rb w3 hE3 hC hrb
 replace hF := hF.ext hE3
 replace hB := hB.ext hE3
 refine Qk rfl rfl (Qd (Qa (Qc ?_)))
 have hE := (hE1.trans hE2).trans hE3
 have hz1 := hE1.size
 have hz2 := hE2.size
 have hlC := hC.lt
 refine Qb [0,1,2,3,4,5,6,7,8] rfl (Vw rfl (ldA rfl Zf hF) (Vw rfl (ldA rfl ZP hB) (BSV (r := [.int .i64 n, v]) rfl wu rfl rfl XX rfl (by decide) (by decide) ?_)))
 intro lv w4 hE4 hlv
 refine C rfl wu rfl rfl Tryz.call101 (Qam p M mo v lv md n L _ ok ((hmd.ext hE).ext hE4) hlv hv1 ((hL.ext hE).ext hE4) hM) ?_
 rintro _ w5 hE5 ⟨g, rfl, hG⟩
 refine mvV rfl rfl (QI rfl rfl rfl (QI rfl rfl rfl (Qk rfl rfl (Qk rfl rfl (Qd (Qa (Qc (Qc (Qb [0,1] rfl (mvV rfl rfl (QG rfl rfl rfl (Qd (Qa ?_)))))))))))))
 refine Qn rfl (rfl) (Qe (Qa (Qc (Qc ?_))))
 have hE45 := hE4.trans hE5
 replace hB := hB.ext hE45
 replace hC := hC.ext hE45
 replace hE := hE.trans hE45
 have hz5 := hE.size
 have hlC5 := hC.lt
 refine Qb [0,1,2,3,4,5] rfl (Qz rfl rfl QR (Vw rfl (ldB rfl Zm hB) (Vw rfl (Zt rfl QN (hsl.ext hE)) (Qz rfl rfl QV (Vw rfl (ldB rfl na3 hB) (QG rfl rfl rfl (Qd (Qa (Qn rfl (by simp; omega) (Qe (Qa (Qc ?_))))))))))))
 refine Qb [0,1,2,3] rfl (Qz rfl rfl QV (Vw rfl (ldB rfl na3 hB) (C rfl wu rfl rfl Tryz.call241 (mxUnit n _ (by omega)) ?_)))
 rintro uv w6 hE6 ⟨ur, hou⟩
 refine Qk rfl rfl (Qd (Qa (Qc (Qx QK [0,1,2,4,5,6,3,7,8,9,10,11,12] (by kernel_rfl) ?_))))
 intro w7 hd _
 replace hou := hou.ext hd
 refine mvV rfl rfl (Qz rfl rfl QR (Vw rfl (ldB rfl Zm ((hB.ext hE6).ext hd)) (Qz rfl rfl QV (Vw rfl (ldB rfl na3 ((hB.ext hE6).ext hd)) (mvV rfl rfl (C rfl wu rfl rfl Tryz.call148 (mxClone v L _ (((hL.ext hE).ext hE6).ext hd) (by omega) (fun l hl => by rw [hR l hl]; omega)) ?_))))))
 rintro cv w8 hE8 ⟨cr, hoc⟩
 have hz6 := hE6.size
 have hz7 := hd.size
 have hbu := hou.bk
 have hbc := hoc.bk
 refine CG rfl wu rfl rfl Tryz.call149 (mxElim _ g cv uv cr ur L (Ml.unitM n) n n n w5.heap.size w5 w8 hG ((hE6.trans hd).trans hE8) (Nat.le_refl _) ((hE6.trans hd).trans hE8).size (hoc.mono (by omega)) (hou.ext hE8) (fun k hk h => by have := (hbu k hk).2; have := (hbc k h).1; omega) hR huR (Nat.le_refl _) (by omega) (by omega) (by omega) (.inr (by rw [hul, hn]))) (by intro h; kernel_rfl) ?_
 rintro _ w9 hG9 ⟨pv, d, cr', ur', rfl, hpv, hoc9, hou9, n1, n2, hd9, hpx⟩
 refine mvV rfl rfl (QI rfl rfl rfl (QI rfl rfl rfl (Qk rfl rfl (Qk rfl rfl (Qd (Qa (Qc (Qc ?_))))))))
 have hX : ∀ k ∈ bks cv cr ++ bks uv ur, w5.heap.size ≤ k := fun k hk => by
  rcases List.mem_append.1 hk with h | h
  ·have := (hbc k h).1; omega
  ·exact (hbu k h).1
 have hE9 := hG9.ext ((hE6.trans hd).trans hE8) hX
 refine Qb [0,1,2,3,4] rfl (mvV rfl rfl (Vw rfl (Zh rfl QA (OwnI.ints hpv)) (Qz rfl rfl QV (Vw rfl (ldB rfl na3 (hB.ext hE9)) (Qy rfl rfl rfl (Qd (Qa (Qn rfl (by simp; have := hpl.1; omega) (Qe (Qa (Qc ?_)))))))))))
 rw [hpl.2] at hou9
 have hu1 := hou9.own.sl.one
 refine Qb [0,1,2,3,4,5] rfl (Qz rfl rfl QV (Vw rfl (ldB rfl na3 (hB.ext hE9)) (mvV rfl rfl (Vw rfl (bld rfl (QdE n uv (QB hu1))) (STB (vs := [.int .i64 n, uv]) (cs' := [.int .i64 n, uv]) rfl wu rfl rfl rfl JN nofun (hC.ext hE9) oc2 rfl rfl rfl ?_)))))
 intro wz hgz hXz hCz
 refine Qk rfl rfl (Qd (Qa (Qq ?_)))
 have hGz : Gr [rb] w9 wz := Gr.of_grown hgz (fun k hk => by simp [Option.some.inj hk])
 refine QJ rfl rfl rfl ZP hCz rfl ?_
 exact ⟨hXz w (by omega) (hE.trans hE9), uv, rfl, (hou9.llb.gr hGz (fun k hk => by rw [List.mem_singleton.1 hk]; exact hlC5)).mono hz5⟩
end Go.Proofs.YtcfbigmjjpknfaaGreatDoor
namespace Go.Proofs.YtcfbigmjjpknfaaGreatDoor
open Go Go.Sx Go.Pl Go.RowKit Go.Fd Go.Alg
set_option maxRecDepth 10000 in
theorem Qbt (p M : Int) (mo v sv : Value) (md : List Int) (n : Nat) (L : List (List Int)) (set : List Int) (w : World) (ok : OkF p M md) (hmd : Ints w mo md) (hL : LL w v L) (hM : MV (fpOf p M md ok.1.1 ok.1.2.1) n L) (hs : Ints w sv set) (hsl : set.length ≤ 256) (hsr : ∀ x ∈ set, 0 ≤ x ∧ x < n) :
  Calls Tryz.prog 71 #[fv0 p M mo, .agg #[.int .i64 n, v], sv] w (RetX w fun r w' => ∃ rv, r = .tuple #[.agg #[.int .i64 set.length, rv], .int .i64 0] ∧ LLB w.heap.size w' rv (Ml.columnsM L set)) := by
 have hv1 := hL.one
 have hn1 := hM.n1
 have hlen := hM.len
 have hR : Ml.RL n L := fun l hl => by have := hM.row l hl; omega
 have hvc := QB hv1
 obtain ⟨rs, hsl2, hrl, hrow⟩ := hL.row
 have hget : ∀ k : Nat, k < set.length → 0 ≤ gi set k ∧ gi set k < n := fun k hk => hsr _ (by
  have : gi set k = set[k]'hk := by simp [gi, List.getD_eq_getElem?_getD, hk]
  rw [this]
  exact List.getElem_mem _)
 refine QS Tryz.func71 rfl rfl (Qc (Qb [0,1,2,3] rfl (BXA rfl wu rfl rfl ?_)))
 intro fb w1 hE1 hF hfb
 refine BXA rfl wu rfl rfl ?_
 intro mb w2 hE2 hB hmb
 replace hF := hF.ext hE2
 refine AL rfl wu rfl Qc4 ?_
 intro rb w3 hE3 hC hrb
 replace hF := hF.ext hE3
 replace hB := hB.ext hE3
 refine Qk rfl rfl (Qd (Qa (Qc (Qc ?_))))
 have hE := (hE1.trans hE2).trans hE3
 have hz1 := hE1.size
 have hz2 := hE2.size
 have hlC := hC.lt
 refine Qb [0,1,2,3,4,5,6,7,8] rfl (Vw rfl (ldA rfl Zf hF) (Vw rfl (ldA rfl ZP hB) (BSV (r := [.int .i64 n, v]) rfl wu rfl rfl XX rfl (by decide) (by decide) ?_)))
 intro lv w4 hE4 hlv
 refine C rfl wu rfl rfl Tryz.call101 (Qam p M mo v lv md n L _ ok ((hmd.ext hE).ext hE4) hlv hv1 ((hL.ext hE).ext hE4) hM) ?_
 rintro _ w5 hE5 ⟨g, rfl, hG⟩
 refine mvV rfl rfl (QI rfl rfl rfl (QI rfl rfl rfl (Qk rfl rfl (Qk rfl rfl (Qd (Qa (Qc (Qb [0,1] rfl (mvV rfl rfl (QG rfl rfl rfl (Qd (Qa ?_))))))))))))
 refine Qn rfl (rfl) (Qe (Qa (Qc (Qc ?_))))
 have hE45 := hE4.trans hE5
 replace hB := hB.ext hE45
 replace hC := hC.ext hE45
 replace hE := hE.trans hE45
 have hz5 := hE.size
 have hlC5 := hC.lt
 refine Qb [0,1,2] rfl (mvV rfl rfl (Vw rfl (Zh rfl QA (hs.ext hE)) (ZA rfl rfl rfl (Qd (Qa (Qn rfl (by simp; omega) (Qe (Qa (Qc (Qc (Qb [0,1,2] rfl (mvV rfl rfl (Vw rfl (Zh rfl QA (hs.ext hE)) ?_)))))))))))))
 refine mvV rfl rfl (Qd (Qa (Qf ?_)))
 have hs5 := hs.ext hE
 refine Qv (fun k : Nat => [(2, sv), (4, .pointer (some ⟨mb, 0, none⟩)), (6, .pointer (some ⟨rb, 0, none⟩)), (33, sv), (34, .int .i64 set.length), (35, .int .i64 k)]) (fun k w' => k ≤ set.length ∧ w' = w5) (fun k => set.length - k) 0 ⟨rfl, rfl, rfl, rfl, rfl, rfl, trivial⟩ ⟨by omega, rfl⟩ ?_
 rintro k w6 ⟨k1, rfl⟩
 try dsimp only
 refine Qc (Qb [0] rfl (Qy rfl rfl rfl (Qd (Qa (Qc (Qo rfl ?_ ?_))))))
 ·intro hc
  simp at hc
  have hb := hget k hc
  refine Qe (Qa (Qc (Qf (Qc (Qb [0,1,2] rfl (Vw rfl (QO rfl rfl QA hs5 (by omega) (by omega)) (Vw rfl (ldI rfl na3 hs5 (Ext.refl _) (by omega) (by omega)) (Qk rfl rfl (Qd (Qa (Qc (Qb [0,1,2,3,4,5,6,7] rfl (mvV rfl rfl (Qy rfl rfl rfl (mvV rfl rfl ?_)))))))))))))))
  refine KB 41 false rfl (decide_eq_false (by omega)) (Vg rfl rfl rfl (mv rfl) (Vg rfl rfl rfl (fad rfl QV) (Vg rfl rfl rfl (ldB rfl na3 hB) (Vg rfl rfl rfl (Xb rfl rfl) (pkV rfl rfl rfl (Qd (Qa (Qn rfl (by simp; omega) (Qe (Qg (Qa (Qb [0,1] rfl ?_))))))))))))
  refine Qw rfl rfl rfl (mvV rfl rfl (Qd ?_))
  exact Qi (k + 1) ⟨rfl, rfl, rfl, rfl, rfl, rfl, trivial⟩ ⟨by omega, rfl⟩ (by omega)
 ·intro hc
  clear hc k1
  refine Qt (Ql (Qm (Qh (Qa (Qc (Qb [0,1,2,3,4] rfl (mvV rfl rfl (Vw rfl (Zh rfl QA hs5) (Vw rfl (bld rfl (bd39_0 (.int .i64 set.length) rfl)) (AL rfl wu rfl KW ?_))))))))))
  intro ob w7 hE7 hO hob
  refine STB (vs := [.int .i64 set.length, .slice none 0 0]) (cs' := [.int .i64 set.length, .slice none 0 0]) rfl wu rfl rfl rfl JN nofun (by assumption) (by first | exact oc2 | exact oc3 | exact oc5 | (simp [Value.oneCell']; done)) rfl rfl rfl ?_
  intro w8 hg8 hX8 hO8
  refine Qd (Qa (Qc (Qc ?_)))
  have hE8 := hX8 w6 hob hE7
  refine Qb [0,1,2,3] rfl (Qz rfl rfl QR (Vw rfl (ldB rfl Zm (hB.ext hE8)) (Vw rfl (Zt rfl QN ((hsl2.ext hE).ext hE8)) (mvV rfl rfl (Qd (Qa (Qf ?_)))))))
  have hlO := hO8.lt
  refine Qv (fun s : Nat × Value × List Value => [(2, sv), (6, .pointer (some ⟨rb, 0, none⟩)), (12, .pointer (some ⟨ob, 0, none⟩)), (53, v), (54, .int .i64 rs.length), (55, .int .i64 s.1)])
   (fun s w' => s.1 ≤ L.length ∧ Ext w6 w' ∧ w8.heap.size ≤ w'.heap.size ∧ Blk w' ob 39 #[.int .i64 set.length, s.2.1] ∧ OM w8.heap.size w' s.2.1 22 3 s.2.2 (Ml.columnsM (L.take s.1) set)) (fun s => L.length - s.1) (0, .slice none 0 0, []) ⟨rfl, rfl, rfl, rfl, rfl, rfl, trivial⟩ ⟨by omega, hE8, Nat.le_refl _, hO8, OM.nil _ _ _ _⟩ ?_
  clear hO8 hO
  rintro ⟨i, ov, rws⟩ wi ⟨i1, hEi, hzi, hOi, hom⟩
  dsimp only at i1 hEi hzi hOi hom
  have hEwi := hE.trans hEi
  have hsi := hs.ext hEwi
  try dsimp only
  refine Qc (Qb [0] rfl (Qy rfl rfl rfl (Qd (Qa (Qc (Qo rfl ?_ ?_))))))
  ·intro hc
   simp at hc
   obtain ⟨r, hri, hrr⟩ := hrow i (by omega)
   have hrlen := hR.get (i := i) (by omega)
   have hml : (Ml.columnsM (L.take i) set).length ≤ L.length := by simp [Ml.columnsM]; omega
   refine Qe (Qa (Qc (Qf (Qc (Qb [0,1,2] rfl (Vw rfl (iad rfl rfl QN (hsl2.ext hEwi) (by omega) (by omega)) (Vw rfl (ldE rfl Zk (hsl2.ext hEwi) (by rw [Int.toNat_natCast]; exact hri) (Ext.refl _)) (Qk rfl rfl (Qd (Qa (Qc (Qb [0,1,2,3] rfl (mvV rfl rfl (Vw rfl (Zh rfl QA hsi) (MKI (n := set.length) rfl wu rfl rfl QA ?_)))))))))))))))
   intro xv wa hEa hxa hxi hxb
   refine Qk rfl rfl (Qd (Qa (Qc (Qc (Qb [0,1,2] rfl (mvV rfl rfl (Vw rfl (Zh rfl QA (hsi.ext hEa)) (mvV rfl rfl (Qd (Qa (Qf ?_)))))))))))
   refine Qv (fun k : Nat => [(2, sv), (6, .pointer (some ⟨rb, 0, none⟩)), (12, .pointer (some ⟨ob, 0, none⟩)), (14, r), (15, xv), (53, v), (54, .int .i64 rs.length), (55, .int .i64 i), (62, sv), (63, .int .i64 set.length), (64, .int .i64 k)])
    (fun k w' => k ≤ set.length ∧ Ext wi w' ∧ OwnI wi.heap.size w' xv 3 (tab set.length fun t => if t < k then gi (L.getD i []) (gi set t) else 0)) (fun k => set.length - k) 0 ⟨rfl, rfl, rfl, rfl, rfl, rfl, rfl, rfl, rfl, rfl, rfl, trivial⟩ ⟨by omega, hEa, by simpa using hxa⟩ ?_
   clear hxa hxi hEa
   rintro k wk ⟨k1, hEk, hxo⟩
   have hsk := hsi.ext hEk
   have hrk := hrr.ext (hEwi.trans hEk)
   have hxi := OwnI.ints hxo
   try dsimp only
   refine Qc (Qb [0] rfl (Qy rfl rfl rfl (Qd (Qa (Qc (Qo rfl ?_ ?_))))))
   ·intro hk
    simp at hk
    have hb := hget k hk
    refine Qe (Qa (Qc (Qf (Qc (Qb [0,1,2,3,4] rfl (mvV rfl rfl (Vw rfl (QO rfl rfl QA hsk (by omega) (by omega)) (Vw rfl (ldI rfl na3 hsk (Ext.refl _) (by omega) (by omega)) (Qk rfl rfl (Qk rfl rfl (Qd (Qa (Qb [0,1,2,3,4,5,6,7] rfl (mvV rfl rfl ?_))))))))))))))
    refine mvV rfl rfl (mvV rfl rfl (mvV rfl rfl (Vw rfl (QO rfl rfl QA hrk (by omega) (by omega)) (Vw rfl (ldI rfl na3 hrk (Ext.refl _) (by omega) (by omega)) (Vw rfl (QO rfl rfl QA hxi (by omega) (by rw [Qs]; omega)) (STI rfl wu rfl rfl sz3 nofun ?_ (ho := hxo) (h0 := by omega) (h1 := by rw [Qs]; omega)))))))
    intro wl hgl hXl hOl hIl
    refine Qd (Qg (Qa (Qb [0,1] rfl (Qw rfl rfl rfl (mvV rfl rfl (Qd (Qi (k + 1) ⟨rfl, rfl, rfl, rfl, rfl, rfl, rfl, rfl, rfl, rfl, rfl, trivial⟩ ⟨by omega, hXl wi (Nat.le_refl _) hEk, ?_⟩ (by omega))))))))
    rw [Jt] at hOl
    have e : (tab set.length fun t => if t = ((k : Int)).toNat then gi (L.getD i []) (gi set k) else if t < k then gi (L.getD i []) (gi set t) else 0) = tab set.length fun t => if t < k + 1 then gi (L.getD i []) (gi set t) else 0 := QF fun j hj => by
     rw [Int.toNat_natCast]
     by_cases e : j = k
     ·subst e
      rw [if_pos rfl, if_pos (by omega)]
     ·rw [if_neg e]
      by_cases h : j < k
      ·rw [if_pos h, if_pos (show j < k + 1 by omega)]
      ·rw [if_neg h, if_neg (by omega)]
    rw [← e]
    exact hOl
   ·intro hk
    simp at hk
    obtain rfl : k = set.length := by omega
    have ex : (tab set.length fun t => if t < set.length then gi (L.getD i []) (gi set t) else 0) = set.map fun j => gi (L.getD i []) j := by
     refine List.ext_getElem (by simp [Qs]) fun j h1 h2 => ?_
     rw [Qs] at h1
     have h3 := Za (f := fun t => if t < set.length then gi (L.getD i []) (gi set t) else (0 : Int)) h1
     rw [List.getElem?_eq_getElem (by rw [Qs]; exact h1)] at h3
     rw [Option.some.inj h3, if_pos h1, List.getElem_map]
     simp [gi, List.getD_eq_getElem?_getD, h1]
    rw [ex] at hxo
    have hbk := hom.bk
    have hzk := hEk.size
    refine Qt (Ql (Qm (Qh (Qa (Qb [0,1,2,3,4,5,6] rfl (Qz rfl rfl QR (Vw rfl (ldB rfl Zm (hOi.ext hEk)) (mvV rfl rfl (BS (us := [xv]) rfl wu rfl rfl rfl rfl QN (by have := (OwnI.ints hxo).one; intro u hu; rw [List.mem_singleton.1 hu]; exact this) ?_)))))))))
    intro tv wm hEm htv htb
    replace hom := (hom.ext hEk).ext hEm
    have hOm := (hOi.ext hEk).ext hEm
    have hzm := hEm.size
    refine APOM (w1 := wi) rfl wu rfl rfl rfl QN nofun hom htv.sl (OwnI.ext hxo hEm) (fun k hk => (hbk k hk).2) (Nat.le_refl _) (by omega) (by omega) (by omega) ?_
    intro ov2 wn hgn homn hbn
    replace hgn : wm.grownBy wn ov.ownBlock := hgn
    refine Qz rfl rfl QR ?_
    have hOn : Blk wn ob 39 #[.int .i64 set.length, ov] := hOm.grown hgn (fun e => by have := (hbk ob (QQ.2 (.inl e))).1; omega)
    have h21 := homn.own.sl.one
    refine STB (k := 1) (n := 1) (vs := [ov2]) (cs := [.int .i64 set.length, ov]) (cs' := [.int .i64 set.length, ov2]) rfl wu rfl rfl (QB h21) sv25 nofun hOn (by intro v hv; simp only [List.mem_cons, List.not_mem_nil, or_false] at hv; rcases hv with rfl; exact h21) rfl rfl rfl ?_
    intro we hge hXe hOe
    refine Qd (Qg (Qa (Qb [0,1] rfl (Qw rfl rfl rfl (mvV rfl rfl (Qd (Qi (i + 1, ov2, rws ++ [xv]) ⟨rfl, rfl, rfl, rfl, rfl, rfl, trivial⟩ ⟨by dsimp only; omega, hXe w6 hob (((hEi.trans hEk).trans hEm).grown hgn hom.own hE8.size), by have := hgn.size; have := hge.size; omega, hOe, ?_⟩ (by dsimp only; omega))))))))
    dsimp only
    rw [Ml.columnsM_step (by omega)]
    exact homn.gr (X := [ob]) (Gr.of_grown hge (fun j e => by simp [Option.some.inj e])) (fun k hk e => by have := (homn.bk k hk).1; have := List.mem_singleton.1 e; omega)
  ·intro hc
   simp at hc
   obtain rfl : i = L.length := by omega
   rw [List.take_length] at hom
   have ho1 := hom.own.sl.one
   have hz68 := hE8.size
   refine Qt (Ql (Qm (Qh (Qa (Qc (Qb [0,1,2] rfl (Vw rfl (ldA rfl ZP hOi) (STB (vs := [.int .i64 set.length, ov]) (cs' := [.int .i64 set.length, ov]) rfl wu rfl rfl rfl JN nofun (hC.ext hEi) oc2 rfl rfl rfl ?_))))))))
   intro wz hgz hXz hCz
   refine Qk rfl rfl (Qd (Qa (Qq ?_)))
   have hGz : Gr [rb] wi wz := Gr.of_grown hgz (fun k hk => by simp [Option.some.inj hk])
   refine QJ rfl rfl rfl ZP hCz rfl ?_
   exact ⟨hXz w (by omega) hEwi, ov, rfl, (hom.llb.gr hGz (fun k hk => by rw [List.mem_singleton.1 hk]; omega)).mono (by omega)⟩
theorem MV.cols {P : FP} {n : Nat} {L : List (List Int)} (h : MV P n L) {set : List Int} (hs : set.length ≤ 256) (hr : ∀ x ∈ set, 0 ≤ x ∧ x < n) : MV P set.length (Ml.columnsM L set) :=
 ⟨by omega, by omega, by have := h.len; simp [Ml.columnsM]; omega, fun l hl => by
  obtain ⟨r, hr, rfl⟩ := List.mem_map.1 hl
  simp, fun l hl x hx => by
  obtain ⟨r, hrm, rfl⟩ := List.mem_map.1 hl
  obtain ⟨j, hj, rfl⟩ := List.mem_map.1 hx
  have h1 := hr j hj
  have h2 := h.row r hrm
  exact InR.get (h.el r hrm) h1.1 (by omega)⟩
set_option maxRecDepth 10000 in
theorem QbB (p M : Int) (mo v : Value) (md : List Int) (n : Nat) (L R : List (List Int)) (sv : Value) (l : List Int) (w : World) (hc : CdOk p M md n L) (hmd : Ints w mo md) (hL : LL w v L) (hs : Ints w sv l) (ha : AscIn n l) (h1 : Ml.rankM (opsP hc.P) L l = l.length) (h2 : l.length = L.length) (hinv : Ml.inverseM (opsP hc.P) (Ml.columnsM L l) L.length = some R) (hMR : MV hc.P L.length R) :
  Calls Tryz.prog 91 #[.agg #[.int .i64 p, .int .i64 M, mo, .int .i64 n, v], sv] w (RetX w fun r w' => ∃ rv, r = .tuple #[.agg #[.int .i64 n, rv], .int .i64 0] ∧ LLB w.heap.size w' rv (Ml.mulM (opsP hc.P) R L n)) := by
 have hv1 := hL.one
 have hm1 := hmd.one
 have hvc := QB hv1
 have hlen := hc.mv.len
 have hMc := MV.cols hc.mv (set := l) (by omega) ha.lo
 refine QD Tryz.func91 rfl rfl (Qc (Qb [0,1,2] rfl (BXA rfl wu rfl rfl ?_)))
 intro cb w1 hE1 hB hcb
 refine AL rfl wu rfl Qc4 ?_
 intro rb w2 hE2 hC hrb
 replace hB := hB.ext hE2
 refine Qk rfl rfl (Qd (Qa (Qc ?_)))
 have hE := hE1.trans hE2
 have hz1 := hE1.size
 refine Qb [0,1,2,3,4,5,6,7] rfl (Vw rfl (ldA rfl Jx hB) (mvV rfl rfl (C rfl wu rfl rfl Tryz.call132 (isIs p M mo v md n L sv l _ hc (hmd.ext hE) (hL.ext hE) (hs.ext hE) (by omega) ha h1 h2) ?_)))
 rintro _ w3 hE3 rfl
 replace hB := hB.ext hE3
 replace hC := hC.ext hE3
 replace hE := hE.trans hE3
 refine mvV rfl rfl (QI rfl rfl rfl (QI rfl rfl rfl (Qk rfl rfl (Qk rfl rfl (Qd (Qa (Qc (Qc (Qb [0,1] rfl (mvV rfl rfl (QG rfl rfl rfl (Qd (Qa ?_)))))))))))))
 refine Qn rfl (rfl) (Qe (Qa (Qc (Qc (Qb [0,1] rfl (mvV rfl rfl (ZC rfl rfl (Qd (Qa (Qn rfl (rfl) (Qe (Qa (Qc (Qb [0,1,2,3,4,5,6] rfl (Qz rfl rfl Zr ?_)))))))))))))))
 refine Vw rfl (ldB rfl na3 hB) (Qz rfl rfl ZE (Vw rfl (ldB rfl Zm hB) (Vw rfl (bld rfl (QdE n v hvc)) (AL rfl wu rfl KW ?_))))
 intro mb w4 hE4 hM hmb
 refine STB (vs := [.int .i64 n, v]) (cs' := [.int .i64 n, v]) rfl wu rfl rfl rfl JN nofun hM oc2 rfl rfl rfl ?_
 intro w5 hg5 hX5 hM5
 refine Qd (Qa (Qc ?_))
 have hE5 := hX5 w3 hmb hE4
 have hlC := hC.lt
 have hz3 := hE.size
 replace hB := hB.ext hE5
 replace hC := hC.ext hE5
 replace hE := hE.trans hE5
 have hz35 := hE5.size
 refine Qb [0,1,2,3,4,5,6,7,8,9,10] rfl (Qz rfl rfl Zy (Vw rfl (ldA rfl Zf hB) (Vw rfl (ldA rfl ZP hM5) (mvV rfl rfl (C rfl wu rfl rfl Tryz.call71 (Qbt p M mo v sv md n L l _ hc.ok (hmd.ext hE) (hL.ext hE) hc.mv (hs.ext hE) (by omega) ha.lo) ?_)))))
 rintro _ w6 hE6 ⟨pv, rfl, hpv⟩
 refine mvV rfl rfl (QI rfl rfl rfl (QI rfl rfl rfl ?_))
 have hp1 := hpv.one
 refine AL rfl wu rfl KW ?_
 intro pb w7 hE7 hP hpb
 refine STB (vs := [.int .i64 l.length, pv]) (cs' := [.int .i64 l.length, pv]) rfl wu rfl rfl rfl JN nofun hP oc2 rfl rfl rfl ?_
 intro w8 hg8 hX8 hP8
 refine Qk rfl rfl (Qd (Qa (Qc (Qc ?_))))
 have hE8 := hE6.trans (hX8 w6 hpb hE7)
 have hpv8 := hpv.ext (hX8 w6 hpb hE7)
 replace hB := hB.ext hE8
 replace hC := hC.ext hE8
 replace hM5 := hM5.ext hE8
 replace hE := hE.trans hE8
 refine Qb [0,1] rfl (mvV rfl rfl (QG rfl rfl rfl (Qd (Qa (Qn rfl (rfl) (Qe (Qa (Qc (Qb [0,1,2,3,4,5,6,7,8,9] rfl (Qz rfl rfl Zy (Vw rfl (ldA rfl Zf hB) (Vw rfl (ldA rfl ZP hP8) ?_))))))))))))
 have hcall := mxInverse p M mo pv md l.length (Ml.columnsM L l) R _ hc.ok (hmd.ext hE) hpv8.ll hMc (by rw [h2]; simp [Ml.columnsM]) (by rw [h2]; exact hinv)
 refine C rfl wu rfl rfl Tryz.call133 hcall ?_
 rintro _ w9 hE9 ⟨iv, rfl, hiv⟩
 refine mvV rfl rfl (QI rfl rfl rfl (QI rfl rfl rfl ?_))
 have hi1 := hiv.one
 refine AL rfl wu rfl KW ?_
 intro ib wa hEa hI hib
 refine STB (vs := [.int .i64 l.length, iv]) (cs' := [.int .i64 l.length, iv]) rfl wu rfl rfl rfl JN nofun hI oc2 rfl rfl rfl ?_
 intro wb hgb hXb hIb
 refine Qk rfl rfl (Qd (Qa (Qc (Qc ?_))))
 have hEb := hE9.trans (hXb w9 hib hEa)
 have hivb := hiv.ext (hXb w9 hib hEa)
 replace hB := hB.ext hEb
 replace hC := hC.ext hEb
 replace hM5 := hM5.ext hEb
 have hz8 := hE8.size
 have hzb := hEb.size
 replace hE := hE.trans hEb
 refine Qb [0,1] rfl (mvV rfl rfl (QG rfl rfl rfl (Qd (Qa (Qn rfl (rfl) (Qe (Qa (Qc (Qb [0,1,2,3,4,5,6,7,8] rfl (Qz rfl rfl Zy (Vw rfl (ldA rfl Zf hB) (Vw rfl (ldA rfl ZP hIb) ?_))))))))))))
 refine Vw rfl (ldA rfl ZP hM5) ?_
 have hcall := mxMul p M mo iv v md l.length n R L _ hc.ok (hmd.ext hE) hivb.ll (by rw [h2]; exact hMR) (hL.ext hE) hc.mv h2 hc.h1
 refine C rfl wu rfl rfl Tryz.call74 hcall ?_
 rintro _ wc hEc ⟨rv, rfl, hrv⟩
 refine QI rfl rfl rfl (QI rfl rfl rfl ?_)
 have hr1 := hrv.one
 refine STB (vs := [.int .i64 n, rv]) (cs' := [.int .i64 n, rv]) rfl wu rfl rfl rfl JN nofun (hC.ext hEc) oc2 rfl rfl rfl ?_
 intro wz hgz hXz hCz
 refine Qk rfl rfl (Qd (Qa (Qq ?_)))
 have hGz : Gr [rb] wc wz := Gr.of_grown hgz (fun k hk => by simp [Option.some.inj hk])
 refine QJ rfl rfl rfl ZP hCz rfl ?_
 exact ⟨hXz w (by omega) (hE.trans hEc), rv, rfl, (hrv.gr hGz (fun k hk => by rw [List.mem_singleton.1 hk]; omega)).mono (by omega)⟩
end Go.Proofs.YtcfbigmjjpknfaaGreatDoor
