import Derived.Test.YtcfbigmjjpknfaaGreatDoorW12
import Derived.Test.YtcfbigmjjpknfaaGreatDoorW11
import Derived.Lib.Builder
import Derived.Lib.AppendStr
namespace Go.Proofs.YtcfbigmjjpknfaaGreatDoor
open Go Go.Sx Go.Pl Go.RowKit Go.Fd Go.Alg
theorem Qby (s : Value) (zs : List Int) (w : World) (hs : Ints w s zs) (hl : zs.length ≤ 1000000) :
  Calls Tryz.prog 27 #[s] w (RetX w fun v w' => OwnI w.heap.size w' v 3 zs) := by
 have hsl : ∃ a n c, s = .slice a n c := by obtain ⟨⟨a, c, h, _⟩, _⟩ := hs; exact ⟨a, _, c, h⟩
 refine QL Tryz.func27 rfl rfl (Qc (Qb [0] rfl (Qk rfl rfl (Qd (Qa (Qc (Qc (Qb [0,1] rfl (mvV rfl rfl (Vw rfl (eqlN rfl rfl Tryz.underlying22 hsl) (Qd (Qa (Qo rfl ?_ ?_)))))))))))))
 ·intro hc
  refine Qc (Qb [0] rfl (Qk rfl rfl (Qd (Qa (Qq (Qp (Qj rfl rfl ?_)))))))
  have hz : zs = [] := by
   rcases Nat.eq_zero_or_pos zs.length with h0 | h0
   ·exact List.eq_nil_of_length_eq_zero h0
   ·obtain ⟨k, hk, _⟩ := hs.lt h0
    rw [hk] at hc
    cases hc
  rw [hz]
  exact ⟨Ext.refl _, OwnI.nil _ _ _⟩
 ·intro hc
  refine Qe (Qa (Qc (Qb [0,1,2,3] rfl (BSI (zs := []) rfl wu rfl rfl rfl rfl QA ?_))))
  intro v0 w1 hE ho hi hb
  refine mvV rfl rfl (API rfl wu rfl rfl rfl QA nofun ?_)
  intro v w2 hg2 hX ho2 hi2 hb2
  refine Qk rfl rfl (Qd (Qa (Qq (Qj rfl rfl ?_))))
  exact ⟨hX _ (Nat.le_refl _) hE, ho2⟩
set_option maxRecDepth 10000 in
theorem mxClone (v : Value) (L : List (List Int)) (w : World) (hL : LL w v L) (hn : L.length ≤ 1000000) (hl : ∀ l ∈ L, l.length ≤ 1000000) :
  Calls Tryz.prog 148 #[v] w (RetX w fun r w' => ∃ rows, OM w.heap.size w' r 22 3 rows L) := by
 obtain ⟨rs, hsl, hrl, hrow⟩ := hL.row
 refine QL Tryz.func148 rfl rfl (Qc (Qb [0] rfl (Qk rfl rfl (Qd (Qa (Qc (Qb [0,1,2,3] rfl (mvV rfl rfl (Vw rfl (Zt rfl QN hsl) (MK (n := rs.length) rfl wu rfl rfl QN rfl ?_ (hby := by omega)))))))))))
 intro ov w1 hE1 ho hob
 refine Qk rfl rfl (Qd (Qa (Qc (Qc (Qb [0,1,2] rfl (mvV rfl rfl (Vw rfl (Zt rfl QN (hsl.ext hE1)) (mvV rfl rfl (Qd (Qa (Qf ?_)))))))))))
 refine Qv (fun p : Nat × List Value => [(3, ov), (9, v), (10, .int .i64 rs.length), (11, .int .i64 p.1)])
  (fun p w' => p.1 ≤ L.length ∧ Ext w w' ∧ OM w.heap.size w' ov 22 3 p.2 (L.take p.1 ++ List.replicate (L.length - p.1) [])) (fun p => L.length - p.1) (0, List.replicate rs.length (.slice none 0 0)) ⟨rfl, rfl, rfl, rfl, trivial⟩
  ⟨by omega, hE1, ⟨ho, by simp [hrl], fun i r zs a b => ?_, fun i r k a hk => ?_, fun i j r r' k a b hk hk' => ?_⟩⟩ ?_
 ·obtain rfl := List.eq_of_mem_replicate (List.mem_of_getElem? a)
  have : zs = [] := by
   have hb := List.mem_of_getElem? b
   simp at hb
   exact hb.2
  rw [this]
  exact OwnI.nil _ _ _
 ·obtain rfl := List.eq_of_mem_replicate (List.mem_of_getElem? a)
  cases hk
 ·obtain rfl := List.eq_of_mem_replicate (List.mem_of_getElem? a)
  cases hk
 clear hE1 ho
 rintro ⟨i, rows⟩ w2 ⟨i1, hE, hom⟩
 dsimp only at i1 hom
 have hsi := hsl.ext hE
 try dsimp only
 refine Qc (Qb [0] rfl (Qy rfl rfl rfl (Qd (Qa (Qc (Qo rfl ?_ ?_))))))
 ·intro hc
  simp at hc
  replace hc : i < L.length := by omega
  obtain ⟨r, hri, hrr⟩ := hrow i hc
  have hli : L[i]? = some (L.getD i []) := by rw [List.getD_eq_getElem?_getD, List.getElem?_eq_getElem hc]; rfl
  have hmem : L.getD i [] ∈ L := List.mem_of_getElem? hli
  have hol : (L.take i ++ List.replicate (L.length - i) ([] : List Int)).length = L.length := by rw [List.length_append, List.length_take, List.length_replicate]; omega
  refine Qe (Qa (Qc (Qf (Qc (Qb [0,1,2,3,4] rfl (mvV rfl rfl (Vw rfl (iad rfl rfl QN hsi (by omega) (by omega)) (Vw rfl (ldE rfl Zk hsi (by rw [Int.toNat_natCast]; exact hri) (Ext.refl _)) (Qk rfl rfl (Qk rfl rfl (Qd (Qa (Qb [0,1,2,3,4,5] rfl (mvV rfl rfl ?_))))))))))))))
  refine mvV rfl rfl (mvV rfl rfl (C rfl wu rfl rfl Tryz.call27 (Qby r (L.getD i []) _ (hrr.ext hE) (hl _ hmem)) ?_))
  rintro r3 w3 hE3 ho3
  have hbk := hom.bk
  replace hom := hom.ext hE3
  have hrs := hom.own.sl
  have hrll := hom.len
  refine Vw rfl (iad rfl rfl QN hrs (by omega) (by omega)) (STOM (w1 := w2) rfl wu rfl rfl sz22 nofun hom ho3 (fun k hk => (hbk k hk).2) (Nat.le_refl _) hE.size ?_ (h0 := by omega) (h1 := by omega))
  intro w4 hg4 hom4
  refine Qd (Qg (Qa (Qb [0,1] rfl (Qw rfl rfl rfl (mvV rfl rfl (Qd (Qi (i + 1, rows.set i r3) ⟨rfl, rfl, rfl, rfl, trivial⟩ ⟨by dsimp only; omega, (hE.trans hE3).grown hg4 hom.own (Nat.le_refl _), ?_⟩ (by dsimp only; omega))))))))
  rw [Int.toNat_natCast, Kd rfl hc hli] at hom4
  exact hom4
 ·intro hc
  simp at hc
  obtain rfl : i = L.length := by omega
  rw [Nat.sub_self, List.replicate_zero, List.append_nil, List.take_length] at hom
  refine Qt (Ql (Qm (Qh (Qa (Qc (Qb [0,1] rfl (mvV rfl rfl (Qk rfl rfl (Qd (Qa (Qq (Qj rfl rfl ?_))))))))))))
  exact ⟨hE, rows, hom⟩
end Go.Proofs.YtcfbigmjjpknfaaGreatDoor
namespace Go.Proofs.YtcfbigmjjpknfaaGreatDoor
open Go Go.Sx Go.Pl Go.RowKit Go.Fd Go.Alg
theorem KZ : NA Tryz.prog 61 := fun w => Tryz.isAgg61 w
def StepR (B : Nat) (w : World) (v : Value) (rows : List Value) (L' : List (List Int)) : Value → World → Prop := fun r w' => r = .tuple #[] ∧ ∃ rows', OM B w' v 22 3 rows' L' ∧ ∀ k ∈ bks v rows', k ∈ bks v rows ∨ w.heap.size ≤ k
theorem getD_some {α : Type} {l : List α} {i : Nat} {d : α} (h : i < l.length) : l[i]? = some (l.getD i d) := by
 rw [List.getD_eq_getElem?_getD, List.getElem?_eq_getElem h]; rfl
set_option maxRecDepth 10000 in
theorem stScale (P : FP) (g v : Value) (rows : List Value) (L : List (List Int)) (B gb ib ab a : Nat) (inv : Int) (w0 w : World) (hG : GFV w0 P g) (hE0 : Ext w0 w) (hom : OM B w v 22 3 rows L) (hgb : Blk w gb 61 #[g]) (hib : Blk w ib 3 #[.int .i64 inv]) (ha : Blk w ab 3 #[.int .i64 a]) (hal : a < L.length) (hll : (L.getD a []).length ≤ 1000000) (hB : B ≤ w.heap.size) :
  Calls Tryz.prog 251 #[v, .pointer (some ⟨gb, 0, none⟩), .pointer (some ⟨ib, 0, none⟩), .pointer (some ⟨ab, 0, none⟩)] w (RetG (bks v rows) w (StepR B w v rows (L.set a (Ml.scaleR (opsP P) inv (L.getD a []))))) := by
 have hlen := hom.len
 obtain ⟨ra, hra, hoa⟩ := hom.get hal
 have hbk := hom.bk
 refine JW Tryz.func251 rfl rfl (Qx QK [0,1,2,3,4,5,6,7,8,9,10] (by kernel_rfl) ?_)
 intro w1 hd _
 replace hE0 := hE0.trans hd
 replace hom := hom.ext hd
 replace hgb := hgb.ext hd
 replace hib := hib.ext hd
 replace ha := ha.ext hd
 replace hoa := hoa.ext hd
 refine mvV rfl rfl (Vw rfl (ldB rfl na3 ha) (Vw rfl (ldB rfl KZ hgb) (Vw rfl (ldB rfl na3 hib) (mvV rfl rfl (Vw rfl (ldB rfl na3 ha) (Vw rfl (iad rfl rfl QN hom.own.sl (by omega) (by omega)) (Vw rfl (ldE rfl Zk hom.own.sl (by rw [Int.toNat_natCast]; exact hra) (Ext.refl _)) (C rfl wu rfl rfl Tryz.call246 (Qb5 P g ra inv (L.getD a []) _ (hG.ext hE0) (OwnI.ints hoa) hll) ?_))))))))
 rintro r2 w2 hE2 ⟨ho2, hb2⟩
 replace hom := hom.ext hE2
 refine Vw rfl (iad rfl rfl QN hom.own.sl (by omega) (by omega)) (STOM (w1 := w1) rfl wu rfl rfl sz22 (by intro h; kernel_rfl) hom ho2 (fun k hk => Nat.lt_of_lt_of_le (hbk k hk).2 hd.size) (Nat.le_refl _) (Nat.le_trans hB hd.size) ?_ (h0 := by omega) (h1 := by omega))
 intro w3 hg3 hom3
 refine Qd ?_
 rw [Int.toNat_natCast] at hom3
 refine QX rfl ⟨((Gr.of_ext hd).trans (Gr.of_ext hE2)).trans (Gr.of_grown hg3 (fun k hk => QQ.2 (.inl hk))), rfl, _, hom3, fun b hb => ?_⟩
 rcases bks_set hb with h | h
 ·exact .inl h
 ·exact .inr (by
   have := (Own.lt ho2 b h).1
   have := hd.size
   omega)
set_option maxRecDepth 10000 in
theorem stAdd (P : FP) (g v : Value) (rows : List Value) (L : List (List Int)) (B gb ib xb ab i a : Nat) (x : Int) (w0 w : World) (hG : GFV w0 P g) (hE0 : Ext w0 w) (hB0 : w0.heap.size ≤ B) (hom : OM B w v 22 3 rows L) (hgb : Blk w gb 61 #[g]) (hib : Blk w ib 3 #[.int .i64 i]) (hxb : Blk w xb 3 #[.int .i64 x]) (ha : Blk w ab 3 #[.int .i64 a])
  (hil : i < L.length) (hal : a < L.length) (hne : i ≠ a) (hll : (L.getD a []).length = (L.getD i []).length) :
  Calls Tryz.prog 252 #[v, .pointer (some ⟨gb, 0, none⟩), .pointer (some ⟨ib, 0, none⟩), .pointer (some ⟨xb, 0, none⟩), .pointer (some ⟨ab, 0, none⟩)] w (RetG (bks v rows) w (StepR B w v rows (L.set i (Ml.addRow (opsP P) (L.getD i []) ((opsP P).ng x) (L.getD a []))))) := by
 have hlen := hom.len
 obtain ⟨ra, hra, hoa⟩ := hom.get hal
 obtain ⟨ri, hri, hoi⟩ := hom.get hil
 have hsep : ∀ k, ri.ownBlock = some k → ra.ownBlock ≠ some k := fun k h1 h2 => hne (hom.apart i a ri ra k hri hra h1 h2)
 refine calls5 Tryz.func252 rfl rfl (Qx QK [0,1,2,3,4,5,6,8,9,10,11,7,12] (by kernel_rfl) ?_)
 intro w1 hd _
 replace hE0 := hE0.trans hd
 replace hom := hom.ext hd
 replace hgb := hgb.ext hd
 replace hib := hib.ext hd
 replace hxb := hxb.ext hd
 replace ha := ha.ext hd
 replace hoa := hoa.ext hd
 replace hoi := hoi.ext hd
 refine Vw rfl (ldB rfl KZ hgb) (mvV rfl rfl (Vw rfl (ldB rfl na3 hib) (Vw rfl (iad rfl rfl QN hom.own.sl (by omega) (by omega)) (Vw rfl (ldE rfl Zk hom.own.sl (by rw [Int.toNat_natCast]; exact hri) (Ext.refl _)) (Vw rfl (ldB rfl KZ hgb) (Vw rfl (ldB rfl na3 hxb) (mvV rfl rfl (Vw rfl (ldB rfl na3 ha) (Vw rfl (iad rfl rfl QN hom.own.sl (by omega) (by omega)) ?_)))))))))
 refine Vw rfl (ldE rfl Zk hom.own.sl (by rw [Int.toNat_natCast]; exact hra) (Ext.refl _)) (C rfl wu rfl rfl Tryz.call34 (gNeg P g x _ (hG.ext hE0)) ?_)
 rintro _ w2 hE2 rfl
 replace hE0 := hE0.trans hE2
 replace hom := hom.ext hE2
 replace hoa := hoa.ext hE2
 replace hoi := hoi.ext hE2
 refine CG rfl wu rfl rfl Tryz.call150 (mxAdd P g ri ra _ (L.getD i []) (L.getD a []) B w0 _ hG hE0 hB0 hoi (OwnI.ints hoa) hsep hll) (by intro h; kernel_rfl) ?_
 rintro _ w3 hG3 ⟨rfl, ho3⟩
 refine Qd ?_
 have hmem : ∀ k ∈ ri.ownBlock.toList, k ∈ bks v rows := fun k hk => QQ.2 (.inr ⟨ri, List.mem_of_getElem? hri, by simpa using hk⟩)
 refine QX rfl ⟨((Gr.of_ext hd).trans (Gr.of_ext hE2)).trans (hG3.mono hmem), rfl, rows, hom.upd hri hG3 ho3, fun b hb => .inl hb⟩
end Go.Proofs.YtcfbigmjjpknfaaGreatDoor
namespace Go.Sx
open Go Go.RowKit Go.Pl
def isAat (ops : Array Oper) (j : Nat) : Bool := match ops[j]? with
 | some o => isA o.op
 | none => true
def early (ops : Array Oper) (i : Nat) : Bool := (List.range ops.size).all fun j => isAat ops j || isTail ops j || (match ops[j]? with
 | some o => o.after.any fun e => Region.binds .any e && e.on == i
 | none => true)
def relZ (X : List Nat) (ops : Array Oper) (j : Nat) (w w' : World) : Prop := if isAat ops j = true then Ext w w' else Gr X w w'
def stab (X : List Nat) (e : Bool) (w w' : World) : Prop := if e = true then Ext w w' else Gr X w w'
theorem stab.refl (X : List Nat) (e : Bool) (w : World) : stab X e w w := by unfold stab; split; exact Ext.refl w; exact Gr.refl X w
theorem stab.trans {X : List Nat} {e : Bool} {a b c : World} (h : stab X e a b) (k : stab X e b c) : stab X e a c := by
 unfold stab at *
 split <;> simp_all
 ·exact Ext.trans h k
 ·exact Gr.trans h k
theorem relZ.refl (X : List Nat) (ops : Array Oper) (j : Nat) (w : World) : relZ X ops j w w := by unfold relZ; split; exact Ext.refl w; exact Gr.refl X w
section
variable (X : List Nat) (P : Program) (ops : Array Oper)
def RLZ (Q : Act → World → Prop) : List Nat → Act → World → Prop
 | [], a, w => Q a w
 | i :: r, a, w => ∃ o, ops[i]? = some o ∧
  if Region.wanted o (yielded ops a.tmps) then
   (isA o.op = true ∧ ∃ v, (∀ w', (isM o.op = true ∨ stab X (early ops i) w w') → (execOp a.eval o).run P w' = .ok (.value v) w') ∧ RLZ Q r (a.put o.dst v) w) ∨
   (isA o.op = false ∧ o.wp P a w (fun a' w' => (∃ v, a' = a.put o.dst v) ∧ (isTail ops i = false → relZ X ops i w w') ∧ RLZ Q r a' w') (fun _ _ _ => False))
  else RLZ Q r (a.put o.dst undef) w
def wpZ (Q : Act → World → Prop) : Nat → Array Bool → Act → World → Prop
 | 0, listed, a, w => Region.ready .any ops listed = [] ∧ Q a w
 | n + 1, listed, a, w => (Region.ready .any ops listed = [] → Q a w) ∧
  ∀ i ∈ Region.ready .any ops listed, opE P ops i (fun a' w' => (isTail ops i = false → relZ X ops i w w') ∧ wpZ Q n (listed.setIfInBounds i true) a' w') a w
end
section
variable {X : List Nat} {P : Program} {ops : Array Oper}
theorem XM {Q : Act → World → Prop} {Q' : Exit → Act → World → Prop} (hQ : ∀ a w, Q a w → Q' .normal a w) : ∀ (n : Nat) (listed : Array Bool) (a : Act) (w : World),
  wpZ X P ops Q n listed a w → wpAny P .any ops Q' n listed a w
 | 0, _, _, _, h => ⟨h.1, hQ _ _ h.2⟩
 | n + 1, _, _, _, h => ⟨fun h0 => hQ _ _ (h.1 h0), fun i hi => JX (fun a' w' hh => XM hQ n _ a' w' hh.2) (h.2 i hi)⟩
def YieldsZ (X : List Nat) (e : Bool) (P : Program) (ops : Array Oper) (o : Oper) (v : Value) (a : Act) (w : World) : Prop :=
 (Region.wanted o (yielded ops a.tmps) = true ∧ ∀ w', (isM o.op = true ∨ stab X e w w') → (execOp a.eval o).run P w' = .ok (.value v) w') ∨
 (Region.wanted o (yielded ops a.tmps) = false ∧ v = undef)
theorem YieldsZ.ext {e : Bool} {o : Oper} {v : Value} {a : Act} {w w' : World} (h : YieldsZ X e P ops o v a w) (hw : stab X e w w') : YieldsZ X e P ops o v a w' := by
 rcases h with ⟨h1, h2⟩ | h
 ·exact .inl ⟨h1, fun w'' hE => h2 _ (hE.imp id hw.trans)⟩
 ·exact .inr h
theorem YieldsZ.any {e : Bool} {o : Oper} {v : Value} {a : Act} {w w' : World} (h : YieldsZ X e P ops o v a w) (hM : isM o.op = true) : YieldsZ X e P ops o v a w' := by
 rcases h with ⟨h1, h2⟩ | h
 ·exact .inl ⟨h1, fun w'' _ => h2 _ (.inl hM)⟩
 ·exact .inr h
theorem YieldsZ.opE {e : Bool} {i : Nat} {o : Oper} {v : Value} {a : Act} {w : World} (hi : ops[i]? = some o) (hy : YieldsZ X e P ops o v a w) {K : Act → World → Prop} (h : K (a.put o.dst v) w) : opE P ops i K a w := by
 unfold Go.Sx.opE
 simp only [hi]
 rcases hy with ⟨hw, hv⟩ | ⟨hw, rfl⟩
 ·rw [if_pos hw]
  unfold Oper.wp
  rw [hv w (.inr (stab.refl X e w))]
  exact h
 ·rw [if_neg (by simp [hw])]; exact h
theorem YieldsZ.of_same {e : Bool} {o : Oper} {v : Value} {a a' : Act} {w : World} (hy : YieldsZ X e P ops o v a w) (he : execOp a'.eval o = execOp a.eval o)
  (hw : Region.wanted o (yielded ops a'.tmps) = Region.wanted o (yielded ops a.tmps)) : YieldsZ X e P ops o v a' w := by
 unfold YieldsZ at *
 rw [he, hw]
 exact hy
theorem opZ_put {e : Bool} {j : Nat} {oi oj : Oper} {v : Value} (hj : ops[j]? = some oj) (hap : oi.apart ops oj = true)
  (hsi : ∀ cs b, oi.op ≠ .select cs b) (hsj : ∀ cs b, oj.op ≠ .select cs b) {K : Act → World → Prop} {a : Act} {w : World}
  (hy : YieldsZ X e P ops oi v a w) (h : opE P ops j K (a.put oi.dst v) w) :
  opE P ops j (fun a' w' => YieldsZ X e P ops oi v a' w ∧ K (a'.put oi.dst v) w') a w := by
 obtain ⟨h1, h2, h3⟩ := Oper.apart_spec hap
 have keep : ∀ (a : Act), YieldsZ X e P ops oi v a w → ∀ u, YieldsZ X e P ops oi v (a.put oj.dst u) w := fun a hy u =>
  hy.of_same (execOp_put oi hsi a oj.dst u h3) (wanted_put oi a oj.dst u h3)
 have keepD : ∀ d, YieldsZ X e P ops oi v { a with defers := d :: a.defers } w := fun d => hy.of_same rfl rfl
 unfold opE at *
 simp only [hj] at *
 rw [wanted_put oj a oi.dst v h1] at h
 split
 ·rename_i hw
  rw [if_pos hw] at h
  unfold Oper.wp at *
  rw [execOp_put oj hsj a oi.dst v h1] at h
  generalize (execOp a.eval oj).run P w = r at *
  cases r with
  | ok n w' =>
   cases n <;> simp only [Oper.upon] at h ⊢
   case value u => exact ⟨keep a hy u, by rw [← Act.put_comm a v u h2]; exact h⟩
   case skip => exact ⟨keep a hy _, by rw [← Act.put_comm a v undef h2]; exact h⟩
   case defer d =>
    refine ⟨keep _ (keepD d) _, ?_⟩
    rw [← Act.put_comm _ v undef h2, ← Act.put_defers]
    exact h
   case enter f args =>
    refine Calls.mono h fun e w'' he => ?_
    cases e with
    | returned u => exact ⟨keep a hy u, by rw [← Act.put_comm a v u h2]; exact he⟩
    | panicked c => exact he
    | outgrown => exact he
   case row row args => exact Rows.mono h fun u w'' he => ⟨keep a hy u, by rw [← Act.put_comm a v u h2]; exact he⟩
  | halt x w' =>
   cases x <;> simp only [Oper.upon] at h ⊢
 ·rename_i hw
  rw [if_neg hw] at h
  exact ⟨keep a hy _, by rw [← Act.put_comm a v undef h2]; exact h⟩
theorem wpZ_first {Q : Act → World → Prop} {i : Nat} {oi : Oper} {v : Value} (hi : ops[i]? = some oi) (hsel : ∀ (j : Nat) (o : Oper) cs b, ops[j]? = some o → o.op ≠ .select cs b) :
  ∀ (fuel : Nat) (listed : Array Bool) (a : Act) (w : World), Closed ops listed →
   (∀ j oj, ops[j]? = some oj → j ≠ i → listed.getD j true = false → (∀ e ∈ oj.after, Region.binds .any e = true → e.on ≠ i) → oi.apart ops oj = true) →
   i ∈ Region.ready .any ops listed → YieldsZ X (early ops i) P ops oi v a w →
   wpZ X P ops Q fuel (listed.setIfInBounds i true) (a.put oi.dst v) w → wpZ X P ops Q (fuel + 1) listed a w := by
 intro fuel
 induction fuel with
 | zero =>
  intro listed a w _ _ hr hy H
  refine ⟨fun h => (by rw [h] at hr; cases hr), fun j hj => ?_⟩
  by_cases hji : j = i
  ·subst hji; exact hy.opE hi ⟨fun _ => relZ.refl X ops _ w, H⟩
  ·have := ready_mono hj hji
   rw [H.1] at this
   cases this
 | succ fuel ih =>
  intro listed a w hcl hfree hr hy H
  refine ⟨fun h => (by rw [h] at hr; cases hr), fun j hj => ?_⟩
  by_cases hji : j = i
  ·subst hji; exact hy.opE hi ⟨fun _ => relZ.refl X ops _ w, H⟩
  ·have h1 := H.2 j (ready_mono hj hji)
   obtain ⟨hjun, oj, hoj, hall⟩ := mem_ready.1 hj
   have hiun := (mem_ready.1 hr).1
   have hnot : ∀ e ∈ oj.after, Region.binds .any e = true → e.on ≠ i := fun e he hb heq => by
    have h1 := hall e he hb
    have h0 := (mem_ready.1 hr).1
    rw [heq] at h1
    rcases Nat.lt_or_ge i listed.size with h' | h'
    ·simp [h'] at h0 h1; rw [h0] at h1; cases h1
    ·simp [Array.getElem?_eq_none h'] at h1
   have h2 := opZ_put hoj (hfree j oj hoj hji hjun hnot) (fun cs b => hsel i oi cs b hi) (fun cs b => hsel j oj cs b hoj) hy h1
   have hfree' : ∀ k ok, ops[k]? = some ok → k ≠ i → (listed.setIfInBounds j true).getD k true = false →
     (∀ e ∈ ok.after, Region.binds .any e = true → e.on ≠ i) → oi.apart ops ok = true := fun k ok hk hki hun hno => by
    refine hfree k ok hk hki ?_ hno
    by_cases hjk : j = k
    ·subst hjk; exact hjun
    ·rw [getD_set_ne true hjk] at hun; exact hun
   refine QaQ (fun a' w' h3 => ?_) h2
   obtain ⟨hya, hE, hrest⟩ := h3
   have hyw : YieldsZ X (early ops i) P ops oi v a' w' := by
    by_cases hM : isM oi.op = true
    ·exact hya.any hM
    ·have ht := Kp hj hi (Ne.symm hji) hiun hr hcl hM
     have hrel := hE ht
     refine hya.ext ?_
     by_cases hA : isAat ops j = true
     ·have hx : Ext w w' := by unfold relZ at hrel; rw [if_pos hA] at hrel; exact hrel
      unfold stab
      split
      ·exact hx
      ·exact Gr.of_ext hx
     ·have hx : Gr X w w' := by unfold relZ at hrel; rw [if_neg hA] at hrel; exact hrel
      unfold stab
      by_cases he : early ops i = true
      ·have h5 := List.all_eq_true.1 he j (List.mem_range.2 (Array.getElem?_eq_some_iff.1 hoj).1)
       simp only [hA, ht, Bool.false_or, hoj, Array.any_eq_true'] at h5
       obtain ⟨e, hem, heb⟩ := h5
       simp only [Bool.and_eq_true, beq_iff_eq] at heb
       exact absurd heb.2 (hnot e hem heb.1)
      ·rw [if_neg he]
       exact hx
   refine ⟨hE, ih (listed.setIfInBounds j true) a' w' (hcl.set hj) hfree' (ready_mono hr (Ne.symm hji)) hyw ?_⟩
   rw [Array.setIfInBounds_comm _ _ hji]
   exact hrest
theorem JJ {Q : Act → World → Prop} (hs : Region.noSelect ops = true) : ∀ (l : List Nat) (listed : Array Bool) (a : Act) (w : World), Closed ops listed →
  okFrom ops l listed = true → RLZ X P ops Q l a w → wpZ X P ops Q l.length listed a w
 | [], listed, a, w, _, hB, h => ⟨by simpa [okFrom] using hB, h⟩
 | i :: r, listed, a, w, hcl, hB, h => by
  obtain ⟨o, ho, h⟩ := h
  simp only [okFrom, Bool.and_eq_true, ho] at hB
  obtain ⟨⟨hr, hk⟩, hrest⟩ := hB
  have hr' : i ∈ Region.ready .any ops listed := by simpa using hr
  have first : ∀ v, isA o.op = true → YieldsZ X (early ops i) P ops o v a w → RLZ X P ops Q r (a.put o.dst v) w → wpZ X P ops Q (r.length + 1) listed a w := fun v hA hy hq => by
   rw [if_pos hA] at hk
   exact wpZ_first ho (Region.noSelect_spec hs) r.length listed a w hcl (Region.free_spec ho hk) hr' hy (JJ hs r _ _ _ (hcl.set hr') hrest hq)
  by_cases hA : isA o.op = true
  ·by_cases hw : Region.wanted o (yielded ops a.tmps) = true
   ·rw [if_pos hw] at h
    rcases h with ⟨_, v, hv, hq⟩ | ⟨hn, _⟩
    ·exact first v hA (.inl ⟨hw, hv⟩) hq
    ·rw [hn] at hA; cases hA
   ·rw [if_neg hw] at h
    exact first undef hA (.inr ⟨by simpa using hw, rfl⟩) h
  ·rw [if_neg hA] at hk
   refine ⟨fun h0 => (by rw [h0] at hr'; cases hr'), fun j hj => ?_⟩
   have hji : j = i := by
    have := List.all_eq_true.1 hk j hj
    simpa using this
   subst hji
   unfold opE
   simp only [ho]
   split
   ·rename_i hw
    rw [if_pos hw] at h
    rcases h with ⟨h1, _⟩ | ⟨_, hq⟩
    ·exact absurd h1 hA
    ·exact Zv (fun a' w' hh => ⟨hh.2.1, JJ hs r _ _ _ (hcl.set hr') hrest hh.2.2⟩) hq
   ·rename_i hw
    rw [if_neg hw] at h
    exact ⟨fun _ => relZ.refl X ops _ w, JJ hs r _ _ _ (hcl.set hr') hrest h⟩
end
section
variable (X : List Nat) (P : Program) (N : Nat)
def WZ (ops : Array Oper) (Q : Act → World → Prop) (π : List Nat) (l : Env) (w : World) : Prop := ∀ a, At N a l → RLZ X P ops Q π a w
end
section
variable {X : List Nat} {P : Program} {N : Nat} {Q : Exit → Act → World → Prop} {l : Env} {w : World}
theorem Qcw {id : Nat} {ops : Array Oper} (X : List Nat) (hm : P.follows .mixedOrders = true) (π : List Nat) (hB : okOrd ops π = true) (h : ∀ w', Ext w w' → w' = w.drew → WZ X P N ops (Q .normal) π l w') : WC P N (.region id ops true) Q l w := by
 intro a ha
 simp only [okOrd, Bool.and_eq_true, beq_iff_eq] at hB
 refine wp_region_any hm ?_
 have := JJ (X := X) (P := P) (Q := Q .normal) hB.2.1 π (Array.replicate ops.size false) a w.drew Closed.none hB.2.2 (h w.drew (Ext.drew w) rfl a ha)
 rw [hB.1] at this
 exact XM (fun _ _ h => h) _ _ _ _ this
theorem wz_nil {ops : Array Oper} {Q : Exit → Act → World → Prop} (h : Post N Q .normal l w) : WZ X P N ops (Q .normal) [] l w := h
end
section
variable {X : List Nat} {P : Program} {N : Nat} {l : Env} {w : World} {ops : Array Oper} {Q : Act → World → Prop} {π : List Nat} {i d : Nat} {v : Value} {op : Op} {ty : TypeId} {pos : String} {after : Array Edge} {g : Option (Nat × Bool)}
theorem VZm (hi : ops[i]? = some ⟨some d, op, ty, pos, after, g⟩) (hw : Wt ops N l g) (hA : isA op = true) (hd : Nat.blt d N = true) (hM : isM op = true) (hy : Yl P N op ty l w v)
  (h : WZ X P N ops Q π ((d, v) :: l) w) : WZ X P N ops Q (i :: π) l w := fun a ha => by
 refine ⟨_, hi, ?_⟩
 rw [if_pos (hw a ha _ rfl)]
 exact .inl ⟨hA, v, fun w' _ => hy a ha w' (.inl hM) _ rfl rfl, h _ (ha.put hd v)⟩
theorem VZe (hi : ops[i]? = some ⟨some d, op, ty, pos, after, g⟩) (hw : Wt ops N l g) (hA : isA op = true) (hd : Nat.blt d N = true) (he : early ops i = true) (hy : Yl P N op ty l w v)
  (h : WZ X P N ops Q π ((d, v) :: l) w) : WZ X P N ops Q (i :: π) l w := fun a ha => by
 refine ⟨_, hi, ?_⟩
 rw [if_pos (hw a ha _ rfl)]
 refine .inl ⟨hA, v, fun w' hE => hy a ha w' ?_ _ rfl rfl, h _ (ha.put hd v)⟩
 rw [he] at hE
 exact hE
theorem VZx (hi : ops[i]? = some ⟨some d, op, ty, pos, after, g⟩) (hw : Wt ops N l g) (hA : isA op = true) (hd : Nat.blt d N = true) (hy : YX X P N op ty l w v)
  (h : WZ X P N ops Q π ((d, v) :: l) w) : WZ X P N ops Q (i :: π) l w := fun a ha => by
 refine ⟨_, hi, ?_⟩
 rw [if_pos (hw a ha _ rfl)]
 refine .inl ⟨hA, v, fun w' hE => hy a ha w' (hE.imp id fun hs => ?_) _ rfl rfl, h _ (ha.put hd v)⟩
 unfold stab at hs
 split at hs
 ·exact Gr.of_ext hs
 ·exact hs
theorem FZ0 {w' : World} (hi : ops[i]? = some ⟨none, op, ty, pos, after, g⟩) (hw : Wt ops N l g) (hA : isA op = false)
  (hr : ∀ a, At N a l → (execOp a.eval ⟨none, op, ty, pos, after, g⟩).run P w = .ok .skip w') (hE : Gr X w w')
  (h : WZ X P N ops Q π l w') : WZ X P N ops Q (i :: π) l w := fun a ha => by
 refine ⟨_, hi, ?_⟩
 rw [if_pos (hw a ha _ rfl)]
 refine .inr ⟨hA, ?_⟩
 unfold Oper.wp
 rw [hr a ha, Oper.upon_skip]
 refine ⟨⟨undef, rfl⟩, fun _ => ?_, h _ ha⟩
 unfold relZ isAat
 simp only [hi, hA]
 exact hE
variable {x y p : Operand} {u : Int} {T : TypeId}
theorem STZ {v0 u0 : Value} {B : Nat} {E : TypeId} {xs : List Value} (hi : ops[i]? = some ⟨none, .store T p x, ty, pos, after, g⟩) (hw : Wt ops N l g) (hp : ev l p = some (eptr v0 1 u)) (hx : ev l x = some u0)
  (hT : ∃ j, P.info? T = some j ∧ j.size = 1) (h1c : u0.oneCell' = true)
  (h : ∀ w', w.grownBy w' v0.ownBlock → Own B w' v0 E (xs.set u.toNat u0) → WZ X P N ops Q π l w') (ho : Own B w v0 E xs := by assumption) (hvX : ∀ k, v0.ownBlock = some k → k ∈ X) (h0 : 0 ≤ u := by omega) (h1 : u < xs.length := by omega) : WZ X P N ops Q (i :: π) l w := by
 obtain ⟨⟨hlen, hr⟩, hle⟩ := ho
 rcases hr with ⟨_, hn⟩ | ⟨gb, cap, cur, hv, hB, hg, hnc, hcm, hcs, htake⟩
 ·omega
 ·subst hv
  have hown : w.ownsRow B E 1 (.slice (some ⟨gb, 0, none⟩) xs.length cap) xs.length xs := ⟨hlen, .inr ⟨gb, cap, cur, rfl, hB, hg, hnc, hcm, hcs, htake⟩⟩
  have hk : u.toNat < xs.length := by omega
  have hcell : w.cell? ⟨gb, u.toNat, none⟩ = some xs[u.toNat] := by
   rw [hown.cellAt u.toNat (by omega)]; simp [hk]
  have hfz : w.frozen? ⟨gb, u.toNat, none⟩ = false := hown.frozenAt _
  have hadd : (⟨gb, 0, none⟩ : Addr).add (u.toNat * 1) = ⟨gb, u.toNat, none⟩ := by rw [Addr.add_lit]; simp
  have hcells1 : u0.cells = #[u0] := by cases u0 <;> first | rfl | simp [Value.oneCell'] at h1c
  obtain ⟨j, hj, hj2⟩ := hT
  have hst := hown.stored u.toNat u0
  have hgb : w.grownBy (w.setCell ⟨gb, u.toNat, none⟩ u0) (some gb) :=
   ⟨rfl, rfl, rfl, by simp, fun k _ hne => Below.heap_setCell _ _ _ _ (fun e => hne (by rw [e]))⟩
  refine FZ0 (w' := w.setCell ⟨gb, u.toNat, none⟩ u0) hi hw rfl (fun a ha => ?_) (Gr.of_grown hgb fun k hk => hvX k hk) (h _ hgb ⟨?_, by simpa using hle⟩)
  ·have e0 : ∀ q : Addr, q.add 0 = q := fun q => by simp [Addr.add]
   simp only [execOp, ha.eval hp, ha.eval hx, eptr, Instr.storeAt, Instr.sureAddr, storeVar, hadd]
   simp [sizeOf, typeInfo, hj, hj2, hcells1, storeCells, run_store P _ _ _ _ h1c, hcell, hfz, e0]
  ·simpa using hst.1
end
end Go.Sx
namespace Go.Proofs.YtcfbigmjjpknfaaGreatDoor
open Go Go.Sx Go.Pl Go.RowKit Go.Fd Go.Alg
set_option maxRecDepth 10000 in
theorem stSwap (v : Value) (rows : List Value) (L : List (List Int)) (B kb ab k a : Nat) (w : World) (hom : OM B w v 22 3 rows L) (hk : Blk w kb 3 #[.int .i64 k]) (ha : Blk w ab 3 #[.int .i64 a]) (hkl : k < L.length) (hal : a < L.length)
  (hkX : v.ownBlock ≠ some kb) (haX : v.ownBlock ≠ some ab) :
  Calls Tryz.prog 250 #[v, .pointer (some ⟨kb, 0, none⟩), .pointer (some ⟨ab, 0, none⟩)] w (RetG (bks v rows) w (StepR B w v rows (Ml.swapL L a k))) := by
 have hlen := hom.len
 obtain ⟨rk, hrk, hok⟩ := hom.get hkl
 obtain ⟨ra, hra, hoa⟩ := hom.get hal
 have h1k : rk.oneCell' = true := Value.slice_cells _ (by obtain ⟨a, c, e⟩ := Sl.slice (OwnI.ints hok); exact ⟨_, _, _, e⟩)
 have h1a : ra.oneCell' = true := Value.slice_cells _ (by obtain ⟨a, c, e⟩ := Sl.slice (OwnI.ints hoa); exact ⟨_, _, _, e⟩)
 refine QS Tryz.func250 rfl rfl (Qcw v.ownBlock.toList QK [0,1,2,3,4,5,6,7,8,9,10,11,12,13,14,15] (by kernel_rfl) ?_)
 intro w1 hd _
 replace hom := hom.ext hd
 replace hk := hk.ext hd
 replace ha := ha.ext hd
 have hkX' : kb ∉ v.ownBlock.toList := fun h => hkX (by simpa using h)
 have haX' : ab ∉ v.ownBlock.toList := fun h => haX (by simpa using h)
 refine VZm rfl wu rfl rfl rfl (mv rfl) (VZx rfl wu rfl rfl (yB rfl na3 ha haX') (VZm rfl wu rfl rfl rfl (mv rfl) (VZx rfl wu rfl rfl (yB rfl na3 hk hkX') (VZm rfl wu rfl rfl rfl (mv rfl) (VZx rfl wu rfl rfl (yB rfl na3 hk hkX') (VZm rfl wu rfl rfl rfl (iad rfl rfl QN hom.own.sl (by omega) (by omega)) (VZe rfl wu rfl rfl (by kernel_rfl) (ldE rfl Zk hom.own.sl (by rw [Int.toNat_natCast]; exact hrk) (Ext.refl _)) (VZm rfl wu rfl rfl rfl (mv rfl) (VZx rfl wu rfl rfl (yB rfl na3 ha haX') ?_)))))))))
 refine VZm rfl wu rfl rfl rfl (iad rfl rfl QN hom.own.sl (by omega) (by omega)) (VZe rfl wu rfl rfl (by kernel_rfl) (ldE rfl Zk hom.own.sl (by rw [Int.toNat_natCast]; exact hra) (Ext.refl _)) (VZm rfl wu rfl rfl rfl (iad rfl rfl QN hom.own.sl (by omega) (by omega)) (STZ rfl wu rfl rfl sz22 h1k ?_ (ho := hom.own) (hvX := fun k hk => by simp [hk]) (h0 := by omega) (h1 := by omega))))
 intro w2 hg2 ho2
 refine VZm rfl wu rfl rfl rfl (iad rfl rfl QN ho2.sl (by omega) (by rw [List.length_set]; omega)) (STZ rfl wu rfl rfl sz22 h1a ?_ (ho := ho2) (hvX := fun k hk => by simp [hk]) (h0 := by omega) (h1 := by rw [List.length_set]; omega))
 intro w3 hg3 ho3
 refine wz_nil ?_
 have hG : Gr v.ownBlock.toList w1 w3 := (Gr.of_grown hg2 (fun k hk => by simp [hk])).trans (Gr.of_grown hg3 (fun k hk => by simp [hk]))
 simp only [Int.toNat_natCast] at ho3
 have hom3 := hom.swap hra hrk (getD_some (d := []) hal) (getD_some (d := []) hkl) hG ho3
 refine QX rfl ⟨(Gr.of_ext hd).trans (hG.mono fun b hb => QQ.2 (.inl (by simpa using hb))), rfl, _, hom3, fun b hb => .inl (bks_swap hra hrk hb)⟩
end Go.Proofs.YtcfbigmjjpknfaaGreatDoor
namespace Go.Sx
open Go Go.RowKit Go.Pl Go.Lib
section
variable {P : Program} {N : Nat} {l : Env} {w : World} {ops : Array Oper} {dr : Bool} {Q : Act → World → Prop} {π : List Nat} {i d : Nat} {v : Value} {op : Op} {ty : TypeId} {pos : String} {after : Array Edge} {g : Option (Nat × Bool)}
variable {x y c p : Operand} {u z : Int} {T T' : TypeId}
theorem Blk.shape {w : World} {b : Nat} {t : TypeId} {cs : Array Value} (h : Blk w b t cs) : w.shape? b = some (t, cs.size) := by
 unfold Blk at h
 simp [World.shape?, h]
theorem toUn {b t e : Nat} {j : TypeInfo} {cs : Array Value} (hx : ev l x = some (.pointer (some ⟨b, 0, none⟩))) (hs : P.underlying T = some (.pointer t)) (hd : P.underlying T' = some .unsafePointer) (ht : P.info? t = some j) (hj : j.size ≠ 0) (hB : Blk w b e cs) (hc : 0 < cs.size) :
  Yl P N (.convert T T' x) ty l w (.pointer (some ⟨b, 0, none⟩)) := fun a ha w' hE o ho _ => by
 replace hE := hE.resolve_left (by simp [isM])
 have h := Go.Lib.run_to_unsafe (P := P) w' (src := T) (dst := T') ⟨b, 0, none⟩ hs hd ht hj (hB.ext hE).shape hc
 simp [execOp, ho, ha.eval hx, h]
theorem ofUn {b t e : Nat} {j : TypeInfo} {cs : Array Value} (hx : ev l x = some (.pointer (some ⟨b, 0, none⟩))) (hs : P.underlying T = some .unsafePointer) (hd : P.underlying T' = some (.pointer t)) (ht : P.info? t = some j) (hB : Blk w b e cs) (hl : liesAt P P.depth e (cs.size / P.cellsOf e) 0 t 1 = true) :
  Yl P N (.convert T T' x) ty l w (.pointer (some ⟨b, 0, none⟩)) := fun a ha w' hE o ho _ => by
 replace hE := hE.resolve_left (by simp [isM])
 have h := Go.Lib.run_from_unsafe (P := P) w' (src := T) (dst := T') ⟨b, 0, none⟩ hs hd ht (hB.ext hE).shape hl
 simp [execOp, ho, ha.eval hx, h]
theorem neqSelf {b t : Nat} {j : TypeInfo} (hx : ev l x = some (.pointer (some ⟨b, 0, none⟩))) (hy : ev l y = some (.pointer (some ⟨b, 0, none⟩))) (hT : P.underlying T = some (.pointer t)) (ht : P.info? t = some j) : Yl P N (.binOp .neq T x y T') ty l w (.bool false) :=
 Zn hx hy (fun w => Go.Lib.run_neq_ptr_same w _ hT ht) (fun _ _ _ => by unfold eqGuard; split <;> rfl)
theorem APS {v0 : Value} {B : Nat} {E : TypeId} {xs : List Value} {s : ByteArray} (hi : ops[i]? = some ⟨some d, .call ⟨.builtin .append, #[x, y], #[T, T']⟩, ty, pos, after, g⟩) (hw : Wt ops N l g) (hd : Nat.blt d N = true) (hx : ev l x = some v0) (hy : ev l y = some (.string s))
  (hT : SlT P T E (.int .u8 0) 1 1) (hS : P.underlying T' = some .string) (htl : dr = true → isTail ops i = false → v0.ownBlock = none)
  (h : ∀ v w', w.grownBy w' v0.ownBlock → Own B w' v E (xs ++ strCells s) → (strCells s).length = s.size → (∀ q, v.ownBlock = some q → v0.ownBlock = some q ∨ w.heap.size ≤ q) → WR P N ops dr Q π ((d, v) :: l) w')
  (ho : Own B w v0 E xs) (hB : B ≤ w.heap.size) (hlen : xs.length + s.size ≤ 65536 * 4) : WR P N ops dr Q (i :: π) l w := by
 obtain ⟨j, hj, hj1, hj2, hj3⟩ := info_parts hT.inf
 obtain ⟨v', w', hrun, h2, h3, h5⟩ : ∃ v' w', (Builtin.append_ #[T, T'] ty #[v0, .string s]).run P w = .ok v' w' ∧ w'.ownsRow B E 1 v' (xs.length + s.size) (xs ++ strCells s) ∧ w.grownBy w' v0.ownBlock ∧ (∀ q, v'.ownBlock = some q → v0.ownBlock = some q ∨ w.heap.size ≤ q) := by
  have hrow := ho.row
  rcases hrow.2 with ⟨rfl, hn⟩ | ⟨gb, cap, cur, rfl, hBg, hg, hnc, hcm, hcs, htake⟩
  ·have hx0 : xs = [] := List.eq_nil_of_length_eq_zero hn
   subst hx0
   obtain ⟨v', w', hrun, h2, h3, h4⟩ := run_append_own_string (P := P) w w.heap.size T T' ty E j hT.und hS hj hj1 hj2 hj3 (.slice none 0 0) 0 [] (World.ownsRow_nil w _ E 1) s (by unfold maxLen; simp at hlen; omega) (by simp at hlen; omega) (Nat.le_refl _)
   have hq : ∀ q, v'.ownBlock = some q → w.heap.size ≤ q := fun q hq => (h2.lt q hq).1
   refine ⟨v', w', hrun, ?_, h3, fun q hq' => .inr (hq q hq')⟩
   obtain ⟨k0, k1⟩ := h2
   refine ⟨by simpa using k0, ?_⟩
   rcases k1 with k1 | ⟨g', cap', cur', hv', hB', k2⟩
   ·exact .inl (by simpa using k1)
   ·exact .inr ⟨g', cap', cur', by simpa using hv', by omega, by simpa using k2⟩
  ·obtain ⟨v', w', hrun, h2, h3, h4⟩ := run_append_own_string (P := P) w B T T' ty E j hT.und hS hj hj1 hj2 hj3 (.slice (some ⟨gb, 0, none⟩) xs.length cap) xs.length xs hrow s (by unfold maxLen; omega) (by omega) hB
   refine ⟨v', w', hrun, h2, h3, fun q hq => ?_⟩
   by_cases hroom : xs.length + s.size ≤ cap
   ·have hr := run_append_room_string (P := P) w T T' ty E j hT.und hS hj hj2 gb xs.length cap cur hg s hroom (by rw [show cur.size = cap by simpa using hcs]; exact hroom)
    rw [hr] at hrun
    obtain ⟨rfl, rfl⟩ : _ ∧ _ := by simpa using hrun
    exact .inl hq
   ·have holds : ∀ k u, xs[k]? = some u → w.cell? ((⟨gb, 0, none⟩ : Addr).add k) = some u := hrow.cells rfl
    have hr := run_append_grow_string (P := P) w T T' ty E j (.int .u8 0) hT.und hS hj hj1 ⟨gb, 0, none⟩ xs.length cap xs (by rw [hj2]; simp) holds s (by omega) (by omega) (by rw [hj3]; exact growslice_fits (by omega) (by omega))
    rw [hr] at hrun
    obtain ⟨rfl, _⟩ : _ ∧ _ := by simpa using hrun
    have : w.heap.size = q := by simpa [Value.ownBlock] using hq
    exact .inr (by omega)
 have hl : (strCells s).length = s.size := strCells_length s
 refine F (v := v') (w' := w') hi hw rfl hd (fun a ha => ?_) (fun hdr ht => ?_) (h v' w' h3 ⟨by rw [List.length_append, hl]; exact h2, by rw [List.length_append, hl]; omega⟩ hl h5)
 ·simp [execOp, resolve, invoke, builtin, ha.eval hx, ha.eval hy, hrun]
 ·rw [htl hdr ht] at h3
  exact Ext.of_grown h3
end
section
variable {P : Program} {N : Nat} {l : Env} {w : World} {ops : Array Oper} {dr : Bool} {Q : Act → World → Prop} {π : List Nat} {i d : Nat} {ty : TypeId} {pos : String} {after : Array Edge} {g : Option (Nat × Bool)}
theorem CVR {X : List Nat} {x : Operand} {f : FuncId} {fs cs : List Value} {cl : List Operand} {ats : Array TypeId} {vs : List Value} {Φ : Value → World → Prop} (hi : ops[i]? = some ⟨some d, .call ⟨.value x, cl.toArray, ats⟩, ty, pos, after, g⟩) (hw : Wt ops N l g) (hd : Nat.blt d N = true)
  (hx : ev l x = some (.func (.func f) fs.toArray cs.toArray)) (hv : evs l cl = some vs) (hf : ∀ args w, (callFunc f args).run P w = .ok (.enter f args) w) (hc : Calls P f (fs ++ vs ++ cs).toArray w (RetG X w Φ)) (htl : dr = true → isTail ops i = true)
  (h : ∀ v w', Gr X w w' → Φ v w' → WR P N ops dr Q π ((d, v) :: l) w') : WR P N ops dr Q (i :: π) l w := fun a ha => by
 refine ⟨_, hi, ?_⟩
 rw [if_pos (hw a ha _ rfl)]
 refine .inr ⟨rfl, ?_⟩
 have hm := ha.evals hv
 have hrun : (execOp a.eval ⟨some d, .call ⟨.value x, cl.toArray, ats⟩, ty, pos, after, g⟩).run P w = .ok (.enter f (fs ++ vs ++ cs).toArray) w := by
  simp only [execOp, resolve, List.map_toArray, hm, ha.eval hx, Deferred.ofValue]
  simp [invoke, hf]
 unfold Oper.wp
 rw [hrun, Oper.upon_enter]
 refine hc.mono fun e w' he => ?_
 cases e with
 | returned v => exact ⟨⟨v, rfl⟩, fun hd ht => (by rw [htl hd] at ht; cases ht), h v w' he.1 he.2 _ (ha.put hd v)⟩
 | panicked c => exact he
 | outgrown => exact he.elim
end
end Go.Sx
namespace Go.Proofs.YtcfbigmjjpknfaaGreatDoor
open Go Go.Sx Go.Pl Go.RowKit Go.Fd Go.Alg
set_option maxRecDepth 10000 in
theorem cEach (F : FuncId) (caps : List Value) (v1 v2 : Value) (Ze Zc : List Value) (L1 L2 L1' L2' : List (List Int)) (B rb ab : Nat) (w : World) (hom1 : OM B w v1 22 3 Ze L1) (hom2 : OM B w v2 22 3 Zc L2) (hdis : ∀ k ∈ bks v2 Zc, k ∉ bks v1 Ze)
  (hr : Blk w rb 25 #[v1]) (ha : Blk w ab 25 #[v2]) (_ : rb ∉ bks v1 Ze) (haX : ab ∉ bks v1 Ze) (hz : L2 = [] → L2' = []) (hcall : ∀ args w, (callFunc F args).run Tryz.prog w = .ok (.enter F args) w)
  (h1 : Calls Tryz.prog F (v1 :: caps).toArray w (RetG (bks v1 Ze) w (StepR B w v1 Ze L1')))
  (h2 : L2 ≠ [] → ∀ w', Gr (bks v1 Ze) w w' → OM B w' v2 22 3 Zc L2 → Calls Tryz.prog F (v2 :: caps).toArray w' (RetG (bks v2 Zc) w' (StepR B w' v2 Zc L2'))) :
  Calls Tryz.prog 249 #[.func (.func F) #[] caps.toArray, .pointer (some ⟨rb, 0, none⟩), .pointer (some ⟨ab, 0, none⟩)] w (RetG (bks v1 Ze ++ bks v2 Zc) w fun r w' => r = .tuple #[] ∧
   ∃ rows1' rows2', OM B w' v1 22 3 rows1' L1' ∧ OM B w' v2 22 3 rows2' L2' ∧ (∀ k ∈ bks v1 rows1', k ∈ bks v1 Ze ∨ w.heap.size ≤ k) ∧ (∀ k ∈ bks v2 rows2', k ∈ bks v2 Zc ∨ w.heap.size ≤ k) ∧ (∀ k ∈ bks v2 rows2', k ∉ bks v1 rows1')) := by
 have hbk2 := hom2.bk
 have hbk1 := hom1.bk
 refine QS Tryz.func249 rfl rfl (Qc (Qb [0,1,2] rfl (mvV rfl rfl (Vw rfl (ldB rfl Zm hr) (CVR (fs := []) (cs := caps) (vs := [v1]) rfl wu rfl rfl rfl hcall h1 nofun ?_)))))
 rintro _ w2 hG ⟨rfl, rows1', hom1', hn1⟩
 refine Qd (Qa (Qc ?_))
 have hom2' := hom2.gr hG hdis
 have ha2 := ha.gr hG haX
 have hd1 : ∀ k ∈ bks v2 Zc, k ∉ bks v1 rows1' := fun k hk h => by
  rcases hn1 k h with h3 | h3
  ·exact hdis k hk h3
  ·have := (hbk2 k hk).2
   omega
 refine Qb [0,1,2] rfl (Vw rfl (ldB rfl Zm ha2) (Vw rfl (Zt rfl QN hom2'.own.sl) (ZA rfl rfl rfl (Qd (Qa (Qo rfl ?_ ?_))))))
 ·intro hc
  simp at hc
  have hne : L2 ≠ [] := fun e => by
   have := hom2.len
   rw [e] at this
   simp at this
   rw [this] at hc
   simp at hc
  refine Qb [0,1,2] rfl (mvV rfl rfl (Vw rfl (ldB rfl Zm ha2) (CVR (fs := []) (cs := caps) (vs := [v2]) rfl wu rfl rfl rfl hcall (h2 hne _ hG hom2') nofun ?_)))
  rintro _ w3 hG3 ⟨rfl, rows2', hom2'', hn2⟩
  refine Qd ?_
  have hsz := hG.size
  have hdj : ∀ k ∈ bks v1 rows1', k ∉ bks v2 Zc := fun k hk h => hd1 k h hk
  refine QX rfl ⟨(hG.mono fun k hk => List.mem_append_left _ hk).trans (hG3.mono fun k hk => List.mem_append_right _ hk), rfl, rows1', rows2', hom1'.gr hG3 hdj, hom2'', hn1, fun k hk => (hn2 k hk).imp id (fun h => by omega), fun k hk h => ?_⟩
  rcases hn2 k hk with h3 | h3
  ·exact hd1 k h3 h
  ·have := (hom1'.bk k h).2
   omega
 ·intro hc
  simp at hc
  have he : L2 = [] := by
   have := hom2.len
   cases L2 with
   | nil => rfl
   | cons a l => rw [hc] at this; simp at this
  refine Qe (QX rfl ⟨hG.mono fun k hk => List.mem_append_left _ hk, rfl, rows1', Zc, hom1', by rw [hz he, ← he]; exact hom2', hn1, fun k hk => .inl hk, hd1⟩)
end Go.Proofs.YtcfbigmjjpknfaaGreatDoor
