import Derived.Test.YtcfbigmjjpknfaaGreatDoorW13
import Derived.Test.YtcfbigmjjpknfaaGreatDoorW12
import Derived.Test.YtcfbigmjjpknfaaGreatDoorW17
import Derived.Test.YtcfbigmjjpknfaaGreatDoorW23
namespace Go.Sx
open Go Go.RowKit Go.Pl
section
variable {X : List Nat} {P : Program} {N : Nat} {l : Env} {w : World} {ops : Array Oper} {Q : Act → World → Prop} {π : List Nat} {i : Nat}
theorem Qaz (hA : isAat ops i = false) (h : WR P N ops false (fun a' w' => (isTail ops i = true ∨ Gr X w w') ∧ RLZ X P ops Q π a' w') [i] l w) : WZ X P N ops Q (i :: π) l w := fun a ha => by
 obtain ⟨o, ho, h⟩ := h a ha
 refine ⟨o, ho, ?_⟩
 have hA' : isA o.op = false := by
  unfold isAat at hA
  rw [ho] at hA
  exact hA
 split
 ·rename_i hw
  rw [if_pos hw] at h
  rcases h with ⟨h1, _⟩ | ⟨h1, h2⟩
  ·rw [hA'] at h1; cases h1
  ·refine .inr ⟨hA', Zv (fun a' w' hh => ⟨hh.1, fun ht => ?_, hh.2.2.2⟩) h2⟩
   unfold relZ
   rw [hA, if_neg (by simp)]
   rcases hh.2.2.1 with h3 | h3
   ·rw [ht] at h3; cases h3
   ·exact h3
 ·rename_i hw
  rw [if_neg hw] at h
  exact h.2
theorem wz_in {w0 : World} (hG : isTail ops i = true ∨ Gr X w0 w) (h : WZ X P N ops Q π l w) : WR P N ops false (fun a' w' => (isTail ops i = true ∨ Gr X w0 w') ∧ RLZ X P ops Q π a' w') [] l w := fun a ha => ⟨hG, h a ha⟩
variable {p : Operand} {T : TypeId} {ty : TypeId} {u : Int} {v : Value}
theorem yE {v0 : Value} {xs : List Value} (hp : ev l p = some (eptr v0 1 u)) (hna : NA P T) (hs : Sl w v0 xs) (hu : xs[u.toNat]? = some v) (hX : ∀ k, v0.ownBlock = some k → k ∉ X) : YX X P N (.load T p) ty l w v := fun a ha w' hE o ho hty => by
 replace hE := hE.resolve_left (by simp [isM])
 exact ldE (l := l) (w := w') (T := T) (ty := ty) hp hna (hs.gr hE hX) hu (Ext.refl w') a ha w' (.inr (Ext.refl w')) o ho hty
theorem yI {v0 : Value} {zs : List Int} (hp : ev l p = some (eptr v0 1 u)) (hna : NA P T) (hs : Ints w v0 zs) (hX : ∀ k, v0.ownBlock = some k → k ∉ X) (h0 : 0 ≤ u) (h1 : u < zs.length) : YX X P N (.load T p) ty l w (.int .i64 (gi zs u)) :=
 yE hp hna hs (get_gi h0 h1) hX
end
theorem OM.put2 {B : Nat} {w w1 w2 : World} {v r r0 : Value} {E E' : TypeId} {rows : List Value} {L : List (List Int)} {u : Nat} {zs : List Int} (h : OM B w v E E' rows L) (hu : rows[u]? = some r) (hg1 : Gr r.ownBlock.toList w w1) (hg2 : w1.grownBy w2 v.ownBlock)
  (ho : Own B w2 v E (rows.set u r0)) (hr : OwnI B w1 r0 E' zs) (hb : r0.ownBlock = r.ownBlock ∨ ∀ k, r0.ownBlock = some k → w.heap.size ≤ k) : OM B w2 v E E' (rows.set u r0) (L.set u zs) := by
 have hbk := h.bk
 have hkp : ∀ {r : Value} {z : List Int}, OwnI B w1 r E' z → (∀ k, r.ownBlock = some k → v.ownBlock ≠ some k) → OwnI B w2 r E' z := fun {r z} ho hn => Own.kept ho hg2 (by
  cases hb : r.ownBlock with
  | none => exact .inr rfl
  | some k => exact .inl fun e => hn k hb e.symm)
 have hul : ∀ {α : Type} (l : List α) (x y : α) (j : Nat), (l.set u x)[j]? = some y → (j = u ∧ x = y) ∨ (j ≠ u ∧ l[j]? = some y) := fun {α} l x y j hj => by
  by_cases e : u = j
  ·subst e
   rw [List.getElem?_set_self (by have := (List.getElem?_eq_some_iff.1 hj).1; rw [List.length_set] at this; exact this)] at hj
   exact .inl ⟨rfl, Option.some.inj hj⟩
  ·rw [List.getElem?_set_ne e] at hj
   exact .inr ⟨Ne.symm e, hj⟩
 have h0v : ∀ k, r0.ownBlock = some k → v.ownBlock ≠ some k := fun k hk e => by
  rcases hb with hb | hb
  ·rw [hb] at hk
   exact h.out u r k hu hk e
  ·have := hb k hk
   have := (hbk k (QQ.2 (.inl e))).2
   omega
 have h0r : ∀ (i : Nat) (r' : Value) k, rows[i]? = some r' → i ≠ u → r'.ownBlock = some k → r0.ownBlock ≠ some k := fun i r' k hi hne hk e => by
  rcases hb with hb | hb
  ·rw [hb] at e
   exact hne (h.apart i u r' r k hi hu hk e)
  ·have := hb k e
   have := (hbk k (QQ.2 (.inr ⟨r', List.mem_of_getElem? hi, hk⟩))).2
   omega
 refine ⟨ho, by rw [List.length_set, List.length_set]; exact h.len, fun i r' z a b => ?_, fun i r' k a hk => ?_, fun i j r1 r2 k a b hk hk' => ?_⟩
 ·rcases hul _ _ _ _ a with ⟨rfl, rfl⟩ | ⟨e, a'⟩
  ·rcases hul _ _ _ _ b with ⟨-, rfl⟩ | ⟨e, -⟩
   ·exact hkp hr h0v
   ·exact absurd rfl e
  ·rcases hul _ _ _ _ b with ⟨e2, -⟩ | ⟨-, b'⟩
   ·exact absurd e2 e
   ·exact hkp (Own.gr (h.row i r' z a' b') hg1 (fun k hk hx => e (h.apart i u r' r k a' hu hk (by simpa using hx)))) (fun k hk => h.out i r' k a' hk)
 ·rcases hul _ _ _ _ a with ⟨rfl, rfl⟩ | ⟨e, a'⟩
  ·exact h0v k hk
  ·exact h.out i r' k a' hk
 ·rcases hul _ _ _ _ a with ⟨e, ea⟩ | ⟨e, a'⟩ <;> rcases hul _ _ _ _ b with ⟨e', eb⟩ | ⟨e', b'⟩
  ·rw [e, e']
  ·rw [← ea] at hk
   exact absurd hk (h0r j r2 k b' e' hk')
  ·rw [← eb] at hk'
   exact absurd hk' (h0r i r1 k a' e hk)
  ·exact h.apart i j r1 r2 k a' b' hk hk'
end Go.Sx
namespace Go.Ml
open Go.Pl
def pts : List (List Int) := [[0, 0, 1], [0, 1, 0], [0, 1, 1], [1, 0, 0], [1, 0, 1], [1, 1, 0], [1, 1, 1]]
def off : Nat → Nat
 | 0 => 7
 | 1 => 3
 | 2 => 1
 | _ => 0
def cntP (lead : Nat) : Nat := 2 ^ (2 - lead)
def wd (lead j : Nat) : List Int := pts.getD (off (lead + 1) + j) []
def zr (l : List Int) (i : Nat) : List Int := tab 3 fun t => if i < t then 0 else gi l t
theorem wd_zero : ∀ lead : Nat, lead < 3 → si (tab 3 fun _ => 0) lead 1 = wd lead 0 := by decide
theorem off_step : ∀ lead : Nat, lead < 3 → off lead = off (lead + 1) + cntP lead := by decide
theorem wd_last : ∀ lead : Nat, lead < 3 → ∀ j : Nat, j < cntP lead → (∀ t : Nat, t < 3 → lead < t → gi (wd lead j) t = 1) → j + 1 = cntP lead := by decide
def okI (lead j i : Nat) : Prop := lead < i ∧ (∀ t : Nat, t < 3 → i < t → gi (wd lead j) t = 1) ∧ gi (wd lead j) i ≠ 1
instance okI_dec (lead j i : Nat) : Decidable (okI lead j i) := by unfold okI; infer_instance
theorem wd_next1 : ∀ lead : Nat, lead < 3 → ∀ j : Nat, j < cntP lead → ∀ i : Nat, i < 3 → okI lead j i → j + 1 < cntP lead := by decide
theorem wd_next2 : ∀ lead : Nat, lead < 3 → ∀ j : Nat, j < cntP lead → ∀ i : Nat, i < 3 → okI lead j i → si (zr (wd lead j) i) i (gi (zr (wd lead j) i) i + 1) = wd lead (j + 1) := by decide
def pw : Nat → Nat
 | 0 => 1
 | n + 1 => 2 * pw n
theorem wd_len : ∀ lead : Nat, lead < 3 → ∀ j : Nat, j < cntP lead → (wd lead j).length = 3 := by decide
theorem wd_zr : ∀ lead : Nat, lead < 3 → ∀ j : Nat, j < cntP lead → zr (wd lead j) 2 = wd lead j := by decide
theorem wd_get : ∀ lead : Nat, lead < 3 → ∀ j : Nat, j < cntP lead → off (lead + 1) + j < 7 := by decide
theorem zr_step : ∀ lead : Nat, lead < 3 → ∀ j : Nat, j < cntP lead → ∀ i : Nat, i < 3 → 0 < i → si (zr (wd lead j) i) i 0 = zr (wd lead j) (i - 1) := by decide
theorem zr_at : ∀ lead : Nat, lead < 3 → ∀ j : Nat, j < cntP lead → ∀ i : Nat, i < 3 → gi (zr (wd lead j) i) i = gi (wd lead j) i := by decide
theorem wd_bit : ∀ lead : Nat, lead < 3 → ∀ j : Nat, j < cntP lead → ∀ i : Nat, i < 3 → 0 ≤ gi (wd lead j) i ∧ gi (wd lead j) i ≤ 1 := by decide
theorem zr_len {l : List Int} {i : Nat} : (zr l i).length = 3 := by rw [zr, Qs]
end Go.Ml
namespace Go.Proofs.YtcfbigmjjpknfaaGreatDoor
open Go Go.Sx Go.Pl Go.RowKit Go.Fd Go.Alg
set_option maxRecDepth 10000 in
theorem clPoints (w : World) :
  Calls Tryz.prog 261 #[.agg f2.toArray, .int .i64 3] w (RetX w fun r w' => ∃ ov rows, r = .tuple #[ov, .int .i64 0] ∧ OM w.heap.size w' ov 22 3 rows Ml.pts) := by
 have ok := ok2
 refine QD Tryz.func261 rfl rfl (Qc (Qb [0,1,2] rfl (BXA rfl wu rfl rfl ?_)))
 intro fb w1 hE1 hF hfb
 refine Qk rfl rfl (Qk rfl rfl (Qd (Qa (Qc (Qb [0,1,2,3,4,5,6] rfl (Vw rfl (ldA rfl Zf hF) (C rfl wu rfl rfl Tryz.call22 (fNew 2 1 (.slice none 0 0) [] _ (Ints.nil _)) ?_)))))))
 rintro r0 w2 hE2 hr0
 obtain ⟨g, rfl, hG⟩ := Qb3 ok hr0
 refine mvV rfl rfl (QI rfl rfl rfl (QI rfl rfl rfl (Qk rfl rfl (Qk rfl rfl (Qd (Qa (Qc (Qc ?_))))))))
 replace hG : GFV w2 P2 g := hG
 have hE := hE1.trans hE2
 refine Qb [0,1] rfl (mvV rfl rfl (QG rfl rfl rfl (Qd (Qa (Qn rfl (rfl) (Qe (Qa (Qc (Qc (Qb [0,1] rfl (mvV rfl rfl (Qy rfl rfl rfl (Qd (Qa ?_))))))))))))))
 refine Qn rfl (rfl) (Qe (Qa (Qc (Qb [0,1,2] rfl (mvV rfl rfl (C rfl wu rfl rfl Tryz.call136 (gOrder P2 g _ hG) ?_))))))
 rintro _ w3 hE3 rfl
 refine Qk rfl rfl (Qd (Qa (Qc ?_)))
 replace hE := hE.trans hE3
 rw [P2_q]
 refine Qb [0,1] rfl (Qk rfl rfl (Qk rfl rfl (Qd (Qa (Qc (Qc (Qb [0,1] rfl (mvV rfl rfl (mvV rfl rfl (Qd (Qa (Qf ?_))))))))))))
 refine Qv (fun i : Nat => [(1, .int .i64 3), (8, .int .i64 2), (9, .int .i64 ((Ml.pw i : Int) - 1)), (10, .int .i64 (Ml.pw i : Nat)), (27, .int .i64 3), (28, .int .i64 i)]) (fun i w' => i ≤ 3 ∧ w' = w3) (fun i => 3 - i) 0 ⟨rfl, rfl, rfl, rfl, rfl, rfl, trivial⟩ ⟨by omega, rfl⟩ ?_
 rintro i w4 ⟨i1, rfl⟩
 have hpow : Ml.pw i ≤ 8 ∧ 1 ≤ Ml.pw i := by
  rcases (show i = 0 ∨ i = 1 ∨ i = 2 ∨ i = 3 by omega) with rfl | rfl | rfl | rfl <;> decide
 try dsimp only
 refine Qc (Qb [0] rfl (Qy rfl rfl rfl (Qd (Qa (Qc (Qo rfl ?_ ?_))))))
 ·intro hc
  simp at hc
  have hpow2 : Ml.pw i ≤ 4 := by
   rcases (show i = 0 ∨ i = 1 ∨ i = 2 by omega) with rfl | rfl | rfl <;> decide
  refine Qe (Qa (Qc (Qf (Qc (Qc (Qb [0,1,2,3] rfl (mvV rfl rfl (mvV rfl rfl (Qw rfl rfl rfl (Qk rfl rfl (Qd (Qa (Qc (Qb [0,1] rfl (mvV rfl rfl (ZA rfl rfl rfl ?_))))))))))))))))
  refine Qd (Qa (Qn rfl (by simp; omega) (Qe (Qa (Qb [0,1,2,3] rfl (mvV rfl rfl (mvV rfl rfl (Vw rfl (Kx rfl rfl) (Qk rfl rfl (Qd (Qg (Qa (Qb [0,1] rfl ?_)))))))))))))
  refine Qw rfl rfl rfl (mvV rfl rfl (Qd (Qi (i + 1) ⟨rfl, rfl, ?_, ?_, rfl, rfl, trivial⟩ ⟨by omega, rfl⟩ (by omega))))
  ·have e : ((Ml.pw i : Int) - 1) + (Ml.pw i : Nat) = (Ml.pw (i + 1) : Int) - 1 := by show _ = ((2 * Ml.pw i : Nat) : Int) - 1; omega
   show some (Value.int .i64 _) = some (Value.int .i64 _)
   rw [e]
  ·have e : (Ml.pw i : Int) * 2 = (Ml.pw (i + 1) : Int) := by show _ = ((2 * Ml.pw i : Nat) : Int); omega
   show some (Value.int .i64 _) = some (Value.int .i64 _)
   rw [e]
 ·intro hc
  simp at hc
  obtain rfl : i = 3 := by omega
  clear hpow hc
  refine Qt (Ql (Qm (Qh (Qa (Qc (Qb [0,1,2] rfl (mvV rfl rfl (MKC (n := 7) rfl wu rfl rfl rfl QN ?_ (hn := by decide)))))))))
  intro ov0 w5 hE5 hov hovb
  refine Qk rfl rfl (Qd (Qa (Qc (Qc (Qb [0,1,2] rfl (mvV rfl rfl (Zd rfl rfl rfl (Qk rfl rfl (Qd (Qa (Qf ?_)))))))))))
  have hE05 := hE.trans hE5
  have hz5 := hE05.size
  have hom0 : OM w4.heap.size w5 ov0 22 3 [] [] := ⟨hov, rfl, fun i r zs h => by simp at h, fun i r k h => by simp at h, fun i j r r' k h => by simp at h⟩
  refine Qv (fun s : Nat × Value × List Value => [(1, .int .i64 3), (8, .int .i64 2), (11, s.2.1), (12, .int .i64 ((s.1 : Int) - 1))]) (fun s w' => s.1 ≤ 3 ∧ Ext w4 w' ∧ OM w4.heap.size w' s.2.1 22 3 s.2.2 (Ml.pts.take (Ml.off s.1))) (fun s => s.1) (3, ov0, []) ⟨rfl, rfl, rfl, rfl, trivial⟩ ⟨Nat.le_refl 3, hE5, hom0⟩ ?_
  clear hom0 hov
  rintro ⟨m, ov, rws⟩ wl ⟨m1, hEl, hom⟩
  dsimp only at m1 hEl hom
  try dsimp only
  refine Qc (Qc (Qb [0,1] rfl (mvV rfl rfl (Vw rfl (Xb rfl rfl) (Qd (Qa (Qo rfl ?_ ?_)))))))
  ·intro hc
   simp at hc
   obtain ⟨lead, rfl⟩ : ∃ q, m = q + 1 := ⟨m - 1, by omega⟩
   have hl3 : lead < 3 := by omega
   have el : ((lead + 1 : Nat) : Int) - 1 = (lead : Nat) := by omega
   rw [el]
   have hzl := hEl.size
   have hbkl := hom.bk
   refine Qe (Qa (Qc (Qf (Qc (Qb [0,1,2] rfl (mvV rfl rfl (MKI (n := 3) rfl wu rfl rfl QA ?_)))))))
   intro wv wa hEa hwo hwi hwb
   refine Qk rfl rfl (Qd (Qa (Qc (Qb [0,1,2,3] rfl (mvV rfl rfl (mvV rfl rfl (Vw rfl (QO rfl rfl QA hwi (by omega) (by rw [Qs]; omega)) (STI rfl wu rfl rfl sz3 nofun ?_ (ho := hwo) (h0 := by omega) (h1 := by rw [Qs]; omega)))))))))
   intro wb hgb hXb hob hib
   refine Qd (Qa (Qf ?_))
   rw [Ml.wd_zero lead hl3] at hob
   have hEb := hXb wl (Nat.le_refl _) hEa
   refine Qv (fun s : Nat × Value × List Value => [(1, .int .i64 3), (8, .int .i64 2), (11, s.2.1), (12, .int .i64 lead), (13, wv)])
    (fun s w' => s.1 < Ml.cntP lead ∧ Ext w4 w' ∧ wl.heap.size ≤ w'.heap.size ∧ OM w4.heap.size w' s.2.1 22 3 s.2.2 (Ml.pts.take (Ml.off (lead + 1) + s.1)) ∧ OwnI wl.heap.size w' wv 3 (Ml.wd lead s.1) ∧ (∀ k, wv.ownBlock = some k → k ∉ bks s.2.1 s.2.2)) (fun s => Ml.cntP lead - s.1) (0, ov, rws) ⟨rfl, rfl, rfl, rfl, rfl, trivial⟩
    ⟨Nat.pos_of_ne_zero (by unfold Ml.cntP; exact Nat.ne_of_gt (Nat.two_pow_pos _)), hEl.trans hEb, hEb.size, hom.ext hEb, hob, fun k hk h => by have := (hbkl k h).2; have := (Own.lt hob k hk).1; omega⟩ ?_
   clear hom hwo hwi hob hib hbkl hEa hEb
   clear ov rws
   rintro ⟨j, ov, rws⟩ wj ⟨j1, hEj, hzj, hom, hwo, hwX⟩
   dsimp only at j1 hEj hom hwo hwX
   have hwl := Ml.wd_len lead hl3 j j1
   have hbkj := hom.bk
   have hwlt := Own.lt hwo
   try dsimp only
   refine Qf (Qc (Qb [0,1,2,3,4,5] rfl (mvV rfl rfl (mvV rfl rfl (C rfl wu rfl rfl Tryz.call27 (Qby wv (Ml.wd lead j) _ (OwnI.ints hwo) (by omega)) ?_)))))
   rintro cv wc hEc hco
   refine BS (us := [cv]) rfl wu rfl rfl rfl rfl QN (by have := (OwnI.ints hco).one; intro u hu; rw [List.mem_singleton.1 hu]; exact this) ?_
   intro tv wd hEd htv htb
   have hz1 := hEc.size
   have hz2 := hEd.size
   have hz3 := hEj.size
   refine APOM (w1 := wj) rfl wu rfl rfl rfl QN nofun ((hom.ext hEc).ext hEd) htv.sl (OwnI.ext hco hEd) (fun k hk => (hbkj k hk).2) (Nat.le_refl _) hz3 (by omega) (by have := Ml.wd_get lead hl3 j j1; rw [List.length_take]; omega) ?_ (hlen1 := by have := Ml.wd_get lead hl3 j j1; rw [List.length_take]; omega)
   intro ov2 we hge home hbe
   refine Qk rfl rfl (Qd (Qa (Qc ?_)))
   have hzc := hge.size
   have hpl := Ml.wd_get lead hl3 j j1
   have hEe : Ext w4 we := ((hEj.trans hEc).trans hEd).grown hge ((hom.ext hEc).ext hEd).own (Nat.le_refl _)
   have hwe : OwnI wl.heap.size we wv 3 (Ml.wd lead j) := Own.gr (X := ov.ownBlock.toList) (OwnI.ext (OwnI.ext hwo hEc) hEd) (Gr.of_grown hge (fun k hk => by simp [hk])) (fun k hk h => hwX k hk (QQ.2 (.inl (by simpa using h))))
   have hwXe : ∀ k, wv.ownBlock = some k → k ∉ bks ov2 (rws ++ [cv]) := fun k hk h => by
    have h1 := (hwlt k hk).2
    rcases Qco hbe h with h | h | h
    ·exact hwX k hk h
    ·have := (Own.lt hco k h).1; omega
    ·omega
   have etk : Ml.pts.take (Ml.off (lead + 1) + j) ++ [Ml.wd lead j] = Ml.pts.take (Ml.off (lead + 1) + (j + 1)) := (Ml.take_step (A := Ml.pts) (i := Ml.off (lead + 1) + j) (d := []) hpl).symm
   rw [etk] at home
   refine Qb [0,1,2] rfl (mvV rfl rfl (Zd rfl rfl rfl (Qk rfl rfl (Qd (Qa (Qc (Qf ?_)))))))
   refine Qv (fun i : Nat => [(1, .int .i64 3), (8, .int .i64 2), (11, ov2), (12, .int .i64 lead), (13, wv), (14, .int .i64 i)])
    (fun i w' => lead ≤ i ∧ i < 3 ∧ Gr wv.ownBlock.toList we w' ∧ OwnI wl.heap.size w' wv 3 (Ml.zr (Ml.wd lead j) i) ∧ ∀ t : Nat, t < 3 → i < t → gi (Ml.wd lead j) t = 1) (fun i => i) 2 ⟨rfl, rfl, rfl, rfl, rfl, rfl, trivial⟩
    ⟨by omega, by omega, Gr.refl _ _, by rw [Ml.wd_zr lead hl3 j j1]; exact hwe, fun t h1 h2 => by omega⟩ ?_
   rintro i wi ⟨i1, i2, hGi, hwi, hones⟩
   have hii := OwnI.ints hwi
   have hzl' := Ml.zr_len (l := Ml.wd lead j) (i := i)
   have hXl : ∀ k ∈ wv.ownBlock.toList, w4.heap.size ≤ k := fun k hk => by
    have := (hwlt k (by simpa using hk)).1
    omega
   have homi := home.gr hGi (fun k hk h => hwXe k (by simpa using h) hk)
   have hEi := hGi.ext hEe hXl
   have hat := Ml.zr_at lead hl3 j j1 i i2
   try dsimp only
   refine Qc (Qc ?_)
   by_cases hil : lead < i
   ·skip
    refine Qb [0,1,2,3,4,5,6,7,8,9,10,11] rfl (mvV rfl rfl (mvV rfl rfl (ZA rfl rfl rfl (mvV rfl rfl (KB 62 true rfl (by simp; omega) (Vg rfl rfl rfl (mv rfl) (Vg rfl rfl rfl (mv rfl) (Vg rfl rfl rfl (QO rfl rfl QA hii (by omega) (by omega)) (Vg rfl rfl rfl (ldI rfl na3 hii (Ext.refl _) (by omega) (by omega)) ?_)))))))))
    refine Vg rfl rfl rfl (mv rfl) (Vg rfl rfl rfl (subI rfl rfl) (Vg rfl rfl rfl (KV rfl rfl) (pkV rfl rfl rfl (Qd (Qa ?_)))))
    rw [hat]
    refine Qo rfl ?_ ?_
    ·intro h1
     have h1' : gi (Ml.wd lead j) i = 1 := by simpa using h1
     refine Qe (Qa (Qf (Qc (Qb [0,1,2,3] rfl (mvV rfl rfl (mvV rfl rfl (Vw rfl (QO rfl rfl QA hii (by omega) (by omega)) (STI rfl wu rfl rfl sz3 nofun ?_ (ho := hwi) (h0 := by omega) (h1 := by omega)))))))))
     intro wf hgf hXf hof hif
     refine Qd (Qa (Qb [0,1,2] rfl (mvV rfl rfl (Zd rfl rfl rfl (Qk rfl rfl (Qd (Qg ?_)))))))
     rw [Ml.zr_step lead hl3 j j1 i i2 (by omega)] at hof
     refine Qi (i - 1) ⟨rfl, rfl, rfl, rfl, rfl, ?_, trivial⟩ ⟨by omega, by omega, hGi.trans (Gr.of_grown hgf (fun k hk => by simp [hk])), hof, fun t h1 h2 => ?_⟩ (by omega)
     ·have e : (i : Int) - 1 = ((i - 1 : Nat) : Int) := by omega
      show some (Value.int .i64 _) = some (Value.int .i64 _)
      rw [e]
     ·by_cases e : t = i
      ·rw [e]; exact h1'
      ·exact hones t h1 (by omega)
    ·intro h1
     have h1' : gi (Ml.wd lead j) i ≠ 1 := by simpa using h1
     have hok : Ml.okI lead j i := ⟨hil, hones, h1'⟩
     have hn1 := Ml.wd_next1 lead hl3 j j1 i i2 hok
     have hn2 := Ml.wd_next2 lead hl3 j j1 i i2 hok
     rw [hat] at hn2
     refine Qt (Ql (Qm (Qh (Qa (Qc (Qc (Qb [0,1,2] rfl (mvV rfl rfl (mvV rfl rfl (QU rfl rfl rfl (Qd (Qa (Qn rfl (by simp; omega) (Qe (Qa (Qb [0,1,2,3,4,5,6] rfl (mvV rfl rfl ?_)))))))))))))))))
     refine mvV rfl rfl (Vw rfl (QO rfl rfl QA hii (by omega) (by omega)) (Vw rfl (ldI rfl na3 hii (Ext.refl _) (by omega) (by omega)) ?_))
     rw [hat]
     refine Vw rfl (addI rfl rfl (by have h0 := Ml.wd_len lead hl3 j j1; have := Ml.wd_bit lead hl3 j j1 i i2; omega)) (Vw rfl (QO rfl rfl QA hii (by omega) (by omega)) (STI rfl wu rfl rfl sz3 nofun ?_ (ho := hwi) (h0 := by omega) (h1 := by omega)))
     intro wf hgf hXf hof hif
     refine Qd (Qg ?_)
     rw [hn2] at hof
     have hGf : Gr wv.ownBlock.toList wi wf := Gr.of_grown hgf (fun k hk => by simp [hk])
     exact Qi (j + 1, ov2, rws ++ [cv]) ⟨rfl, rfl, rfl, rfl, rfl, trivial⟩ ⟨hn1, hXf w4 (by omega) hEi, by have := hgf.size; have := hGi.size; omega, homi.gr hGf (fun k hk h => hwXe k (by simpa using h) hk), hof, hwXe⟩ (by dsimp only; omega)
   ·have hie : i = lead := by omega
    subst hie
    have hlast := Ml.wd_last i hl3 j j1 (fun t h1 h2 => hones t h1 h2)
    have hos := Ml.off_step i hl3
    refine Qb [0,1,2,3,4,5,6,7,8,9,10,11] rfl (mvV rfl rfl (mvV rfl rfl (ZA rfl rfl rfl (mvV rfl rfl (KB 62 false rfl (by simp) (SK rfl rfl rfl rfl rfl (SK rfl rfl rfl rfl rfl (SK rfl rfl rfl rfl rfl (SK rfl rfl rfl rfl rfl ?_)))))))))
    refine SK rfl rfl rfl rfl rfl (SK rfl rfl rfl rfl rfl (SK rfl rfl rfl rfl rfl (pkV rfl rfl rfl (Qd (Qa (Qn rfl (rfl) (Qt (Ql (Qm (Qh (Qa (Qc (Qc (Qb [0,1,2] rfl (mvV rfl rfl (mvV rfl rfl ?_))))))))))))))))
    refine QU rfl rfl rfl (Qd (Qa (QC rfl (by simp) (Qt (Ql (ZB rfl (Qm (Qh (Qg (Qa (Qb [0,1,2] rfl (mvV rfl rfl (Zd rfl rfl rfl (Qk rfl rfl (Qd (Qi (i, ov2, rws ++ [cv]) ⟨rfl, rfl, rfl, rfl, trivial⟩ ⟨by dsimp only; omega, hEi, ?_⟩ (by dsimp only; omega)))))))))))))))))
    dsimp only
    rw [hos, ← hlast]
    exact homi
  ·intro hc
   simp at hc
   obtain rfl : m = 0 := by omega
   refine Qt (Ql (Qm (Qh (Qa (Qc (Qb [0,1,2] rfl (mvV rfl rfl (Qk rfl rfl (Qk rfl rfl (Qd (Qa (Qq (QH rfl rfl rfl ?_)))))))))))))
   exact ⟨(hE.trans hEl), ov, rws, rfl, hom.mono (hE.size)⟩
end Go.Proofs.YtcfbigmjjpknfaaGreatDoor
namespace Go.Proofs.YtcfbigmjjpknfaaGreatDoor
open Go Go.Sx Go.Pl Go.RowKit Go.Lib Go.Lg
theorem ldFA {P : Program} {N : Nat} {l : Env} {w : World} {p : Operand} {u : Int} {T ty : TypeId} {s n o : Nat} {L : List (List Value)} {v0 : Value} {w0 : World} (hp : ev l p = some (fptr v0 s u o)) (hA : AG P T n) (hs : RowsV w0 v0 s L) (hE : Ext w0 w) (h0 : 0 ≤ u) (h1 : u < L.length) (hno : o + n ≤ s) :
  Yl P N (.load T p) ty l w (.agg (((L.getD u.toNat []).drop o).take n).toArray) := fun a ha w' hE' f hf _ => by
 replace hE' := hE'.resolve_left (by simp [isM])
 obtain ⟨⟨ad, cc, rfl, hc, hx'⟩, hr, _⟩ := hs
 obtain ⟨ad, rfl, hcell⟩ := hx' (by omega)
 have hlt : u.toNat < L.length := by omega
 have hrl := hr (L.getD u.toNat []) (by rw [List.getD_eq_getElem?_getD, List.getElem?_eq_getElem hlt]; exact List.getElem_mem _)
 have h4 := Xs u.toNat hr hlt
 have hcs : ∀ j v, (((L.getD u.toNat []).drop o).take n)[j]? = some v → w'.cell? (((ad.add (u.toNat * s)).add o).add j) = some v := by
  intro j v hv
  rw [List.getElem?_take] at hv
  split at hv
  ·rw [List.getElem?_drop] at hv
   have hlt2 := (List.getElem?_eq_some_iff.1 hv).1
   rw [hrl] at hlt2
   rw [← h4, List.getElem?_take, if_pos hlt2, List.getElem?_drop] at hv
   have h5 := (hE.trans hE').cell (hcell _ _ hv)
   rw [Xw, Xw]
   rw [← h5]
  ·cases hv
 have hl := run_loadCells_list (P := P) w' ((ad.add (u.toNat * s)).add o) _ hcs
 have hlen : (((L.getD u.toNat []).drop o).take n).length = n := by rw [List.length_take, List.length_drop, hrl]; omega
 rw [hlen] at hl
 simp [execOp, hf, ha.eval hp, fptr, Instr.loadAt, Instr.sureAddr, loadVar, hA.agg w', hA.size w', hl]
structure KeptP (Ψ : Nat → List Value → World → Prop) : Prop where
 g : ∀ B rc w w' k, Ψ B rc w → w.grownBy w' (some k) → k < B → Ψ B rc w'
 m : ∀ B B' rc w, B' ≤ B → Ψ B rc w → Ψ B' rc w
 e : ∀ B rc w w', Ψ B rc w → Ext w w' → Ψ B rc w'
theorem na181 : NA Tryz.prog 181 := fun w => Tryz.isAgg181 w
theorem na216 : NA Tryz.prog 216 := fun w => Tryz.isAgg216 w
theorem na214 : NA Tryz.prog 214 := fun w => Tryz.isAgg214 w
theorem cTable1 (v : Value) (w : World) (hv : RowsV w v 10 [vN 2]) : Calls Tryz.prog 120 #[v] w (RetX w fun r _ => r = .tuple #[.agg f2.toArray, .int .i64 0]) := by
 refine QL Tryz.func120 rfl rfl (Qc (Qb [0,1] rfl (AL rfl wu rfl zv24 ?_)))
 intro rb w1 hE1 hR hrb
 replace hv := hv.ext hE1
 refine Qk rfl rfl (Qd (Qa (Qc (Qb [0,1,2,3,4,5,6,7,8] rfl (mvV rfl rfl (Vw rfl (KU rfl rfl ty178 hv (by decide) (by decide)) (Vw rfl (fadE rfl fa91_2 hv (by decide) (by decide)) (Vw rfl (ldF rfl na3 rfl hv (Ext.refl _) (by decide) (by decide)) (C rfl wu rfl rfl Tryz.call121 (Qdv _) ?_)))))))))
 rintro _ w2 hE2 rfl
 replace hR := hR.ext hE2
 refine QI rfl rfl rfl (QI rfl rfl rfl (STB (vs := [.int .i64 2, .int .i64 1, .slice none 0 0]) (cs' := [.int .i64 2, .int .i64 1, .slice none 0 0]) rfl wu rfl rfl rfl sv24 nofun (by assumption) (by first | exact oc2 | exact oc3 | exact oc5 | (simp [Value.oneCell']; done)) rfl rfl rfl ?_))
 intro w3 hg3 hX3 hR3
 refine Qk rfl rfl (Qd (Qa (Qq (QJ rfl rfl rfl Zf hR3 rfl ?_))))
 exact ⟨hX3 w (by omega) (hE1.trans hE2), rfl⟩
theorem Qdw (v : Value) (b : Nat) (w : World) (hv : RowsV w v 10 [vN 2]) (hB : Blk w b 181 #[.func (.func 120) #[] #[]]) :
  Calls Tryz.prog 159 #[v, .pointer (some ⟨b, 0, none⟩)] w (RetX w fun r _ => r = .tuple #[.agg (vF (.int .i64 2) (.int .i64 1) (.slice none 0 0)).toArray, .int .i64 0]) := by
 refine QD Tryz.func159 rfl rfl (Qc (Qb [0,1] rfl (AL rfl wu rfl zv91 ?_)))
 intro rb w1 hE1 hR hrb
 replace hv := hv.ext hE1
 replace hB := hB.ext hE1
 refine Qk rfl rfl (Qd (Qa (Qc (Qb [0,1,2,3,4,5,6,7,8] rfl (Vw rfl (ldB rfl na181) ?_)))))
 refine mvV rfl rfl (CVX (fs := []) (cs := []) (vs := [v]) rfl wu rfl rfl rfl Tryz.call120 (cTable1 v _ hv) ?_)
 rintro _ w2 hE2 rfl
 replace hR := hR.ext hE2
 refine mvV rfl rfl (QI rfl rfl rfl (QI rfl rfl rfl (AL rfl wu rfl zv24 ?_)))
 intro cb w3 hE3 hC hcb
 replace hR := hR.ext hE3
 refine STB (vs := [.int .i64 2, .int .i64 1, .slice none 0 0]) (cs' := [.int .i64 2, .int .i64 1, .slice none 0 0]) rfl wu rfl rfl rfl sv24 nofun (by assumption) (by first | exact oc2 | exact oc3 | exact oc5 | (simp [Value.oneCell']; done)) rfl rfl rfl ?_
 intro w4 hg4 hX4 hC4
 refine Qk rfl rfl (Qd (Qa (Qc ?_)))
 have hE4 := hX4 w2 hcb hE3
 have hz1 := hE1.size
 have hz2 := hE2.size
 have hlR := hR.lt
 replace hR := hR.grown hg4 (fun e => Blk.neT hR hC (by decide) (Option.some.inj e).symm)
 refine Qb [0,1,2,3,4] rfl (Vw rfl (ldA rfl Zf) ?_)
 refine Vw rfl (bld rfl (bd91_0 _ _ _)) (mvV rfl rfl (STB (vs := vF (.int .i64 2) (.int .i64 1) (.slice none 0 0)) (cs' := vF (.int .i64 2) (.int .i64 1) (.slice none 0 0)) rfl wu rfl rfl rfl sv91 nofun hR (by simp [vF, Value.oneCell']) rfl rfl rfl ?_))
 intro w5 hg5 hX5 hR5
 refine Qk rfl rfl (Qd (Qa (Qq (QJ rfl rfl rfl ag91 hR5 rfl ?_))))
 exact ⟨hX5 w (by omega) ((hE1.trans hE2).trans hE4), rfl⟩
def CodeR (Ψ : Nat → List Value → World → Prop) (w : World) : Value → World → Prop := fun r w' => ∃ cc : List Value, r = .tuple #[.agg cc.toArray, .int .i64 0] ∧ cc.length = 5 ∧ (∀ v ∈ cc, v.oneCell' = true) ∧ Ψ w.heap.size cc w'
theorem cSized1 (Ψ : Nat → List Value → World → Prop) (hΨ : KeptP Ψ) (F : FuncId) (n : Int) (hcall : ∀ args w, (callFunc F args).run Tryz.prog w = .ok (.enter F args) w) (v : Value) (b : Nat) (w : World) (hv : RowsV w v 10 [vF (.int .i64 2) (.int .i64 1) (.slice none 0 0), vN n])
  (hB : Blk w b 214 #[.func (.func F) #[] #[]]) (hF : ∀ w', Ext w w' → Calls Tryz.prog F #[.agg f2.toArray, .int .i64 n] w' (RetX w' (CodeR Ψ w'))) :
  Calls Tryz.prog 257 #[v, .pointer (some ⟨b, 0, none⟩)] w (RetX w (CodeR Ψ w)) := by
 refine QD Tryz.func257 rfl rfl (Qc (Qb [0,1] rfl (AL rfl wu rfl Qc5 ?_)))
 intro rb w1 hE1 hR hrb
 replace hv := hv.ext hE1
 replace hB := hB.ext hE1
 refine Qk rfl rfl (Qd (Qa (Qc (Qx QK [0,1,2,3,4,5,6,7,8,9,10,11,12,13] (by kernel_rfl) ?_))))
 intro w2 hd _
 replace hE1 := hE1.trans hd
 replace hv := hv.ext hd
 replace hB := hB.ext hd
 replace hR := hR.ext hd
 refine Vw rfl (ldB rfl na214) ?_
 refine mvV rfl rfl (Vw rfl (KU rfl rfl ty178 hv (by decide) (by simp)) (Vw rfl (fadE rfl fa91_0 hv (by decide) (by simp)) (Vw rfl (ldFA rfl Zf hv (Ext.refl _) (by decide) (by simp) (by decide)) (mvV rfl rfl (Vw rfl (KU rfl rfl ty178 hv (by decide) (by simp)) (Vw rfl (fadE rfl fa91_2 hv (by decide) (by simp)) (Vw rfl (ldF rfl na3 rfl hv (Ext.refl _) (by decide) (by simp)) (CVX (fs := []) (cs := []) (vs := [.agg f2.toArray, .int .i64 n]) rfl wu rfl rfl rfl hcall (hF _ hE1) ?_))))))))
 rintro _ w3 hE3 ⟨cc, rfl, hc5, hc1, hps⟩
 have hlR := hR.lt
 replace hR := hR.ext hE3
 refine QI rfl rfl rfl (QI rfl rfl rfl (STB (vs := cc) (cs' := cc) rfl wu rfl rfl rfl QbS (by intro h; kernel_rfl) hR hc1 hc5 rfl (by simp [putAt, hc5]) ?_))
 intro w4 hg4 hX4 hR4
 refine Qk rfl rfl (Qd (Qa (Qq (QJ rfl rfl rfl Jx hR4 hc5 ?_))))
 exact ⟨hX4 w (by omega) (hE1.trans hE3), cc, rfl, hc5, hc1, hΨ.m _ _ _ _ hE1.size (hΨ.g _ _ _ _ _ hps hg4 hlR)⟩
theorem cCodeRow1 (Ψ : Nat → List Value → World → Prop) (hΨ : KeptP Ψ) (F : FuncId) (fb : Nat) (vals : List (List Value)) (hcall : ∀ args w, (callFunc F args).run Tryz.prog w = .ok (.enter F args) w) (v : Value) (b : Nat) (w : World) (_ : RowsV w v 10 vals)
  (hB : Blk w b 216 #[.func (.func F) #[] #[.pointer (some ⟨fb, 0, none⟩)]]) (hF : ∀ w', Ext w w' → Calls Tryz.prog F #[v, .pointer (some ⟨fb, 0, none⟩)] w' (RetX w' (CodeR Ψ w'))) :
  Calls Tryz.prog 259 #[v, .pointer (some ⟨b, 0, none⟩)] w (RetX w fun r w' => ∃ c1 c2 c3 c4 c5, r = .tuple #[.agg (vC c1 c2 c3 c4 c5).toArray, .int .i64 0] ∧ (∀ v ∈ vC c1 c2 c3 c4 c5, v.oneCell' = true) ∧ Ψ w.heap.size [c1, c2, c3, c4, c5] w') := by
 refine QD Tryz.func259 rfl rfl (Qc (Qb [0,1] rfl (AL rfl wu rfl zv91 ?_)))
 intro rb w1 hE1 hR hrb
 replace hB := hB.ext hE1
 refine Qk rfl rfl (Qd (Qa (Qc ?_)))
 have hz1 := hE1.size
 refine Qb [0,1,2,3,4,5,6,7,8] rfl (Vw rfl (ldB rfl na216) ?_)
 refine mvV rfl rfl (CVX (fs := []) (cs := [.pointer (some ⟨fb, 0, none⟩)]) (vs := [v]) rfl wu rfl rfl rfl hcall (hF _ hE1) ?_)
 rintro _ w2 hE2 ⟨cc, rfl, hc5, hc1, hps⟩
 have hlR := hR.lt
 replace hR := hR.ext hE2
 refine mvV rfl rfl (QI rfl rfl rfl (QI rfl rfl rfl (AL rfl wu rfl Qc5 ?_)))
 intro cb w3 hE3 hC hcb
 replace hR := hR.ext hE3
 refine STB (vs := cc) (cs' := cc) rfl wu rfl rfl rfl QbS nofun hC hc1 hc5 rfl (by simp [putAt, hc5]) ?_
 intro w4 hg4 hX4 hC4
 refine Qk rfl rfl (Qd (Qa (Qc ?_)))
 have hE4 := hX4 w2 hcb hE3
 replace hps := hΨ.e _ _ _ _ hps hE4
 replace hR := hR.grown hg4 (fun e => Blk.neT hR hC (by decide) (Option.some.inj e).symm)
 match cc, hc5 with
 | [c1, c2, c3, c4, c5], _ =>
  have hvc : ∀ v ∈ vC c1 c2 c3 c4 c5, v.oneCell' = true := fun v hv => by
   simp only [vC, List.mem_cons, List.not_mem_nil, or_false] at hv
   rcases hv with rfl | rfl | rfl | rfl | rfl | rfl | rfl | rfl | rfl | rfl <;> first | rfl | (apply hc1; simp)
  refine Qb [0,1,2,3,4] rfl (Vw rfl (ldA rfl Jx) ?_)
  refine Vw rfl (bld rfl (bd91_1 _ _ _ _ _)) (mvV rfl rfl (STB (vs := vC c1 c2 c3 c4 c5) (cs' := vC c1 c2 c3 c4 c5) rfl wu rfl rfl rfl sv91 nofun hR hvc rfl rfl rfl ?_))
  intro w5 hg5 hX5 hR5
  refine Qk rfl rfl (Qd (Qa (Qq (QJ rfl rfl rfl ag91 hR5 rfl ?_))))
  exact ⟨hX5 w (by omega) ((hE1.trans hE2).trans hE4), c1, c2, c3, c4, c5, rfl, hvc, hΨ.m _ _ _ _ hE1.size (hΨ.g _ _ _ _ _ hps hg5 hlR)⟩
end Go.Proofs.YtcfbigmjjpknfaaGreatDoor
