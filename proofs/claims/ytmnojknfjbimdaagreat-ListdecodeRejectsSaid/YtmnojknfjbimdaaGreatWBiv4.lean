/-
  The roots of a polynomial in two variables, by a contract that says that each lies in a block of its own.
-/
import Derived.Test.YtmnojknfjbimdaaGreatWBiv2
namespace Go.Sx
open Go Go.RowKit Go.Pl
structure DR (B : Nat) (w : World) (E : TypeId) (Q : Nat → Prop) (rows : List Value) (L : List (List Int)) : Prop where
  row : ∀ (i : Nat) r zs, rows[i]? = some r → L[i]? = some zs → OwnI B w r E zs ∧ ∀ q, r.ownBlock = some q → Q q
  dist : ∀ (i j : Nat) r s q, i < j → rows[i]? = some r → rows[j]? = some s → r.ownBlock = some q → s.ownBlock ≠ some q
theorem DR.ext {B : Nat} {w w' : World} {E : TypeId} {Q : Nat → Prop} {rows : List Value} {L : List (List Int)} (h : DR B w E Q rows L) (hE : Ext w w') : DR B w' E Q rows L :=
  ⟨fun i r zs a b => ⟨Own.ext (h.row i r zs a b).1 hE, (h.row i r zs a b).2⟩, h.dist⟩
theorem DR.kept {B : Nat} {w w' : World} {E : TypeId} {Q Q' : Nat → Prop} {rows : List Value} {L : List (List Int)} {v2 : Value} (h : DR B w E Q rows L) (_ : rows.length = L.length) (hg : w.grownBy w' v2.ownBlock) (hQ : ∀ q, q < w.heap.size → Q q → Q' q ∧ v2.ownBlock ≠ some q) : DR B w' E Q' rows L :=
  ⟨fun i r zs a b => by
    obtain ⟨h1, h2⟩ := h.row i r zs a b
    refine ⟨Own.kept h1 hg ?_, fun q hq => (hQ q (Own.lt h1 q hq).2 (h2 q hq)).1⟩
    rcases hr : r.ownBlock with _ | q
    · exact .inr rfl
    · exact .inl fun e => (hQ q (Own.lt h1 q hr).2 (h2 q hr)).2 e.symm, h.dist⟩
theorem DR.snoc {B : Nat} {w : World} {E : TypeId} {Q : Nat → Prop} {rows : List Value} {L : List (List Int)} {c : Value} {z : List Int} (h : DR B w E Q rows L) (hl : rows.length = L.length) (hc : OwnI B w c E z) (hq : ∀ q, c.ownBlock = some q → Q q) (hd : ∀ (i : Nat) r q, rows[i]? = some r → r.ownBlock = some q → c.ownBlock ≠ some q) : DR B w E Q (rows ++ [c]) (L ++ [z]) := by
  refine ⟨fun i r zs a b => ?_, fun i j r s q hij a b hr => ?_⟩
  · rw [List.getElem?_append] at a b
    by_cases hi : i < rows.length
    · rw [if_pos hi] at a
      rw [if_pos (by omega)] at b
      exact h.row i r zs a b
    · rw [if_neg hi] at a
      rw [if_neg (by omega)] at b
      have hl0 : i - rows.length = 0 := by
        have := (List.getElem?_eq_some_iff.1 a).1
        simp at this; omega
      rw [hl0] at a
      rw [show i - L.length = 0 by omega] at b
      simp at a b
      subst a b
      exact ⟨hc, hq⟩
  · rw [List.getElem?_append] at a b
    by_cases hj : j < rows.length
    · rw [if_pos hj] at b
      rw [if_pos (by omega)] at a
      exact h.dist i j r s q hij a b hr
    · rw [if_neg hj] at b
      have hl0 : j - rows.length = 0 := by
        have := (List.getElem?_eq_some_iff.1 b).1
        simp at this; omega
      rw [hl0] at b
      simp at b
      subst b
      rw [if_pos (by omega)] at a
      exact hd i r q a hr
end Go.Sx
namespace Go.Proofs.YtmnojknfjbimdaaGreat
open Go Go.Sx Go.Pl Go.RowKit Go.Fd Go.Alg
def RJD (P : FP) (w0 : World) (g : Value) (ob gb : Nat) (pre : List (List Int)) (X : List Nat) (w : World) : Prop :=
  ∃ v rows, X = ob :: v.ownBlock.toList ∧ Blk w ob 29 #[v] ∧ Blk w gb 84 #[g] ∧ Sx.Own w0.heap.size w v 22 rows ∧ rows.length = pre.length ∧ DR w0.heap.size w 3 (fun q => q ≠ ob ∧ v.ownBlock ≠ some q) rows (pre.map fun f => cl (pz P f)) ∧ v.ownBlock ≠ some ob ∧ v.ownBlock ≠ some gb
theorem RJD.lt {P : FP} {w0 : World} {g : Value} {ob gb : Nat} {pre : List (List Int)} {X : List Nat} {w : World} (h : RJD P w0 g ob gb pre X w) (hob : w0.heap.size ≤ ob) : ∀ k ∈ X, k < w.heap.size ∧ w0.heap.size ≤ k := by
  obtain ⟨v, rows, rfl, h1, _, h2, _⟩ := h
  intro k hk
  rcases List.mem_cons.1 hk with rfl | hk
  · exact ⟨h1.lt, hob⟩
  · have hk' : v.ownBlock = some k := by simpa using hk
    have := h2.lt k hk'
    omega
theorem RJD.ext {P : FP} {w0 : World} {g : Value} {ob gb : Nat} {pre : List (List Int)} {X : List Nat} {w w' : World} (h : RJD P w0 g ob gb pre X w) (hE : Ext w w') : RJD P w0 g ob gb pre X w' := by
  obtain ⟨v, rows, h0, h1, h2, h3, h4, h5, h6⟩ := h
  exact ⟨v, rows, h0, h1.ext hE, h2.ext hE, h3.ext hE, h4, h5.ext hE, h6⟩
set_option maxRecDepth 10000 in
theorem bRootsD1 (P : FP) (w0 : World) (g : Value) (ob gb : Nat) (pre : List (List Int)) (X : List Nat) (u : Value) (z : List Int) (w : World) (hG : GFV w0 P g) (hJ : RJD P w0 g ob gb pre X w) (hob : w0.heap.size ≤ ob) (hgo : ob ≠ gb) (hpre : pre.length ≤ 1099511627776) (hE0 : Ext w0 w) (hu : Ints w u z) (hz : z.length ≤ 64) :
    Calls Tryz.prog 93 #[u, .pointer (some ⟨ob, 0, none⟩), .pointer (some ⟨gb, 0, none⟩)] w (Ret fun _ w' => ∃ X', RJD P w0 g ob gb (pre ++ [z]) X' w' ∧ Gr X w w' ∧ Newer w X X') := by
  obtain ⟨v, rows, rfl, hO, hB, ho, hrl, hdr, hvo, hvg⟩ := hJ
  have hrl2 : rows.length = (pre.map fun f => cl (pz P f)).length := by rw [List.length_map, hrl]
  have hlt := ho.lt
  have lO := hO.lt
  have lB := hB.lt
  have hE := Ext.refl w
  refine calls3 Tryz.func93 rfl rfl ?_
  refine wc_draw mixed [0,1,2,3,4,5,6] (by kernel_rfl) ?_
  intro w1 hd _
  replace hE := hE.trans hd
  replace hO := hO.ext hd
  replace hB := hB.ext hd
  replace hu := hu.ext hd
  replace ho := ho.ext hd
  refine Go.Sx.V rfl wu rfl rfl (ldB rfl na29 hO) ?_
  refine Go.Sx.V rfl wu rfl rfl (ldB rfl naE84 hB) ?_
  refine Go.Sx.V rfl wu rfl rfl (mv rfl) ?_
  refine C rfl wu rfl rfl Tryz.call88 (pCanon P g u z _ (hG.ext (hE0.trans hE)) hu (by omega)) ?_
  intro c w2 hE2 hc
  have hce := OwnI.ints hc
  replace hO := hO.ext hE2
  replace hB := hB.ext hE2
  replace ho := ho.ext hE2
  have hs1 := hE.size
  have hc' : ∀ k, c.ownBlock = some k → w1.heap.size ≤ k ∧ k < w2.heap.size := Own.lt hc
  replace hE := hE.trans hE2
  refine BS (us := [c]) rfl wu rfl rfl rfl rfl ty29 (by intro q hq; obtain rfl : q = c := (by simpa using hq); exact hce.one) ?_
  intro sv w3 hE3 hsv hsb
  replace hO := hO.ext hE3
  replace hB := hB.ext hE3
  replace ho := ho.ext hE3
  replace hce := hce.ext hE3
  replace hE := hE.trans hE3
  have hs2 := hE2.size
  have hs3 := hE3.size
  refine AP rfl wu rfl rfl rfl ty29 rfl (by intro h h2; exact absurd h2 (by decide +kernel)) ho (hE0.trans hE).size hsv.sl (Ext.refl _) (by intro q hq; obtain rfl : q = c := (by simpa using hq); exact hce.one) (by simp only [List.length_cons, List.length_nil]; omega) (by simp only [List.length_cons, List.length_nil]; omega) ?_
  intro v2 w4 hg4 hX4 ho4 hb4
  refine STV rfl wu rfl rfl sv29 (by intro h; kernel_rfl) (hO.grown hg4 hvo) (Sl.one ho4.sl) ?_
  intro w5 hg5 hX5 hO5
  refine wr_nil ?_
  have hv2 : ∀ q, v2.ownBlock = some q → q = w3.heap.size ∨ v.ownBlock = some q := fun q hq => by
    rcases hb4 with h | h
    · exact .inr (h.symm.trans hq)
    · rw [h] at hq; cases hq; exact .inl rfl
  have hsz := hE.size
  have hob3 : ob < w3.heap.size := by have := hO.lt; omega
  have hgb3 : gb < w3.heap.size := by have := hB.lt; omega
  have hvob : v2.ownBlock ≠ some ob := fun e => by
    rcases hv2 _ e with h | h
    · omega
    · exact hvo h
  have hvgb : v2.ownBlock ≠ some gb := fun e => by
    rcases hv2 _ e with h | h
    · omega
    · exact hvg h
  have hov2 : Sx.Own w0.heap.size w5 v2 22 (rows ++ [c]) := Own.kept ho4 (v2 := .slice (some ⟨ob, 0, none⟩) 0 0) hg5 (.inl hvob)
  have hdr3 := hdr.ext hE
  have hcd : ∀ q, c.ownBlock = some q → q ≠ ob ∧ v.ownBlock ≠ some q ∧ q < w3.heap.size ∧ w.heap.size ≤ q := fun q hq => by
    have h1 := hc' q hq
    refine ⟨by omega, fun e => ?_, by omega, by omega⟩
    have := (hlt q e).2
    omega
  have hdr4 := hdr3.snoc hrl2 (Own.mono (Own.ext hc hE3) (by have := hE0.size; omega)) (fun q hq => ⟨(hcd q hq).1, (hcd q hq).2.1⟩) (fun i r q ha hr hcq => by
    obtain ⟨z', hz'⟩ : ∃ z', (pre.map fun f => cl (pz P f))[i]? = some z' := ⟨_, List.getElem?_eq_getElem (by have := (List.getElem?_eq_some_iff.1 ha).1; omega)⟩
    have h1 := (Own.lt (hdr.row i r z' ha hz').1 q hr).2
    have h2 := hcd q hcq
    omega)
  have hll : (rows ++ [c]).length = (pre.map (fun f => cl (pz P f)) ++ [cl (pz P z)]).length := by simp [hrl]
  have hdr5 := hdr4.kept (Q' := fun q => q ≠ ob ∧ v2.ownBlock ≠ some q) hll hg4 (fun q hq h => ⟨⟨h.1, fun e => by
    rcases hv2 q e with h3 | h3
    · omega
    · exact h.2 h3⟩, h.2⟩)
  have hdr6 := hdr5.kept (Q' := fun q => q ≠ ob ∧ v2.ownBlock ≠ some q) (v2 := .slice (some ⟨ob, 0, none⟩) 0 0) hll hg5 (fun q _ h => ⟨h, fun e => h.1 (by cases e; rfl)⟩)
  refine post_end0 rfl ⟨_, ⟨v2, rows ++ [c], rfl, hO5, (hB.grown hg4 hvg).grown hg5 (fun e => hgo (Option.some.inj e)), hov2, by simp [hrl], by rw [List.map_append]; exact hdr6, hvob, hvgb⟩, ((Gr.of_ext hE).trans (Gr.of_grown hg4 ?_)).trans (Gr.of_grown hg5 ?_), ?_⟩
  · intro q hq
    have hq' : v.ownBlock = some q := hq
    rw [hq']; simp
  · intro q hq
    cases hq
    simp
  · intro q hq
    rcases List.mem_cons.1 hq with rfl | hq
    · exact .inl (List.mem_cons_self ..)
    · have hq' : v2.ownBlock = some q := by simpa using hq
      rcases hv2 q hq' with h3 | h3
      · exact .inr (by omega)
      · left; rw [h3]; simp
set_option maxRecDepth 10000 in
theorem bRootsD (P : FP) (g u : Value) (A : List (List Int)) (k : Int) (na : Nat) (w : World) (hG : GFV w P g) (hu : LL w u A) (hA : RB na A) (hna : na ≤ 262144) (hl : A.length ≤ 512) :
    Calls Tryz.prog 62 #[g, u, .int .i64 k] w (RetX w fun r w' => ∃ s e L, r = .tuple #[s, .int .i64 e] ∧ LL w' s L ∧ ((bz P A = 0 ∧ e = 7 ∧ L = []) ∨ (bz P A ≠ 0 ∧ ¬ (0 ≤ k ∧ k ≤ 64) ∧ e = 6 ∧ L = []) ∨ (bz P A ≠ 0 ∧ (0 ≤ k ∧ k ≤ 64) ∧ e = 0 ∧ L = (srch P k.toNat (bz P A) []).map fun f => cl (pz P f))) ∧ ∃ rows, Sx.Own w.heap.size w' s 22 rows ∧ rows.length = L.length ∧ DR w.heap.size w' 3 (fun q => s.ownBlock ≠ some q) rows L) := by
  have hg1 : g.oneCell' = true := by
    obtain ⟨gb, _, _, _, _, _, _, rfl, _⟩ := hG.ex
    rfl
  have hxb := hA.xb (P := P)
  have hyb := (YB.bz (P := P) A).mono hl
  refine calls3 Tryz.func62 rfl rfl ?_
  refine wc_seq ?_
  refine wc_region [0,1,2] rfl ?_
  refine BXV rfl wu rfl rfl (by first | rfl | assumption) ?_
  intro gb w1 hE hB hgb
  refine Go.Sx.V rfl wu rfl rfl (asg rfl) ?_
  refine Go.Sx.V rfl wu rfl rfl (asg rfl) ?_
  refine wr_nil (post_thenN (wc_seq ?_))
  refine wc_region [0,1,2,3] rfl ?_
  refine Go.Sx.V rfl wu rfl rfl (ldB rfl naE84 hB) ?_
  refine Go.Sx.V rfl wu rfl rfl (mv rfl) ?_
  refine C rfl wu rfl rfl Tryz.call58 (bCanon P g u A _ (hG.ext hE) (hu.ext hE) (hA.mono (by omega)) (by omega)) ?_
  intro p w2 hE2 hp
  replace hB := hB.ext hE2
  have hE1 := hE.size
  replace hE := hE.trans hE2
  refine Go.Sx.V rfl wu rfl rfl (asg rfl) ?_
  refine wr_nil (post_thenN (wc_seq (wc_seq ?_)))
  generalize bz P A = F at *
  obtain ⟨rows, hs, hrl, _⟩ := hp.ll.row
  refine wc_region [0,1,2] rfl ?_
  refine Go.Sx.V rfl wu rfl rfl (mv rfl) ?_
  refine Go.Sx.V rfl wu rfl rfl (lenS rfl ty30 hs) ?_
  refine Go.Sx.V rfl wu rfl rfl (eqlI rfl rfl) ?_
  refine wr_nil (post_thenN ?_)
  rw [hrl]
  refine wc_cond rfl ?_ ?_
  · intro h
    simp at h
    refine wc_seq ?_
    refine wc_region [0,1] rfl ?_
    refine Go.Sx.V rfl wu rfl rfl (asg rfl) ?_
    refine Go.Sx.V rfl wu rfl rfl (asg rfl) ?_
    refine wr_nil (post_thenN (wc_ret (post_thenR ?_)))
    refine post_ret2 rfl rfl rfl ?_
    exact ⟨hE, _, _, [], rfl, LL.nil _, .inl ⟨bcl_nil.1 h, rfl, rfl⟩, [], Own.nil _ _ _, rfl, ⟨fun i r zs a => by simp at a, fun i j r s q _ a => by simp at a⟩⟩
  · intro h
    simp at h
    have hF : F ≠ 0 := fun e => h (bcl_nil.2 e)
    refine wc_skip (post_thenN (wc_seq (wc_seq ?_)))
    refine wc_region [0,1,2,3,4,5] rfl ?_
    refine Go.Sx.V rfl wu rfl rfl (mv rfl) ?_
    refine Go.Sx.V rfl wu rfl rfl (lssI rfl rfl) ?_
    refine Go.Sx.V rfl wu rfl rfl (mv rfl) ?_
    refine OR (π1 := [3,4,5]) (π2 := []) (tc := 17) (tp := 20) rfl rfl rfl (by
        intro _
        refine SK rfl rfl rfl rfl rfl ?_
        refine SK rfl rfl rfl rfl rfl ?_
        refine Go.Sx.V rfl wu rfl rfl (pk rfl rfl) ?_
        exact join rfl) (by
        intro hg
        simp at hg
        refine Go.Sx.V rfl (wg rfl rfl) rfl rfl (mv rfl) ?_
        refine Go.Sx.V rfl (wg rfl rfl) rfl rfl (gtrI rfl rfl) ?_
        refine Go.Sx.V rfl wu rfl rfl (pk rfl rfl) ?_
        exact join rfl) ?_
    refine wr_nil (post_thenN ?_)
    refine wc_cond rfl ?_ ?_
    · intro h1
      simp at h1
      refine wc_seq ?_
      refine wc_region [0,1] rfl ?_
      refine Go.Sx.V rfl wu rfl rfl (asg rfl) ?_
      refine Go.Sx.V rfl wu rfl rfl (asg rfl) ?_
      refine wr_nil (post_thenN (wc_ret (post_thenR ?_)))
      refine post_ret2 rfl rfl rfl ?_
      exact ⟨hE, _, _, [], rfl, LL.nil _, .inr (.inl ⟨hF, by omega, rfl, rfl⟩), [], Own.nil _ _ _, rfl, ⟨fun i r zs a => by simp at a, fun i j r s q _ a => by simp at a⟩⟩
    · intro h1
      simp at h1
      refine wc_skip (post_thenN (wc_seq ?_))
      refine wc_region [0] rfl ?_
      refine AL rfl wu rfl zv29 ?_
      intro ob w3 hE3 hO hob
      refine wr_nil (post_thenN (wc_seq ?_))
      have hob0 : w.heap.size ≤ ob := Nat.le_trans hE.size hob
      have hgo : ob ≠ gb := by have := hB.lt; omega
      have lO := hO.lt
      have hB3 := hB.ext hE3
      replace hE := hE.trans hE3
      have hfnd : Fnd Tryz.prog w 93 [] [.pointer (some ⟨ob, 0, none⟩), .pointer (some ⟨gb, 0, none⟩)] 1099511627776 (RJD P w g ob gb) :=
        ⟨Tryz.call93, fun pre X w' v z hJ hp hE hz hzl => bRootsD1 P w g ob gb pre X v z w' hG hJ hob0 hgo (by omega) hE hz hzl, fun pre X w' w'' hJ hE => hJ.ext hE, fun pre X w' hJ => hJ.lt hob0⟩
      have hkn : ((k.toNat : Nat) : Int) = k := by omega
      have hJ0 : RJD P w g ob gb [] [ob] w3 := ⟨_, [], rfl, hO, hB3, Own.nil _ _ _, rfl, ⟨fun i r zs a => by simp at a, fun i j r s q _ a => by simp at a⟩, by simp [Value.ownBlock], by simp [Value.ownBlock]⟩
      have hk64 : k.toNat ≤ 64 := by omega
      have hcnt := srch_len hG.nzd hF hyb k.toNat []
      have hmul : k.toNat * (512 + k.toNat) ≤ 64 * (512 + 64) := Nat.mul_le_mul hk64 (by omega)
      have hcall := bSearch P g w _ [] [.pointer (some ⟨ob, 0, none⟩), .pointer (some ⟨gb, 0, none⟩)] _ _ hfnd hG k.toNat (by omega) k.toNat F [] p (.slice none 0 0) na 512 [] [ob] w3 hE hJ0 ((hp.ll.llx (by intro q hq; obtain rfl : q = ob := (by simpa using hq); exact hob)).ext hE3) hF ⟨Ints.nil _, .inl rfl⟩ (by simp) hxb hyb (by omega) (by omega) (by simp; omega)
      rw [hkn] at hcall
      refine wc_region [0,1,2,3,4] rfl ?_
      refine Go.Sx.V rfl wu rfl rfl (ldB rfl naE84 hB3) ?_
      refine Go.Sx.V rfl wu rfl rfl (mv rfl) ?_
      refine Go.Sx.V rfl wu rfl rfl (mv rfl) ?_
      refine Go.Sx.V rfl wu rfl rfl (mkf rfl rfl) ?_
      refine CRG rfl wu rfl rfl Tryz.call92 hcall (by intro h; cases h) ?_
      rintro _ w4 ⟨X', ⟨v, rows4, rfl, hO4, _, hov4, hrl4, hdr4, _⟩, hGr, _⟩
      refine wr_nil (post_thenN (wc_seq ?_))
      refine wc_region [0,1,2] rfl ?_
      refine Go.Sx.V rfl wu rfl rfl (ldB rfl na29 hO4) ?_
      refine Go.Sx.V rfl wu rfl rfl (asg rfl) ?_
      refine Go.Sx.V rfl wu rfl rfl (asg rfl) ?_
      refine wr_nil (post_thenN (wc_ret ?_))
      refine post_ret2 rfl rfl rfl ?_
      rw [List.nil_append] at hdr4 hrl4
      have hdr5 : DR w.heap.size w4 3 (fun q => v.ownBlock ≠ some q) rows4 ((srch P k.toNat F []).map fun f => cl (pz P f)) := ⟨fun i r zs a b => ⟨(hdr4.row i r zs a b).1, fun q hq => ((hdr4.row i r zs a b).2 q hq).2⟩, hdr4.dist⟩
      refine ⟨hGr.ext hE (by intro q hq; obtain rfl : q = ob := (by simpa using hq); exact hob0), v, 0, _, rfl, ?_, .inr (.inr ⟨hF, by omega, rfl, rfl⟩), rows4, hov4, by rw [hrl4, List.length_map], hdr5⟩
      exact ⟨rows4, hov4.sl, by rw [hrl4, List.length_map], fun i r zs a b => OwnI.ints (hdr4.row i r zs a b).1⟩
end Go.Proofs.YtmnojknfjbimdaaGreat

