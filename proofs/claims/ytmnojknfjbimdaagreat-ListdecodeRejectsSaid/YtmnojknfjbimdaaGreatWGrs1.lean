/-
  The package grs, by contract: the check of a description, encoding.
-/
import Derived.Test.YtmnojknfjbimdaaGreatWMTya
import Derived.Test.YtmnojknfjbimdaaGreatWGF2
import Derived.Test.YtmnojknfjbimdaaGreatWPoly1
import Derived.Test.YtmnojknfjbimdaaGreatWMPa
namespace Go.Proofs.YtmnojknfjbimdaaGreat
open Go Go.Sx Go.Pl Go.RowKit Go.Fd Go.Alg
theorem allIn_step {q : Int} {l : List Int} {i : Nat} (h : ∀ j : Nat, j < i → 0 ≤ gi l j ∧ gi l j < q) (hi : 0 ≤ gi l i ∧ gi l i < q) : ∀ j : Nat, j < i + 1 → 0 ≤ gi l j ∧ gi l j < q := fun j hj => by
  by_cases e : j = i
  · rw [e]; exact hi
  · exact h j (by omega)
set_option maxRecDepth 10000 in
theorem gsElements (P : FP) (g u : Value) (l : List Int) (w : World) (hG : GFV w P g) (hu : Ints w u l) :
    Calls Tryz.prog 94 #[g, u] w (RetX w fun r _ => ∃ t, r = .bool t ∧ (t = true ↔ AllIn P.q l)) := by
  have hle := hu.le
  refine calls2 Tryz.func94 rfl rfl ?_
  refine wc_seq ?_
  refine wc_region [0] rfl ?_
  refine Go.Sx.V rfl wu rfl rfl (asg rfl) ?_
  refine wr_nil (post_thenN (wc_seq (wc_seq ?_)))
  refine wc_region [0,1,2] rfl ?_
  refine Go.Sx.V rfl wu rfl rfl (mv rfl) ?_
  refine Go.Sx.V rfl wu rfl rfl (lenI rfl ty22) ?_
  refine Go.Sx.V rfl wu rfl rfl (mv rfl) ?_
  refine wr_nil (post_thenN (wc_block ?_))
  refine wc_loop (fun i : Nat => [(0, g), (7, u), (8, .int .i64 l.length), (9, .int .i64 i)])
    (fun i w' => i ≤ l.length ∧ Ext w w' ∧ ∀ j : Nat, j < i → 0 ≤ gi l j ∧ gi l j < P.q) (fun i => l.length - i) 0 ⟨rfl, rfl, rfl, rfl, trivial⟩ ⟨by omega, Ext.refl _, fun j hj => by omega⟩ ?_
  rintro i w1 ⟨i1, hE, ha⟩
  have hui := hu.ext hE
  try dsimp only
  refine wc_seq ?_
  refine wc_region [0] rfl ?_
  refine Go.Sx.V rfl wu rfl rfl (lssI rfl rfl) ?_
  refine wr_nil (post_thenN (wc_seq ?_))
  refine wc_cond rfl ?_ ?_
  · intro hc
    simp at hc
    refine wc_skip (post_thenN (wc_seq (wc_block (wc_seq ?_))))
    refine wc_region [0,1,2] rfl ?_
    refine Go.Sx.V rfl wu rfl rfl (iadI rfl rfl ty22) ?_
    refine Go.Sx.V rfl wu rfl rfl (ldI rfl na3) ?_
    refine Go.Sx.V rfl wu rfl rfl (asg rfl) ?_
    refine wr_nil (post_thenN (wc_seq ?_))
    refine wc_region [0,1,2,3] rfl ?_
    refine Go.Sx.V rfl wu rfl rfl (mv rfl) ?_
    refine Go.Sx.V rfl wu rfl rfl (mv rfl) ?_
    refine C rfl wu rfl rfl Tryz.call55 (gIs P g _ _ (hG.ext hE)) ?_
    rintro _ w2 hE2 rfl
    replace hE := hE.trans hE2
    refine Go.Sx.V rfl wu rfl rfl (notB rfl) ?_
    refine wr_nil (post_thenN ?_)
    refine wc_cond rfl ?_ ?_
    · intro h
      simp at h
      refine wc_seq ?_
      refine wc_region [0] rfl ?_
      refine Go.Sx.V rfl wu rfl rfl (asg rfl) ?_
      refine wr_nil (post_thenN (wc_ret (post_blockR (post_thenR (post_loopR (post_blockR (post_thenR ?_)))))))
      refine post_ret1 rfl rfl ?_
      refine ⟨hE, false, rfl, ⟨fun h => by (cases h), fun hA => ?_⟩⟩
      have := hA i hc
      omega
    · intro h
      simp at h
      refine wc_skip (post_blockN (post_thenN ?_))
      refine wc_region [0,1] rfl ?_
      refine Go.Sx.V rfl wu rfl rfl (addI rfl rfl) ?_
      refine Go.Sx.V rfl wu rfl rfl (mv rfl) ?_
      refine wr_nil ?_
      exact post_loopN (i + 1) ⟨rfl, rfl, rfl, rfl, trivial⟩ ⟨by omega, hE, allIn_step ha h⟩ (by omega)
  · intro hc
    simp at hc
    refine wc_exit (post_thenE (post_loopE (post_blockX (post_thenN (wc_seq ?_)))))
    refine wc_region [0] rfl ?_
    refine Go.Sx.V rfl wu rfl rfl (asg rfl) ?_
    refine wr_nil (post_thenN (wc_ret ?_))
    refine post_ret1 rfl rfl ?_
    exact ⟨hE, true, rfl, ⟨fun _ j hj => ha j (by omega), fun _ => rfl⟩⟩
set_option maxRecDepth 10000 in
theorem gsTwice (u : Value) (l : List Int) (w : World) (hu : Ints w u l) :
    Calls Tryz.prog 115 #[u] w (RetX w fun r _ => ∃ t, r = .bool t ∧ (t = true ↔ ¬ DifI l)) := by
  have hle := hu.le
  refine calls1 Tryz.func115 rfl rfl ?_
  refine wc_seq ?_
  refine wc_region [0] rfl ?_
  refine Go.Sx.V rfl wu rfl rfl (asg rfl) ?_
  refine wr_nil (post_thenN (wc_seq (wc_seq ?_)))
  refine wc_region [0,1,2] rfl ?_
  refine Go.Sx.V rfl wu rfl rfl (mv rfl) ?_
  refine Go.Sx.V rfl wu rfl rfl (lenI rfl ty22) ?_
  refine Go.Sx.V rfl wu rfl rfl (mv rfl) ?_
  refine wr_nil (post_thenN (wc_block ?_))
  refine wc_loop (fun i : Nat => [(0, u), (7, u), (8, .int .i64 l.length), (9, .int .i64 i)])
    (fun i w' => i ≤ l.length ∧ w' = w ∧ ∀ a : Nat, a < i → ∀ b : Nat, b < a → gi l a ≠ gi l b) (fun i => l.length - i) 0 ⟨rfl, rfl, rfl, rfl, trivial⟩ ⟨by omega, rfl, fun j hj => by omega⟩ ?_
  rintro i w1 ⟨i1, rfl, ha⟩
  try dsimp only
  refine wc_seq ?_
  refine wc_region [0] rfl ?_
  refine Go.Sx.V rfl wu rfl rfl (lssI rfl rfl) ?_
  refine wr_nil (post_thenN (wc_seq ?_))
  refine wc_cond rfl ?_ ?_
  · intro hc
    simp at hc
    have hsl := hu.slv (lo := 0) (hi := i) (by omega) (by omega) (by omega)
    have hlen : ((l.drop (0 : Int).toNat).take ((i : Int) - 0).toNat).length = i := by simp; omega
    have hget : ∀ j : Nat, j < i → gi ((l.drop (0 : Int).toNat).take ((i : Int) - 0).toNat) j = gi l j := fun j hj => by
      simp only [gi, List.getD_eq_getElem?_getD, List.getElem?_take, List.getElem?_drop]
      rw [if_pos (by omega)]
      simp
    refine wc_skip (post_thenN (wc_seq (wc_block (wc_seq ?_))))
    refine wc_region [0,1,2,3,4] rfl ?_
    refine Go.Sx.V rfl wu rfl rfl (mv rfl) ?_
    refine Go.Sx.V rfl wu rfl rfl (iadI rfl rfl ty22) ?_
    refine Go.Sx.V rfl wu rfl rfl (ldI rfl na3) ?_
    refine Go.Sx.V rfl wu rfl rfl (asg rfl) ?_
    refine Go.Sx.V rfl wu rfl rfl (asg rfl) ?_
    refine wr_nil (post_thenN (wc_seq ?_))
    refine wc_region [0,1,2,3,4] rfl ?_
    refine Go.Sx.V rfl wu rfl rfl (mv rfl) ?_
    refine Go.Sx.V rfl wu rfl rfl (mv rfl) ?_
    refine Go.Sx.V rfl wu rfl rfl (slH rfl rfl ty22 hu (by omega) (by simp; omega)) ?_
    refine Go.Sx.V rfl wu rfl rfl (lenI rfl ty22 hsl) ?_
    refine Go.Sx.V rfl wu rfl rfl (mv rfl) ?_
    refine wr_nil (post_thenN (wc_block ?_))
    rw [hlen]
    refine wc_loop (fun j : Nat => [(0, u), (7, u), (8, .int .i64 l.length), (9, .int .i64 i), (3, .int .i64 i), (4, .int .i64 (gi l i)), (16, slv u 0 i), (17, .int .i64 i), (18, .int .i64 j)])
      (fun j w' => j ≤ i ∧ w' = w1 ∧ ∀ b : Nat, b < j → gi l i ≠ gi l b) (fun j => i - j) 0 ⟨rfl, rfl, rfl, rfl, rfl, rfl, rfl, rfl, rfl, trivial⟩ ⟨by omega, rfl, fun j hj => by omega⟩ ?_
    rintro j w2 ⟨j1, rfl, hb⟩
    try dsimp only
    refine wc_seq ?_
    refine wc_region [0] rfl ?_
    refine Go.Sx.V rfl wu rfl rfl (lssI rfl rfl) ?_
    refine wr_nil (post_thenN (wc_seq ?_))
    refine wc_cond rfl ?_ ?_
    · intro hc1
      simp at hc1
      refine wc_skip (post_thenN (wc_seq (wc_block (wc_seq ?_))))
      refine wc_region [0,1,2] rfl ?_
      refine Go.Sx.V rfl wu rfl rfl (iadI rfl rfl ty22 hsl (by omega) (by omega)) ?_
      refine Go.Sx.V rfl wu rfl rfl (ldI rfl na3 hsl) ?_
      refine Go.Sx.V rfl wu rfl rfl (asg rfl) ?_
      refine wr_nil (post_thenN (wc_seq ?_))
      rw [hget j hc1]
      refine wc_region [0,1,2] rfl ?_
      refine Go.Sx.V rfl wu rfl rfl (mv rfl) ?_
      refine Go.Sx.V rfl wu rfl rfl (mv rfl) ?_
      refine Go.Sx.V rfl wu rfl rfl (eqlI rfl rfl) ?_
      refine wr_nil (post_thenN ?_)
      refine wc_cond rfl ?_ ?_
      · intro h
        simp at h
        refine wc_seq ?_
        refine wc_region [0] rfl ?_
        refine Go.Sx.V rfl wu rfl rfl (asg rfl) ?_
        refine wr_nil (post_thenN (wc_ret (post_blockR (post_thenR (post_loopR (post_blockR (post_blockR (post_thenR (post_loopR (post_blockR (post_thenR ?_)))))))))))
        refine post_ret1 rfl rfl ?_
        exact ⟨Ext.refl _, true, rfl, ⟨fun _ hd => hd i hc j hc1 h, fun _ => rfl⟩⟩
      · intro h
        simp at h
        refine wc_skip (post_blockN (post_thenN ?_))
        refine wc_region [0,1] rfl ?_
        refine Go.Sx.V rfl wu rfl rfl (addI rfl rfl) ?_
        refine Go.Sx.V rfl wu rfl rfl (mv rfl) ?_
        refine wr_nil ?_
        exact post_loopN (j + 1) ⟨rfl, rfl, rfl, rfl, rfl, rfl, rfl, rfl, rfl, trivial⟩ ⟨by omega, rfl, fun b hb' => by
          by_cases e : b = j
          · rw [e]; exact h
          · exact hb b (by omega)⟩ (by omega)
    · intro hc1
      simp at hc1
      refine wc_exit (post_thenE (post_loopE (post_blockX (post_blockN (post_thenN ?_)))))
      refine wc_region [0,1] rfl ?_
      refine Go.Sx.V rfl wu rfl rfl (addI rfl rfl) ?_
      refine Go.Sx.V rfl wu rfl rfl (mv rfl) ?_
      refine wr_nil ?_
      exact post_loopN (i + 1) ⟨rfl, rfl, rfl, rfl, trivial⟩ ⟨by omega, rfl, fun a ha' b hb' => by
        by_cases e : a = i
        · rw [e]; exact hb b (by omega)
        · exact ha a (by omega) b hb'⟩ (by omega)
  · intro hc
    simp at hc
    refine wc_exit (post_thenE (post_loopE (post_blockX (post_thenN (wc_seq ?_)))))
    refine wc_region [0] rfl ?_
    refine Go.Sx.V rfl wu rfl rfl (asg rfl) ?_
    refine wr_nil (post_thenN (wc_ret ?_))
    refine post_ret1 rfl rfl ?_
    exact ⟨Ext.refl _, false, rfl, ⟨fun h => by (cases h), fun hd => absurd (fun a ha' b hb' => ha a (by omega) b hb') hd⟩⟩
def gval (p M : Int) (mo : Value) (K : Int) (pu mu : Value) : Value := .agg #[.int .i64 p, .int .i64 M, mo, .int .i64 K, pu, mu]
def GsA (w : World) (p M : Int) (md xs ms : List Int) (K : Int) (v : Value) : Prop :=
  (¬ OkF p M md ∧ v = .tuple #[.pointer none, .int .i64 1]) ∨ ∃ h : OkF p M md, ∃ gv, v = .tuple #[gv, .int .i64 (grsE (fpOf p M md h.1.1 h.1.2.1).q xs ms K)] ∧ (grsE (fpOf p M md h.1.1 h.1.2.1).q xs ms K = 0 → GFV w (fpOf p M md h.1.1 h.1.2.1) gv)
theorem fnew_split {p M : Int} {md : List Int} {w' : World} {v : Value} (h : (v = .tuple #[.pointer none, .int .i64 1] ∧ ¬ OkF p M md) ∨ (∃ h : OkF p M md, ∃ g, v = .tuple #[g, .int .i64 0] ∧ GFV w' (fpOf p M md h.1.1 h.1.2.1) g)) :
    ∃ gv ec, v = .tuple #[gv, .int .i64 ec] ∧ ((ec = 1 ∧ gv = .pointer none ∧ ¬ OkF p M md) ∨ (ec = 0 ∧ ∃ h : OkF p M md, GFV w' (fpOf p M md h.1.1 h.1.2.1) gv)) := by
  rcases h with ⟨h1, h2⟩ | ⟨h, g, h1, h2⟩
  · exact ⟨_, _, h1, .inl ⟨rfl, rfl, h2⟩⟩
  · exact ⟨_, _, h1, .inr ⟨rfl, h, h2⟩⟩
set_option maxRecDepth 10000 in
theorem gsOpen (p M K : Int) (mo pu mu : Value) (md xs ms : List Int) (w : World) (hmd : Ints w mo md) (hx : Ints w pu xs) (hm : Ints w mu ms) :
    Calls Tryz.prog 80 #[gval p M mo K pu mu] w (RetX w fun v w' => GsA w' p M md xs ms K v) := by
  have hxle := hx.le
  have hmle := hm.le
  refine calls1 Tryz.func80 rfl rfl ?_
  refine wc_seq ?_
  refine wc_region [0,1,2] rfl ?_
  refine BXA rfl wu rfl rfl ?_
  intro sb w1 hE hB hsb
  refine Go.Sx.V rfl wu rfl rfl (asg rfl) ?_
  refine Go.Sx.V rfl wu rfl rfl (asg rfl) ?_
  refine wr_nil (post_thenN (wc_seq ?_))
  replace hmd := hmd.ext hE
  replace hx := hx.ext hE
  replace hm := hm.ext hE
  refine wc_region [0,1,2,3,4,5,6,7] rfl ?_
  refine Go.Sx.V rfl wu rfl rfl (fad rfl fa26_0) ?_
  refine Go.Sx.V rfl wu rfl rfl (ldA rfl ag24 hB) ?_
  refine C rfl wu rfl rfl Tryz.call48 (fNew p M mo md _ hmd) ?_
  rintro _ w2 hE2 hnew
  obtain ⟨gv, ec, rfl, hcase⟩ := fnew_split hnew
  clear hnew
  replace hB := hB.ext hE2
  replace hx := hx.ext hE2
  replace hm := hm.ext hE2
  replace hE := hE.trans hE2
  refine Go.Sx.V rfl wu rfl rfl (mv rfl) ?_
  refine Go.Sx.V rfl wu rfl rfl (ext rfl rfl) ?_
  refine Go.Sx.V rfl wu rfl rfl (ext rfl rfl) ?_
  refine Go.Sx.V rfl wu rfl rfl (asg rfl) ?_
  refine Go.Sx.V rfl wu rfl rfl (asg rfl) ?_
  refine wr_nil (post_thenN (wc_seq ?_))
  refine wc_region [0,1,2,3] rfl ?_
  refine Go.Sx.V rfl wu rfl rfl (fad rfl fa26_2) ?_
  refine Go.Sx.V rfl wu rfl rfl (ldB rfl na22 hB) ?_
  refine Go.Sx.V rfl wu rfl rfl (lenI rfl ty22 hx) ?_
  refine Go.Sx.V rfl wu rfl rfl (asg rfl) ?_
  refine wr_nil (post_thenN (wc_seq (wc_block (wc_seq ?_))))
  refine wc_region [0,1,2] rfl ?_
  refine Go.Sx.V rfl wu rfl rfl (mv rfl) ?_
  refine Go.Sx.V rfl wu rfl rfl (neqI rfl rfl) ?_
  refine Go.Sx.V rfl wu rfl rfl (asg rfl) ?_
  refine wr_nil (post_thenN ?_)
  rcases hcase with ⟨rfl, rfl, hno⟩ | ⟨rfl, hok, hG⟩
  · skip
    refine wc_condT rfl (by simp) ?_
    refine wc_seq ?_
    refine wc_region [0,1,2] rfl ?_
    refine Go.Sx.V rfl wu rfl rfl (mv rfl) ?_
    refine Go.Sx.V rfl wu rfl rfl (asg rfl) ?_
    refine Go.Sx.V rfl wu rfl rfl (asg rfl) ?_
    refine wr_nil (post_thenN (wc_ret (post_blockR (post_thenR ?_))))
    refine post_ret2 rfl rfl rfl ?_
    exact ⟨hE, .inl ⟨hno, rfl⟩⟩
  · skip
    refine wc_condF rfl (by simp) ?_
    refine wc_seq ?_
    obtain ⟨P, hP⟩ : ∃ P, P = fpOf p M md hok.1.1 hok.1.2.1 := ⟨_, rfl⟩
    have fin : ∀ (gv : Value) (e : Int) (w' : World), Ext w w' → e = grsE P.q xs ms K → (e = 0 → GFV w' P gv) → Ext w w' ∧ GsA w' p M md xs ms K (.tuple #[gv, .int .i64 e]) := fun gv e w' hE he hg => by
      subst he
      refine ⟨hE, .inr ⟨hok, gv, by rw [hP], fun h0 => ?_⟩⟩
      rw [← hP] at h0 ⊢
      exact hg h0
    rw [← hP] at hG
    refine wc_region [0,1,2,3,4,5,6] rfl ?_
    refine Go.Sx.V rfl wu rfl rfl (mv rfl) ?_
    refine Go.Sx.V rfl wu rfl rfl (lssI rfl rfl) ?_
    refine Go.Sx.V rfl wu rfl rfl (mv rfl) ?_
    refine OR (π1 := [3,4,5]) (π2 := [6]) (tc := 25) (tp := 28) rfl rfl rfl (by
        intro _
        refine SK rfl rfl rfl rfl rfl ?_
        refine SK rfl rfl rfl rfl rfl ?_
        refine Go.Sx.V rfl wu rfl rfl (pk rfl rfl) ?_
        exact join rfl) (by
        intro hg
        simp at hg
        refine Go.Sx.V rfl (wg rfl rfl) rfl rfl (mv rfl) ?_
        refine Go.Sx.V rfl (wg rfl rfl) rfl rfl (gtrI rfl rfl) ?_
        refine Go.Sx.V rfl wu rfl rfl (pk rfl rfl) ?_
        exact join rfl) ?_
    refine Go.Sx.V rfl wu rfl rfl (asg rfl) ?_
    refine wr_nil (post_thenN ?_)
    refine wc_cond rfl ?_ ?_
    · intro h
      simp at h
      refine wc_seq ?_
      refine wc_region [0,1] rfl ?_
      refine Go.Sx.V rfl wu rfl rfl (asg rfl) ?_
      refine Go.Sx.V rfl wu rfl rfl (asg rfl) ?_
      refine wr_nil (post_thenN (wc_ret (post_blockR (post_thenR ?_))))
      refine post_ret2 rfl rfl rfl ?_
      exact fin _ _ _ hE (by rw [grsE, if_pos (by omega)]) (by omega)
    · intro h
      simp at h
      have e1 : ¬ ((xs.length : Int) < 1 ∨ 64 < (xs.length : Int)) := by omega
      refine wc_seq ?_
      refine wc_region [0,1,2,3,4,5] rfl ?_
      refine Go.Sx.V rfl wu rfl rfl (fad rfl fa26_3) ?_
      refine Go.Sx.V rfl wu rfl rfl (ldB rfl na22 hB) ?_
      refine Go.Sx.V rfl wu rfl rfl (lenI rfl ty22 hm) ?_
      refine Go.Sx.V rfl wu rfl rfl (mv rfl) ?_
      refine Go.Sx.V rfl wu rfl rfl (neqI rfl rfl) ?_
      refine Go.Sx.V rfl wu rfl rfl (asg rfl) ?_
      refine wr_nil (post_thenN ?_)
      refine wc_cond rfl ?_ ?_
      · intro h2
        simp at h2
        refine wc_seq ?_
        refine wc_region [0,1] rfl ?_
        refine Go.Sx.V rfl wu rfl rfl (asg rfl) ?_
        refine Go.Sx.V rfl wu rfl rfl (asg rfl) ?_
        refine wr_nil (post_thenN (wc_ret (post_blockR (post_thenR ?_))))
        refine post_ret2 rfl rfl rfl ?_
        exact fin _ _ _ hE (by rw [grsE, if_neg e1, if_pos (by omega)]) (by omega)
      · intro h2
        simp at h2
        have e2 : ¬ (ms.length ≠ xs.length) := by omega
        refine wc_skip (post_blockN (post_thenN (wc_seq (wc_seq ?_))))
        by_cases hxi : AllIn P.q xs
        · skip
          refine wc_region [0,1,2,3,4,5,6,7,8,9,10,11] rfl ?_
          refine Go.Sx.V rfl wu rfl rfl (mv rfl) ?_
          refine Go.Sx.V rfl wu rfl rfl (fad rfl fa26_2) ?_
          refine Go.Sx.V rfl wu rfl rfl (ldB rfl na22 hB) ?_
          refine C rfl wu rfl rfl Tryz.call94 (gsElements P gv pu xs _ hG hx) ?_
          rintro _ w3 hE3 ⟨t, rfl, ht⟩
          obtain rfl := ht.2 hxi
          replace hB := hB.ext hE3
          replace hx := hx.ext hE3
          replace hm := hm.ext hE3
          replace hG := hG.ext hE3
          replace hE := hE.trans hE3
          refine Go.Sx.V rfl wu rfl rfl (notB rfl) ?_
          refine Go.Sx.V rfl wu rfl rfl (mv rfl) ?_
          refine KB 40 false rfl (by rfl) ?_
          refine Go.Sx.V rfl (wg rfl rfl) rfl rfl (mv rfl) ?_
          refine Go.Sx.V rfl (wg rfl rfl) rfl rfl (fad rfl fa26_3) ?_
          refine Go.Sx.V rfl (wg rfl rfl) rfl rfl (ldB rfl na22 hB) ?_
          refine C rfl (wg rfl rfl) rfl rfl Tryz.call94 (gsElements P gv mu ms _ hG hm) ?_
          rintro _ w4 hE4 ⟨t, rfl, ht⟩
          replace hB := hB.ext hE4
          replace hx := hx.ext hE4
          replace hm := hm.ext hE4
          replace hG := hG.ext hE4
          replace hE := hE.trans hE4
          refine Go.Sx.V rfl (wg rfl rfl) rfl rfl (notB rfl) ?_
          refine Go.Sx.V rfl wu rfl rfl (pk rfl rfl) ?_
          refine wr_nil (post_thenN ?_)
          refine wc_cond rfl ?_ ?_
          · intro h3
            simp at h3
            refine wc_seq ?_
            refine wc_region [0,1] rfl ?_
            refine Go.Sx.V rfl wu rfl rfl (asg rfl) ?_
            refine Go.Sx.V rfl wu rfl rfl (asg rfl) ?_
            refine wr_nil (post_thenN (wc_ret (post_thenR ?_)))
            refine post_ret2 rfl rfl rfl ?_
            exact fin _ _ _ hE (by rw [grsE, if_neg e1, if_neg e2, if_pos (.inr (fun hc => by rw [ht.2 hc] at h3; cases h3))]) (by omega)
          · intro h3
            simp at h3
            have hmi := ht.1 h3
            have e3 : ¬ (¬ AllIn P.q xs ∨ ¬ AllIn P.q ms) := by rintro (h | h) <;> contradiction
            refine wc_skip (post_thenN (wc_seq (wc_seq ?_)))
            refine wc_region [0,1,2] rfl ?_
            refine Go.Sx.V rfl wu rfl rfl (fad rfl fa26_2) ?_
            refine Go.Sx.V rfl wu rfl rfl (ldB rfl na22 hB) ?_
            refine C rfl wu rfl rfl Tryz.call115 (gsTwice pu xs _ hx) ?_
            rintro _ w5 hE5 ⟨t, rfl, ht⟩
            replace hB := hB.ext hE5
            replace hx := hx.ext hE5
            replace hm := hm.ext hE5
            replace hG := hG.ext hE5
            replace hE := hE.trans hE5
            refine wr_nil (post_thenN ?_)
            refine wc_cond rfl ?_ ?_
            · intro h4
              refine wc_seq ?_
              refine wc_region [0,1] rfl ?_
              refine Go.Sx.V rfl wu rfl rfl (asg rfl) ?_
              refine Go.Sx.V rfl wu rfl rfl (asg rfl) ?_
              refine wr_nil (post_thenN (wc_ret (post_thenR ?_)))
              refine post_ret2 rfl rfl rfl ?_
              exact fin _ _ _ hE (by rw [grsE, if_neg e1, if_neg e2, if_neg e3, if_pos (ht.1 h4)]) (by omega)
            · intro h4
              have e4 : ¬ ¬ DifI xs := fun hc => by rw [ht.2 hc] at h4; cases h4
              refine wc_skip (post_thenN (wc_seq (wc_seq ?_)))
              refine wc_region [0,1,2,3] rfl ?_
              refine Go.Sx.V rfl wu rfl rfl (fad rfl fa26_3) ?_
              refine Go.Sx.V rfl wu rfl rfl (ldB rfl na22 hB) ?_
              refine Go.Sx.V rfl wu rfl rfl (lenI rfl ty22 hm) ?_
              refine Go.Sx.V rfl wu rfl rfl (mv rfl) ?_
              refine wr_nil (post_thenN (wc_block ?_))
              have hX := Ext.refl w5
              refine wc_loop (fun i : Nat => [(1, .pointer (some ⟨sb, 0, none⟩)), (4, gv), (6, .int .i64 xs.length), (51, mu), (52, .int .i64 ms.length), (53, .int .i64 i)])
                (fun i w' => i ≤ ms.length ∧ w' = w5 ∧ ∀ j : Nat, j < i → gi ms j ≠ 0) (fun i => ms.length - i) 0 ⟨rfl, rfl, rfl, rfl, rfl, rfl, trivial⟩ ⟨by omega, rfl, fun j hj => by omega⟩ ?_
              rintro i w6 ⟨i1, rfl, hz⟩
              try dsimp only
              refine wc_seq ?_
              refine wc_region [0] rfl ?_
              refine Go.Sx.V rfl wu rfl rfl (lssI rfl rfl) ?_
              refine wr_nil (post_thenN (wc_seq ?_))
              refine wc_cond rfl ?_ ?_
              · intro hc
                simp at hc
                refine wc_skip (post_thenN (wc_seq (wc_block (wc_seq ?_))))
                refine wc_region [0,1,2] rfl ?_
                refine Go.Sx.V rfl wu rfl rfl (iadI rfl rfl ty22) ?_
                refine Go.Sx.V rfl wu rfl rfl (ldI rfl na3) ?_
                refine Go.Sx.V rfl wu rfl rfl (asg rfl) ?_
                refine wr_nil (post_thenN (wc_seq ?_))
                refine wc_region [0,1] rfl ?_
                refine Go.Sx.V rfl wu rfl rfl (mv rfl) ?_
                refine Go.Sx.V rfl wu rfl rfl (eqlI rfl rfl) ?_
                refine wr_nil (post_thenN ?_)
                refine wc_cond rfl ?_ ?_
                · intro h6
                  simp at h6
                  refine wc_seq ?_
                  refine wc_region [0,1] rfl ?_
                  refine Go.Sx.V rfl wu rfl rfl (asg rfl) ?_
                  refine Go.Sx.V rfl wu rfl rfl (asg rfl) ?_
                  refine wr_nil (post_thenN (wc_ret (post_blockR (post_thenR (post_loopR (post_blockR (post_thenR ?_)))))))
                  refine post_ret2 rfl rfl rfl ?_
                  exact fin _ _ _ hE (by rw [grsE, if_neg e1, if_neg e2, if_neg e3, if_neg e4, if_pos (fun hn => hn i hc h6)]) (by omega)
                · intro h6
                  simp at h6
                  refine wc_skip (post_blockN (post_thenN ?_))
                  refine wc_region [0,1] rfl ?_
                  refine Go.Sx.V rfl wu rfl rfl (addI rfl rfl) ?_
                  refine Go.Sx.V rfl wu rfl rfl (mv rfl) ?_
                  refine wr_nil ?_
                  exact post_loopN (i + 1) ⟨rfl, rfl, rfl, rfl, rfl, rfl, trivial⟩ ⟨by omega, rfl, fun j hj => by
                    by_cases e : j = i
                    · rw [e]; exact h6
                    · exact hz j (by omega)⟩ (by omega)
              · intro hc
                simp at hc
                have e5 : ¬ ¬ NoZ ms := fun hn => hn fun j hj => hz j (by omega)
                refine wc_exit (post_thenE (post_loopE (post_blockX (post_thenN (wc_seq (wc_seq ?_))))))
                refine wc_region [0,1,2,3,4,5,6,7,8] rfl ?_
                refine Go.Sx.V rfl wu rfl rfl (fad rfl fa26_1) ?_
                refine Go.Sx.V rfl wu rfl rfl (ldB rfl na3 hB) ?_
                refine Go.Sx.V rfl wu rfl rfl (lssI rfl rfl) ?_
                refine Go.Sx.V rfl wu rfl rfl (mv rfl) ?_
                refine OR (π1 := [4,5,6,7,8]) (π2 := []) (tc := 63) (tp := 68) rfl rfl rfl (by
                    intro _
                    refine SK rfl rfl rfl rfl rfl ?_
                    refine SK rfl rfl rfl rfl rfl ?_
                    refine SK rfl rfl rfl rfl rfl ?_
                    refine SK rfl rfl rfl rfl rfl ?_
                    refine Go.Sx.V rfl wu rfl rfl (pk rfl rfl) ?_
                    exact join rfl) (by
                    intro hg
                    simp at hg
                    refine Go.Sx.V rfl (wg rfl rfl) rfl rfl (fad rfl fa26_1) ?_
                    refine Go.Sx.V rfl (wg rfl rfl) rfl rfl (ldB rfl na3 hB) ?_
                    refine Go.Sx.V rfl (wg rfl rfl) rfl rfl (mv rfl) ?_
                    refine Go.Sx.V rfl (wg rfl rfl) rfl rfl (gtrI rfl rfl) ?_
                    refine Go.Sx.V rfl wu rfl rfl (pk rfl rfl) ?_
                    exact join rfl) ?_
                refine wr_nil (post_thenN ?_)
                refine wc_cond rfl ?_ ?_
                · intro h7
                  simp at h7
                  refine wc_seq ?_
                  refine wc_region [0,1] rfl ?_
                  refine Go.Sx.V rfl wu rfl rfl (asg rfl) ?_
                  refine Go.Sx.V rfl wu rfl rfl (asg rfl) ?_
                  refine wr_nil (post_thenN (wc_ret (post_thenR ?_)))
                  refine post_ret2 rfl rfl rfl ?_
                  exact fin _ _ _ hE (by rw [grsE, if_neg e1, if_neg e2, if_neg e3, if_neg e4, if_neg e5, if_pos (by omega)]) (by omega)
                · intro h7
                  simp at h7
                  refine wc_skip (post_thenN (wc_seq ?_))
                  refine wc_region [0,1,2] rfl ?_
                  refine Go.Sx.V rfl wu rfl rfl (mv rfl) ?_
                  refine Go.Sx.V rfl wu rfl rfl (asg rfl) ?_
                  refine Go.Sx.V rfl wu rfl rfl (asg rfl) ?_
                  refine wr_nil (post_thenN (wc_ret ?_))
                  refine post_ret2 rfl rfl rfl ?_
                  exact fin _ _ _ hE (by rw [grsE, if_neg e1, if_neg e2, if_neg e3, if_neg e4, if_neg e5, if_neg (by omega)]) (fun _ => hG)
        · skip
          refine wc_region [0,1,2,3,4,5,6,7,8,9,10,11] rfl ?_
          refine Go.Sx.V rfl wu rfl rfl (mv rfl) ?_
          refine Go.Sx.V rfl wu rfl rfl (fad rfl fa26_2) ?_
          refine Go.Sx.V rfl wu rfl rfl (ldB rfl na22 hB) ?_
          refine C rfl wu rfl rfl Tryz.call94 (gsElements P gv pu xs _ hG hx) ?_
          rintro _ w3 hE3 ⟨t, rfl, ht⟩
          obtain rfl : t = false := by cases t; rfl; exact absurd (ht.1 rfl) hxi
          replace hE := hE.trans hE3
          refine Go.Sx.V rfl wu rfl rfl (notB rfl) ?_
          refine Go.Sx.V rfl wu rfl rfl (mv rfl) ?_
          refine KB 40 true rfl (by rfl) ?_
          refine SK rfl rfl rfl rfl rfl ?_
          refine SK rfl rfl rfl rfl rfl ?_
          refine SK rfl rfl rfl rfl rfl ?_
          refine SK rfl rfl rfl rfl rfl ?_
          refine SK rfl rfl rfl rfl rfl ?_
          refine Go.Sx.V rfl wu rfl rfl (pk rfl rfl) ?_
          refine wr_nil (post_thenN ?_)
          refine wc_condT rfl (by rfl) ?_
          refine wc_seq ?_
          refine wc_region [0,1] rfl ?_
          refine Go.Sx.V rfl wu rfl rfl (asg rfl) ?_
          refine Go.Sx.V rfl wu rfl rfl (asg rfl) ?_
          refine wr_nil (post_thenN (wc_ret (post_thenR ?_)))
          refine post_ret2 rfl rfl rfl ?_
          exact fin _ _ _ hE (by rw [grsE, if_neg e1, if_neg e2, if_pos (.inl hxi)]) (by omega)
theorem gsA_split {w : World} {p M : Int} {md xs ms : List Int} {K : Int} {v : Value} (h : GsA w p M md xs ms K v) : ∃ gv e, v = .tuple #[gv, .int .i64 e] ∧ ((¬ OkF p M md ∧ e = 1) ∨ ∃ h : OkF p M md, e = grsE (fpOf p M md h.1.1 h.1.2.1).q xs ms K ∧ (e = 0 → GFV w (fpOf p M md h.1.1 h.1.2.1) gv)) := by
  rcases h with ⟨h, rfl⟩ | ⟨h, gv, rfl, hg⟩
  · exact ⟨_, _, rfl, .inl ⟨h, rfl⟩⟩
  · exact ⟨_, _, rfl, .inr ⟨h, rfl, hg⟩⟩
open Classical in
noncomputable def gsT (p M : Int) (md xs ms : List Int) (K : Int) : Int := if h : OkF p M md then grsE (fpOf p M md h.1.1 h.1.2.1).q xs ms K else 1
theorem gsT_of {w : World} {p M : Int} {md xs ms : List Int} {K : Int} {v : Value} (h : GsA w p M md xs ms K v) : ∃ gv, v = .tuple #[gv, .int .i64 (gsT p M md xs ms K)] ∧ (gsT p M md xs ms K = 0 → ∃ h : OkF p M md, GFV w (fpOf p M md h.1.1 h.1.2.1) gv ∧ GrsOk (fpOf p M md h.1.1 h.1.2.1).q xs ms K) := by
  rcases h with ⟨h, rfl⟩ | ⟨h, gv, rfl, hg⟩
  · rw [gsT, dif_neg h]
    exact ⟨_, rfl, fun h0 => by omega⟩
  · rw [gsT, dif_pos h]
    exact ⟨gv, rfl, fun h0 => ⟨h, hg h0, grsE_ok.1 h0⟩⟩
set_option maxRecDepth 10000 in
theorem gsCheck (p M K : Int) (mo pu mu : Value) (md xs ms : List Int) (w : World) (hmd : Ints w mo md) (hx : Ints w pu xs) (hm : Ints w mu ms) :
    Calls Tryz.prog 47 #[gval p M mo K pu mu] w (RetX w fun v _ => v = .int .i64 (gsT p M md xs ms K)) := by
  refine calls1 Tryz.func47 rfl rfl ?_
  refine wc_seq ?_
  refine wc_region [0,1] rfl ?_
  refine BXA rfl wu rfl rfl ?_
  intro sb w1 hE hB hsb
  refine Go.Sx.V rfl wu rfl rfl (asg rfl) ?_
  refine wr_nil (post_thenN (wc_seq ?_))
  refine wc_region [0,1,2,3,4,5,6] rfl ?_
  refine Go.Sx.V rfl wu rfl rfl (ldA rfl ag26 hB) ?_
  refine C rfl wu rfl rfl Tryz.call80 (gsOpen p M K mo pu mu md xs ms _ (hmd.ext hE) (hx.ext hE) (hm.ext hE)) ?_
  rintro _ w2 hE2 ha
  obtain ⟨gv, rfl, _⟩ := gsT_of ha
  replace hE := hE.trans hE2
  refine Go.Sx.V rfl wu rfl rfl (mv rfl) ?_
  refine Go.Sx.V rfl wu rfl rfl (ext rfl rfl) ?_
  refine Go.Sx.V rfl wu rfl rfl (ext rfl rfl) ?_
  refine Go.Sx.V rfl wu rfl rfl (asg rfl) ?_
  refine Go.Sx.V rfl wu rfl rfl (asg rfl) ?_
  refine wr_nil (post_thenN (wc_seq ?_))
  refine wc_region [0,1] rfl ?_
  refine Go.Sx.V rfl wu rfl rfl (mv rfl) ?_
  refine Go.Sx.V rfl wu rfl rfl (asg rfl) ?_
  refine wr_nil (post_thenN (wc_ret ?_))
  refine post_ret1 rfl rfl ?_
  exact ⟨hE, rfl⟩
set_option maxRecDepth 10000 in
theorem gsEncode0 (P : FP) (g : Value) (p M K : Int) (mo pu mu u : Value) (xs ms z : List Int) (w : World) (hG : GFV w P g) (hx : Ints w pu xs) (hm : Ints w mu ms) (hz : Ints w u z) (hml : ms.length = xs.length) (hx64 : xs.length ≤ 64) (hz64 : z.length ≤ 17592186044416) :
    Calls Tryz.prog 95 #[g, gval p M mo K pu mu, u] w (RetX w fun r w' => OwnI w.heap.size w' r 3 (encW P xs ms (pz P z))) := by
  refine calls3 Tryz.func95 rfl rfl ?_
  refine wc_seq ?_
  refine wc_region [0,1] rfl ?_
  refine BXA rfl wu rfl rfl ?_
  intro sb w1 hE hB hsb
  refine Go.Sx.V rfl wu rfl rfl (asg rfl) ?_
  refine wr_nil (post_thenN (wc_seq ?_))
  have hxi := hx.ext hE
  refine wc_region [0,1,2,3,4] rfl ?_
  refine Go.Sx.V rfl wu rfl rfl (fad rfl fa26_2) ?_
  refine Go.Sx.V rfl wu rfl rfl (ldB rfl na22 hB) ?_
  refine Go.Sx.V rfl wu rfl rfl (lenI rfl ty22 hxi) ?_
  refine MKI (n := xs.length) rfl wu rfl rfl ty22 ?_
  intro ov w2 hE2 ho hoi hob
  refine Go.Sx.V rfl wu rfl rfl (asg rfl) ?_
  refine wr_nil (post_thenN (wc_seq (wc_seq ?_)))
  have hsz := hE.size
  have hsz2 := hE2.size
  have hlt := hB.lt
  have hne : ov.ownBlock ≠ some sb := fun e => by
    rw [hob] at e
    have := Option.some.inj e
    omega
  replace hB := hB.ext hE2
  have ho' := Own.mono ho (B' := w.heap.size) (by omega)
  replace hE := hE.trans hE2
  rw [← upd_zero' xs.length (fun i => (inK P (gi ms i) * val1 (pz P z) (inK P (gi xs i))).1) (fun _ => 0)] at ho'
  have hxi2 := hx.ext hE
  clear ho hoi
  refine wc_region [0,1,2,3] rfl ?_
  refine Go.Sx.V rfl wu rfl rfl (fad rfl fa26_2) ?_
  refine Go.Sx.V rfl wu rfl rfl (ldB rfl na22 hB) ?_
  refine Go.Sx.V rfl wu rfl rfl (lenI rfl ty22 hxi2) ?_
  refine Go.Sx.V rfl wu rfl rfl (mv rfl) ?_
  refine wr_nil (post_thenN (wc_block ?_))
  refine wc_loop (fun i : Nat => [(4, .pointer (some ⟨sb, 0, none⟩)), (0, g), (2, u), (7, ov), (15, pu), (16, .int .i64 xs.length), (17, .int .i64 i)])
    (fun i w' => i ≤ xs.length ∧ Ext w w' ∧ Blk w' sb 26 #[.int .i64 p, .int .i64 M, mo, .int .i64 K, pu, mu] ∧ OwnI w.heap.size w' ov 3 (upd xs.length (fun i => (inK P (gi ms i) * val1 (pz P z) (inK P (gi xs i))).1) (fun _ => 0) i)) (fun i => xs.length - i) 0 ⟨rfl, rfl, rfl, rfl, rfl, rfl, rfl, trivial⟩ ⟨by omega, hE, hB, ho'⟩ ?_
  clear hE hB ho' hxi hxi2
  rintro i w3 ⟨i1, hE, hB, ho⟩
  have hxi := hx.ext hE
  have hmi := hm.ext hE
  have hul := upd_length xs.length (fun i => (inK P (gi ms i) * val1 (pz P z) (inK P (gi xs i))).1) (fun _ => (0 : Int)) i
  try dsimp only
  refine wc_seq ?_
  refine wc_region [0] rfl ?_
  refine Go.Sx.V rfl wu rfl rfl (lssI rfl rfl) ?_
  refine wr_nil (post_thenN (wc_seq ?_))
  refine wc_cond rfl ?_ ?_
  · intro hc
    simp at hc
    refine wc_skip (post_thenN (wc_seq (wc_block (wc_seq ?_))))
    refine wc_region [0,1,2,3,4] rfl ?_
    refine Go.Sx.V rfl wu rfl rfl (mv rfl) ?_
    refine Go.Sx.V rfl wu rfl rfl (iadI rfl rfl ty22 hxi (by omega) (by omega)) ?_
    refine Go.Sx.V rfl wu rfl rfl (ldI rfl na3 hxi) ?_
    refine Go.Sx.V rfl wu rfl rfl (asg rfl) ?_
    refine Go.Sx.V rfl wu rfl rfl (asg rfl) ?_
    refine wr_nil (post_thenN ?_)
    refine wc_draw mixed [0,1,2,3,4,5,6,7,8,9,10,11,12,13,14] (by kernel_rfl) ?_
    intro w4 hd _
    replace hE := hE.trans hd
    replace hB := hB.ext hd
    replace hxi := hxi.ext hd
    replace hmi := hmi.ext hd
    replace ho := ho.ext hd
    refine Go.Sx.V rfl wu rfl rfl (mv rfl) ?_
    refine Go.Sx.V rfl wu rfl rfl (mv rfl) ?_
    refine Go.Sx.V rfl wu rfl rfl (mv rfl) ?_
    refine Go.Sx.V rfl wu rfl rfl (fad rfl fa26_3) ?_
    refine Go.Sx.V rfl wu rfl rfl (ldB rfl na22 hB) ?_
    refine Go.Sx.V rfl wu rfl rfl (mv rfl) ?_
    refine Go.Sx.V rfl wu rfl rfl (iadI rfl rfl ty22 hmi (by omega) (by omega)) ?_
    refine Go.Sx.V rfl wu rfl rfl (ldI rfl na3 hmi) ?_
    refine Go.Sx.V rfl wu rfl rfl (mv rfl) ?_
    refine Go.Sx.V rfl wu rfl rfl (mv rfl) ?_
    refine Go.Sx.V rfl wu rfl rfl (mv rfl) ?_
    refine C rfl wu rfl rfl Tryz.call123 (pEval P g u z (gi xs i) _ (hG.ext hE) (hz.ext hE) hz64) ?_
    rintro _ w5 hE5 rfl
    replace hE := hE.trans hE5
    replace hB := hB.ext hE5
    replace ho := ho.ext hE5
    refine C rfl wu rfl rfl Tryz.call87 (gMul P g (gi ms i) _ _ (hG.ext hE)) ?_
    rintro _ w6 hE6 rfl
    replace hE := hE.trans hE6
    replace hB := hB.ext hE6
    replace ho := ho.ext hE6
    have hoi := OwnI.ints ho
    refine Go.Sx.V rfl wu rfl rfl (iadI rfl rfl ty22 hoi (by omega) (by omega)) ?_
    refine STI rfl wu rfl rfl sz3 (by intro h; kernel_rfl) ?_
    intro w7 hg7 hX7 ho7 hi7
    refine wr_nil (post_blockN (post_thenN ?_))
    rw [inK_val, show (inK P (gi ms i) * val1 (pz P z) (inK P (gi xs i))).1 = (fun i : Nat => (inK P (gi ms i) * val1 (pz P z) (inK P (gi xs i))).1) ((i : Int)).toNat by simp, upd_step (by omega)] at ho7
    refine wc_region [0,1] rfl ?_
    refine Go.Sx.V rfl wu rfl rfl (addI rfl rfl) ?_
    refine Go.Sx.V rfl wu rfl rfl (mv rfl) ?_
    refine wr_nil ?_
    exact post_loopN (i + 1) ⟨rfl, rfl, rfl, rfl, rfl, rfl, rfl, trivial⟩ ⟨by omega, hX7 _ (Nat.le_refl _) hE, hB.grown hg7 hne, ho7⟩ (by omega)
  · intro hc
    simp at hc
    obtain rfl : i = xs.length := by omega
    rw [upd_last xs.length _ _ (Int.le_refl _)] at ho
    refine wc_exit (post_thenE (post_loopE (post_blockX (post_thenN (wc_seq ?_)))))
    refine wc_region [0,1] rfl ?_
    refine Go.Sx.V rfl wu rfl rfl (mv rfl) ?_
    refine Go.Sx.V rfl wu rfl rfl (asg rfl) ?_
    refine wr_nil (post_thenN (wc_ret ?_))
    refine post_ret1 rfl rfl ?_
    exact ⟨hE, ho⟩
set_option maxRecDepth 10000 in
theorem gsEncode (P : FP) (p M K : Int) (mo pu mu u : Value) (md xs ms z : List Int) (w : World) (hok : OkF p M md) (hP : P = fpOf p M md hok.1.1 hok.1.2.1) (hg : GrsOk P.q xs ms K) (hmd : Ints w mo md) (hx : Ints w pu xs) (hm : Ints w mu ms) (hz : Ints w u z) (hzl : (z.length : Int) = K) (hzi : AllIn P.q z) :
    Calls Tryz.prog 63 #[gval p M mo K pu mu, u] w (RetX w fun r w' => ∃ s, r = .tuple #[s, .int .i64 0] ∧ OwnI w.heap.size w' s 3 (encW P xs ms (pz P z))) := by
  have hk := hg.kn
  have h64 := hg.n64
  refine calls2 Tryz.func63 rfl rfl ?_
  refine wc_seq ?_
  refine wc_region [0,1,2] rfl ?_
  refine BXA rfl wu rfl rfl ?_
  intro sb w1 hE hB hsb
  refine Go.Sx.V rfl wu rfl rfl (asg rfl) ?_
  refine Go.Sx.V rfl wu rfl rfl (asg rfl) ?_
  refine wr_nil (post_thenN (wc_seq ?_))
  refine wc_region [0,1,2,3,4,5,6] rfl ?_
  refine Go.Sx.V rfl wu rfl rfl (ldA rfl ag26 hB) ?_
  refine C rfl wu rfl rfl Tryz.call80 (gsOpen p M K mo pu mu md xs ms _ (hmd.ext hE) (hx.ext hE) (hm.ext hE)) ?_
  rintro _ w2 hE2 ha
  obtain ⟨gv, e, rfl, hc⟩ := gsA_split ha
  replace hB := hB.ext hE2
  replace hE := hE.trans hE2
  refine Go.Sx.V rfl wu rfl rfl (mv rfl) ?_
  refine Go.Sx.V rfl wu rfl rfl (ext rfl rfl) ?_
  refine Go.Sx.V rfl wu rfl rfl (ext rfl rfl) ?_
  refine Go.Sx.V rfl wu rfl rfl (asg rfl) ?_
  refine Go.Sx.V rfl wu rfl rfl (asg rfl) ?_
  refine wr_nil (post_thenN (wc_seq (wc_block (wc_seq ?_))))
  obtain ⟨rfl, hG⟩ : e = 0 ∧ GFV w2 P gv := by
    rcases hc with ⟨hno, _⟩ | ⟨hok', he, hG⟩
    · exact absurd hok hno
    · have h0 : e = 0 := by rw [he, ← hP]; exact grsE_ok.2 hg
      exact ⟨h0, by rw [hP]; exact hG h0⟩
  clear hc ha
  refine wc_region [0,1,2] rfl ?_
  refine Go.Sx.V rfl wu rfl rfl (mv rfl) ?_
  refine Go.Sx.V rfl wu rfl rfl (neqI rfl rfl) ?_
  refine Go.Sx.V rfl wu rfl rfl (asg rfl) ?_
  refine wr_nil (post_thenN ?_)
  refine wc_condF rfl (by simp) ?_
  refine wc_seq ?_
  have hzi' := hz.ext hE
  refine wc_region [0,1,2,3,4,5] rfl ?_
  refine Go.Sx.V rfl wu rfl rfl (mv rfl) ?_
  refine Go.Sx.V rfl wu rfl rfl (lenI rfl ty22 hzi') ?_
  refine Go.Sx.V rfl wu rfl rfl (fad rfl fa26_1) ?_
  refine Go.Sx.V rfl wu rfl rfl (ldB rfl na3 hB) ?_
  refine Go.Sx.V rfl wu rfl rfl (neqI rfl rfl) ?_
  refine Go.Sx.V rfl wu rfl rfl (asg rfl) ?_
  refine wr_nil (post_thenN ?_)
  refine wc_condF rfl (by simp; omega) ?_
  refine wc_seq ?_
  refine wc_region [0,1,2,3,4] rfl ?_
  refine Go.Sx.V rfl wu rfl rfl (mv rfl) ?_
  refine Go.Sx.V rfl wu rfl rfl (mv rfl) ?_
  refine C rfl wu rfl rfl Tryz.call94 (gsElements P gv u z _ hG hzi') ?_
  rintro _ w3 hE3 ⟨t, rfl, ht⟩
  obtain rfl := ht.2 hzi
  replace hB := hB.ext hE3
  replace hE := hE.trans hE3
  refine Go.Sx.V rfl wu rfl rfl (notB rfl) ?_
  refine Go.Sx.V rfl wu rfl rfl (asg rfl) ?_
  refine wr_nil (post_thenN ?_)
  refine wc_condF rfl (by rfl) ?_
  refine wc_skip (post_blockN (post_thenN (wc_seq ?_)))
  have hsz := hE.size
  refine wc_region [0,1,2,3,4,5] rfl ?_
  refine Go.Sx.V rfl wu rfl rfl (mv rfl) ?_
  refine Go.Sx.V rfl wu rfl rfl (ldA rfl ag26 hB) ?_
  refine Go.Sx.V rfl wu rfl rfl (mv rfl) ?_
  refine C rfl wu rfl rfl Tryz.call95 (gsEncode0 P gv p M K mo pu mu u xs ms z _ (hG.ext hE3) (hx.ext hE) (hm.ext hE) (hz.ext hE) hg.ml (by omega) (by omega)) ?_
  intro s w4 hE4 hs
  replace hE := hE.trans hE4
  refine Go.Sx.V rfl wu rfl rfl (asg rfl) ?_
  refine Go.Sx.V rfl wu rfl rfl (asg rfl) ?_
  refine wr_nil (post_thenN (wc_ret ?_))
  refine post_ret2 rfl rfl rfl ?_
  exact ⟨hE, s, rfl, Own.mono hs (by omega)⟩
end Go.Proofs.YtmnojknfjbimdaaGreat

