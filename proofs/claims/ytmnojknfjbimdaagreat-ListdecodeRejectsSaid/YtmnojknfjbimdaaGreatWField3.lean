/-
  powers and generator of the field package, by contract.
-/
import Derived.Test.YtmnojknfjbimdaaGreatWField2
import Derived.Test.YtmnojknfjbimdaaGreatWMFa
namespace Go.Proofs.YtmnojknfjbimdaaGreat
open Go Go.Sx Go.Pl Go.RowKit Go.Fd Go.Alg
theorem K.bound {P : FP} (x : K P) (hq : P.q ≤ 256) : 0 ≤ x.1 ∧ x.1 < P.q ∧ x.1 ≤ 255 := ⟨x.2.1, x.2.2, by have := x.2.2; omega⟩
set_option maxRecDepth 10000 in
theorem fPowers (P : FP) (mo : Value) (md : List Int) (x : K P) (w : World) (hF : FV w P mo md) :
    Calls Tryz.prog 117 #[fv P mo, .int .i64 P.q, .int .i64 x.1] w (RetX w fun v w' => ∃ n, Stop x n ∧ OwnI w.heap.size w' v 3 (pows x n) ∧ ∃ g, v.ownBlock = some g) := by
  have hq := hF.q
  have hq2 := P.q_two
  have hn1 := n1_eq (P := P)
  refine calls3 Tryz.func117 rfl rfl ?_
  refine wc_seq ?_
  refine wc_region [0,1] rfl ?_
  refine BXA rfl wu rfl rfl ?_
  intro g w1 hE1 hB hg
  refine Go.Sx.V rfl wu rfl rfl (asg rfl) ?_
  refine wr_nil (post_thenN (wc_seq ?_))
  have hFA := hF.ext hE1
  have hE := Ext.refl w1
  refine wc_region [0,1] rfl ?_
  refine BSI (zs := [1]) rfl wu rfl rfl rfl rfl ty22 ?_
  intro out w2 hE2 ho hi hob
  refine Go.Sx.V rfl wu rfl rfl (asg rfl) ?_
  refine wr_nil (post_thenN (wc_seq ?_))
  refine wc_region [0,1,2] rfl ?_
  refine Go.Sx.V rfl wu rfl rfl (mv rfl) ?_
  refine MK (n := P.q.toNat) rfl wu rfl rfl ty90 rfl ?_
  intro seen w3 hE3 hs hsb
  refine Go.Sx.V rfl wu rfl rfl (asg rfl) ?_
  refine wr_nil (post_thenN (wc_seq ?_))
  have hsz2 := hE2.size
  have hne : out.ownBlock ≠ seen.ownBlock := by
    rw [hob, hsb]
    intro e
    have e := Option.some.inj e
    have := (ho.lt _ hob).2
    omega
  replace ho := ho.ext hE3
  replace hs := hs.mono (B' := w1.heap.size) hsz2
  replace hE := hE2.trans hE3
  clear hi hE2 hE3
  refine wc_region [0,1,2] rfl ?_
  refine Go.Sx.V rfl wu rfl rfl (mv rfl) ?_
  refine Go.Sx.V rfl wu rfl rfl (iad rfl rfl ty90 hs.sl (by omega) (by simp; omega)) ?_
  refine ST rfl wu rfl rfl sz4 rfl (by intro h; cases h) ?_ hs (by omega) (by simp; omega)
  intro w4 hg4 hs4
  rw [show (1 : Int).toNat = 1 from rfl, seenL_one x] at hs4
  replace ho := Own.kept ho hg4 (.inl hne)
  replace hE := hE.grown hg4 hs (Nat.le_refl _)
  refine wr_nil (post_thenN (wc_seq (wc_seq ?_)))
  have ho : OwnI w1.heap.size w4 out 3 (pows x 1) := ho
  refine wc_region [0,1] rfl ?_
  refine Go.Sx.V rfl wu rfl rfl (mv rfl) ?_
  refine Go.Sx.V rfl wu rfl rfl (asg rfl) ?_
  refine wr_nil (post_thenN (wc_block ?_))
  clear hs hg4
  refine wc_loop (fun q : Nat × Value => [(1, .int .i64 P.q), (2, .int .i64 x.1), (3, .pointer (some ⟨g, 0, none⟩)), (7, q.2), (8, seen), (9, .int .i64 (npow x q.1).1)])
    (fun q w' => 1 ≤ q.1 ∧ Dist x q.1 ∧ Ext w1 w' ∧ OwnI w1.heap.size w' q.2 3 (pows x q.1) ∧ Own w1.heap.size w' seen 4 (seenL x q.1) ∧ q.2.ownBlock ≠ seen.ownBlock ∧ ∃ go, q.2.ownBlock = some go) (fun q => n1 P + 1 - q.1) (1, out)
    ⟨rfl, rfl, rfl, rfl, rfl, by show _ = some (Value.int .i64 (npow x 1).1); rw [npow_one]; rfl, trivial⟩ ⟨Nat.le_refl _, Dist.one x, hE, ho, hs4, hne, _, hob⟩ ?_
  clear ho hs4 hE hne hob
  rintro ⟨n, out⟩ w5 ⟨hn, hD, hE, ho, hs, hne, go, hgo⟩
  dsimp only at hn hD hE ho hne hgo hs
  have hi := ho.ints
  have hDl := hD.le
  have hpl := pows_length x n
  have hy := K.bound (npow x n) hq
  have hsl := seenL_length x n
  try dsimp only
  refine wc_seq (wc_seq ?_)
  refine wc_region [0,1,2,3,4,5,6,7,8] rfl ?_
  refine Go.Sx.V rfl wu rfl rfl (mv rfl) ?_
  refine Go.Sx.V rfl wu rfl rfl (neqI rfl rfl) ?_
  refine Go.Sx.V rfl wu rfl rfl (mv rfl) ?_
  refine AND (π1 := [3,4,5,6,7,8]) (π2 := []) (tc := 18) (tp := 24) rfl rfl rfl (by
      intro hg
      simp at hg
      refine Go.Sx.V rfl (wg rfl rfl) rfl rfl (mv rfl) ?_
      refine Go.Sx.V rfl (wg rfl rfl) rfl rfl (mv rfl) ?_
      refine Go.Sx.V rfl (wg rfl rfl) rfl rfl (iad rfl rfl ty90 hs.sl (by omega) (by omega)) ?_
      refine Go.Sx.V rfl (wg rfl rfl) rfl rfl (ldE rfl na4 hs.sl (seenL_get x n (npow x n))) ?_
      refine Go.Sx.V rfl (wg rfl rfl) rfl rfl (notB rfl) ?_
      refine Go.Sx.V rfl wu rfl rfl (pk rfl rfl) ?_
      exact join rfl) (by
      intro _
      refine SK rfl rfl rfl rfl rfl ?_
      refine SK rfl rfl rfl rfl rfl ?_
      refine SK rfl rfl rfl rfl rfl ?_
      refine SK rfl rfl rfl rfl rfl ?_
      refine SK rfl rfl rfl rfl rfl ?_
      refine Go.Sx.V rfl wu rfl rfl (pk rfl rfl) ?_
      exact join rfl) ?_
  refine wr_nil (post_thenN ?_)
  refine wc_cond rfl ?_ ?_
  · intro hc
    simp only [Bool.and_eq_true, decide_eq_true_eq, Bool.not_eq_true'] at hc
    refine wc_skip (post_thenN (wc_seq (wc_block (wc_seq ?_))))
    have hn0 : npow x n ≠ 0 := fun e => hc.1 (by rw [e]; rfl)
    have hD' := hD.succ hn0 hc.2
    have hDl' := hD'.le
    refine wc_region [0,1,2,3] rfl ?_
    refine Go.Sx.V rfl wu rfl rfl (mv rfl) ?_
    refine Go.Sx.V rfl wu rfl rfl (mv rfl) ?_
    refine Go.Sx.V rfl wu rfl rfl (iad rfl rfl ty90 hs.sl (by omega) (by omega)) ?_
    refine ST rfl wu rfl rfl sz4 rfl (by intro h; cases h) ?_ hs (by omega) (by omega)
    intro w6 hg6 hs6
    rw [seenL_succ] at hs6
    refine wr_nil (post_thenN ?_)
    replace ho : OwnI w1.heap.size w6 out 3 (pows x n) := Own.kept ho hg6 (.inl hne)
    replace hE := hE.grown hg6 hs (Nat.le_refl _)
    clear hs hg6 hi
    refine wc_region [0,1,2,3,4] rfl ?_
    refine Go.Sx.V rfl wu rfl rfl (mv rfl) ?_
    refine Go.Sx.V rfl wu rfl rfl (mv rfl) ?_
    refine BSI (zs := [(npow x n).1]) rfl wu rfl rfl rfl rfl ty22 ?_
    intro lit w7 hE7 hlo hli hlb
    replace ho := ho.ext hE7
    replace hE := hE.trans hE7
    have hs7 := hs6.ext hE7
    clear hlo
    refine API rfl wu rfl rfl rfl ty22 (by intro h h2; cases h) ?_
    intro out' w8 hg8 hX8 ho8 hi8 hb8
    refine Go.Sx.V rfl wu rfl rfl (asg rfl) ?_
    refine wr_nil (post_blockN (post_thenN ?_))
    have hs8 : Own w1.heap.size w8 seen 4 (seenL x (n + 1)) := Own.kept hs7 hg8 (.inl (Ne.symm hne))
    have hE8 := hX8 _ (Nat.le_refl _) hE
    have hne' : out'.ownBlock ≠ seen.ownBlock := by
      rcases hb8 with e | e
      · rw [e]; exact hne
      · rw [e]
        intro e'
        have := (hs7.lt _ e'.symm).2
        omega
    have hgo' : ∃ go, out'.ownBlock = some go := by
      rcases hb8 with e | e
      · exact ⟨go, e.trans hgo⟩
      · exact ⟨_, e⟩
    rw [pows_succ] at ho8
    clear hE hg8 hX8 hb8 hi8 hs7 hs6 hlb hli ho
    refine wc_region [0,1,2,3,4] rfl ?_
    refine Go.Sx.V rfl wu rfl rfl (ldA rfl ag24) ?_
    refine Go.Sx.V rfl wu rfl rfl (mv rfl) ?_
    refine Go.Sx.V rfl wu rfl rfl (mv rfl) ?_
    refine C rfl wu rfl rfl Tryz.call118 (fMul P mo md (npow x n) x _ (hFA.ext hE8)) ?_
    rintro _ w9 hE9 rfl
    refine Go.Sx.V rfl wu rfl rfl (asg rfl) ?_
    refine wr_nil ?_
    exact post_loopN (n + 1, out') ⟨rfl, rfl, rfl, rfl, rfl, rfl, trivial⟩ ⟨by omega, hD', hE8.trans hE9, ho8.ext hE9, hs8.ext hE9, hne', hgo'⟩ (by show n1 P + 1 - (n + 1) < n1 P + 1 - n; omega)
  · intro hc
    refine wc_exit (post_thenE (post_loopE (post_blockX (post_thenN (wc_seq ?_)))))
    refine wc_region [0,1] rfl ?_
    refine Go.Sx.V rfl wu rfl rfl (mv rfl) ?_
    refine Go.Sx.V rfl wu rfl rfl (asg rfl) ?_
    refine wr_nil (post_thenN (wc_ret ?_))
    refine post_ret1 rfl rfl ?_
    refine ⟨hE1.trans hE, n, ⟨hn, hD, ?_⟩, ho.mono hE1.size, go, hgo⟩
    by_cases h0 : npow x n = 0
    · exact .inl h0
    · refine .inr ?_
      have h0' : ¬ (npow x n).1 = 0 := fun e => h0 (Subtype.ext e)
      simpa [h0'] using hc
theorem zero_no_order {P : FP} : ¬ HasOrder (0 : K P) (n1 P) := fun h => by
  have := h.2.1
  rw [zero_npow n1_pos] at this
  exact one_ne_zero this.symm
theorem mul_last {P : FP} (z : K P) : npow z (P.q - 2).toNat * z = npow z (n1 P) := by
  have := P.q_two
  have := n1_eq (P := P)
  rw [← npow_succ]
  congr 1
  omega
set_option maxRecDepth 10000 in
theorem fGenerator (P : FP) (mo : Value) (md : List Int) (w : World) (hF : FV w P mo md) :
    Calls Tryz.prog 83 #[fv P mo, .int .i64 P.q] w (RetX w fun v w' =>
      (v = .slice none 0 0 ∧ ∀ x : K P, ¬ HasOrder x (n1 P)) ∨ (∃ x : K P, HasOrder x (n1 P) ∧ Ints w' v (pows x (n1 P)) ∧ ∃ g, v.ownBlock = some g)) := by
  have hq := hF.q
  have hq2 := P.q_two
  have hn1 := n1_eq (P := P)
  refine calls2 Tryz.func83 rfl rfl ?_
  refine wc_seq ?_
  refine wc_region [0,1] rfl ?_
  refine BXA rfl wu rfl rfl ?_
  intro g w1 hE1 hB hg
  refine Go.Sx.V rfl wu rfl rfl (asg rfl) ?_
  refine wr_nil (post_thenN (wc_seq (wc_seq ?_)))
  have hFA := hF.ext hE1
  have hE := Ext.refl w1
  refine wc_region [0] rfl ?_
  refine Go.Sx.V rfl wu rfl rfl (asg rfl) ?_
  refine wr_nil (post_thenN (wc_block ?_))
  refine wc_loop (fun x : Int => [(1, .int .i64 P.q), (2, .pointer (some ⟨g, 0, none⟩)), (5, .int .i64 x)])
    (fun x w' => 1 ≤ x ∧ x ≤ P.q ∧ Ext w1 w' ∧ ∀ z : K P, z.1 < x → ¬ HasOrder z (n1 P)) (fun x => (P.q - x).toNat) 1 ⟨rfl, rfl, rfl, trivial⟩ ⟨by omega, by omega, hE, fun z hz => (by
      have : z = 0 := Subtype.ext (by have := z.2.1; show z.1 = 0; omega)
      rw [this]
      exact zero_no_order)⟩ ?_
  clear hE
  rintro x w2 ⟨h0, h1, hE, hno⟩
  try dsimp only
  refine wc_seq (wc_seq ?_)
  refine wc_region [0,1,2] rfl ?_
  refine Go.Sx.V rfl wu rfl rfl (mv rfl) ?_
  refine Go.Sx.V rfl wu rfl rfl (mv rfl) ?_
  refine Go.Sx.V rfl wu rfl rfl (lssI rfl rfl) ?_
  refine wr_nil (post_thenN ?_)
  refine wc_cond rfl ?_ ?_
  · intro hx
    simp at hx
    refine wc_skip (post_thenN (wc_seq (wc_block (wc_seq ?_))))
    obtain ⟨z, hz⟩ : ∃ z : K P, z.1 = x := ⟨⟨x, by omega, hx⟩, rfl⟩
    subst hz
    refine wc_region [0,1,2,3,4] rfl ?_
    refine Go.Sx.V rfl wu rfl rfl (ldA rfl ag24) ?_
    refine Go.Sx.V rfl wu rfl rfl (mv rfl) ?_
    refine Go.Sx.V rfl wu rfl rfl (mv rfl) ?_
    refine C rfl wu rfl rfl Tryz.call117 (fPowers P mo md z _ (hFA.ext hE)) ?_
    rintro p w3 hE3 ⟨n, hst, hp, gp, hgp⟩
    replace hE := hE.trans hE3
    refine Go.Sx.V rfl wu rfl rfl (asg rfl) ?_
    refine wr_nil (post_thenN (wc_seq ?_))
    have hpi := hp.ints
    have hpl := pows_length z n
    have hDl := hst.2.1.le
    refine wc_draw mixed [0,1,2,3,4,5,6,7,8,9,10,11,12,13,14,15] (by kernel_rfl) ?_
    intro w4 hd _
    replace hE := hE.trans hd
    replace hpi := hpi.ext hd
    refine Go.Sx.V rfl wu rfl rfl (mv rfl) ?_
    refine Go.Sx.V rfl wu rfl rfl (lenI rfl ty22) ?_
    refine Go.Sx.V rfl wu rfl rfl (mv rfl) ?_
    refine Go.Sx.V rfl wu rfl rfl (subI rfl rfl) ?_
    refine Go.Sx.V rfl wu rfl rfl (eqlI rfl rfl) ?_
    refine Go.Sx.V rfl wu rfl rfl (mv rfl) ?_
    refine ANDX (π1 := [6,7,8,9,10,11,12,13,14,15]) (π2 := []) (tc := 21) (tp := 31) rfl rfl rfl (by
        intro hg
        simp at hg
        refine Go.Sx.V rfl (wg rfl rfl) rfl rfl (ldA rfl ag24) ?_
        refine Go.Sx.V rfl (wg rfl rfl) rfl rfl (mv rfl) ?_
        refine Go.Sx.V rfl (wg rfl rfl) rfl rfl (mv rfl) ?_
        refine Go.Sx.V rfl (wg rfl rfl) rfl rfl (subI rfl rfl) ?_
        refine Go.Sx.V rfl (wg rfl rfl) rfl rfl (iadI rfl rfl ty22) ?_
        refine Go.Sx.V rfl (wg rfl rfl) rfl rfl (ldI rfl na3) ?_
        refine Go.Sx.V rfl (wg rfl rfl) rfl rfl (mv rfl) ?_
        try rw [pows_get z (by omega) (by omega)]
        refine C rfl (wg rfl rfl) rfl rfl Tryz.call118 (fMul P mo md (npow z (P.q - 2).toNat) z _ (hFA.ext hE)) ?_
        rintro _ w5 hE5 rfl
        refine Go.Sx.V rfl (wg rfl rfl) rfl rfl (eqlI rfl rfl) ?_
        refine Go.Sx.V rfl wu rfl rfl (pk rfl rfl) ?_
        exact joinX rfl) (by
        intro _
        refine SK rfl rfl rfl rfl rfl ?_
        refine SK rfl rfl rfl rfl rfl ?_
        refine SK rfl rfl rfl rfl rfl ?_
        refine SK rfl rfl rfl rfl rfl ?_
        refine SK rfl rfl rfl rfl rfl ?_
        refine SK rfl rfl rfl rfl rfl ?_
        refine SK rfl rfl rfl rfl rfl ?_
        try rw [pows_get z (by omega) (by omega)]
        refine SK rfl rfl rfl rfl rfl ?_
        refine SK rfl rfl rfl rfl rfl ?_
        refine Go.Sx.V rfl wu rfl rfl (pk rfl rfl) ?_
        exact joinX rfl) ?_
    intro w6 hE6
    refine wr_nil (post_thenN ?_)
    replace hE := hE.trans hE6
    replace hpi := hpi.ext hE6
    rw [mul_last]
    refine wc_cond rfl ?_ ?_
    · intro hc
      simp only [Bool.and_eq_true, decide_eq_true_eq] at hc
      refine wc_seq ?_
      refine wc_region [0,1] rfl ?_
      refine Go.Sx.V rfl wu rfl rfl (mv rfl) ?_
      refine Go.Sx.V rfl wu rfl rfl (asg rfl) ?_
      refine wr_nil (post_thenN (wc_ret (post_blockR (post_thenR (post_loopR (post_blockR (post_thenR ?_)))))))
      refine post_ret1 rfl rfl ?_
      have hn : n = n1 P := by omega
      have hone : npow z (n1 P) = 1 := Subtype.ext hc.2
      refine ⟨hE1.trans hE, .inr ⟨z, hst.order hn (by rw [hn]; exact hone), ?_, gp, hgp⟩⟩
      rw [← hn]
      exact hpi
    · intro hc
      refine wc_skip (post_blockN (post_thenN ?_))
      refine wc_region [0,1,2] rfl ?_
      refine Go.Sx.V rfl wu rfl rfl (mv rfl) ?_
      refine Go.Sx.V rfl wu rfl rfl (addI rfl rfl) ?_
      refine Go.Sx.V rfl wu rfl rfl (asg rfl) ?_
      refine wr_nil ?_
      exact post_loopN (z.1 + 1) ⟨rfl, rfl, rfl, trivial⟩ ⟨by omega, by omega, hE, fun y hy ho => (by
        by_cases e : y.1 = z.1
        · have e' : y = z := Subtype.ext e
          subst e'
          obtain ⟨e1, e2⟩ := hst.of_order ho
          have h3 : ((pows y n).length : Int) = P.q - 1 := by omega
          have h4 : (npow y (n1 P)).1 = 1 := by rw [← e1, e2]; rfl
          simp [h3, h4] at hc
        · exact hno y (by omega) ho)⟩ (by omega)
  · intro hx
    simp at hx
    refine wc_exit (post_thenE (post_loopE (post_blockX (post_thenN (wc_seq ?_)))))
    refine wc_region [0] rfl ?_
    refine Go.Sx.V rfl wu rfl rfl (asg rfl) ?_
    refine wr_nil (post_thenN (wc_ret ?_))
    refine post_ret1 rfl rfl ?_
    exact ⟨hE1.trans hE, .inl ⟨rfl, fun y => hno y (by have := y.2.2; omega)⟩⟩
end Go.Proofs.YtmnojknfjbimdaaGreat

