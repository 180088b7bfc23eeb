/-
  The package bivariate, by contract, part 2: weighted, Degree, shift, Multiplicity.
-/
import Derived.Test.YtmnojknfjbimdaaGreatWBiv1
import Derived.Test.YtmnojknfjbimdaaGreatWMPa
namespace Go.Proofs.YtmnojknfjbimdaaGreat
open Go Go.Sx Go.Pl Go.RowKit Go.Fd Go.Alg
set_option maxRecDepth 10000 in
theorem bWeighted (P : FP) (u : Value) (F : Pol (Pol (K P))) (wt : Int) (nx _ : Nat) (w : World) (hu : LL w u (bcl F)) (hw : 0 ≤ wt ∧ wt ≤ 256) (hx : XB nx F) (hnx : nx ≤ 1048576) (hny : (bcl F).length ≤ 1048576) :
    Calls Tryz.prog 90 #[u, .int .i64 wt] w (RetX w fun r _ => r = .int .i64 (wdg F wt)) := by
  obtain ⟨rows, hs, hrl, hrr⟩ := hu.row
  refine calls2 Tryz.func90 rfl rfl ?_
  refine wc_seq ?_
  refine wc_region [0] rfl ?_
  refine Go.Sx.V rfl wu rfl rfl (asg rfl) ?_
  refine wr_nil (post_thenN (wc_seq ?_))
  refine wc_region [0] rfl ?_
  refine Go.Sx.V rfl wu rfl rfl (asg rfl) ?_
  refine wr_nil (post_thenN (wc_seq (wc_seq ?_)))
  refine wc_region [0,1,2] rfl ?_
  refine Go.Sx.V rfl wu rfl rfl (mv rfl) ?_
  refine Go.Sx.V rfl wu rfl rfl (lenS rfl ty30 hs) ?_
  refine Go.Sx.V rfl wu rfl rfl (mv rfl) ?_
  refine wr_nil (post_thenN (wc_block ?_))
  rw [hrl]
  refine wc_loop (fun i : Nat => [(1, .int .i64 wt), (5, .int .i64 (wdN F wt i)), (8, u), (9, .int .i64 (bcl F).length), (10, .int .i64 i)])
    (fun i w' => i ≤ (bcl F).length ∧ w' = w) (fun i => (bcl F).length - i) 0 ⟨rfl, rfl, rfl, rfl, rfl, trivial⟩ ⟨by omega, rfl⟩ ?_
  rintro i w1 ⟨i1, rfl⟩
  have hb := wdN_lo F hw.1 hx i
  have hwi : 0 ≤ wt * (i : Int) ∧ wt * (i : Int) ≤ 256 * 1048576 := ⟨Int.mul_nonneg hw.1 (by omega), Int.mul_le_mul hw.2 (by omega) (by omega) (by omega)⟩
  have hlen : (cl (F.co i)).length ≤ nx := cl_len (hx i)
  try dsimp only
  refine wc_seq ?_
  refine wc_region [0] rfl ?_
  refine Go.Sx.V rfl wu rfl rfl (lssI rfl rfl) ?_
  refine wr_nil (post_thenN (wc_seq ?_))
  refine wc_cond rfl ?_ ?_
  · intro hc
    simp at hc
    obtain ⟨r, hr, hri⟩ := hrr i hc
    rw [bcl_row] at hri
    have hstep : wdN F wt (i + 1) = if cl (F.co i) = [] then wdN F wt i else max (wdN F wt i) ((cl (F.co i)).length - 1 + wt * i) := rfl
    refine wc_skip (post_thenN (wc_seq (wc_block (wc_seq ?_))))
    refine wc_region [0,1,2,3,4] rfl ?_
    refine Go.Sx.V rfl wu rfl rfl (mv rfl) ?_
    refine Go.Sx.V rfl wu rfl rfl (iad rfl rfl ty30 hs (by omega) (by omega)) ?_
    refine Go.Sx.V rfl wu rfl rfl (ldE rfl na22 hs hr) ?_
    refine Go.Sx.V rfl wu rfl rfl (asg rfl) ?_
    refine Go.Sx.V rfl wu rfl rfl (asg rfl) ?_
    refine wr_nil (post_thenN (wc_seq ?_))
    refine wc_region [0,1,2] rfl ?_
    refine Go.Sx.V rfl wu rfl rfl (mv rfl) ?_
    refine Go.Sx.V rfl wu rfl rfl (lenI rfl ty22) ?_
    refine Go.Sx.V rfl wu rfl rfl (gtrI rfl rfl) ?_
    refine wr_nil (post_thenN ?_)
    refine wc_cond rfl ?_ ?_
    · intro h1
      simp at h1
      have hne : cl (F.co i) ≠ [] := List.ne_nil_of_length_pos (by omega)
      rw [if_neg hne] at hstep
      refine wc_region [0,1,2,3,4,5,6,7,8,9] rfl ?_
      refine Go.Sx.V rfl wu rfl rfl (mv rfl) ?_
      refine Go.Sx.V rfl wu rfl rfl (mv rfl) ?_
      refine Go.Sx.V rfl wu rfl rfl (lenI rfl ty22) ?_
      refine Go.Sx.V rfl wu rfl rfl (subI rfl rfl) ?_
      refine Go.Sx.V rfl wu rfl rfl (mv rfl) ?_
      refine Go.Sx.V rfl wu rfl rfl (mv rfl) ?_
      refine Go.Sx.V rfl wu rfl rfl (mulI rfl rfl) ?_
      refine Go.Sx.V rfl wu rfl rfl (addI rfl rfl) ?_
      refine Go.Sx.V rfl wu rfl rfl (maxI rfl rfl) ?_
      refine Go.Sx.V rfl wu rfl rfl (asg rfl) ?_
      refine wr_nil (post_blockN (post_thenN ?_))
      refine wc_region [0,1] rfl ?_
      refine Go.Sx.V rfl wu rfl rfl (addI rfl rfl) ?_
      refine Go.Sx.V rfl wu rfl rfl (mv rfl) ?_
      refine wr_nil ?_
      exact post_loopN (i + 1) ⟨rfl, by rw [hstep]; rfl, rfl, rfl, rfl, trivial⟩ ⟨by omega, rfl⟩ (by omega)
    · intro h1
      simp at h1
      rw [if_pos h1] at hstep
      refine wc_skip (post_blockN (post_thenN ?_))
      refine wc_region [0,1] rfl ?_
      refine Go.Sx.V rfl wu rfl rfl (addI rfl rfl) ?_
      refine Go.Sx.V rfl wu rfl rfl (mv rfl) ?_
      refine wr_nil ?_
      exact post_loopN (i + 1) ⟨rfl, by rw [hstep]; rfl, rfl, rfl, rfl, trivial⟩ ⟨by omega, rfl⟩ (by omega)
  · intro hc
    simp at hc
    refine wc_exit (post_thenE (post_loopE (post_blockX (post_thenN (wc_seq ?_)))))
    refine wc_region [0,1] rfl ?_
    refine Go.Sx.V rfl wu rfl rfl (mv rfl) ?_
    refine Go.Sx.V rfl wu rfl rfl (asg rfl) ?_
    refine wr_nil (post_thenN (wc_ret ?_))
    refine post_ret1 rfl rfl ?_
    exact ⟨Ext.refl _, by rw [show i = (bcl F).length by omega]; rfl⟩
set_option maxRecDepth 10000 in
theorem bDegree (P : FP) (g u : Value) (A : List (List Int)) (wt : Int) (na : Nat) (w : World) (hG : GFV w P g) (hu : LL w u A) (hA : RB na A) (hna : na ≤ 1048576) (hl : A.length ≤ 1048576) :
    Calls Tryz.prog 59 #[g, u, .int .i64 wt] w (RetX w fun r _ => (¬ (0 ≤ wt ∧ wt ≤ 256) ∧ r = .tuple #[.int .i64 0, .int .i64 6]) ∨ ((0 ≤ wt ∧ wt ≤ 256) ∧ r = .tuple #[.int .i64 (wdg (bz P A) wt), .int .i64 0])) := by
  refine calls3 Tryz.func59 rfl rfl ?_
  refine wc_seq ?_
  refine wc_region [0,1] rfl ?_
  refine Go.Sx.V rfl wu rfl rfl (asg rfl) ?_
  refine Go.Sx.V rfl wu rfl rfl (asg rfl) ?_
  refine wr_nil (post_thenN (wc_seq (wc_seq ?_)))
  refine wc_region [0,1,2,3,4,5] rfl ?_
  refine Go.Sx.V rfl wu rfl rfl (mv rfl) ?_
  refine Go.Sx.V rfl wu rfl rfl (lssI rfl rfl) ?_
  refine Go.Sx.V rfl wu rfl rfl (mv rfl) ?_
  refine OR (π1 := [3,4,5]) (π2 := []) (tc := 10) (tp := 13) rfl rfl rfl (by
      intro _
      refine SK rfl rfl rfl rfl rfl ?_
      refine SK rfl rfl rfl rfl rfl ?_
      refine Go.Sx.V rfl wu rfl rfl (pk rfl rfl) ?_
      exact join rfl) (by
      intro hg
      simp at hg
      refine Go.Sx.V rfl (wg rfl rfl) rfl rfl (mv rfl) ?_
      refine Go.Sx.V rfl (wg rfl rfl) rfl rfl (gtrI rfl rfl) ?_
      refine Go.Sx.V rfl wu rfl rfl (pk rfl rfl) ?_
      exact join rfl) ?_
  refine wr_nil (post_thenN ?_)
  refine wc_cond rfl ?_ ?_
  · intro h
    simp at h
    refine wc_seq ?_
    refine wc_region [0,1] rfl ?_
    refine Go.Sx.V rfl wu rfl rfl (asg rfl) ?_
    refine Go.Sx.V rfl wu rfl rfl (asg rfl) ?_
    refine wr_nil (post_thenN (wc_ret (post_thenR ?_)))
    refine post_ret2 rfl rfl rfl ?_
    exact ⟨Ext.refl _, .inl ⟨by omega, rfl⟩⟩
  · intro h
    simp at h
    refine wc_skip (post_thenN (wc_seq ?_))
    refine wc_region [0,1,2,3,4,5,6] rfl ?_
    refine Go.Sx.V rfl wu rfl rfl (mv rfl) ?_
    refine Go.Sx.V rfl wu rfl rfl (mv rfl) ?_
    refine C rfl wu rfl rfl Tryz.call58 (bCanon P g u A _ hG hu (hA.mono (by omega)) (by omega)) ?_
    intro c w1 hE hc
    refine Go.Sx.V rfl wu rfl rfl (mv rfl) ?_
    refine C rfl wu rfl rfl Tryz.call90 (bWeighted P c (bz P A) wt na A.length _ hc.ll ⟨by omega, by omega⟩ hA.xb hna (Nat.le_trans (bcl_bz_len A) hl)) ?_
    rintro _ w2 hE2 rfl
    refine Go.Sx.V rfl wu rfl rfl (asg rfl) ?_
    refine Go.Sx.V rfl wu rfl rfl (asg rfl) ?_
    refine wr_nil (post_thenN (wc_ret ?_))
    refine post_ret2 rfl rfl rfl ?_
    exact ⟨hE.trans hE2, .inr ⟨⟨by omega, by omega⟩, rfl⟩⟩
set_option maxRecDepth 10000 in
theorem bShift (P : FP) (g u : Value) (z : List Int) (a : Int) (w : World) (hG : GFV w P g) (hu : Ints w u z) (hn : z.length ≤ 17592186044416) :
    Calls Tryz.prog 91 #[g, u, .int .i64 a] w (RetX w fun r w' => OwnI w.heap.size w' r 3 (shl (inK P a) (pz P z))) := by
  have hfl := cl_pz_len (P := P) z
  refine calls3 Tryz.func91 rfl rfl ?_
  refine wc_seq ?_
  refine wc_region [0] rfl ?_
  refine Go.Sx.V rfl wu rfl rfl (asg rfl) ?_
  refine wr_nil (post_thenN (wc_seq ?_))
  refine wc_region [0,1,2,3] rfl ?_
  refine Go.Sx.V rfl wu rfl rfl (mv rfl) ?_
  refine Go.Sx.V rfl wu rfl rfl (mv rfl) ?_
  refine C rfl wu rfl rfl Tryz.call88 (pCanon P g u z _ hG hu hn) ?_
  intro out w1 hE1 ho
  refine Go.Sx.V rfl wu rfl rfl (asg rfl) ?_
  refine wr_nil (post_thenN (wc_seq (wc_seq ?_)))
  generalize pz P z = f at *
  obtain ⟨n, hnn⟩ : ∃ n, n = (cl f).length := ⟨_, rfl⟩
  have hoi := OwnI.ints ho
  refine wc_region [0,1,2] rfl ?_
  refine Go.Sx.V rfl wu rfl rfl (mv rfl) ?_
  refine Go.Sx.V rfl wu rfl rfl (lenI rfl ty22) ?_
  refine Go.Sx.V rfl wu rfl rfl (mv rfl) ?_
  refine wr_nil (post_thenN (wc_block ?_))
  clear hoi
  rw [← hnn] at hfl ⊢
  refine wc_loop (fun s : Nat × List Int => [(0, g), (2, .int .i64 a), (7, out), (13, out), (14, .int .i64 n), (15, .int .i64 s.1)])
    (fun s w' => s.1 ≤ n ∧ Ext w w' ∧ OwnI w.heap.size w' out 3 s.2 ∧ s.2.length = n ∧ Lo P.q s.2 ∧ Outer (inK P a) f (pz P s.2) s.1) (fun s => n - s.1) (0, cl f) ⟨rfl, rfl, rfl, rfl, rfl, rfl, trivial⟩ ⟨by omega, hE1, ho, hnn.symm, lo_cl f, by show Outer _ _ (pz P (cl f)) 0; rw [pz_cl]; exact Outer.first _ _⟩ ?_
  clear hE1 ho
  rintro ⟨i, c⟩ w4 ⟨i1, hE, ho, hl, hlo, hout⟩
  dsimp only at i1 ho hl hlo hout
  try dsimp only
  refine wc_seq ?_
  refine wc_region [0] rfl ?_
  refine Go.Sx.V rfl wu rfl rfl (lssI rfl rfl) ?_
  refine wr_nil (post_thenN (wc_seq ?_))
  refine wc_cond rfl ?_ ?_
  · intro hc
    simp at hc
    refine wc_skip (post_thenN (wc_seq (wc_block (wc_seq ?_))))
    refine wc_region [0,1] rfl ?_
    refine Go.Sx.V rfl wu rfl rfl (mv rfl) ?_
    refine Go.Sx.V rfl wu rfl rfl (asg rfl) ?_
    refine wr_nil (post_thenN (wc_seq ?_))
    have hoi := OwnI.ints ho
    refine wc_region [0,1,2,3] rfl ?_
    refine Go.Sx.V rfl wu rfl rfl (mv rfl) ?_
    refine Go.Sx.V rfl wu rfl rfl (lenI rfl ty22) ?_
    refine Go.Sx.V rfl wu rfl rfl (subI rfl rfl) ?_
    refine Go.Sx.V rfl wu rfl rfl (asg rfl) ?_
    refine wr_nil (post_thenN (wc_block ?_))
    rw [hl]
    refine wc_loop (fun s : Nat × List Int => [(0, g), (2, .int .i64 a), (7, out), (8, .int .i64 i), (9, .int .i64 ((s.1 : Int) - 1)), (13, out), (14, .int .i64 n), (15, .int .i64 i)])
      (fun s w' => i ≤ s.1 ∧ s.1 < n ∧ Ext w w' ∧ OwnI w.heap.size w' out 3 s.2 ∧ s.2.length = n ∧ Lo P.q s.2 ∧ Inner (inK P a) (pz P c) (pz P s.2) s.1) (fun s => s.1) (n - 1, c) ⟨rfl, rfl, rfl, rfl, by show _ = some (Value.int .i64 (((n - 1 : Nat) : Int) - 1)); rw [show ((n - 1 : Nat) : Int) - 1 = (n : Int) - 2 by omega]; rfl, rfl, rfl, rfl, trivial⟩
      ⟨by show i ≤ n - 1; omega, by show n - 1 < n; omega, hE, ho, hl, hlo, Inner.first _ (fun t ht => co_pz_over (by omega))⟩ ?_
    clear hE ho hoi
    clear w4
    rintro ⟨j, d⟩ w4 ⟨j0, j1, hE, ho, hdl, hdlo, hin⟩
    dsimp only at j0 j1 ho hdl hdlo hin
    have hoi := OwnI.ints ho
    try dsimp only
    refine wc_seq (wc_seq ?_)
    refine wc_region [0,1,2] rfl ?_
    refine Go.Sx.V rfl wu rfl rfl (mv rfl) ?_
    refine Go.Sx.V rfl wu rfl rfl (mv rfl) ?_
    refine Go.Sx.V rfl wu rfl rfl (geqI rfl rfl) ?_
    refine wr_nil (post_thenN ?_)
    refine wc_cond rfl ?_ ?_
    · intro hc2
      simp at hc2
      refine wc_skip (post_thenN (wc_seq (wc_block ?_)))
      refine wc_draw mixed [0,1,2,3,4,5,6,7,8,9,10,11,12,13,14,15,16,17] (by kernel_rfl) ?_
      intro w5 hd _
      replace hE := hE.trans hd
      replace hoi := hoi.ext hd
      replace ho := ho.ext hd
      refine Go.Sx.V rfl wu rfl rfl (mv rfl) ?_
      refine Go.Sx.V rfl wu rfl rfl (mv rfl) ?_
      refine Go.Sx.V rfl wu rfl rfl (mv rfl) ?_
      refine Go.Sx.V rfl wu rfl rfl (mv rfl) ?_
      refine Go.Sx.V rfl wu rfl rfl (mv rfl) ?_
      refine Go.Sx.V rfl wu rfl rfl (iadI rfl rfl ty22) ?_
      refine Go.Sx.V rfl wu rfl rfl (ldI rfl na3) ?_
      refine Go.Sx.V rfl wu rfl rfl (mv rfl) ?_
      refine Go.Sx.V rfl wu rfl rfl (mv rfl) ?_
      refine Go.Sx.V rfl wu rfl rfl (mv rfl) ?_
      refine Go.Sx.V rfl wu rfl rfl (mv rfl) ?_
      refine Go.Sx.V rfl wu rfl rfl (addI rfl rfl) ?_
      refine Go.Sx.V rfl wu rfl rfl (iadI rfl rfl ty22) ?_
      refine Go.Sx.V rfl wu rfl rfl (ldI rfl na3) ?_
      refine C rfl wu rfl rfl Tryz.call87 (gMul P g _ _ _ (hG.ext hE)) ?_
      rintro _ w6 hE6 rfl
      replace hE := hE.trans hE6
      refine C rfl wu rfl rfl Tryz.call124 (gAdd P g _ _ _ (hG.ext hE)) ?_
      rintro _ w7 hE7 rfl
      replace hE := hE.trans hE7
      replace ho := Own.ext ho (hE6.trans hE7)
      replace hoi := OwnI.ints ho
      refine Go.Sx.V rfl wu rfl rfl (iadI rfl rfl ty22) ?_
      refine STI rfl wu rfl rfl sz3 (by intro h; kernel_rfl) ?_
      intro w8 hg8 hX8 ho8 hi8
      refine wr_nil (post_blockN (post_thenN ?_))
      rw [inK_val] at ho8
      refine wc_region [0,1,2] rfl ?_
      refine Go.Sx.V rfl wu rfl rfl (mv rfl) ?_
      refine Go.Sx.V rfl wu rfl rfl (subI rfl rfl) ?_
      refine Go.Sx.V rfl wu rfl rfl (asg rfl) ?_
      refine wr_nil ?_
      refine post_loopN (j - 1, si d ((j : Int) - 1) (inK P (gi d ((j : Int) - 1)) + inK P a * inK P (gi d ((j : Int) - 1 + 1))).1) ⟨rfl, rfl, rfl, rfl, by show _ = some (Value.int .i64 (((j - 1 : Nat) : Int) - 1)); rw [show ((j - 1 : Nat) : Int) = (j : Int) - 1 by omega]; rfl, rfl, rfl, rfl, trivial⟩
        ⟨by show i ≤ j - 1; omega, by show j - 1 < n; omega, hX8 _ (Nat.le_refl _) hE, ho8, by show (si d _ _).length = n; rw [si_length, hdl], lo_si2 hdlo (Subtype.property (inK P (gi d ((j : Int) - 1)) + inK P a * inK P (gi d ((j : Int) - 1 + 1)))), ?_⟩ (by show j - 1 < j; omega)
      show Inner (inK P a) (pz P c) (pz P (si d ((j : Int) - 1) _)) (j - 1)
      refine Inner.step (c := pz P d) (j := j - 1) (by rw [show j - 1 + 1 = j by omega]; exact hin) (fun t => ?_)
      rw [co_pz_si (by omega) (by omega), show ((j : Int) - 1).toNat = j - 1 by omega, inK_val, co_gi d (by omega), co_gi d (by omega), show ((j : Int) - 1).toNat = j - 1 by omega, show ((j : Int) - 1 + 1).toNat = j - 1 + 1 by omega]
    · intro hc2
      simp at hc2
      obtain rfl : j = i := by omega
      refine wc_exit (post_thenE (post_loopE (post_blockX (post_blockN (post_thenN ?_)))))
      refine wc_region [0,1] rfl ?_
      refine Go.Sx.V rfl wu rfl rfl (addI rfl rfl) ?_
      refine Go.Sx.V rfl wu rfl rfl (mv rfl) ?_
      refine wr_nil ?_
      exact post_loopN (j + 1, d) ⟨rfl, rfl, rfl, rfl, rfl, rfl, trivial⟩ ⟨by show j + 1 ≤ n; omega, hE, ho, hdl, hdlo, hout.step hin⟩ (by show n - (j + 1) < n - j; omega)
  · intro hc
    simp at hc
    refine wc_exit (post_thenE (post_loopE (post_blockX (post_thenN (wc_seq ?_)))))
    refine wc_region [0,1] rfl ?_
    refine Go.Sx.V rfl wu rfl rfl (mv rfl) ?_
    refine Go.Sx.V rfl wu rfl rfl (asg rfl) ?_
    refine wr_nil (post_thenN (wc_ret ?_))
    refine post_ret1 rfl rfl ?_
    have e := Outer.last (n := n) (fun t ht => co_pz_over (z := c) (by omega)) (by rw [show n = i by omega]; exact hout)
    have e2 : shl (inK P a) f = c := by
      rw [list_pz hlo, hl, e, shl, hnn]
    rw [e2]
    exact ⟨hE, ho⟩
theorem seen_step (i j : Nat) : ∀ s t, (s < i ∨ (s = i ∧ t < j + 1)) ↔ (s < i ∨ (s = i ∧ t < j)) ∨ (s = i ∧ t = j) := fun s t => by omega
set_option maxRecDepth 10000 in
theorem bMultiplicity (P : FP) (g u : Value) (A : List (List Int)) (x y : Int) (na : Nat) (w : World) (hG : GFV w P g) (hu : LL w u A) (hA : RB na A) (hna : na ≤ 1048576) (hl : A.length ≤ 1048576) :
    Calls Tryz.prog 61 #[g, u, .int .i64 x, .int .i64 y] w (RetX w fun r _ => ∃ v, r = .int .i64 v ∧ MulIs (inK P x) (inK P y) (bz P A) v) := by
  refine calls4 Tryz.func61 rfl rfl ?_
  refine wc_seq ?_
  refine wc_region [0] rfl ?_
  refine Go.Sx.V rfl wu rfl rfl (asg rfl) ?_
  refine wr_nil (post_thenN (wc_seq ?_))
  refine wc_region [0,1,2,3] rfl ?_
  refine Go.Sx.V rfl wu rfl rfl (mv rfl) ?_
  refine Go.Sx.V rfl wu rfl rfl (mv rfl) ?_
  refine C rfl wu rfl rfl Tryz.call58 (bCanon P g u A _ hG hu (hA.mono (by omega)) (by omega)) ?_
  intro p w1 hE1 hp
  refine Go.Sx.V rfl wu rfl rfl (asg rfl) ?_
  refine wr_nil (post_thenN (wc_seq ?_))
  have hxb := hA.xb (P := P)
  have hnl : (bcl (bz P A)).length ≤ 1048576 := Nat.le_trans (bcl_bz_len A) hl
  generalize bz P A = F at *
  obtain ⟨n, hn⟩ : ∃ n, n = (bcl F).length := ⟨_, rfl⟩
  have hyb : YB n F := fun j hj => bcl_over F (by omega)
  rw [← hn] at hnl
  obtain ⟨rows, hs, hrl, hx0⟩ := hp.ll.row
  clear hx0
  refine wc_region [0] rfl ?_
  refine Go.Sx.V rfl wu rfl rfl (asg rfl) ?_
  refine wr_nil (post_thenN (wc_seq (wc_seq ?_)))
  refine wc_region [0,1,2] rfl ?_
  refine Go.Sx.V rfl wu rfl rfl (mv rfl) ?_
  refine Go.Sx.V rfl wu rfl rfl (lenS rfl ty30 hs) ?_
  refine Go.Sx.V rfl wu rfl rfl (mv rfl) ?_
  refine wr_nil (post_thenN (wc_block ?_))
  rw [hrl, ← hn]
  have hp0 : LO w.heap.size w1 p 22 (updB n (fun t => shl (inK P x) (F.co t)) (fun t => cl (F.co t)) 0) := by
    rw [updB_zero, ← (show bcl F = tab n fun t => cl (F.co t) from ?_)]
    · exact hp
    · apply List.ext_getElem
      · rw [tab_length, hn]
      · intro k h1 h2
        have := bcl_row F k
        rw [List.getD_eq_getElem?_getD, List.getElem?_eq_getElem h1, Option.getD_some] at this
        rw [this]
        simp [tab]
  refine wc_loop (fun s : Nat × Nat => [(0, g), (1, p), (2, .int .i64 x), (3, .int .i64 y), (9, .int .i64 s.2), (20, p), (21, .int .i64 n), (22, .int .i64 s.1)])
    (fun s w' => s.1 ≤ n ∧ Ext w w' ∧ LO w.heap.size w' p 22 (updB n (fun t => shl (inK P x) (F.co t)) (fun t => cl (F.co t)) s.1) ∧ s.2 ≤ na ∧ ∀ t, t < s.1 → (cl (F.co t)).length ≤ s.2) (fun s => n - s.1) (0, 0) ⟨rfl, rfl, rfl, rfl, rfl, rfl, rfl, rfl, trivial⟩ ⟨by omega, hE1, hp0, by show 0 ≤ na; omega, fun t ht => by omega⟩ ?_
  clear hE1 hp hp0 hs hrl
  clear w1
  rintro ⟨i, wd⟩ w1 ⟨i1, hE, hp, hwd, hwl⟩
  dsimp only at i1 hp hwd hwl
  obtain ⟨rows, hs, hrl, hrr⟩ := hp.ll.row
  rw [updB_length] at hrl
  try dsimp only
  refine wc_seq ?_
  refine wc_region [0] rfl ?_
  refine Go.Sx.V rfl wu rfl rfl (lssI rfl rfl) ?_
  refine wr_nil (post_thenN (wc_seq ?_))
  refine wc_cond rfl ?_ ?_
  · intro hc
    simp at hc
    obtain ⟨r, hr, hri⟩ := hrr i (by rw [updB_length]; exact hc)
    rw [updB_get hc, if_neg (by omega)] at hri
    have hlen : (cl (F.co i)).length ≤ na := cl_len (hxb i)
    have hul := updB_length n (fun t => shl (inK P x) (F.co t)) (fun t => cl (F.co t)) i
    refine wc_skip (post_thenN (wc_seq (wc_block (wc_seq ?_))))
    refine wc_region [0,1] rfl ?_
    refine Go.Sx.V rfl wu rfl rfl (mv rfl) ?_
    refine Go.Sx.V rfl wu rfl rfl (asg rfl) ?_
    refine wr_nil (post_thenN (wc_seq ?_))
    refine wc_region [0,1,2,3,4,5,6,7,8,9,10] rfl ?_
    refine Go.Sx.V rfl wu rfl rfl (mv rfl) ?_
    refine Go.Sx.V rfl wu rfl rfl (mv rfl) ?_
    refine Go.Sx.V rfl wu rfl rfl (mv rfl) ?_
    refine Go.Sx.V rfl wu rfl rfl (mv rfl) ?_
    refine Go.Sx.V rfl wu rfl rfl (mv rfl) ?_
    refine Go.Sx.V rfl wu rfl rfl (iad rfl rfl ty30 hs (by omega) (by omega)) ?_
    refine Go.Sx.V rfl wu rfl rfl (ldE rfl na22 hs hr) ?_
    refine Go.Sx.V rfl wu rfl rfl (mv rfl) ?_
    refine C rfl wu rfl rfl Tryz.call91 (bShift P g r _ x _ (hG.ext hE) hri (by omega)) ?_
    intro z w5 hE5 hz
    rw [pz_cl] at hz
    have hne := row_newI hp hz (Nat.le_refl _)
    replace hp := hp.ext hE5
    replace hE := hE.trans hE5
    refine Go.Sx.V rfl wu rfl rfl (iad rfl rfl ty30 hs (by omega) (by omega)) ?_
    refine STL rfl wu rfl rfl sz22 (by intro h; cases h) (OwnI.ints hz) (hne) ?_
    intro w6 hg6 hX6 hp6
    refine wr_nil (post_thenN ?_)
    rw [updB_step (f := fun t => shl (inK P x) (F.co t))] at hp6
    replace hE := hX6 _ (Nat.le_refl _) hE
    obtain ⟨rows6, hs6, hrl6, hrr6⟩ := hp6.ll.row
    rw [updB_length] at hrl6
    obtain ⟨r6, hr6, hri6⟩ := hrr6 i (by rw [updB_length]; exact hc)
    rw [updB_get hc, if_pos (by omega)] at hri6
    refine wc_region [0,1,2,3,4,5,6,7] rfl ?_
    refine Go.Sx.V rfl wu rfl rfl (mv rfl) ?_
    refine Go.Sx.V rfl wu rfl rfl (mv rfl) ?_
    refine Go.Sx.V rfl wu rfl rfl (mv rfl) ?_
    refine Go.Sx.V rfl wu rfl rfl (iad rfl rfl ty30 hs6 (by omega) (by omega)) ?_
    refine Go.Sx.V rfl wu rfl rfl (ldE rfl na22 hs6 hr6) ?_
    refine Go.Sx.V rfl wu rfl rfl (lenI rfl ty22) ?_
    refine Go.Sx.V rfl wu rfl rfl (maxI rfl rfl) ?_
    refine Go.Sx.V rfl wu rfl rfl (asg rfl) ?_
    refine wr_nil (post_blockN (post_thenN ?_))
    rw [shl_length, show max (wd : Int) ((cl (F.co i)).length : Int) = ((max wd (cl (F.co i)).length : Nat) : Int) by omega]
    refine wc_region [0,1] rfl ?_
    refine Go.Sx.V rfl wu rfl rfl (addI rfl rfl) ?_
    refine Go.Sx.V rfl wu rfl rfl (mv rfl) ?_
    refine wr_nil ?_
    exact post_loopN (i + 1, max wd (cl (F.co i)).length) ⟨rfl, rfl, rfl, rfl, rfl, rfl, rfl, rfl, trivial⟩ ⟨by show i + 1 ≤ n; omega, hE, hp6, by show max wd (cl (F.co i)).length ≤ na; omega, fun t ht => by
      show _ ≤ max wd _
      by_cases e : t = i
      · subst e; omega
      · have := hwl t (by have : t < i + 1 := ht; omega); omega⟩ (by show n - (i + 1) < n - i; omega)
  · intro hc
    simp at hc
    obtain rfl : i = n := by omega
    rw [updB_last] at hp
    clear hs hrr hrl hc i1
    clear rows
    have hGz : ∀ s t, (i ≤ t ∨ (cl (F.co t)).length ≤ s) → (sh1 (inK P x) (F.co t)).co s = 0 := fun s t h => by
      rcases h with h | h
      · rw [hyb t h, (sh1_hom _).zero]; rfl
      · exact sh1_yb _ (fun j hj => cl_over _ hj) s h
    have hwz : ∀ s t, wd ≤ s → ((sh2 (inK P x) (inK P y) F).co t).co s = 0 := fun s t h => by
      rw [sh2_at]
      have e : trn s (mapP (fun f => sh1 (inK P x) f) (sh1_hom (inK P x)) F) = 0 := Pol.ext fun k => by
        rw [co_trn, co_mapP]
        refine hGz s k ?_
        rcases Nat.lt_or_ge k i with hk | hk
        · exact .inr (Nat.le_trans (hwl k hk) h)
        · exact .inl hk
      rw [e, (sh1_hom _).zero]; rfl
    refine wc_exit (post_thenE (post_loopE (post_blockX (post_thenN (wc_seq ?_)))))
    refine wc_region [0] rfl ?_
    refine Go.Sx.V rfl wu rfl rfl (asg rfl) ?_
    refine wr_nil (post_thenN (wc_seq (wc_seq ?_)))
    refine wc_region [0,1] rfl ?_
    refine Go.Sx.V rfl wu rfl rfl (mv rfl) ?_
    refine Go.Sx.V rfl wu rfl rfl (mv rfl) ?_
    refine wr_nil (post_thenN (wc_block ?_))
    refine wc_loop (fun s : Nat × Int => [(0, g), (1, p), (3, .int .i64 y), (11, .int .i64 s.2), (43, .int .i64 wd), (44, .int .i64 s.1)])
      (fun s w' => s.1 ≤ wd ∧ Ext w w' ∧ Ext w1 w' ∧ BestP (sh2 (inK P x) (inK P y) F) (fun a _ => a < s.1) s.2) (fun s => wd - s.1) (0, -1) ⟨rfl, rfl, rfl, rfl, rfl, rfl, trivial⟩ ⟨by omega, hE, Ext.refl _, .inl ⟨rfl, fun a b h => by omega⟩⟩ ?_
    clear hE
    rintro ⟨k, best⟩ w2 ⟨k1, hE, hE1, hB⟩
    dsimp only at k1 hB
    have z0 := hE.size
    have z1 := hE1.size
    obtain ⟨rows, hs, hrl, hrr⟩ := (hp.ext hE1).ll.row
    rw [tab_length] at hrl hrr
    try dsimp only
    refine wc_seq ?_
    refine wc_region [0] rfl ?_
    refine Go.Sx.V rfl wu rfl rfl (lssI rfl rfl) ?_
    refine wr_nil (post_thenN (wc_seq ?_))
    refine wc_cond rfl ?_ ?_
    · intro hc
      simp at hc
      refine wc_skip (post_thenN (wc_seq (wc_block (wc_seq ?_))))
      refine wc_region [0,1] rfl ?_
      refine Go.Sx.V rfl wu rfl rfl (mv rfl) ?_
      refine Go.Sx.V rfl wu rfl rfl (asg rfl) ?_
      refine wr_nil (post_thenN (wc_seq ?_))
      refine wc_region [0,1,2,3] rfl ?_
      refine Go.Sx.V rfl wu rfl rfl (mv rfl) ?_
      refine Go.Sx.V rfl wu rfl rfl (lenS rfl ty30 hs) ?_
      refine MKI (n := i) rfl wu rfl rfl ty22 ?_
      intro line w3 hE3 ho hoi hob
      refine Go.Sx.V rfl wu rfl rfl (asg rfl) ?_
      refine wr_nil (post_thenN (wc_seq (wc_seq ?_)))
      have hE2 := hE3
      replace hE := hE.trans hE3
      replace hE1 := hE1.trans hE3
      refine wc_region [0,1,2] rfl ?_
      refine Go.Sx.V rfl wu rfl rfl (mv rfl) ?_
      refine Go.Sx.V rfl wu rfl rfl (lenS rfl ty30 hs) ?_
      refine Go.Sx.V rfl wu rfl rfl (mv rfl) ?_
      refine wr_nil (post_thenN (wc_block ?_))
      rw [hrl]
      obtain ⟨M, hM⟩ : ∃ M, M = trn k (mapP (fun f => sh1 (inK P x) f) (sh1_hom (inK P x)) F) := ⟨_, rfl⟩
      have hMc : ∀ t, M.co t = (sh1 (inK P x) (F.co t)).co k := fun t => by rw [hM]; rfl
      have hMz : ∀ t, i ≤ t → M.co t = 0 := fun t ht => by rw [hMc]; exact hGz k t (.inl ht)
      rw [← upd_zero' i (fun t => (M.co t).1) (fun _ => 0)] at ho
      refine wc_loop (fun j : Int => [(0, g), (1, p), (3, .int .i64 y), (11, .int .i64 best), (12, .int .i64 k), (13, line), (43, .int .i64 wd), (44, .int .i64 k), (50, p), (51, .int .i64 i), (52, .int .i64 j)])
        (fun j w' => 0 ≤ j ∧ j ≤ i ∧ Ext w w' ∧ Ext w1 w' ∧ Ext w2 w' ∧ OwnI w2.heap.size w' line 3 (upd i (fun t => (M.co t).1) (fun _ => 0) j)) (fun j => (i - j).toNat) 0 ⟨rfl, rfl, rfl, rfl, rfl, rfl, rfl, rfl, rfl, rfl, rfl, trivial⟩ ⟨by omega, by omega, hE, hE1, hE2, ho⟩ ?_
      clear hE hE1 hE2 ho hoi hE3
      clear w3
      rintro j w3 ⟨j0, j1, hE, hE1, hE2, ho⟩
      have hol := upd_length i (fun t => (M.co t).1) (fun _ => 0) j
      have hoi := OwnI.ints ho
      try dsimp only
      refine wc_seq ?_
      refine wc_region [0] rfl ?_
      refine Go.Sx.V rfl wu rfl rfl (lssI rfl rfl) ?_
      refine wr_nil (post_thenN (wc_seq ?_))
      refine wc_cond rfl ?_ ?_
      · intro hc2
        simp at hc2
        obtain ⟨r, hr, hri⟩ := hrr j.toNat (by omega)
        rw [tab_at, if_pos (by omega)] at hri
        replace hri := hri.ext hE2
        have hsl := shl_length (inK P x) (F.co j.toNat)
        refine wc_skip (post_thenN (wc_seq (wc_block (wc_seq ?_))))
        refine wc_region [0,1] rfl ?_
        refine Go.Sx.V rfl wu rfl rfl (mv rfl) ?_
        refine Go.Sx.V rfl wu rfl rfl (asg rfl) ?_
        refine wr_nil (post_thenN (wc_seq ?_))
        refine wc_region [0,1,2,3,4,5,6] rfl ?_
        refine Go.Sx.V rfl wu rfl rfl (mv rfl) ?_
        refine Go.Sx.V rfl wu rfl rfl (mv rfl) ?_
        refine Go.Sx.V rfl wu rfl rfl (mv rfl) ?_
        refine Go.Sx.V rfl wu rfl rfl (iad rfl rfl ty30 hs (by omega) (by omega)) ?_
        refine Go.Sx.V rfl wu rfl rfl (ldE rfl na22 hs hr hE2) ?_
        refine Go.Sx.V rfl wu rfl rfl (lenI rfl ty22) ?_
        refine Go.Sx.V rfl wu rfl rfl (lssI rfl rfl) ?_
        refine wr_nil (post_thenN ?_)
        rw [hsl]
        refine wc_cond rfl ?_ ?_
        · intro hc3
          simp at hc3
          have hv : gi (shl (inK P x) (F.co j.toNat)) k = (M.co j.toNat).1 := by rw [hMc]; exact shl_getD _ _ _
          refine wc_region [0,1,2,3,4,5,6,7,8,9,10] rfl ?_
          refine Go.Sx.V rfl wu rfl rfl (mv rfl) ?_
          refine Go.Sx.V rfl wu rfl rfl (mv rfl) ?_
          refine Go.Sx.V rfl wu rfl rfl (mv rfl) ?_
          refine Go.Sx.V rfl wu rfl rfl (mv rfl) ?_
          refine Go.Sx.V rfl wu rfl rfl (iad rfl rfl ty30 hs (by omega) (by omega)) ?_
          refine Go.Sx.V rfl wu rfl rfl (ldE rfl na22 hs hr hE2) ?_
          refine Go.Sx.V rfl wu rfl rfl (mv rfl) ?_
          refine Go.Sx.V rfl wu rfl rfl (iadI rfl rfl ty22) ?_
          refine Go.Sx.V rfl wu rfl rfl (ldI rfl na3 hri) ?_
          refine Go.Sx.V rfl wu rfl rfl (iadI rfl rfl ty22) ?_
          refine STI rfl wu rfl rfl sz3 (by intro h; cases h) ?_
          intro w6 hg6 hX6 ho6 hi6
          refine wr_nil (post_blockN (post_thenN ?_))
          rw [hv, upd_step (f := fun t => (M.co t).1) j0] at ho6
          refine wc_region [0,1] rfl ?_
          refine Go.Sx.V rfl wu rfl rfl (addI rfl rfl) ?_
          refine Go.Sx.V rfl wu rfl rfl (mv rfl) ?_
          refine wr_nil ?_
          exact post_loopN (j + 1) ⟨rfl, rfl, rfl, rfl, rfl, rfl, rfl, rfl, rfl, rfl, rfl, trivial⟩ ⟨by omega, by omega, hX6 _ z0 hE, hX6 _ z1 hE1, hX6 _ (Nat.le_refl _) hE2, ho6⟩ (by omega)
        · intro hc3
          simp at hc3
          have hv : (M.co j.toNat).1 = 0 := by rw [hMc, hGz k j.toNat (.inr (by omega))]; rfl
          rw [upd_skip' j0 hv] at ho
          refine wc_skip (post_blockN (post_thenN ?_))
          refine wc_region [0,1] rfl ?_
          refine Go.Sx.V rfl wu rfl rfl (addI rfl rfl) ?_
          refine Go.Sx.V rfl wu rfl rfl (mv rfl) ?_
          refine wr_nil ?_
          exact post_loopN (j + 1) ⟨rfl, rfl, rfl, rfl, rfl, rfl, rfl, rfl, rfl, rfl, rfl, trivial⟩ ⟨by omega, by omega, hE, hE1, hE2, ho⟩ (by omega)
      · intro hc2
        simp at hc2
        rw [upd_last _ _ _ (by omega)] at ho hoi
        have hpz : pz P (tab i fun t => (M.co t).1) = M := Pol.ext fun t => by
          rw [co_pz, tab_at]
          split
          · rw [inK_val]
          · rw [hMz t (by omega)]; exact inK0
        refine wc_exit (post_thenE (post_loopE (post_blockX (post_thenN (wc_seq ?_)))))
        refine wc_region [0,1,2,3,4,5] rfl ?_
        refine Go.Sx.V rfl wu rfl rfl (mv rfl) ?_
        refine Go.Sx.V rfl wu rfl rfl (mv rfl) ?_
        refine Go.Sx.V rfl wu rfl rfl (mv rfl) ?_
        refine C rfl wu rfl rfl Tryz.call91 (bShift P g line _ y _ (hG.ext hE) hoi (by rw [tab_length]; omega)) ?_
        intro z w4 hE4 hz
        rw [hpz] at hz
        replace hE := hE.trans hE4
        replace hE1 := hE1.trans hE4
        have hzi := OwnI.ints hz
        refine Go.Sx.V rfl wu rfl rfl (lenI rfl ty22) ?_
        refine Go.Sx.V rfl wu rfl rfl (mv rfl) ?_
        refine wr_nil (post_thenN (wc_block ?_))
        have hzl : (cl M).length ≤ i := cl_len hMz
        rw [shl_length]
        refine wc_loop (fun s : Nat × Int => [(0, g), (1, p), (3, .int .i64 y), (11, .int .i64 s.2), (12, .int .i64 k), (43, .int .i64 wd), (44, .int .i64 k), (76, z), (77, .int .i64 (cl M).length), (78, .int .i64 s.1)])
          (fun s w' => s.1 ≤ (cl M).length ∧ w' = w4 ∧ BestP (sh2 (inK P x) (inK P y) F) (fun a b => a < k ∨ (a = k ∧ b < s.1)) s.2) (fun s => (cl M).length - s.1) (0, best) ⟨rfl, rfl, rfl, rfl, rfl, rfl, rfl, rfl, rfl, rfl, trivial⟩ ⟨by omega, rfl, hB.same (fun _ _ h => .inl h) (fun s t h => h.elim .inl (fun h => by have : t < 0 := h.2; omega))⟩ ?_
        clear hB hE4 hz
        clear best
        rintro ⟨m, best⟩ w4' ⟨m1, hw4, hB⟩
        subst hw4
        dsimp only at m1 hB
        have hsl := shl_length (inK P y) M
        try dsimp only
        refine wc_seq ?_
        refine wc_region [0] rfl ?_
        refine Go.Sx.V rfl wu rfl rfl (lssI rfl rfl) ?_
        refine wr_nil (post_thenN (wc_seq ?_))
        refine wc_cond rfl ?_ ?_
        · intro hc3
          simp at hc3
          have hv : gi (shl (inK P y) M) m = (((sh2 (inK P x) (inK P y) F).co m).co k).1 := by
            rw [sh2_at, ← hM]
            exact shl_getD _ _ _
          refine wc_skip (post_thenN (wc_seq (wc_block (wc_seq ?_))))
          refine wc_region [0,1,2,3,4] rfl ?_
          refine Go.Sx.V rfl wu rfl rfl (mv rfl) ?_
          refine Go.Sx.V rfl wu rfl rfl (iadI rfl rfl ty22) ?_
          refine Go.Sx.V rfl wu rfl rfl (ldI rfl na3 hzi) ?_
          refine Go.Sx.V rfl wu rfl rfl (asg rfl) ?_
          refine Go.Sx.V rfl wu rfl rfl (asg rfl) ?_
          refine wr_nil (post_thenN (wc_seq ?_))
          rw [hv]
          by_cases hz0 : ((sh2 (inK P x) (inK P y) F).co m).co k = 0
          · skip
            refine wc_region [0,1,2,3,4,5,6,7,8,9,10,11,12] rfl ?_
            refine Go.Sx.V rfl wu rfl rfl (mv rfl) ?_
            refine Go.Sx.V rfl wu rfl rfl (neqI rfl rfl) ?_
            refine Go.Sx.V rfl wu rfl rfl (mv rfl) ?_
            refine KB 85 false rfl (by rw [hz0]; rfl) ?_
            refine SK rfl rfl rfl rfl rfl ?_
            refine SK rfl rfl rfl rfl rfl ?_
            refine SK rfl rfl rfl rfl rfl ?_
            refine SKU rfl rfl rfl rfl ?_
            refine SKU rfl rfl rfl rfl ?_
            refine SKU rfl rfl rfl rfl ?_
            refine SKU rfl rfl rfl rfl ?_
            refine SKU rfl rfl rfl rfl ?_
            refine SK rfl rfl rfl rfl rfl ?_
            refine Go.Sx.V rfl wu rfl rfl (pk rfl rfl) ?_
            refine wr_nil (post_thenN ?_)
            refine wc_condF rfl (by simp) ?_
            refine wc_skip (post_blockN (post_thenN ?_))
            refine wc_region [0,1] rfl ?_
            refine Go.Sx.V rfl wu rfl rfl (addI rfl rfl) ?_
            refine Go.Sx.V rfl wu rfl rfl (mv rfl) ?_
            refine wr_nil ?_
            exact post_loopN (m + 1, best) ⟨rfl, rfl, rfl, rfl, rfl, rfl, rfl, rfl, rfl, rfl, trivial⟩ ⟨by show m + 1 ≤ _; omega, rfl, hB.keep (seen_step k m) (.inl hz0)⟩ (by show (cl M).length - (m + 1) < (cl M).length - m; omega)
          · have hz1 : ¬ (((sh2 (inK P x) (inK P y) F).co m).co k).1 = 0 := fun e => hz0 (Subtype.ext e)
            refine wc_region [0,1,2,3,4,5,6,7,8,9,10,11,12] rfl ?_
            refine Go.Sx.V rfl wu rfl rfl (mv rfl) ?_
            refine Go.Sx.V rfl wu rfl rfl (neqI rfl rfl) ?_
            refine Go.Sx.V rfl wu rfl rfl (mv rfl) ?_
            refine KB 85 true rfl (by simp [hz1]) ?_
            refine Go.Sx.V rfl (wg rfl rfl) rfl rfl (mv rfl) ?_
            refine Go.Sx.V rfl (wg rfl rfl) rfl rfl (lssI rfl rfl) ?_
            refine Go.Sx.V rfl (wg rfl rfl) rfl rfl (mv rfl) ?_
            refine OR (π1 := [6,7,8,9,10,11]) (π2 := [12]) (tc := 88) (tp := 94) rfl rfl rfl (by
                intro _
                refine SK rfl rfl rfl rfl rfl ?_
                refine SK rfl rfl rfl rfl rfl ?_
                refine SK rfl rfl rfl rfl rfl ?_
                refine SK rfl rfl rfl rfl rfl ?_
                refine SK rfl rfl rfl rfl rfl ?_
                refine Go.Sx.V rfl (wg rfl rfl) rfl rfl (pk rfl rfl) ?_
                exact join rfl) (by
                intro hg
                simp at hg
                refine Go.Sx.V rfl (wg rfl rfl) rfl rfl (mv rfl) ?_
                refine Go.Sx.V rfl (wg rfl rfl) rfl rfl (mv rfl) ?_
                refine Go.Sx.V rfl (wg rfl rfl) rfl rfl (addI rfl rfl) ?_
                refine Go.Sx.V rfl (wg rfl rfl) rfl rfl (mv rfl) ?_
                refine Go.Sx.V rfl (wg rfl rfl) rfl rfl (lssI rfl rfl) ?_
                refine Go.Sx.V rfl (wg rfl rfl) rfl rfl (pk rfl rfl) ?_
                exact join rfl) ?_
            refine Go.Sx.V rfl wu rfl rfl (pk rfl rfl) ?_
            refine wr_nil (post_thenN ?_)
            refine wc_cond rfl ?_ ?_
            · intro h5
              simp at h5
              refine wc_region [0,1,2,3] rfl ?_
              refine Go.Sx.V rfl wu rfl rfl (mv rfl) ?_
              refine Go.Sx.V rfl wu rfl rfl (mv rfl) ?_
              refine Go.Sx.V rfl wu rfl rfl (addI rfl rfl) ?_
              refine Go.Sx.V rfl wu rfl rfl (asg rfl) ?_
              refine wr_nil (post_blockN (post_thenN ?_))
              refine wc_region [0,1] rfl ?_
              refine Go.Sx.V rfl wu rfl rfl (addI rfl rfl) ?_
              refine Go.Sx.V rfl wu rfl rfl (mv rfl) ?_
              refine wr_nil ?_
              exact post_loopN (m + 1, (k : Int) + m) ⟨rfl, rfl, rfl, rfl, rfl, rfl, rfl, rfl, rfl, rfl, trivial⟩ ⟨by show m + 1 ≤ _; omega, rfl, hB.take (seen_step k m) hz0 (by omega)⟩ (by show (cl M).length - (m + 1) < (cl M).length - m; omega)
            · intro h5
              simp at h5
              refine wc_skip (post_blockN (post_thenN ?_))
              refine wc_region [0,1] rfl ?_
              refine Go.Sx.V rfl wu rfl rfl (addI rfl rfl) ?_
              refine Go.Sx.V rfl wu rfl rfl (mv rfl) ?_
              refine wr_nil ?_
              exact post_loopN (m + 1, best) ⟨rfl, rfl, rfl, rfl, rfl, rfl, rfl, rfl, rfl, rfl, trivial⟩ ⟨by show m + 1 ≤ _; omega, rfl, hB.keep (seen_step k m) (.inr (by omega))⟩ (by show (cl M).length - (m + 1) < (cl M).length - m; omega)
        · intro hc3
          simp at hc3
          refine wc_exit (post_thenE (post_loopE (post_blockX (post_blockN (post_thenN ?_)))))
          refine wc_region [0,1] rfl ?_
          refine Go.Sx.V rfl wu rfl rfl (addI rfl rfl) ?_
          refine Go.Sx.V rfl wu rfl rfl (mv rfl) ?_
          refine wr_nil ?_
          refine post_loopN (k + 1, best) ⟨rfl, rfl, rfl, rfl, rfl, rfl, trivial⟩ ⟨by show k + 1 ≤ wd; omega, hE, hE1, hB.same (fun s t h => by show s < k + 1; omega) (fun s t h => ?_)⟩ (by show wd - (k + 1) < wd - k; omega)
          have h' : s < k + 1 := h
          by_cases e : s = k
          · subst e
            rcases Nat.lt_or_ge t m with h2 | h2
            · exact .inl (.inr ⟨rfl, h2⟩)
            · right
              rw [sh2_at, ← hM]
              exact sh1_yb _ (fun j hj => cl_over M hj) t (by omega)
          · exact .inl (.inl (by omega))
    · intro hc
      simp at hc
      obtain rfl : k = wd := by omega
      refine wc_exit (post_thenE (post_loopE (post_blockX (post_thenN (wc_seq ?_)))))
      refine wc_region [0,1] rfl ?_
      refine Go.Sx.V rfl wu rfl rfl (mv rfl) ?_
      refine Go.Sx.V rfl wu rfl rfl (asg rfl) ?_
      refine wr_nil (post_thenN (wc_ret ?_))
      refine post_ret1 rfl rfl ?_
      exact ⟨hE, best, rfl, (hB.same (fun _ _ _ => trivial) (fun s t _ => (Nat.lt_or_ge s k).elim .inl (fun h => .inr (hwz s t h)))).mul⟩
end Go.Proofs.YtmnojknfjbimdaaGreat

