/-
  The reference's Hasse derivatives and multiplicities, by contract.
-/
import Derived.Test.YtmnojknfjbimdaaGreatWRBiv2
import Derived.Test.YtmnojknfjbimdaaGreatWMPa
import Derived.Test.YtmnojknfjbimdaaGreatWMSxa
namespace Go.Proofs.YtmnojknfjbimdaaGreat
open Go Go.Sx Go.Pl Go.RowKit Go.Fd Go.Alg
set_option maxRecDepth 10000 in
theorem rChoose (n k : Nat) (p : Int) (w : World) (hp : 2 ≤ p ∧ p ≤ 256) (hn : n ≤ 1048576) (hk : k ≤ 1048576) :
    Calls Tryz.prog 103 #[.int .i64 n, .int .i64 k, .int .i64 p] w (RetX w fun r _ => r = .int .i64 ((bc n k : Int) % p)) := by
  refine calls3 Tryz.func103 rfl rfl ?_
  refine wc_seq ?_
  refine wc_region [0] rfl ?_
  refine Go.Sx.V rfl wu rfl rfl (asg rfl) ?_
  refine wr_nil (post_thenN (wc_seq (wc_seq ?_)))
  refine wc_region [0,1,2,3,4,5,6] rfl ?_
  refine Go.Sx.V rfl wu rfl rfl (mv rfl) ?_
  refine Go.Sx.V rfl wu rfl rfl (lssI rfl rfl) ?_
  refine Go.Sx.V rfl wu rfl rfl (mv rfl) ?_
  refine OR (π1 := [3,4,5,6]) (π2 := []) (tc := 13) (tp := 17) rfl rfl rfl (by
      intro _
      refine SK rfl rfl rfl rfl rfl ?_
      refine SK rfl rfl rfl rfl rfl ?_
      refine SK rfl rfl rfl rfl rfl ?_
      refine Go.Sx.V rfl wu rfl rfl (pk rfl rfl) ?_
      exact join rfl) (by
      intro hg
      simp at hg
      refine Go.Sx.V rfl (wg rfl rfl) rfl rfl (mv rfl) ?_
      refine Go.Sx.V rfl (wg rfl rfl) rfl rfl (mv rfl) ?_
      refine Go.Sx.V rfl (wg rfl rfl) rfl rfl (gtrI rfl rfl) ?_
      refine Go.Sx.V rfl wu rfl rfl (pk rfl rfl) ?_
      exact join rfl) ?_
  refine wr_nil (post_thenN ?_)
  refine wc_cond rfl ?_ ?_
  · intro h
    simp at h
    refine wc_seq ?_
    refine wc_region [0] rfl ?_
    refine Go.Sx.V rfl wu rfl rfl (asg rfl) ?_
    refine wr_nil (post_thenN (wc_ret (post_thenR ?_)))
    refine post_ret1 rfl rfl ?_
    exact ⟨Ext.refl _, by rw [bc_over (by omega)]; simp⟩
  · intro h
    simp at h
    have hkn : k ≤ n := by omega
    refine wc_skip (post_thenN (wc_seq ?_))
    refine wc_region [0,1] rfl ?_
    refine BSI (zs := [1]) rfl wu rfl rfl rfl rfl ty22 ?_
    intro v0 w1 hE1 ho hi hob
    refine Go.Sx.V rfl wu rfl rfl (asg rfl) ?_
    refine wr_nil (post_thenN (wc_seq (wc_seq ?_)))
    rw [show ([1] : List Int) = pascR p 0 by rw [pascR]; show [1] = [(bc 0 0 : Int) % p]; rw [show (bc 0 0 : Nat) = 1 from rfl, show ((1 : Nat) : Int) % p = 1 from Int.emod_eq_of_lt (by omega) (by omega)]] at ho
    refine wc_region [0] rfl ?_
    refine Go.Sx.V rfl wu rfl rfl (asg rfl) ?_
    refine wr_nil (post_thenN (wc_block ?_))
    refine wc_loop (fun s : Nat × Value => [(0, .int .i64 n), (1, .int .i64 k), (2, .int .i64 p), (7, s.2), (8, .int .i64 s.1)])
      (fun s w' => s.1 ≤ n ∧ Ext w w' ∧ OwnI w.heap.size w' s.2 3 (pascR p s.1)) (fun s => n - s.1) (0, v0) ⟨rfl, rfl, rfl, rfl, rfl, trivial⟩ ⟨by omega, hE1, ho⟩ ?_
    clear hE1 ho hi hob
    rintro ⟨i, row⟩ w2 ⟨i1, hE, hrow⟩
    dsimp only at i1 hrow
    have hrl := pascR_length p i
    try dsimp only
    refine wc_seq (wc_seq ?_)
    refine wc_region [0,1,2] rfl ?_
    refine Go.Sx.V rfl wu rfl rfl (mv rfl) ?_
    refine Go.Sx.V rfl wu rfl rfl (mv rfl) ?_
    refine Go.Sx.V rfl wu rfl rfl (lssI rfl rfl) ?_
    refine wr_nil (post_thenN ?_)
    refine wc_cond rfl ?_ ?_
    · intro hc
      simp at hc
      refine wc_skip (post_thenN (wc_seq (wc_block (wc_seq ?_))))
      refine wc_region [0,1,2,3] rfl ?_
      refine Go.Sx.V rfl wu rfl rfl (mv rfl) ?_
      refine Go.Sx.V rfl wu rfl rfl (addI rfl rfl) ?_
      refine MKI (n := (i + 2)) rfl wu rfl rfl ty22 ?_
      intro nx w3 hE3 ho hoi hob
      refine Go.Sx.V rfl wu rfl rfl (asg rfl) ?_
      refine wr_nil (post_thenN (wc_seq (wc_seq ?_)))
      have hri := (OwnI.ints hrow).ext hE3
      rw [← pasc_first p i] at ho
      have z2 := hE.size
      have hX := hE3
      refine wc_region [0] rfl ?_
      refine Go.Sx.V rfl wu rfl rfl (asg rfl) ?_
      refine wr_nil (post_thenN (wc_block ?_))
      refine wc_loop (fun j : Nat => [(0, .int .i64 n), (1, .int .i64 k), (2, .int .i64 p), (7, row), (8, .int .i64 i), (9, nx), (10, .int .i64 j)])
        (fun j w' => j ≤ i + 1 ∧ Ext w w' ∧ Ext w2 w' ∧ OwnI w2.heap.size w' nx 3 (pasc p i j)) (fun j => i + 1 - j) 0 ⟨rfl, rfl, rfl, rfl, rfl, rfl, rfl, trivial⟩ ⟨by omega, hE.trans hE3, hE3, ho⟩ ?_
      clear hX ho hoi hob hri hE hE3
      clear w3
      rintro j w3 ⟨j1, hE, hE2, ho⟩
      have hpl := pasc_length p i j
      have hri := (OwnI.ints hrow).ext hE2
      try dsimp only
      refine wc_seq (wc_seq ?_)
      refine wc_region [0,1,2] rfl ?_
      refine Go.Sx.V rfl wu rfl rfl (mv rfl) ?_
      refine Go.Sx.V rfl wu rfl rfl (mv rfl) ?_
      refine Go.Sx.V rfl wu rfl rfl (leqI rfl rfl) ?_
      refine wr_nil (post_thenN ?_)
      refine wc_cond rfl ?_ ?_
      · intro hj
        simp at hj
        have hji : j ≤ i := by omega
        have g1 := pasc_get (p := p) hji
        have g2 := pascR_get (p := p) hji
        have b1 := Int.emod_nonneg (bc i (j - 1) : Int) (b := p) (by omega)
        have b2 := Int.emod_lt_of_pos (bc i (j - 1) : Int) (b := p) (by omega)
        have b3 := Int.emod_nonneg (bc i j : Int) (b := p) (by omega)
        have b4 := Int.emod_lt_of_pos (bc i j : Int) (b := p) (by omega)
        have b5 : 0 ≤ gi (pasc p i j) j ∧ gi (pasc p i j) j < 256 := by
          rw [g1]
          split <;> omega
        have hoi := OwnI.ints ho
        refine wc_skip (post_thenN (wc_seq (wc_block (wc_seq ?_))))
        refine wc_draw mixed [0,1,2,3,4,5,6,7,8,9,10,11,12,13,14] (by kernel_rfl) ?_
        intro w4 hd _
        replace hE := hE.trans hd
        replace hE2 := hE2.trans hd
        replace hri := hri.ext hd
        replace hoi := hoi.ext hd
        replace ho := ho.ext hd
        refine Go.Sx.V rfl wu rfl rfl (mv rfl) ?_
        refine Go.Sx.V rfl wu rfl rfl (mv rfl) ?_
        refine Go.Sx.V rfl wu rfl rfl (mv rfl) ?_
        refine Go.Sx.V rfl wu rfl rfl (mv rfl) ?_
        refine Go.Sx.V rfl wu rfl rfl (iadI rfl rfl ty22 hoi (by omega) (by omega)) ?_
        refine Go.Sx.V rfl wu rfl rfl (ldI rfl na3 hoi) ?_
        refine Go.Sx.V rfl wu rfl rfl (mv rfl) ?_
        refine Go.Sx.V rfl wu rfl rfl (mv rfl) ?_
        refine Go.Sx.V rfl wu rfl rfl (iadI rfl rfl ty22 hri (by omega) (by omega)) ?_
        refine Go.Sx.V rfl wu rfl rfl (ldI rfl na3 hri) ?_
        refine Go.Sx.V rfl wu rfl rfl (addI rfl rfl) ?_
        refine Go.Sx.V rfl wu rfl rfl (mv rfl) ?_
        refine Go.Sx.V rfl wu rfl rfl (remI rfl rfl) ?_
        refine Go.Sx.V rfl wu rfl rfl (iadI rfl rfl ty22) ?_
        refine STI rfl wu rfl rfl sz3 (by intro h; kernel_rfl) ?_
        intro w5 hg5 hX5 ho5 hi5
        refine wr_nil (post_thenN ?_)
        have hri5 : Ints w5 row (pascR p i) := (OwnI.ints hrow).ext (hX5 _ (Nat.le_refl _) hE2)
        have hpl5 := si_length (pasc p i j) j ((gi (pasc p i j) j + gi (pascR p i) j) % p)
        refine wc_region [0,1,2,3,4,5,6,7,8] rfl ?_
        refine Go.Sx.V rfl wu rfl rfl (mv rfl) ?_
        refine Go.Sx.V rfl wu rfl rfl (mv rfl) ?_
        refine Go.Sx.V rfl wu rfl rfl (addI rfl rfl) ?_
        refine Go.Sx.V rfl wu rfl rfl (mv rfl) ?_
        refine Go.Sx.V rfl wu rfl rfl (mv rfl) ?_
        refine Go.Sx.V rfl wu rfl rfl (iadI rfl rfl ty22 hri5 (by omega) (by omega)) ?_
        refine Go.Sx.V rfl wu rfl rfl (ldI rfl na3 hri5) ?_
        refine Go.Sx.V rfl wu rfl rfl (iadI rfl rfl ty22) ?_
        refine STI rfl wu rfl rfl sz3 (by intro h; cases h) ?_
        intro w6 hg6 hX6 ho6 hi6
        refine wr_nil (post_blockN (post_thenN ?_))
        rw [pasc_step hji] at ho6
        refine wc_region [0,1,2] rfl ?_
        refine Go.Sx.V rfl wu rfl rfl (mv rfl) ?_
        refine Go.Sx.V rfl wu rfl rfl (addI rfl rfl) ?_
        refine Go.Sx.V rfl wu rfl rfl (asg rfl) ?_
        refine wr_nil ?_
        exact post_loopN (j + 1) ⟨rfl, rfl, rfl, rfl, rfl, rfl, rfl, trivial⟩ ⟨by omega, hX6 _ z2 (hX5 _ z2 hE), hX6 _ (Nat.le_refl _) (hX5 _ (Nat.le_refl _) hE2), ho6⟩ (by omega)
      · intro hj
        simp at hj
        rw [show j = i + 1 by omega, pasc_last] at ho
        refine wc_exit (post_thenE (post_loopE (post_blockX (post_thenN ?_))))
        refine wc_region [0,1] rfl ?_
        refine Go.Sx.V rfl wu rfl rfl (mv rfl) ?_
        refine Go.Sx.V rfl wu rfl rfl (asg rfl) ?_
        refine wr_nil (post_blockN (post_thenN ?_))
        refine wc_region [0,1,2] rfl ?_
        refine Go.Sx.V rfl wu rfl rfl (mv rfl) ?_
        refine Go.Sx.V rfl wu rfl rfl (addI rfl rfl) ?_
        refine Go.Sx.V rfl wu rfl rfl (asg rfl) ?_
        refine wr_nil ?_
        exact post_loopN (i + 1, nx) ⟨rfl, rfl, rfl, rfl, rfl, trivial⟩ ⟨by show i + 1 ≤ n; omega, hE, ho.mono z2⟩ (by show n - (i + 1) < n - i; omega)
    · intro hc
      simp at hc
      obtain rfl : i = n := by omega
      have hri := OwnI.ints hrow
      refine wc_exit (post_thenE (post_loopE (post_blockX (post_thenN (wc_seq ?_)))))
      refine wc_region [0,1,2,3,4] rfl ?_
      refine Go.Sx.V rfl wu rfl rfl (mv rfl) ?_
      refine Go.Sx.V rfl wu rfl rfl (mv rfl) ?_
      refine Go.Sx.V rfl wu rfl rfl (iadI rfl rfl ty22) ?_
      refine Go.Sx.V rfl wu rfl rfl (ldI rfl na3) ?_
      refine Go.Sx.V rfl wu rfl rfl (asg rfl) ?_
      refine wr_nil (post_thenN (wc_ret ?_))
      refine post_ret1 rfl rfl ?_
      exact ⟨hE, by rw [pascR_get hkn]⟩
set_option maxRecDepth 10000 in
theorem rTimes (P : FP) (mo : Value) (md : List Int) (n x : Int) (w : World) (hF : FV w P mo md) (hn : 0 ≤ n ∧ n ≤ 65536) :
    Calls Tryz.prog 102 #[fv P mo, .int .i64 n, .int .i64 x] w (RetX w fun r _ => r = .int .i64 (nm n.toNat (inK P x)).1) := by
  refine calls3 Tryz.func102 rfl rfl ?_
  refine wc_seq ?_
  refine wc_region [0,1] rfl ?_
  refine BXA rfl wu rfl rfl ?_
  intro fb w1 hE hB hg
  refine Go.Sx.V rfl wu rfl rfl (asg rfl) ?_
  refine wr_nil (post_thenN (wc_seq ?_))
  refine wc_region [0] rfl ?_
  refine Go.Sx.V rfl wu rfl rfl (asg rfl) ?_
  refine wr_nil (post_thenN (wc_seq (wc_seq ?_)))
  refine wc_region [0] rfl ?_
  refine Go.Sx.V rfl wu rfl rfl (asg rfl) ?_
  refine wr_nil (post_thenN (wc_block ?_))
  refine wc_loop (fun i : Nat => [(1, .int .i64 n), (2, .int .i64 x), (3, .pointer (some ⟨fb, 0, none⟩)), (7, .int .i64 (nm i (inK P x)).1), (8, .int .i64 i)])
    (fun i w' => (i : Int) ≤ n ∧ Ext w w' ∧ Ext w1 w') (fun i => n.toNat - i) 0 ⟨rfl, rfl, rfl, rfl, rfl, trivial⟩ ⟨by omega, hE, Ext.refl _⟩ ?_
  clear hE
  rintro i w4 ⟨i1, hE, hE1⟩
  try dsimp only
  refine wc_seq (wc_seq ?_)
  refine wc_region [0,1,2] rfl ?_
  refine Go.Sx.V rfl wu rfl rfl (mv rfl) ?_
  refine Go.Sx.V rfl wu rfl rfl (mv rfl) ?_
  refine Go.Sx.V rfl wu rfl rfl (lssI rfl rfl) ?_
  refine wr_nil (post_thenN ?_)
  refine wc_cond rfl ?_ ?_
  · intro hc
    simp at hc
    refine wc_skip (post_thenN (wc_seq (wc_block ?_)))
    refine wc_region [0,1,2,3,4] rfl ?_
    refine Go.Sx.V rfl wu rfl rfl (ldA rfl ag24 (hB.ext hE1)) ?_
    refine Go.Sx.V rfl wu rfl rfl (mv rfl) ?_
    refine Go.Sx.V rfl wu rfl rfl (mv rfl) ?_
    refine C rfl wu rfl rfl Tryz.call70 (rAdd P mo md _ _ _ (hF.ext hE)) ?_
    rintro _ w6 hE6 rfl
    replace hE := hE.trans hE6
    replace hE1 := hE1.trans hE6
    refine Go.Sx.V rfl wu rfl rfl (asg rfl) ?_
    refine wr_nil (post_blockN (post_thenN ?_))
    refine wc_region [0,1,2] rfl ?_
    refine Go.Sx.V rfl wu rfl rfl (mv rfl) ?_
    refine Go.Sx.V rfl wu rfl rfl (addI rfl rfl) ?_
    refine Go.Sx.V rfl wu rfl rfl (asg rfl) ?_
    refine wr_nil ?_
    exact post_loopN (i + 1) ⟨rfl, rfl, rfl, by rw [inK_val]; rfl, rfl, trivial⟩ ⟨by omega, hE, hE1⟩ (by omega)
  · intro hc
    simp at hc
    refine wc_exit (post_thenE (post_loopE (post_blockX (post_thenN (wc_seq ?_)))))
    refine wc_region [0,1] rfl ?_
    refine Go.Sx.V rfl wu rfl rfl (mv rfl) ?_
    refine Go.Sx.V rfl wu rfl rfl (asg rfl) ?_
    refine wr_nil (post_thenN (wc_ret ?_))
    refine post_ret1 rfl rfl ?_
    exact ⟨hE, by rw [show n.toNat = i by omega]⟩
noncomputable def hsRow {P : FP} (F : Pol (Pol (K P))) (a b t n : Nat) : List Int := tab n fun s => (((hs2 a b F).co t).co s).1
set_option maxRecDepth 10000 in
theorem rHasse (P : FP) (mo : Value) (md : List Int) (u : Value) (A : List (List Int)) (a b : Nat) (na : Nat) (w : World) (hF : FV w P mo md) (hu : LL w u A) (hA : RB na A) (hna : na ≤ 65536) (hl : A.length ≤ 65536) (ha : a ≤ 65536) (hb : b ≤ 65536) :
    Calls Tryz.prog 74 #[fv P mo, u, .int .i64 a, .int .i64 b] w (RetX w fun r w' => LO w.heap.size w' r 22 (bcl (hs2 a b (bz P A)))) := by
  obtain ⟨rows, hs, hrl, hrr⟩ := hu.row
  have hp := hF.p
  have hp2 := P.hp
  refine calls4 Tryz.func74 rfl rfl ?_
  refine wc_seq ?_
  refine wc_region [0,1] rfl ?_
  refine BXA rfl wu rfl rfl ?_
  intro fb w1 hE hB hg
  refine Go.Sx.V rfl wu rfl rfl (asg rfl) ?_
  refine wr_nil (post_thenN (wc_seq ?_))
  have hsz := hE.size
  refine wc_region [0] rfl ?_
  refine Go.Sx.V rfl wu rfl rfl (asg rfl) ?_
  refine wr_nil (post_thenN (wc_seq (wc_seq ?_)))
  refine wc_region [0,1] rfl ?_
  refine Go.Sx.V rfl wu rfl rfl (mv rfl) ?_
  refine Go.Sx.V rfl wu rfl rfl (asg rfl) ?_
  refine wr_nil (post_thenN (wc_block ?_))
  have hlenR : ∀ t, (A.getD (t + b) []).length - a ≤ 65536 := fun t => by have := hA (t + b); omega
  refine wc_loop (fun s : Nat × Value => [(1, u), (2, .int .i64 a), (3, .int .i64 b), (4, .pointer (some ⟨fb, 0, none⟩)), (9, s.2), (10, .int .i64 ((s.1 : Int) + b))])
    (fun s w' => s.1 ≤ A.length - b ∧ Ext w w' ∧ Ext w1 w' ∧ LOX [] w1.heap.size w' s.2 22 (tab s.1 fun t => hsRow (bz P A) a b t ((A.getD (t + b) []).length - a))) (fun s => A.length - b - s.1) (0, .slice none 0 0) ⟨rfl, rfl, rfl, rfl, rfl, by show _ = some (Value.int .i64 (((0 : Nat) : Int) + b)); rw [show (((0 : Nat) : Int) + b) = (b : Int) by omega]; rfl, trivial⟩ ⟨by omega, hE, Ext.refl _, LOX.nil _ _ _ _⟩ ?_
  clear hE
  rintro ⟨t, out⟩ w4 ⟨t1, hE, hE1, ho⟩
  dsimp only at t1 ho
  have hsi := hs.ext hE
  try dsimp only
  refine wc_seq (wc_seq ?_)
  refine wc_region [0,1,2,3] rfl ?_
  refine Go.Sx.V rfl wu rfl rfl (mv rfl) ?_
  refine Go.Sx.V rfl wu rfl rfl (mv rfl) ?_
  refine Go.Sx.V rfl wu rfl rfl (lenS rfl ty30 hsi) ?_
  refine Go.Sx.V rfl wu rfl rfl (lssI rfl rfl) ?_
  refine wr_nil (post_thenN ?_)
  rw [hrl]
  refine wc_cond rfl ?_ ?_
  · intro hc
    simp at hc
    obtain ⟨r, hr, hri⟩ := hrr (t + b) (by omega)
    have hr' : rows[((t : Int) + b).toNat]? = some r := by rw [show ((t : Int) + b).toNat = t + b by omega]; exact hr
    obtain ⟨z, hz⟩ : ∃ z, z = A.getD (t + b) [] := ⟨_, rfl⟩
    have hzl : z.length ≤ na := by rw [hz]; exact hA _
    rw [← hz] at hri
    have hzc : ∀ s, inK P (z.getD s 0) = ((bz P A).co (t + b)).co s := fun s => by rw [co_bz, ← hz]; rfl
    refine wc_skip (post_thenN (wc_seq (wc_block (wc_seq ?_))))
    refine wc_region [0] rfl ?_
    refine Go.Sx.V rfl wu rfl rfl (asg rfl) ?_
    refine wr_nil (post_thenN (wc_seq (wc_seq ?_)))
    refine wc_region [0,1] rfl ?_
    refine Go.Sx.V rfl wu rfl rfl (mv rfl) ?_
    refine Go.Sx.V rfl wu rfl rfl (asg rfl) ?_
    refine wr_nil (post_thenN (wc_block ?_))
    have hs4 : Ext w4 w4 := Ext.refl _
    refine wc_loop (fun s : Nat × Value => [(1, u), (2, .int .i64 a), (3, .int .i64 b), (4, .pointer (some ⟨fb, 0, none⟩)), (9, out), (10, .int .i64 ((t : Int) + b)), (11, s.2), (12, .int .i64 ((s.1 : Int) + a))])
      (fun s w' => s.1 ≤ z.length - a ∧ Ext w w' ∧ Ext w1 w' ∧ Ext w4 w' ∧ OwnI w4.heap.size w' s.2 3 (hsRow (bz P A) a b t s.1)) (fun s => z.length - a - s.1) (0, .slice none 0 0) ⟨rfl, rfl, rfl, rfl, rfl, rfl, rfl, by show _ = some (Value.int .i64 (((0 : Nat) : Int) + a)); rw [show (((0 : Nat) : Int) + a) = (a : Int) by omega]; rfl, trivial⟩ ⟨by omega, hE, hE1, hs4, OwnI.nil _ _ _⟩ ?_
    have z1 := hE1.size
    have z0 := hE.size
    clear hE hE1 hs4 hsi
    rintro ⟨s, row⟩ w5 ⟨s1, hE, hE1, hE4, hrow⟩
    dsimp only at s1 hrow
    have hsi := hs.ext hE
    replace hri := hri.ext hE
    have hBi := hB.ext hE1
    have hrowl : (hsRow (bz P A) a b t s).length = s := tab_length _ _
    try dsimp only
    refine wc_seq (wc_seq ?_)
    refine wc_region [0,1,2,3,4,5,6] rfl ?_
    refine Go.Sx.V rfl wu rfl rfl (mv rfl) ?_
    refine Go.Sx.V rfl wu rfl rfl (mv rfl) ?_
    refine Go.Sx.V rfl wu rfl rfl (mv rfl) ?_
    refine Go.Sx.V rfl wu rfl rfl (iad rfl rfl ty30 hsi (by omega) (by omega)) ?_
    refine Go.Sx.V rfl wu rfl rfl (ldE rfl na22 hsi hr') ?_
    refine Go.Sx.V rfl wu rfl rfl (lenI rfl ty22 hri) ?_
    refine Go.Sx.V rfl wu rfl rfl (lssI rfl rfl) ?_
    refine wr_nil (post_thenN ?_)
    refine wc_cond rfl ?_ ?_
    · intro hc2
      simp at hc2
      have m1 := Int.emod_nonneg ((bc (s + a) a : Nat) : Int) (b := P.p) (by omega)
      have m2 := Int.emod_lt_of_pos ((bc (s + a) a : Nat) : Int) (b := P.p) (by omega)
      have m3 := Int.emod_nonneg ((bc (t + b) b : Nat) : Int) (b := P.p) (by omega)
      have m4 := Int.emod_lt_of_pos ((bc (t + b) b : Nat) : Int) (b := P.p) (by omega)
      have mm := mul_le' (a := ((bc (s + a) a : Nat) : Int) % P.p) (b := ((bc (t + b) b : Nat) : Int) % P.p) (c := 256) (d := 256) m1 (by omega) m3 (by omega)
      have e0 := mod_mul2 (p := P.p) (bc (s + a) a) (bc (t + b) b)
      have n1 := Int.emod_nonneg ((bc (s + a) a * bc (t + b) b : Nat) : Int) (b := P.p) (by omega)
      have n2 := Int.emod_lt_of_pos ((bc (s + a) a * bc (t + b) b : Nat) : Int) (b := P.p) (by omega)
      have hval : nm (((bc (s + a) a * bc (t + b) b : Nat) : Int) % P.p).toNat (inK P (gi z ((s : Int) + a))) = ((hs2 a b (bz P A)).co t).co s := by
        rw [nm_mod rfl, hs2_co, ← hzc (s + a), gi, show ((s : Int) + a).toNat = s + a by omega]
      refine wc_skip (post_thenN (wc_seq (wc_block ?_)))
      refine wc_draw mixed [0,1,2,3,4,5,7,8,9,10,13,14,16,17,18,19,20,21,22,6,11,12,15,23,24,25,26] (by kernel_rfl) ?_
      intro w6 hd _
      replace hE := hE.trans hd
      replace hE1 := hE1.trans hd
      replace hE4 := hE4.trans hd
      replace hsi := hsi.ext hd
      replace hri := hri.ext hd
      replace hBi := hBi.ext hd
      replace hrow := hrow.ext hd
      refine Go.Sx.V rfl wu rfl rfl (mv rfl) ?_
      refine Go.Sx.V rfl wu rfl rfl (ldA rfl ag24) ?_
      refine Go.Sx.V rfl wu rfl rfl (mv rfl) ?_
      refine Go.Sx.V rfl wu rfl rfl (mv rfl) ?_
      refine Go.Sx.V rfl wu rfl rfl (fad rfl fa24_0) ?_
      refine Go.Sx.V rfl wu rfl rfl (ldB rfl na3) ?_
      refine Go.Sx.V rfl wu rfl rfl (mv rfl) ?_
      refine Go.Sx.V rfl wu rfl rfl (mv rfl) ?_
      refine Go.Sx.V rfl wu rfl rfl (fad rfl fa24_0) ?_
      refine Go.Sx.V rfl wu rfl rfl (ldB rfl na3) ?_
      refine Go.Sx.V rfl wu rfl rfl (fad rfl fa24_0) ?_
      refine Go.Sx.V rfl wu rfl rfl (ldB rfl na3) ?_
      refine Go.Sx.V rfl wu rfl rfl (mv rfl) ?_
      refine Go.Sx.V rfl wu rfl rfl (mv rfl) ?_
      refine Go.Sx.V rfl wu rfl rfl (iad rfl rfl ty30 hsi (by omega) (by omega)) ?_
      refine Go.Sx.V rfl wu rfl rfl (ldE rfl na22 hsi hr') ?_
      refine Go.Sx.V rfl wu rfl rfl (mv rfl) ?_
      refine Go.Sx.V rfl wu rfl rfl (iadI rfl rfl ty22 hri (by omega) (by omega)) ?_
      refine Go.Sx.V rfl wu rfl rfl (ldI rfl na3 hri) ?_
      rw [show ((s : Int) + a) = ((s + a : Nat) : Int) by omega, show ((t : Int) + b) = ((t + b : Nat) : Int) by omega]
      refine C rfl wu rfl rfl Tryz.call103 (rChoose (s + a) a P.p _ ⟨hp2, hp⟩ (by omega) (by omega)) ?_
      rintro _ w7 hE7 rfl
      replace hE := hE.trans hE7
      replace hE1 := hE1.trans hE7
      replace hE4 := hE4.trans hE7
      replace hrow := Own.ext hrow hE7
      refine C rfl wu rfl rfl Tryz.call103 (rChoose (t + b) b P.p _ ⟨hp2, hp⟩ (by omega) (by omega)) ?_
      rintro _ w8 hE8 rfl
      replace hE := hE.trans hE8
      replace hE1 := hE1.trans hE8
      replace hE4 := hE4.trans hE8
      replace hrow := Own.ext hrow hE8
      refine Go.Sx.V rfl wu rfl rfl (mulI rfl rfl) ?_
      refine Go.Sx.V rfl wu rfl rfl (remI rfl rfl) ?_
      rw [show ((s + a : Nat) : Int) = (s : Int) + a by omega, e0]
      refine C rfl wu rfl rfl Tryz.call102 (rTimes P mo md _ _ _ (hF.ext hE) ⟨n1, by omega⟩) ?_
      rintro _ w9 hE9 rfl
      replace hE := hE.trans hE9
      replace hE1 := hE1.trans hE9
      replace hE4 := hE4.trans hE9
      replace hrow := Own.ext hrow hE9
      rw [hval]
      refine BSI (zs := [(((hs2 a b (bz P A)).co t).co s).1]) rfl wu rfl rfl rfl rfl ty22 ?_
      intro v1 w10 hE10 ho10 hi10 hb10
      replace hrow := Own.ext hrow hE10
      replace hE := hE.trans hE10
      replace hE1 := hE1.trans hE10
      replace hE4 := hE4.trans hE10
      clear ho10
      refine API rfl wu rfl rfl rfl ty22 (by intro h h2; exact absurd h2 (by decide +kernel)) ?_ (ho := hrow) (hB := hE4.size)
      intro row' w11 hg11 hX11 ho11 hi11 hb11
      refine Go.Sx.V rfl wu rfl rfl (asg rfl) ?_
      refine wr_nil (post_blockN (post_thenN ?_))
      refine wc_region [0,1,2] rfl ?_
      refine Go.Sx.V rfl wu rfl rfl (mv rfl) ?_
      refine Go.Sx.V rfl wu rfl rfl (addI rfl rfl) ?_
      refine Go.Sx.V rfl wu rfl rfl (asg rfl) ?_
      refine wr_nil ?_
      refine post_loopN (s + 1, row') ⟨rfl, rfl, rfl, rfl, rfl, by show _ = some (Value.int .i64 ((t : Int) + b)); rw [show ((t : Int) + b) = ((t + b : Nat) : Int) by omega]; rfl, rfl, by show _ = some (Value.int .i64 (((s + 1 : Nat) : Int) + a)); rw [show ((s + 1 : Nat) : Int) + a = ((s : Int) + a) + 1 by omega]; first | rfl | (rw [show ((s : Int) + a) = ((s + a : Nat) : Int) by omega]; rfl), trivial⟩ ⟨by show s + 1 ≤ z.length - a; omega, hX11 _ z0 hE, hX11 _ z1 hE1, hX11 _ (Nat.le_refl _) hE4, ?_⟩ (by show z.length - a - (s + 1) < z.length - a - s; omega)
      show OwnI _ _ _ _ (hsRow (bz P A) a b t (s + 1))
      rw [hsRow, tab_succ]
      exact ho11
    · intro hc2
      simp at hc2
      have hsz2 : s = z.length - a := by omega
      have hrowi := OwnI.ints hrow
      have hoX : LOX [] w1.heap.size w5 out 22 (tab t fun t => hsRow (bz P A) a b t ((A.getD (t + b) []).length - a)) := ho.ext hE4
      have hne : hsRow (bz P A) a b t s = [] ∨ (row.ownBlock ≠ out.ownBlock ∧ NB [] row) := row_newX ho hrow (Nat.le_refl _)
      refine wc_exit (post_thenE (post_loopE (post_blockX (post_thenN ?_))))
      refine wc_region [0,1,2,3,4] rfl ?_
      refine Go.Sx.V rfl wu rfl rfl (mv rfl) ?_
      refine Go.Sx.V rfl wu rfl rfl (mv rfl) ?_
      refine BS (us := [row]) rfl wu rfl rfl rfl rfl ty30 (by intro q hq; obtain rfl : q = row := (by simpa using hq); exact hrowi.one) ?_
      intro sv w6 hE6 hsv _
      refine APX rfl wu rfl rfl rfl ty30 rfl (by intro h h2; cases h) (hoX.ext hE6) (by have := hE6.size; have := hE4.size; omega) hsv.sl (Ext.refl _) (hrowi.ext hE6) hne (by rw [tab_length]; omega) (by rw [tab_length]; omega) ?_
      intro out' w7 hg7 hX7 ho7
      refine Go.Sx.V rfl wu rfl rfl (asg rfl) ?_
      refine wr_nil (post_blockN (post_thenN ?_))
      refine wc_region [0,1,2] rfl ?_
      refine Go.Sx.V rfl wu rfl rfl (mv rfl) ?_
      refine Go.Sx.V rfl wu rfl rfl (addI rfl rfl) ?_
      refine Go.Sx.V rfl wu rfl rfl (asg rfl) ?_
      refine wr_nil ?_
      refine post_loopN (t + 1, out') ⟨rfl, rfl, rfl, rfl, rfl, by show _ = some (Value.int .i64 (((t + 1 : Nat) : Int) + b)); rw [show ((t + 1 : Nat) : Int) + b = ((t : Int) + b) + 1 by omega]; rfl, trivial⟩ ⟨by show t + 1 ≤ A.length - b; omega, hX7 _ hsz (hE.trans hE6), hX7 _ (Nat.le_refl _) (hE1.trans hE6), ?_⟩ (by show A.length - b - (t + 1) < A.length - b - t; omega)
      show LOX _ _ _ _ _ (tab (t + 1) _)
      rw [tab_succ, ← hz, ← hsz2]
      exact ho7
  · intro hc
    simp at hc
    refine wc_exit (post_thenE (post_loopE (post_blockX (post_thenN (wc_seq ?_)))))
    have htl : t = A.length - b := by omega
    have hyb := (hs2_bounds a b (YB.bz (P := P) A) (hA.xb (P := P))).1
    have hbz : bz P (tab t fun t => hsRow (bz P A) a b t ((A.getD (t + b) []).length - a)) = hs2 a b (bz P A) := Pol.ext fun j => by
      rw [co_bz, tab_at]
      split
      · refine pz_tab fun s hs => ?_
        rw [hs2_co, co_bz, co_pz_over (by omega), nm_zero']
      · rw [hyb j (by omega)]; exact pz_nil
    have hrb : RB 17592186044416 (tab t fun t => hsRow (bz P A) a b t ((A.getD (t + b) []).length - a)) := fun j => by
      rw [tab_at]
      split
      · rw [hsRow, tab_length]; have := hlenR j; omega
      · simp
    have hBi := hB.ext hE1
    refine wc_region [0,1,2,3] rfl ?_
    refine Go.Sx.V rfl wu rfl rfl (ldA rfl ag24) ?_
    refine Go.Sx.V rfl wu rfl rfl (mv rfl) ?_
    refine C rfl wu rfl rfl Tryz.call19 (rBCanon P mo md out _ _ (hF.ext hE) ho.ll hrb (by rw [tab_length]; omega)) ?_
    intro c w6 hE6 hc
    rw [hbz] at hc
    refine Go.Sx.V rfl wu rfl rfl (asg rfl) ?_
    refine wr_nil (post_thenN (wc_ret ?_))
    refine post_ret1 rfl rfl ?_
    exact ⟨hE.trans hE6, hc.mono hE.size⟩
def VanP {P : FP} (x y : K P) (F : Pol (Pol (K P))) (m : Nat) : Prop := ∀ a b, a + b < m → val2 (hs2 a b F) x y = 0
set_option maxRecDepth 10000 in
theorem rAtLeast (P : FP) (mo : Value) (md : List Int) (u : Value) (A : List (List Int)) (x y : Int) (m : Nat) (na : Nat) (w : World) (hF : FV w P mo md) (hu : LL w u A) (hA : RB na A) (hna : na ≤ 65536) (hl : A.length ≤ 65536) (hm : m ≤ 65536) :
    Calls Tryz.prog 43 #[fv P mo, u, .int .i64 x, .int .i64 y, .int .i64 m] w (RetX w fun r _ => ∃ t, r = .bool t ∧ (t = true ↔ VanP (inK P x) (inK P y) (bz P A) m)) := by
  refine calls5 Tryz.func43 rfl rfl ?_
  refine wc_seq ?_
  refine wc_region [0,1] rfl ?_
  refine BXA rfl wu rfl rfl ?_
  intro fb w1 hE hB hg
  refine Go.Sx.V rfl wu rfl rfl (asg rfl) ?_
  refine wr_nil (post_thenN (wc_seq (wc_seq ?_)))
  refine wc_region [0] rfl ?_
  refine Go.Sx.V rfl wu rfl rfl (asg rfl) ?_
  refine wr_nil (post_thenN (wc_block ?_))
  refine wc_loop (fun n : Nat => [(1, u), (2, .int .i64 x), (3, .int .i64 y), (4, .int .i64 m), (5, .pointer (some ⟨fb, 0, none⟩)), (11, .int .i64 n)])
    (fun n w' => n ≤ m ∧ Ext w w' ∧ Ext w1 w' ∧ VanP (inK P x) (inK P y) (bz P A) n) (fun n => m - n) 0 ⟨rfl, rfl, rfl, rfl, rfl, rfl, trivial⟩ ⟨by omega, hE, Ext.refl _, fun a b h => by omega⟩ ?_
  clear hE
  rintro n w4 ⟨n1, hE, hE1, hvan⟩
  try dsimp only
  refine wc_seq (wc_seq ?_)
  refine wc_region [0,1,2] rfl ?_
  refine Go.Sx.V rfl wu rfl rfl (mv rfl) ?_
  refine Go.Sx.V rfl wu rfl rfl (mv rfl) ?_
  refine Go.Sx.V rfl wu rfl rfl (lssI rfl rfl) ?_
  refine wr_nil (post_thenN ?_)
  refine wc_cond rfl ?_ ?_
  · intro hc
    simp at hc
    refine wc_skip (post_thenN (wc_seq (wc_block (wc_seq ?_))))
    refine wc_region [0] rfl ?_
    refine Go.Sx.V rfl wu rfl rfl (asg rfl) ?_
    refine wr_nil (post_thenN (wc_block ?_))
    refine wc_loop (fun a : Nat => [(1, u), (2, .int .i64 x), (3, .int .i64 y), (4, .int .i64 m), (5, .pointer (some ⟨fb, 0, none⟩)), (11, .int .i64 n), (12, .int .i64 a)])
      (fun a w' => a ≤ n + 1 ∧ Ext w w' ∧ Ext w1 w' ∧ ∀ s, s < a → val2 (hs2 s (n - s) (bz P A)) (inK P x) (inK P y) = 0) (fun a => n + 1 - a) 0 ⟨rfl, rfl, rfl, rfl, rfl, rfl, rfl, trivial⟩ ⟨by omega, hE, hE1, fun s hs => by omega⟩ ?_
    clear hE hE1
    clear w4
    rintro a w4 ⟨a1, hE, hE1, hz⟩
    have hBi := hB.ext hE1
    try dsimp only
    refine wc_seq (wc_seq ?_)
    refine wc_region [0,1,2] rfl ?_
    refine Go.Sx.V rfl wu rfl rfl (mv rfl) ?_
    refine Go.Sx.V rfl wu rfl rfl (mv rfl) ?_
    refine Go.Sx.V rfl wu rfl rfl (leqI rfl rfl) ?_
    refine wr_nil (post_thenN ?_)
    refine wc_cond rfl ?_ ?_
    · intro hc2
      simp at hc2
      refine wc_skip (post_thenN (wc_seq (wc_block (wc_seq ?_))))
      refine wc_draw mixed [0,1,2,3,4,5,6,8,9,7,10,11] (by kernel_rfl) ?_
      intro w5 hd _
      replace hE := hE.trans hd
      replace hE1 := hE1.trans hd
      replace hBi := hBi.ext hd
      refine Go.Sx.V rfl wu rfl rfl (ldA rfl ag24) ?_
      refine Go.Sx.V rfl wu rfl rfl (ldA rfl ag24) ?_
      refine Go.Sx.V rfl wu rfl rfl (mv rfl) ?_
      refine Go.Sx.V rfl wu rfl rfl (mv rfl) ?_
      refine Go.Sx.V rfl wu rfl rfl (mv rfl) ?_
      refine Go.Sx.V rfl wu rfl rfl (mv rfl) ?_
      refine Go.Sx.V rfl wu rfl rfl (subI rfl rfl) ?_
      refine Go.Sx.V rfl wu rfl rfl (mv rfl) ?_
      refine Go.Sx.V rfl wu rfl rfl (mv rfl) ?_
      rw [show ((n : Int) - a) = ((n - a : Nat) : Int) by omega]
      refine C rfl wu rfl rfl Tryz.call74 (rHasse P mo md u A a (n - a) na _ (hF.ext hE) (hu.ext hE) hA (by omega) (by omega) (by omega) (by omega)) ?_
      intro d w6 hE6 hd6
      replace hE := hE.trans hE6
      replace hE1 := hE1.trans hE6
      refine C rfl wu rfl rfl Tryz.call73 (rBEval P mo md d _ x y _ (hF.ext hE) hd6.ll) ?_
      rintro _ w7 hE7 rfl
      replace hE := hE.trans hE7
      replace hE1 := hE1.trans hE7
      refine Go.Sx.V rfl wu rfl rfl (neqI rfl rfl) ?_
      refine wr_nil (post_thenN ?_)
      rw [bz_bcl]
      refine wc_cond rfl ?_ ?_
      · intro hv
        simp at hv
        refine wc_seq ?_
        refine wc_region [0] rfl ?_
        refine Go.Sx.V rfl wu rfl rfl (asg rfl) ?_
        refine wr_nil (post_thenN (wc_ret (post_blockR (post_thenR (post_loopR (post_blockR (post_blockR (post_thenR (post_loopR (post_blockR (post_thenR ?_)))))))))))
        refine post_ret1 rfl rfl ?_
        refine ⟨hE, _, rfl, ⟨fun h => (by cases h), fun h => ?_⟩⟩
        exact absurd (by rw [h a (n - a) (by omega)]; rfl) hv
      · intro hv
        simp at hv
        have hv' : val2 (hs2 a (n - a) (bz P A)) (inK P x) (inK P y) = 0 := Subtype.ext hv
        refine wc_skip (post_blockN (post_thenN ?_))
        refine wc_region [0,1,2] rfl ?_
        refine Go.Sx.V rfl wu rfl rfl (mv rfl) ?_
        refine Go.Sx.V rfl wu rfl rfl (addI rfl rfl) ?_
        refine Go.Sx.V rfl wu rfl rfl (asg rfl) ?_
        refine wr_nil ?_
        exact post_loopN (a + 1) ⟨rfl, rfl, rfl, rfl, rfl, rfl, rfl, trivial⟩ ⟨by omega, hE, hE1, fun s hs => by
          rcases Nat.lt_or_ge s a with h1 | h1
          · exact hz s h1
          · obtain rfl : s = a := by omega
            exact hv'⟩ (by omega)
    · intro hc2
      simp at hc2
      refine wc_exit (post_thenE (post_loopE (post_blockX (post_blockN (post_thenN ?_)))))
      refine wc_region [0,1,2] rfl ?_
      refine Go.Sx.V rfl wu rfl rfl (mv rfl) ?_
      refine Go.Sx.V rfl wu rfl rfl (addI rfl rfl) ?_
      refine Go.Sx.V rfl wu rfl rfl (asg rfl) ?_
      refine wr_nil ?_
      exact post_loopN (n + 1) ⟨rfl, rfl, rfl, rfl, rfl, rfl, trivial⟩ ⟨by omega, hE, hE1, fun s t hst => by
        rcases Nat.lt_or_ge (s + t) n with h1 | h1
        · exact hvan s t h1
        · have := hz s (by omega)
          rwa [show n - s = t by omega] at this⟩ (by omega)
  · intro hc
    simp at hc
    refine wc_exit (post_thenE (post_loopE (post_blockX (post_thenN (wc_seq ?_)))))
    refine wc_region [0] rfl ?_
    refine Go.Sx.V rfl wu rfl rfl (asg rfl) ?_
    refine wr_nil (post_thenN (wc_ret ?_))
    refine post_ret1 rfl rfl ?_
    refine ⟨hE, _, rfl, ⟨fun _ => ?_, fun _ => rfl⟩⟩
    rw [show m = n by omega]
    exact hvan
end Go.Proofs.YtmnojknfjbimdaaGreat

