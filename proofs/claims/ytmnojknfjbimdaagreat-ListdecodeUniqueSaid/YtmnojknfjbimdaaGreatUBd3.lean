/-
  Bounded decoding, part 3: Euclid's algorithm and Gao's decoder, by contract.
-/
import Derived.Test.YtmnojknfjbimdaaGreatUBd2
namespace Go.Fd
open Go.Pl Go.Alg
variable {P : FP}
noncomputable def wrN (f : Pol (K P)) (X Y : Nat → K P) (n : Nat) : Nat := open Classical in ns n fun i => if val1 f (X i) = Y i then 0 else 1
open Classical in
theorem wrN_step (f : Pol (K P)) (X Y : Nat → K P) (n : Nat) : wrN f X Y (n + 1) = wrN f X Y n + (if val1 f (X n) = Y n then 0 else 1) := rfl
theorem wrN_hit {f : Pol (K P)} {X Y : Nat → K P} {n : Nat} (h : val1 f (X n) = Y n) : wrN f X Y (n + 1) = wrN f X Y n := by rw [wrN_step, if_pos h]; rfl
theorem wrN_miss {f : Pol (K P)} {X Y : Nat → K P} {n : Nat} (h : val1 f (X n) ≠ Y n) : wrN f X Y (n + 1) = wrN f X Y n + 1 := by rw [wrN_step, if_neg h]
theorem wrN_le (f : Pol (K P)) (X Y : Nat → K P) : ∀ n, wrN f X Y n ≤ n
  | 0 => Nat.le_refl _
  | n + 1 => by
    rw [wrN_step]
    have := wrN_le f X Y n
    split <;> omega
open Classical in
theorem wrong_loc (hK : NZD (K P)) {f G : Pol (K P)} {X Y : Nat → K P} {n : Nat} (hX : ∀ i j, i < n → j < n → i ≠ j → X i ≠ X j) (hG : ∀ i, i < n → val1 G (X i) = Y i) :
    ∃ E v, Dg (wrN f X Y n) E ∧ E * (G + -f) = lcP X (fun _ => true) n * v := by
  have hE := lcP_dg hK X (fun i => decide (val1 f (X i) ≠ Y i)) n
  have e : (ns n fun i => if decide (val1 f (X i) ≠ Y i) = true then 1 else 0) = wrN f X Y n := by
    rw [wrN]
    congr 1
    funext i
    by_cases h : val1 f (X i) = Y i
    · rw [if_pos h, if_neg (by simp [h])]
    · rw [if_neg h, if_pos (by simp [h])]
  rw [e] at hE
  obtain ⟨v, hv⟩ := lcP_div hK (X := X) (h := lcP X (fun i => decide (val1 f (X i) ≠ Y i)) n * (G + -f)) (n := n) hX fun i hi => by
    rw [(val1_hom _).mul, (val1_hom _).add, (val1_hom _).neg, hG i hi]
    by_cases h : val1 f (X i) = Y i
    · rw [h, add_neg, mul_zero]
    · rw [lcP_zero X _ hi (by simp [h]), zero_mul]
  exact ⟨_, v, hE, hv⟩
end Go.Fd
namespace Go.Proofs.YtmnojknfjbimdaaGreat
open Go Go.Sx Go.Pl Go.RowKit Go.Fd Go.Alg Go.Ld
set_option maxRecDepth 10000 in
theorem kEuclid (P : FP) (g u v : Value) (N G : Pol (K P)) (n k : Nat) (w : World) (hG : GFV w P g) (hu : Ints w u (cl N)) (hv : Ints w v (cl G)) (hN : Go.Fd.Dg n N) (hyG : YB n G) (hn : n ≤ 64) (hk : k ≤ n) :
    Calls Tryz.prog 120 #[g, u, v, .int .i64 ((n : Int) + k)] w (RetX w fun r w' => ∃ bv tv a b old t da, r = .tuple #[bv, tv] ∧ Ints w' bv (cl b) ∧ Ints w' tv (cl t) ∧ Eu n N G a b old t da ∧ n + k ≤ 2 * da ∧ ∀ d, Go.Fd.Dg d b → 2 * d < n + k) := by
  refine calls4 Tryz.func120 rfl rfl ?_
  refine wc_seq ?_
  refine wc_region [0,1] rfl ?_
  refine Go.Sx.V rfl wu rfl rfl (asg rfl) ?_
  refine Go.Sx.V rfl wu rfl rfl (asg rfl) ?_
  refine wr_nil (post_thenN (wc_seq ?_))
  refine wc_region [0,1] rfl ?_
  refine BSI (zs := []) rfl wu rfl rfl rfl rfl ty22 ?_
  intro ov w1 hE _ hoi _
  refine Go.Sx.V rfl wu rfl rfl (asg rfl) ?_
  refine wr_nil (post_thenN (wc_seq ?_))
  refine wc_region [0,1] rfl ?_
  refine BSI (zs := [1]) rfl wu rfl rfl rfl rfl ty22 ?_
  intro tv w2 hE2 _ hti _
  replace hE := hE.trans hE2
  replace hoi := hoi.ext hE2
  refine Go.Sx.V rfl wu rfl rfl (asg rfl) ?_
  refine wr_nil (post_thenN (wc_seq (wc_block ?_)))
  have h0 : Ints w2 ov (cl (0 : Pol (K P))) := by rw [cl_nil.2 rfl]; exact hoi
  have h1 : Ints w2 tv (cl (1 : Pol (K P))) := by rw [cl_one]; exact hti
  refine wc_loop (fun s : Value × Value × Value × Value × Nat => [(0, g), (1, s.1), (2, s.2.1), (3, .int .i64 ((n : Int) + k)), (9, s.2.2.2.1), (10, s.2.2.1)])
    (fun s w' => Ext w w' ∧ ∃ a b old t da, Ints w' s.1 (cl a) ∧ Ints w' s.2.1 (cl b) ∧ Ints w' s.2.2.1 (cl old) ∧ Ints w' s.2.2.2.1 (cl t) ∧ Eu n N G a b old t da ∧ n + k ≤ 2 * da ∧ (cl b).length = s.2.2.2.2) (fun s => s.2.2.2.2) (u, v, ov, tv, (cl G).length)
    ⟨rfl, rfl, rfl, rfl, rfl, rfl, trivial⟩ ⟨hE, N, G, 0, 1, n, hu.ext hE, hv.ext hE, h0, h1, Eu.first hN hyG, by omega, rfl⟩ ?_
  clear hE h0 h1 hoi hti hE2
  rintro ⟨av, bv, ov, tv, lb⟩ w3 ⟨hE, a, b, old, t, da, ha, hb, ho, ht, hEu, hda, hlb⟩
  dsimp only at ha hb ho ht hlb
  have hal := hEu.dga.len
  have hdn := hEu.dan
  have hbl : (cl b).length ≤ da := cl_len hEu.yb
  have hol : (cl old).length ≤ n - da + 1 := cl_len hEu.yo
  have htl : (cl t).length ≤ n - da + 1 := cl_len hEu.yt
  try dsimp only
  refine wc_seq (wc_seq ?_)
  refine wc_region [0,1,2,3,4,5] rfl ?_
  refine Go.Sx.V rfl wu rfl rfl (mv rfl) ?_
  refine Go.Sx.V rfl wu rfl rfl (mv rfl) ?_
  refine C rfl wu rfl rfl Tryz.call159 (pDegree P g bv _ _ (hG.ext hE) hb (by omega)) ?_
  rintro _ w4 hE4 rfl
  replace hE := hE.trans hE4
  replace ha := ha.ext hE4
  replace hb := hb.ext hE4
  replace ho := ho.ext hE4
  replace ht := ht.ext hE4
  rw [pz_cl, hlb]
  refine Go.Sx.V rfl wu rfl rfl (mulI rfl rfl) ?_
  refine Go.Sx.V rfl wu rfl rfl (mv rfl) ?_
  refine Go.Sx.V rfl wu rfl rfl (geqI rfl rfl) ?_
  refine wr_nil (post_thenN ?_)
  refine wc_cond rfl ?_ ?_
  · intro hc
    simp at hc
    have hb0 : b ≠ 0 := fun e => by
      have : (cl b).length = 0 := by rw [cl_nil.2 e]; rfl
      omega
    have hdb := dg_cl hb0
    rw [hlb] at hdb
    refine wc_skip (post_thenN (wc_block (wc_seq ?_)))
    refine wc_region [0,1,2,3,4,5,6,7,8,9,10] rfl ?_
    refine Go.Sx.V rfl wu rfl rfl (mv rfl) ?_
    refine Go.Sx.V rfl wu rfl rfl (mv rfl) ?_
    refine Go.Sx.V rfl wu rfl rfl (mv rfl) ?_
    refine C rfl wu rfl rfl Tryz.call122 (pDivMod P g av bv _ _ _ (hG.ext hE) ha hb (by omega) (by omega) (by rw [pz_cl]; exact hb0)) ?_
    rintro _ w5 hE5 ⟨qv, rv, Q, R, rfl, hqo, hr, heq, hyR, hyQ⟩
    have hq := OwnI.ints hqo
    replace hE := hE.trans hE5
    replace ha := ha.ext hE5
    replace hb := hb.ext hE5
    replace ho := ho.ext hE5
    replace ht := ht.ext hE5
    refine Go.Sx.V rfl wu rfl rfl (mv rfl) ?_
    refine Go.Sx.V rfl wu rfl rfl (ext rfl rfl) ?_
    refine Go.Sx.V rfl wu rfl rfl (ext rfl rfl) ?_
    refine Go.Sx.V rfl wu rfl rfl (ext rfl rfl) ?_
    refine Go.Sx.V rfl wu rfl rfl (asg rfl) ?_
    refine Go.Sx.V rfl wu rfl rfl (asg rfl) ?_
    refine Go.Sx.V rfl wu rfl rfl (asg rfl) ?_
    refine wr_nil (post_thenN (wc_seq ?_))
    rw [pz_cl, pz_cl] at heq
    rw [pz_cl] at hyR
    rw [pz_cl, pz_cl, hal, hlb] at hyQ
    rw [hlb] at hyR
    have hql : (cl Q).length ≤ da + 1 - lb + 1 := cl_len hyQ
    refine wc_region [0,1,2,3] rfl ?_
    refine Go.Sx.V rfl wu rfl rfl (mv rfl) ?_
    refine Go.Sx.V rfl wu rfl rfl (mv rfl) ?_
    refine Go.Sx.V rfl wu rfl rfl (asg rfl) ?_
    refine Go.Sx.V rfl wu rfl rfl (asg rfl) ?_
    refine wr_nil (post_thenN ?_)
    have hst := hEu.step hdb heq hyR (yb_mono hyQ (by omega))
    have hrl : (cl R).length ≤ lb - 1 := cl_len hyR
    have hlb1 : 1 ≤ lb := by omega
    refine wc_region [0,1,2,3,4,5,6,7,8,9,10] rfl ?_
    refine Go.Sx.V rfl wu rfl rfl (mv rfl) ?_
    refine Go.Sx.V rfl wu rfl rfl (mv rfl) ?_
    refine Go.Sx.V rfl wu rfl rfl (mv rfl) ?_
    refine Go.Sx.V rfl wu rfl rfl (mv rfl) ?_
    refine Go.Sx.V rfl wu rfl rfl (mv rfl) ?_
    refine Go.Sx.V rfl wu rfl rfl (mv rfl) ?_
    refine BSL (us := [qv, tv]) (L := [cl Q, cl t]) rfl wu rfl rfl rfl rfl ty29 (Go.Sx.rows2 hq ht) ?_
    intro sv w6 hE6 hsv
    replace hE := hE.trans hE6
    replace hb := hb.ext hE6
    replace ho := ho.ext hE6
    replace ht := ht.ext hE6
    replace hr := hr.ext hE6
    refine C rfl wu rfl rfl Tryz.call161 (pMul P g sv _ _ (hG.ext hE) hsv (fun i z hz => by (match i, hz with | 0, h => (cases h; omega) | 1, h => (cases h; omega) | i + 2, h => simp at h)) (by simp)) ?_
    intro pv w7 hE7 hp
    replace hE := hE.trans hE7
    replace hb := hb.ext hE7
    replace ho := ho.ext hE7
    replace ht := ht.ext hE7
    replace hr := hr.ext hE7
    have hpi := OwnI.ints hp
    rw [prodP_two, pz_cl, pz_cl] at hpi
    refine C rfl wu rfl rfl Tryz.call160 (pSub P g ov pv _ _ _ (hG.ext hE) ho hpi (by omega) (Nat.le_trans (cl_len (yb_mul (n := da + 1 - lb) (m := n - da) hyQ hEu.yt)) (by omega))) ?_
    intro tv2 w8 hE8 ht2
    replace hE := hE.trans hE8
    replace hb := hb.ext hE8
    replace ht := ht.ext hE8
    replace hr := hr.ext hE8
    have ht3 := OwnI.ints ht2
    rw [pz_cl, pz_cl] at ht3
    refine Go.Sx.V rfl wu rfl rfl (asg rfl) ?_
    refine Go.Sx.V rfl wu rfl rfl (asg rfl) ?_
    refine wr_nil (post_blockN ?_)
    exact post_loopN (bv, rv, tv, tv2, (cl R).length) ⟨rfl, rfl, rfl, rfl, rfl, rfl, trivial⟩ ⟨hE, b, R, t, _, _, hb, hr, ht, ht3, hst, by omega, rfl⟩ (by (try dsimp only); omega)
  · intro hc
    simp at hc
    refine wc_exit (post_thenE (post_loopE (post_blockX (post_thenN (wc_seq ?_)))))
    refine wc_region [0,1,2,3] rfl ?_
    refine Go.Sx.V rfl wu rfl rfl (mv rfl) ?_
    refine Go.Sx.V rfl wu rfl rfl (mv rfl) ?_
    refine Go.Sx.V rfl wu rfl rfl (asg rfl) ?_
    refine Go.Sx.V rfl wu rfl rfl (asg rfl) ?_
    refine wr_nil (post_thenN (wc_ret ?_))
    refine post_ret2 rfl rfl rfl ?_
    exact ⟨hE, bv, tv, a, b, old, t, da, rfl, hb, ht, hEu, hda, fun d hd => by have := hd.len; omega⟩
set_option maxRecDepth 10000 in
theorem kGao (P : FP) (g u v : Value) (xs ys : List Int) (k : Nat) (w : World) (hG : GFV w P g) (hu : Ints w u xs) (hv : Ints w v ys) (hn : xs.length ≤ 64) (hl : ys.length = xs.length) (hk : k ≤ xs.length)
    (hd : ∀ i j : Nat, i < xs.length → j < xs.length → i ≠ j → inK P (gi xs i) ≠ inK P (gi xs j)) :
    Calls Tryz.prog 84 #[g, u, v, .int .i64 k] w (RetX w fun r w' => ∃ mw e, ∃ M : Pol (K P), r = .tuple #[mw, .int .i64 e] ∧ (e = 0 → OwnI w.heap.size w' mw 3 (cl M) ∧ YB k M) ∧
      ∀ f : Pol (K P), YB k f → 2 * wrN f (fun i : Nat => inK P (gi xs i)) (fun i : Nat => inK P (gi ys i)) xs.length ≤ xs.length - k → e = 0 ∧ M = f) := by
  have hK := hG.nzd
  refine calls4 Tryz.func84 rfl rfl ?_
  refine wc_seq ?_
  refine wc_region [0,1] rfl ?_
  refine Go.Sx.V rfl wu rfl rfl (asg rfl) ?_
  refine Go.Sx.V rfl wu rfl rfl (asg rfl) ?_
  refine wr_nil (post_thenN (wc_seq ?_))
  refine wc_region [0,1,2,3,4,5,6,7,8] rfl ?_
  refine Go.Sx.V rfl wu rfl rfl (mv rfl) ?_
  refine Go.Sx.V rfl wu rfl rfl (mv rfl) ?_
  refine Go.Sx.V rfl wu rfl rfl (mv rfl) ?_
  refine C rfl wu rfl rfl Tryz.call119 (pInterpolate P g u v xs ys _ hG hu hv hn hl hd) ?_
  rintro _ w1 hE ⟨gv, F, rfl, hF, hyF, hFv⟩
  refine Go.Sx.V rfl wu rfl rfl (mv rfl) ?_
  refine Go.Sx.V rfl wu rfl rfl (ext rfl rfl) ?_
  refine Go.Sx.V rfl wu rfl rfl (ext rfl rfl) ?_
  refine Go.Sx.V rfl wu rfl rfl (asg rfl) ?_
  refine Go.Sx.V rfl wu rfl rfl (asg rfl) ?_
  refine wr_nil (post_thenN (wc_seq (wc_seq ?_)))
  refine wc_region [0,1] rfl ?_
  refine Go.Sx.V rfl wu rfl rfl (mv rfl) ?_
  refine Go.Sx.V rfl wu rfl rfl (neqI rfl rfl) ?_
  refine wr_nil (post_thenN ?_)
  refine wc_condF rfl (by simp) ?_
  refine wc_skip (post_thenN (wc_seq ?_))
  refine wc_region [0,1,2] rfl ?_
  refine Go.Sx.V rfl wu rfl rfl (mv rfl) ?_
  refine Go.Sx.V rfl wu rfl rfl (lenI rfl ty22) ?_
  refine Go.Sx.V rfl wu rfl rfl (asg rfl) ?_
  refine wr_nil (post_thenN (wc_seq (wc_seq ?_)))
  refine wc_region [0,1,2,3,4,5,6] rfl ?_
  refine Go.Sx.V rfl wu rfl rfl (mv rfl) ?_
  refine Go.Sx.V rfl wu rfl rfl (lssI rfl rfl) ?_
  refine Go.Sx.V rfl wu rfl rfl (mv rfl) ?_
  refine KB 34 false rfl (by first | (simp; done) | (simp; omega)) ?_
  refine Go.Sx.V rfl (wg rfl rfl) rfl rfl (mv rfl) ?_
  refine Go.Sx.V rfl (wg rfl rfl) rfl rfl (mv rfl) ?_
  refine Go.Sx.V rfl (wg rfl rfl) rfl rfl (gtrI rfl rfl) ?_
  refine Go.Sx.V rfl wu rfl rfl (pk rfl rfl) ?_
  refine wr_nil (post_thenN ?_)
  refine wc_condF rfl (by simp; omega) ?_
  refine wc_skip (post_thenN (wc_seq ?_))
  have hN := lcP_all_dg hK (fun i : Nat => inK P (gi xs i)) xs.length
  refine wc_region [0,1,2,3,4,5,6,7,8,9,10,11,12,13] rfl ?_
  refine Go.Sx.V rfl wu rfl rfl (mv rfl) ?_
  refine Go.Sx.V rfl wu rfl rfl (mv rfl) ?_
  refine Go.Sx.V rfl wu rfl rfl (mv rfl) ?_
  refine C rfl wu rfl rfl Tryz.call121 (pFromRoots P g u xs _ (hG.ext hE) (hu.ext hE) hn) ?_
  intro nv w2 hE2 hNv
  replace hE := hE.trans hE2
  replace hF := hF.ext hE2
  refine Go.Sx.V rfl wu rfl rfl (mv rfl) ?_
  refine Go.Sx.V rfl wu rfl rfl (mv rfl) ?_
  refine Go.Sx.V rfl wu rfl rfl (mv rfl) ?_
  refine Go.Sx.V rfl wu rfl rfl (addI rfl rfl) ?_
  refine C rfl wu rfl rfl Tryz.call120 (kEuclid P g nv gv _ F xs.length k _ (hG.ext hE) hNv hF hN hyF hn hk) ?_
  rintro _ w3 hE3 ⟨bv, tv, a, b, old, t, da, rfl, hb, ht, hEu, hda, hbd⟩
  replace hE := hE.trans hE3
  refine Go.Sx.V rfl wu rfl rfl (mv rfl) ?_
  refine Go.Sx.V rfl wu rfl rfl (ext rfl rfl) ?_
  refine Go.Sx.V rfl wu rfl rfl (ext rfl rfl) ?_
  refine Go.Sx.V rfl wu rfl rfl (asg rfl) ?_
  refine Go.Sx.V rfl wu rfl rfl (asg rfl) ?_
  refine wr_nil (post_thenN (wc_seq ?_))
  have hbl : (cl b).length ≤ da := cl_len hEu.yb
  have hdn := hEu.dan
  have htl : (cl t).length ≤ xs.length - da + 1 := cl_len hEu.yt
  have hfin : ∀ f : Pol (K P), YB k f → 2 * wrN f (fun i : Nat => inK P (gi xs i)) (fun i : Nat => inK P (gi ys i)) xs.length ≤ xs.length - k → t ≠ 0 ∧ b = t * f := fun f hf hw => by
    obtain ⟨E, vv, hE1, hE2⟩ := wrong_loc hK (f := f) (X := fun i : Nat => inK P (gi xs i)) (Y := fun i : Nat => inK P (gi ys i)) (n := xs.length) (fun i j hi hj => hd i j hi hj) hFv
    exact hEu.last hK hN hda hbd hk hf hE1 hw hE2
  have ht0 := hEu.tne hN
  · skip
    refine wc_region [0,1,2,3,4,5,6,7,8,9,10] rfl ?_
    refine Go.Sx.V rfl wu rfl rfl (mv rfl) ?_
    refine Go.Sx.V rfl wu rfl rfl (mv rfl) ?_
    refine Go.Sx.V rfl wu rfl rfl (mv rfl) ?_
    refine C rfl wu rfl rfl Tryz.call122 (pDivMod P g bv tv _ _ _ (hG.ext hE) hb ht (by omega) (by omega) (by rw [pz_cl]; exact ht0)) ?_
    rintro _ w4 hE4 ⟨mw, rv, M, R, rfl, hmo, hr, heq, hyR, hyM⟩
    replace hmo := Own.mono hmo hE.size
    have hm := OwnI.ints hmo
    replace hE := hE.trans hE4
    refine Go.Sx.V rfl wu rfl rfl (mv rfl) ?_
    refine Go.Sx.V rfl wu rfl rfl (ext rfl rfl) ?_
    refine Go.Sx.V rfl wu rfl rfl (ext rfl rfl) ?_
    refine Go.Sx.V rfl wu rfl rfl (ext rfl rfl) ?_
    refine Go.Sx.V rfl wu rfl rfl (asg rfl) ?_
    refine Go.Sx.V rfl wu rfl rfl (asg rfl) ?_
    refine Go.Sx.V rfl wu rfl rfl (asg rfl) ?_
    refine wr_nil (post_thenN (wc_seq (wc_seq ?_)))
    rw [pz_cl, pz_cl] at heq
    rw [pz_cl] at hyR
    have hex : ∀ f : Pol (K P), YB k f → 2 * wrN f (fun i : Nat => inK P (gi xs i)) (fun i : Nat => inK P (gi ys i)) xs.length ≤ xs.length - k → M = f ∧ R = 0 := fun f hf hw => by
      obtain ⟨_, hbt⟩ := hfin f hf hw
      exact div_exact hK (dg_cl ht0) (by rw [← hbt]; exact heq) hyR
    by_cases hR0 : R = 0
    · by_cases hMk : (cl M).length ≤ k
      · have hyMk : YB k M := fun i hi => cl_over M (by omega)
        refine wc_region [0,1,2,3,4,5,6,7,8,9,10,11,12] rfl ?_
        refine Go.Sx.V rfl wu rfl rfl (mv rfl) ?_
        refine Go.Sx.V rfl wu rfl rfl (neqI rfl rfl) ?_
        refine Go.Sx.V rfl wu rfl rfl (mv rfl) ?_
        refine KB 61 false rfl (by simp) ?_
        refine Go.Sx.V rfl (wg rfl rfl) rfl rfl (mv rfl) ?_
        refine Go.Sx.V rfl (wg rfl rfl) rfl rfl (lenI rfl ty22 hr) ?_
        refine Go.Sx.V rfl (wg rfl rfl) rfl rfl (gtrI rfl rfl) ?_
        refine Go.Sx.V rfl wu rfl rfl (pk rfl rfl) ?_
        refine Go.Sx.V rfl wu rfl rfl (mv rfl) ?_
        refine KB 66 false rfl (by rw [hR0, cl_nil.2 rfl]; simp) ?_
        refine Go.Sx.V rfl (wg rfl rfl) rfl rfl (mv rfl) ?_
        refine Go.Sx.V rfl (wg rfl rfl) rfl rfl (lenI rfl ty22 hm) ?_
        refine Go.Sx.V rfl (wg rfl rfl) rfl rfl (mv rfl) ?_
        refine Go.Sx.V rfl (wg rfl rfl) rfl rfl (gtrI rfl rfl) ?_
        refine Go.Sx.V rfl wu rfl rfl (pk rfl rfl) ?_
        refine wr_nil (post_thenN ?_)
        refine wc_condF rfl (by simp; omega) ?_
        refine wc_skip (post_thenN (wc_seq ?_))
        refine wc_region [0] rfl ?_
        refine Go.Sx.V rfl wu rfl rfl (asg rfl) ?_
        refine wr_nil (post_thenN (wc_seq (wc_seq ?_)))
        refine wc_region [0,1,2] rfl ?_
        refine Go.Sx.V rfl wu rfl rfl (mv rfl) ?_
        refine Go.Sx.V rfl wu rfl rfl (lenI rfl ty22) ?_
        refine Go.Sx.V rfl wu rfl rfl (mv rfl) ?_
        refine wr_nil (post_thenN (wc_block ?_))
        have hX := Ext.refl w4
        refine wc_loop (fun i : Nat => [(0, g), (2, v), (3, .int .i64 k), (12, .int .i64 xs.length), (15, mw), (17, .int .i64 (wrN M (fun i : Nat => inK P (gi xs i)) (fun i : Nat => inK P (gi ys i)) i)), (72, u), (73, .int .i64 xs.length), (74, .int .i64 i)])
          (fun i w' => i ≤ xs.length ∧ Ext w w' ∧ Ext w4 w') (fun i => xs.length - i) 0 ⟨rfl, rfl, rfl, rfl, rfl, rfl, rfl, rfl, rfl, trivial⟩ ⟨by omega, hE, hX⟩ ?_
        clear hE hX
        rintro i w5 ⟨i1, hE, hX⟩
        have hui := hu.ext hE
        have hvi := hv.ext hE
        have hwl := wrN_le M (fun i : Nat => inK P (gi xs i)) (fun i : Nat => inK P (gi ys i)) i
        try dsimp only
        refine wc_seq ?_
        refine wc_region [0] rfl ?_
        refine Go.Sx.V rfl wu rfl rfl (lssI rfl rfl) ?_
        refine wr_nil (post_thenN (wc_seq ?_))
        refine wc_cond rfl ?_ ?_
        · intro hc
          simp at hc
          refine wc_skip (post_thenN (wc_seq (wc_block (wc_seq ?_))))
          refine wc_region [0,1,2,3,4] rfl ?_
          refine Go.Sx.V rfl wu rfl rfl (mv rfl) ?_
          refine Go.Sx.V rfl wu rfl rfl (iadI rfl rfl ty22 hui (by omega) (by omega)) ?_
          refine Go.Sx.V rfl wu rfl rfl (ldI rfl na3 hui) ?_
          refine Go.Sx.V rfl wu rfl rfl (asg rfl) ?_
          refine Go.Sx.V rfl wu rfl rfl (asg rfl) ?_
          refine wr_nil (post_thenN (wc_seq ?_))
          refine wc_draw mixed [0,1,2,4,5,6,7,8,3,9,10] (by kernel_rfl) ?_
          intro w6 hd6 _
          replace hE := hE.trans hd6
          replace hX := hX.trans hd6
          replace hvi := hvi.ext hd6
          refine Go.Sx.V rfl wu rfl rfl (mv rfl) ?_
          refine Go.Sx.V rfl wu rfl rfl (mv rfl) ?_
          refine Go.Sx.V rfl wu rfl rfl (mv rfl) ?_
          refine Go.Sx.V rfl wu rfl rfl (mv rfl) ?_
          refine Go.Sx.V rfl wu rfl rfl (mv rfl) ?_
          refine Go.Sx.V rfl wu rfl rfl (mv rfl) ?_
          refine Go.Sx.V rfl wu rfl rfl (iadI rfl rfl ty22 hvi (by omega) (by omega)) ?_
          refine Go.Sx.V rfl wu rfl rfl (ldI rfl na3 hvi) ?_
          refine C rfl wu rfl rfl Tryz.call123 (pEval P g mw _ _ _ (hG.ext hE) (hm.ext hX) (by omega)) ?_
          rintro _ w7 hE7 rfl
          replace hE := hE.trans hE7
          replace hX := hX.trans hE7
          refine C rfl wu rfl rfl Tryz.call124 (gAdd P g _ _ _ (hG.ext hE)) ?_
          rintro _ w8 hE8 rfl
          replace hE := hE.trans hE8
          replace hX := hX.trans hE8
          refine Go.Sx.V rfl wu rfl rfl (neqI rfl rfl) ?_
          refine wr_nil (post_thenN ?_)
          rw [pz_cl, inK0, add_zero]
          refine wc_cond rfl ?_ ?_
          · intro h4
            simp at h4
            have hst := wrN_miss (f := M) (X := fun i : Nat => inK P (gi xs i)) (Y := fun i : Nat => inK P (gi ys i)) (n := i) (fun e => h4 (by rw [e]))
            refine wc_region [0,1,2] rfl ?_
            refine Go.Sx.V rfl wu rfl rfl (mv rfl) ?_
            refine Go.Sx.V rfl wu rfl rfl (addI rfl rfl) ?_
            refine Go.Sx.V rfl wu rfl rfl (asg rfl) ?_
            refine wr_nil (post_blockN (post_thenN ?_))
            refine wc_region [0,1] rfl ?_
            refine Go.Sx.V rfl wu rfl rfl (addI rfl rfl) ?_
            refine Go.Sx.V rfl wu rfl rfl (mv rfl) ?_
            refine wr_nil ?_
            exact post_loopN (i + 1) ⟨rfl, rfl, rfl, rfl, rfl, by rw [hst]; rfl, rfl, rfl, rfl, trivial⟩ ⟨by omega, hE, hX⟩ (by omega)
          · intro h4
            simp at h4
            have hst := wrN_hit (f := M) (X := fun i : Nat => inK P (gi xs i)) (Y := fun i : Nat => inK P (gi ys i)) (n := i) (Subtype.ext h4)
            refine wc_skip (post_blockN (post_thenN ?_))
            refine wc_region [0,1] rfl ?_
            refine Go.Sx.V rfl wu rfl rfl (addI rfl rfl) ?_
            refine Go.Sx.V rfl wu rfl rfl (mv rfl) ?_
            refine wr_nil ?_
            exact post_loopN (i + 1) ⟨rfl, rfl, rfl, rfl, rfl, by rw [hst]; rfl, rfl, rfl, rfl, trivial⟩ ⟨by omega, hE, hX⟩ (by omega)
        · intro hc
          simp at hc
          obtain rfl : i = xs.length := by omega
          refine wc_exit (post_thenE (post_loopE (post_blockX (post_thenN (wc_seq (wc_seq ?_))))))
          refine wc_region [0,1,2,3,4,5] rfl ?_
          refine Go.Sx.V rfl wu rfl rfl (mv rfl) ?_
          refine Go.Sx.V rfl wu rfl rfl (mv rfl) ?_
          refine Go.Sx.V rfl wu rfl rfl (mv rfl) ?_
          refine Go.Sx.V rfl wu rfl rfl (subI rfl rfl) ?_
          refine Go.Sx.V rfl wu rfl rfl (quoI rfl rfl) ?_
          refine Go.Sx.V rfl wu rfl rfl (gtrI rfl rfl) ?_
          refine wr_nil (post_thenN ?_)
          refine wc_cond rfl ?_ ?_
          · intro h5
            refine wc_seq ?_
            refine wc_region [0,1] rfl ?_
            refine Go.Sx.V rfl wu rfl rfl (asg rfl) ?_
            refine Go.Sx.V rfl wu rfl rfl (asg rfl) ?_
            refine wr_nil (post_thenN (wc_ret (post_thenR ?_)))
            refine post_ret2 rfl rfl rfl ?_
            refine ⟨hE, _, _, M, rfl, fun h => (by cases h), fun f hf hw => ?_⟩
            exfalso
            obtain ⟨rfl, _⟩ := hex f hf hw
            replace h5 := of_decide_eq_true h5
            have : (((xs.length : Int) - k) / 2) = (((xs.length - k) / 2 : Nat) : Int) := by omega
            omega
          · intro h5
            refine wc_skip (post_thenN (wc_seq ?_))
            refine wc_region [0,1,2] rfl ?_
            refine Go.Sx.V rfl wu rfl rfl (mv rfl) ?_
            refine Go.Sx.V rfl wu rfl rfl (asg rfl) ?_
            refine Go.Sx.V rfl wu rfl rfl (asg rfl) ?_
            refine wr_nil (post_thenN (wc_ret ?_))
            refine post_ret2 rfl rfl rfl ?_
            exact ⟨hE, _, _, M, rfl, fun _ => ⟨Own.ext hmo hX, hyMk⟩, fun f hf hw => ⟨rfl, (hex f hf hw).1⟩⟩
      · skip
        refine wc_region [0,1,2,3,4,5,6,7,8,9,10,11,12] rfl ?_
        refine Go.Sx.V rfl wu rfl rfl (mv rfl) ?_
        refine Go.Sx.V rfl wu rfl rfl (neqI rfl rfl) ?_
        refine Go.Sx.V rfl wu rfl rfl (mv rfl) ?_
        refine KB 61 false rfl (by simp) ?_
        refine Go.Sx.V rfl (wg rfl rfl) rfl rfl (mv rfl) ?_
        refine Go.Sx.V rfl (wg rfl rfl) rfl rfl (lenI rfl ty22 hr) ?_
        refine Go.Sx.V rfl (wg rfl rfl) rfl rfl (gtrI rfl rfl) ?_
        refine Go.Sx.V rfl wu rfl rfl (pk rfl rfl) ?_
        refine Go.Sx.V rfl wu rfl rfl (mv rfl) ?_
        refine KB 66 false rfl (by rw [hR0, cl_nil.2 rfl]; simp) ?_
        refine Go.Sx.V rfl (wg rfl rfl) rfl rfl (mv rfl) ?_
        refine Go.Sx.V rfl (wg rfl rfl) rfl rfl (lenI rfl ty22 hm) ?_
        refine Go.Sx.V rfl (wg rfl rfl) rfl rfl (mv rfl) ?_
        refine Go.Sx.V rfl (wg rfl rfl) rfl rfl (gtrI rfl rfl) ?_
        refine Go.Sx.V rfl wu rfl rfl (pk rfl rfl) ?_
        refine wr_nil (post_thenN ?_)
        refine wc_condT rfl (by simp; omega) ?_
        refine wc_seq ?_
        refine wc_region [0,1] rfl ?_
        refine Go.Sx.V rfl wu rfl rfl (asg rfl) ?_
        refine Go.Sx.V rfl wu rfl rfl (asg rfl) ?_
        refine wr_nil (post_thenN (wc_ret (post_thenR ?_)))
        refine post_ret2 rfl rfl rfl ?_
        refine ⟨hE, _, _, M, rfl, fun h => (by cases h), fun f hf hw => ?_⟩
        exfalso
        obtain ⟨rfl, _⟩ := hex f hf hw
        exact hMk (cl_len hf)
    · have hrl : (cl R).length ≠ 0 := fun e => hR0 (cl_nil.1 (List.eq_nil_of_length_eq_zero e))
      refine wc_region [0,1,2,3,4,5,6,7,8,9,10,11,12] rfl ?_
      refine Go.Sx.V rfl wu rfl rfl (mv rfl) ?_
      refine Go.Sx.V rfl wu rfl rfl (neqI rfl rfl) ?_
      refine Go.Sx.V rfl wu rfl rfl (mv rfl) ?_
      refine KB 61 false rfl (by simp) ?_
      refine Go.Sx.V rfl (wg rfl rfl) rfl rfl (mv rfl) ?_
      refine Go.Sx.V rfl (wg rfl rfl) rfl rfl (lenI rfl ty22 hr) ?_
      refine Go.Sx.V rfl (wg rfl rfl) rfl rfl (gtrI rfl rfl) ?_
      refine Go.Sx.V rfl wu rfl rfl (pk rfl rfl) ?_
      refine Go.Sx.V rfl wu rfl rfl (mv rfl) ?_
      refine KB 66 true rfl (by simp; omega) ?_
      refine SK rfl rfl rfl rfl rfl ?_
      refine SK rfl rfl rfl rfl rfl ?_
      refine SK rfl rfl rfl rfl rfl ?_
      refine SK rfl rfl rfl rfl rfl ?_
      refine Go.Sx.V rfl wu rfl rfl (pk rfl rfl) ?_
      refine wr_nil (post_thenN ?_)
      refine wc_condT rfl (by rfl) ?_
      refine wc_seq ?_
      refine wc_region [0,1] rfl ?_
      refine Go.Sx.V rfl wu rfl rfl (asg rfl) ?_
      refine Go.Sx.V rfl wu rfl rfl (asg rfl) ?_
      refine wr_nil (post_thenN (wc_ret (post_thenR ?_)))
      refine post_ret2 rfl rfl rfl ?_
      refine ⟨hE, _, _, M, rfl, fun h => (by cases h), fun f hf hw => ?_⟩
      exfalso
      exact hR0 (hex f hf hw).2
end Go.Proofs.YtmnojknfjbimdaaGreat

