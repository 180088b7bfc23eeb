/-
  Bounded decoding, part 2: division with remainder, Euclid's algorithm, Gao's decoder, by contract.
-/
import Derived.Test.YtmnojknfjbimdaaGreatUBd1
namespace Go.Sx
open Go Go.RowKit Go.Pl
theorem dj_new {B B' : Nat} {w w' : World} {v v' : Value} {E E' : TypeId} {xs ys : List Value} (h : Own B w v E xs) (h' : Own B' w' v' E' ys) (hB : w.heap.size ≤ B') : Dj v v' := fun k hk e => by
  have h1 := (h.lt k hk).2
  have h2 := (h'.lt k e).1
  omega
end Go.Sx
namespace Go.Proofs.YtmnojknfjbimdaaGreat
open Go Go.Sx Go.Pl Go.RowKit Go.Fd Go.Alg Go.Ld
set_option maxRecDepth 10000 in
theorem pDivMod (P : FP) (g u v : Value) (a b : List Int) (w : World) (hG : GFV w P g) (hu : Ints w u a) (hv : Ints w v b) (hn : a.length ≤ 1048576) (hm : b.length ≤ 1048576) (hb : pz P b ≠ 0) :
    Calls Tryz.prog 122 #[g, u, v] w (RetX w fun r w' => ∃ qv rv Q R, r = .tuple #[qv, rv, .int .i64 0] ∧ OwnI w.heap.size w' qv 3 (cl Q) ∧ Ints w' rv (cl R) ∧ pz P a = Q * pz P b + R ∧ YB ((cl (pz P b)).length - 1) R ∧ YB ((cl (pz P a)).length - (cl (pz P b)).length + 1) Q) := by
  obtain ⟨gen, hgen⟩ := hG.gen
  have hla' := cl_pz_len (P := P) a
  have hlb' := cl_pz_len (P := P) b
  obtain ⟨A, hA⟩ : ∃ A, pz P a = A := ⟨_, rfl⟩
  obtain ⟨D, hD⟩ : ∃ D, pz P b = D := ⟨_, rfl⟩
  obtain ⟨la, hla⟩ : ∃ la, (cl A).length = la := ⟨_, rfl⟩
  obtain ⟨lb, hlb⟩ : ∃ lb, (cl D).length = lb := ⟨_, rfl⟩
  have hlead := (dg_cl (by rw [← hD]; exact hb : D ≠ 0)).2
  have hlb0 : 1 ≤ lb := by
    have : (cl D).length ≠ 0 := fun e => hb (by rw [hD]; exact cl_nil.1 (List.eq_nil_of_length_eq_zero e))
    omega
  rw [hlb] at hlead
  have hmul := mul_invK hgen hlead
  rw [hA, hla] at hla'
  rw [hD, hlb] at hlb'
  have hyA : YB la A := fun i hi => cl_over A (by omega)
  have hyD : YB lb D := fun i hi => cl_over D (by omega)
  refine calls3 Tryz.func122 rfl rfl ?_
  refine wc_seq ?_
  refine wc_region [0,1,2] rfl ?_
  refine Go.Sx.V rfl wu rfl rfl (asg rfl) ?_
  refine Go.Sx.V rfl wu rfl rfl (asg rfl) ?_
  refine Go.Sx.V rfl wu rfl rfl (asg rfl) ?_
  refine wr_nil (post_thenN (wc_seq ?_))
  refine wc_region [0,1,2,3,4,5,6,7] rfl ?_
  refine Go.Sx.V rfl wu rfl rfl (mv rfl) ?_
  refine Go.Sx.V rfl wu rfl rfl (mv rfl) ?_
  refine C rfl wu rfl rfl Tryz.call88 (pCanon P g u a _ hG hu (by omega)) ?_
  intro rv w2 hE ho
  rw [hA] at ho
  refine Go.Sx.V rfl wu rfl rfl (mv rfl) ?_
  refine Go.Sx.V rfl wu rfl rfl (mv rfl) ?_
  refine C rfl wu rfl rfl Tryz.call88 (pCanon P g v b _ (hG.ext hE) (hv.ext hE) (by omega)) ?_
  intro bv w3 hE3 hq
  rw [hD] at hq
  have d1 : Dj rv bv := dj_new ho hq (Nat.le_refl _)
  have hsz2 := hE.size
  replace hE := hE.trans hE3
  replace ho := Own.ext ho hE3
  replace hq := Own.mono hq hsz2
  refine Go.Sx.V rfl wu rfl rfl (asg rfl) ?_
  refine Go.Sx.V rfl wu rfl rfl (asg rfl) ?_
  refine wr_nil (post_thenN (wc_seq (wc_seq ?_)))
  rw [hA, hD, hla, hlb]
  have hqi := OwnI.ints hq
  have hoi := OwnI.ints ho
  refine wc_region [0,1,2] rfl ?_
  refine Go.Sx.V rfl wu rfl rfl (mv rfl) ?_
  refine Go.Sx.V rfl wu rfl rfl (lenI rfl ty22 hqi) ?_
  refine Go.Sx.V rfl wu rfl rfl (eqlI rfl rfl) ?_
  refine wr_nil (post_thenN ?_)
  refine wc_condF rfl (by rw [hlb]; simp; omega) ?_
  refine wc_skip (post_thenN (wc_seq ?_))
  refine wc_region [0,1,2,3,4,5,6,7,8,9,10,11,12] rfl ?_
  refine Go.Sx.V rfl wu rfl rfl (mv rfl) ?_
  refine Go.Sx.V rfl wu rfl rfl (mv rfl) ?_
  refine Go.Sx.V rfl wu rfl rfl (mv rfl) ?_
  refine Go.Sx.V rfl wu rfl rfl (lenI rfl ty22 hqi) ?_
  refine Go.Sx.V rfl wu rfl rfl (subI rfl rfl) ?_
  refine Go.Sx.V rfl wu rfl rfl (iadI rfl rfl ty22 hqi (by omega) (by omega)) ?_
  refine Go.Sx.V rfl wu rfl rfl (ldI rfl na3 hqi) ?_
  refine C rfl wu rfl rfl Tryz.call86 (gInv P g _ _ (hG.ext hE)) ?_
  rintro _ w4 hE4 rfl
  rw [cl_gi, inK_val, hlb, show ((lb : Int) - 1).toNat = lb - 1 by omega, if_neg hlead]
  replace hE := hE.trans hE4
  replace ho := Own.ext ho hE4
  replace hq := Own.ext hq hE4
  have hqi := OwnI.ints hq
  have hoi := OwnI.ints ho
  refine Go.Sx.V rfl wu rfl rfl (mv rfl) ?_
  refine Go.Sx.V rfl wu rfl rfl (ext rfl rfl) ?_
  refine Go.Sx.V rfl wu rfl rfl (ext rfl rfl) ?_
  refine Go.Sx.V rfl wu rfl rfl (asg rfl) ?_
  refine Go.Sx.V rfl wu rfl rfl (asg rfl) ?_
  refine wr_nil (post_thenN (wc_seq ?_))
  refine wc_region [0,1,2,3,4,5,6,7,8] rfl ?_
  refine Go.Sx.V rfl wu rfl rfl (mv rfl) ?_
  refine Go.Sx.V rfl wu rfl rfl (lenI rfl ty22 hoi) ?_
  refine Go.Sx.V rfl wu rfl rfl (mv rfl) ?_
  refine Go.Sx.V rfl wu rfl rfl (lenI rfl ty22 hqi) ?_
  refine Go.Sx.V rfl wu rfl rfl (subI rfl rfl) ?_
  refine Go.Sx.V rfl wu rfl rfl (addI rfl rfl) ?_
  refine Go.Sx.V rfl wu rfl rfl (maxI rfl rfl) ?_
  refine MKI (n := (la + 1 - lb)) rfl wu rfl rfl ty22 ?_
  intro qv w5 hE5 hy hyi hyb
  refine Go.Sx.V rfl wu rfl rfl (asg rfl) ?_
  refine wr_nil (post_thenN (wc_seq (wc_seq ?_)))
  have hsz4 := hE.size
  have d2 : Dj rv qv := dj_new ho hy (Nat.le_refl _)
  have d3 : Dj bv qv := dj_new hq hy (Nat.le_refl _)
  replace hy := Own.mono hy hsz4
  replace hE := hE.trans hE5
  replace ho := Own.ext ho hE5
  replace hq := Own.ext hq hE5
  have hoi := OwnI.ints ho
  have hqi := OwnI.ints hq
  rw [tl_zero (P := P)] at hy
  rw [← tl_cl A, hla] at ho
  refine wc_region [0,1,2,3,4,5] rfl ?_
  refine Go.Sx.V rfl wu rfl rfl (mv rfl) ?_
  refine Go.Sx.V rfl wu rfl rfl (lenI rfl ty22 hoi) ?_
  refine Go.Sx.V rfl wu rfl rfl (mv rfl) ?_
  refine Go.Sx.V rfl wu rfl rfl (lenI rfl ty22 hqi) ?_
  refine Go.Sx.V rfl wu rfl rfl (subI rfl rfl) ?_
  refine Go.Sx.V rfl wu rfl rfl (asg rfl) ?_
  refine wr_nil (post_thenN (wc_block ?_))
  rw [hla, hlb]
  have hz5 := hE.size
  refine wc_loop (fun s : Int × Pol (K P) × Pol (K P) => [(0, g), (2, bv), (6, qv), (7, rv), (9, .int .i64 (invK P (D.co (lb - 1))).1), (11, .int .i64 s.1)])
    (fun s w' => s.1 + lb ≤ la ∧ -1048578 ≤ s.1 ∧ Ext w w' ∧ OwnI w.heap.size w' rv 3 (tl P la s.2.2) ∧ OwnI w.heap.size w' bv 3 (cl D) ∧ OwnI w.heap.size w' qv 3 (tl P (la + 1 - lb) s.2.1) ∧ Dvm A D s.2.1 s.2.2 lb (s.1 + 1).toNat ∧ YB (la + 1 - lb) s.2.1 ∧ YB la s.2.2) (fun s => (s.1 + 1).toNat) ((la : Int) - lb, 0, A)
    ⟨rfl, rfl, rfl, rfl, rfl, rfl, trivial⟩ ⟨by (try dsimp only); omega, by (try dsimp only); omega, hE, ho, hq, hy, Dvm.first (fun i hi => hyA i (by (try dsimp only at hi); omega)), fun _ _ => rfl, hyA⟩ ?_
  clear hE ho hq hy hoi hqi hyi hyb hz5 hE5 hsz4 hE4 hE3 hsz2
  rintro ⟨n, Q, R⟩ w6 ⟨n1, n2, hE, ho, hq, hy, hDv, hQy, hyR⟩
  dsimp only at n1 n2 ho hy hDv hQy
  have hql := tl_length (P := P) (la + 1 - lb) Q
  have hrl := tl_length (P := P) la R
  have hoi := OwnI.ints ho
  have hqi := OwnI.ints hq
  have hyi := OwnI.ints hy
  try dsimp only
  refine wc_seq (wc_seq ?_)
  refine wc_region [0,1] rfl ?_
  refine Go.Sx.V rfl wu rfl rfl (mv rfl) ?_
  refine Go.Sx.V rfl wu rfl rfl (geqI rfl rfl) ?_
  refine wr_nil (post_thenN ?_)
  refine wc_cond rfl ?_ ?_
  · intro hc
    simp at hc
    obtain ⟨k, rfl⟩ : ∃ k : Nat, n = k := ⟨n.toNat, by omega⟩
    rw [show ((k : Int) + 1).toNat = k + 1 by omega] at hDv
    refine wc_skip (post_thenN (wc_seq (wc_block (wc_seq ?_))))
    refine wc_region [0,1,2,3,4,5,6,7,8,9,10,11] rfl ?_
    refine Go.Sx.V rfl wu rfl rfl (mv rfl) ?_
    refine Go.Sx.V rfl wu rfl rfl (mv rfl) ?_
    refine Go.Sx.V rfl wu rfl rfl (mv rfl) ?_
    refine Go.Sx.V rfl wu rfl rfl (mv rfl) ?_
    refine Go.Sx.V rfl wu rfl rfl (lenI rfl ty22 hqi) ?_
    refine Go.Sx.V rfl wu rfl rfl (addI rfl rfl) ?_
    refine Go.Sx.V rfl wu rfl rfl (subI rfl rfl) ?_
    refine Go.Sx.V rfl wu rfl rfl (iadI rfl rfl ty22 hoi (by omega) (by omega)) ?_
    refine Go.Sx.V rfl wu rfl rfl (ldI rfl na3 hoi) ?_
    refine Go.Sx.V rfl wu rfl rfl (mv rfl) ?_
    refine C rfl wu rfl rfl Tryz.call87 (gMul P g _ _ _ (hG.ext hE)) ?_
    rintro _ w7 hE7 rfl
    replace hE := hE.trans hE7
    replace ho := Own.ext ho hE7
    replace hq := Own.ext hq hE7
    replace hy := Own.ext hy hE7
    refine Go.Sx.V rfl wu rfl rfl (asg rfl) ?_
    refine wr_nil (post_thenN (wc_seq ?_))
    rw [hlb, tl_gi (by omega) (by omega), inK_val, inK_val, show ((k : Int) + lb - 1).toNat = k + lb - 1 by omega]
    have hst := hDv.step hyD hlb0 hmul
    have hQ' : YB (la + 1 - lb) (Q + pC (R.co (k + lb - 1) * invK P (D.co (lb - 1))) * npow pX k) := dvm_y (by omega) hQy
    have hsiq := tl_si (P := P) (n := la + 1 - lb) (F := Q) (G := Q + pC (R.co (k + lb - 1) * invK P (D.co (lb - 1))) * npow pX k) (k := (k : Int)) (v := (R.co (k + lb - 1) * invK P (D.co (lb - 1))).1) (by omega) (fun t _ => by
      rw [dvm_q hDv.lo t]
      by_cases e : t = k
      · rw [if_pos e, if_pos (by omega)]
      · rw [if_neg e, if_neg (by omega)])
    obtain ⟨c, hcc⟩ : ∃ c, R.co (k + lb - 1) * invK P (D.co (lb - 1)) = c := ⟨_, rfl⟩
    rw [hcc] at hst hQ' hsiq ⊢
    have hyi := OwnI.ints hy
    refine wc_region [0,1,2,3,4] rfl ?_
    refine Go.Sx.V rfl wu rfl rfl (mv rfl) ?_
    refine Go.Sx.V rfl wu rfl rfl (mv rfl) ?_
    refine Go.Sx.V rfl wu rfl rfl (mv rfl) ?_
    refine Go.Sx.V rfl wu rfl rfl (iadI rfl rfl ty22 hyi (by omega) (by omega)) ?_
    refine STI rfl wu rfl rfl sz3 (by intro h; cases h) ?_
    intro w8 hg8 hX8 hy8 hyi8
    refine wr_nil (post_thenN (wc_seq ?_))
    rw [hsiq] at hy8
    replace hE := hX8 w (Nat.le_refl _) hE
    replace ho := Own.kept ho hg8 d2.left
    replace hq := Own.kept hq hg8 d3.left
    have hqi := OwnI.ints hq
    rw [← sbP_zero R D c k] at ho
    refine wc_region [0,1,2] rfl ?_
    refine Go.Sx.V rfl wu rfl rfl (mv rfl) ?_
    refine Go.Sx.V rfl wu rfl rfl (lenI rfl ty22 hqi) ?_
    refine Go.Sx.V rfl wu rfl rfl (mv rfl) ?_
    refine wr_nil (post_thenN (wc_block ?_))
    rw [hlb]
    refine wc_loop (fun j : Nat => [(0, g), (2, bv), (6, qv), (7, rv), (9, .int .i64 (invK P (D.co (lb - 1))).1), (11, .int .i64 k), (12, .int .i64 c.1), (67, bv), (68, .int .i64 lb), (69, .int .i64 j)])
      (fun j w' => j ≤ lb ∧ Ext w w' ∧ OwnI w.heap.size w' rv 3 (tl P la (sbP R D c k j)) ∧ OwnI w.heap.size w' bv 3 (cl D) ∧ OwnI w.heap.size w' qv 3 (tl P (la + 1 - lb) (Q + pC c * npow pX k))) (fun j => lb - j) 0 ⟨rfl, rfl, rfl, rfl, rfl, rfl, rfl, rfl, rfl, rfl, trivial⟩ ⟨by omega, hE, ho, hq, hy8⟩ ?_
    clear hE ho hq hy hy8 hyi8 hoi hqi hyi hsiq
    rintro j w9 ⟨j1, hE, ho, hq, hy⟩
    have hoi := OwnI.ints ho
    have hqi := OwnI.ints hq
    have hrl2 := tl_length (P := P) la (sbP R D c k j)
    try dsimp only
    refine wc_seq ?_
    refine wc_region [0] rfl ?_
    refine Go.Sx.V rfl wu rfl rfl (lssI rfl rfl) ?_
    refine wr_nil (post_thenN (wc_seq ?_))
    refine wc_cond rfl ?_ ?_
    · intro hc2
      simp at hc2
      refine wc_skip (post_thenN (wc_seq (wc_block (wc_seq ?_))))
      refine wc_region [0,1,2,3,4] rfl ?_
      refine Go.Sx.V rfl wu rfl rfl (mv rfl) ?_
      refine Go.Sx.V rfl wu rfl rfl (iadI rfl rfl ty22 hqi (by omega) (by omega)) ?_
      refine Go.Sx.V rfl wu rfl rfl (ldI rfl na3 hqi) ?_
      refine Go.Sx.V rfl wu rfl rfl (asg rfl) ?_
      refine Go.Sx.V rfl wu rfl rfl (asg rfl) ?_
      refine wr_nil (post_thenN ?_)
      refine wc_draw mixed [0,1,2,3,4,5,6,7,8,9,10,11,12,13,14,15,16,17] (by kernel_rfl) ?_
      intro wa hd _
      replace hE := hE.trans hd
      replace ho := ho.ext hd
      replace hq := hq.ext hd
      replace hy := hy.ext hd
      replace hoi := hoi.ext hd
      refine Go.Sx.V rfl wu rfl rfl (mv rfl) ?_
      refine Go.Sx.V rfl wu rfl rfl (mv rfl) ?_
      refine Go.Sx.V rfl wu rfl rfl (mv rfl) ?_
      refine Go.Sx.V rfl wu rfl rfl (addI rfl rfl) ?_
      refine Go.Sx.V rfl wu rfl rfl (mv rfl) ?_
      refine Go.Sx.V rfl wu rfl rfl (mv rfl) ?_
      refine Go.Sx.V rfl wu rfl rfl (mv rfl) ?_
      refine Go.Sx.V rfl wu rfl rfl (mv rfl) ?_
      refine Go.Sx.V rfl wu rfl rfl (addI rfl rfl) ?_
      refine Go.Sx.V rfl wu rfl rfl (iadI rfl rfl ty22 hoi (by omega) (by omega)) ?_
      refine Go.Sx.V rfl wu rfl rfl (ldI rfl na3 hoi) ?_
      refine Go.Sx.V rfl wu rfl rfl (mv rfl) ?_
      refine Go.Sx.V rfl wu rfl rfl (mv rfl) ?_
      refine Go.Sx.V rfl wu rfl rfl (mv rfl) ?_
      refine C rfl wu rfl rfl Tryz.call87 (gMul P g _ _ _ (hG.ext hE)) ?_
      rintro _ wb hEb rfl
      replace hE := hE.trans hEb
      replace ho := Own.ext ho hEb
      replace hq := Own.ext hq hEb
      replace hy := Own.ext hy hEb
      refine C rfl wu rfl rfl Tryz.call156 (gSub P g _ _ _ (hG.ext hE)) ?_
      rintro _ wc hEc rfl
      replace hE := hE.trans hEc
      replace ho := Own.ext ho hEc
      replace hq := Own.ext hq hEc
      replace hy := Own.ext hy hEc
      have hoi := OwnI.ints ho
      refine Go.Sx.V rfl wu rfl rfl (iadI rfl rfl ty22 hoi (by omega) (by omega)) ?_
      refine STI rfl wu rfl rfl sz3 (by intro h; kernel_rfl) ?_
      intro wd hgd hXd hod hid
      refine wr_nil (post_blockN (post_thenN ?_))
      rw [tl_gi (by omega) (by omega), cl_gi, inK_val, inK_val, inK_val, inK_val, Int.toNat_natCast, show ((k : Int) + j).toNat = k + j by omega, tl_si (G := sbP R D c k (j + 1)) (by omega) (fun t _ => by
        rw [sbP_step]
        by_cases e : t = k + j
        · rw [if_pos e, if_pos (by omega), e]
        · rw [if_neg e, if_neg (by omega)])] at hod
      refine wc_region [0,1] rfl ?_
      refine Go.Sx.V rfl wu rfl rfl (addI rfl rfl) ?_
      refine Go.Sx.V rfl wu rfl rfl (mv rfl) ?_
      refine wr_nil ?_
      exact post_loopN (j + 1) ⟨rfl, rfl, rfl, rfl, rfl, rfl, rfl, rfl, rfl, rfl, trivial⟩ ⟨by omega, hXd w (Nat.le_refl _) hE, hod, Own.kept hq hgd d1.right, Own.kept hy hgd d2.right⟩ (by omega)
    · intro hc2
      simp at hc2
      obtain rfl : j = lb := by omega
      refine wc_exit (post_thenE (post_loopE (post_blockX (post_blockN (post_thenN ?_)))))
      refine wc_region [0,1,2] rfl ?_
      refine Go.Sx.V rfl wu rfl rfl (mv rfl) ?_
      refine Go.Sx.V rfl wu rfl rfl (subI rfl rfl) ?_
      refine Go.Sx.V rfl wu rfl rfl (asg rfl) ?_
      refine wr_nil ?_
      exact post_loopN ((k : Int) - 1, _, _) ⟨rfl, rfl, rfl, rfl, rfl, rfl, trivial⟩ ⟨by (try dsimp only); omega, by (try dsimp only); omega, hE, ho, hq, hy, by
        show Dvm A D _ _ j ((k : Int) - 1 + 1).toNat
        rw [show ((k : Int) - 1 + 1).toNat = k by omega]
        exact hst, hQ', yb_mono hst.yb (by omega)⟩ (by (try dsimp only); omega)
  · intro hc
    simp at hc
    rw [show (n + 1).toNat = 0 by omega] at hDv
    refine wc_exit (post_thenE (post_loopE (post_blockX (post_thenN (wc_seq ?_)))))
    refine wc_region [0,1,2,3,4,5,6] rfl ?_
    refine Go.Sx.V rfl wu rfl rfl (mv rfl) ?_
    refine C rfl wu rfl rfl Tryz.call127 (pTrim qv _ _ hyi) ?_
    rintro _ w7 hE7 rfl
    replace hE := hE.trans hE7
    replace ho := Own.ext ho hE7
    replace hy := Own.ext hy hE7
    refine Go.Sx.V rfl wu rfl rfl (mv rfl) ?_
    refine C rfl wu rfl rfl Tryz.call127 (pTrim rv _ _ (OwnI.ints ho)) ?_
    rintro _ w8 hE8 rfl
    replace hE := hE.trans hE8
    replace ho := Own.ext ho hE8
    replace hy := Own.ext hy hE8
    refine Go.Sx.V rfl wu rfl rfl (asg rfl) ?_
    refine Go.Sx.V rfl wu rfl rfl (asg rfl) ?_
    refine Go.Sx.V rfl wu rfl rfl (asg rfl) ?_
    refine wr_nil (post_thenN (wc_ret ?_))
    refine post_ret3 rfl rfl rfl rfl ?_
    have h1 := cut_trim ho
    have h2 := cut_trim hy
    rw [tl_trim hyR] at h1 ⊢
    rw [tl_trim hQy] at h2 ⊢
    exact ⟨hE, _, _, Q, R, rfl, h2, OwnI.ints h1, hDv.eq, fun i hi => hDv.yb i (by omega), yb_mono hQy (by omega)⟩
end Go.Proofs.YtmnojknfjbimdaaGreat

