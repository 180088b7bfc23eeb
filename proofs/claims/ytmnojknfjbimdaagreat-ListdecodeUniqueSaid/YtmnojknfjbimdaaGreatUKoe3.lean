/-
  The package bivariate, by contract, part 7: Interpolate.
-/
import Derived.Test.YtmnojknfjbimdaaGreatUKoe2
import Derived.Test.YtmnojknfjbimdaaGreatUMPa
import Derived.Test.YtmnojknfjbimdaaGreatUBHas
namespace Go.Proofs.YtmnojknfjbimdaaGreat
open Go Go.Sx Go.Pl Go.RowKit Go.Fd Go.Alg
set_option maxRecDepth 10000 in
theorem bInterp (P : FP) (g u v : Value) (xs ys : List Int) (m wt l : Int) (w : World) (hG : GFV w P g) (hu : Ints w u xs) (hv : Ints w v ys) :
    Calls Tryz.prog 79 #[g, u, v, .int .i64 m, .int .i64 wt, .int .i64 l] w (RetX w fun r w' => (argsA P xs ys.length m wt l ≠ 0 ∧ r = .tuple #[.slice none 0 0, .int .i64 (argsA P xs ys.length m wt l)]) ∨
      (argsA P xs ys.length m wt l = 0 ∧ ∃ q Q, r = .tuple #[q, .int .i64 0] ∧ LO w.heap.size w' q 22 (bcl Q) ∧ IntP (fun i : Nat => inK P (gi xs i)) (fun i : Nat => inK P (gi ys i)) xs.length m.toNat wt.toNat (l.toNat + 1) Q)) := by
  obtain ⟨gx, hgx⟩ := hG.gen
  have hp2 := P.hp
  have hxle := hu.le
  refine calls6 Tryz.func79 rfl rfl ?_
  refine wc_seq ?_
  refine wc_region [0,1] rfl ?_
  refine Go.Sx.V rfl wu rfl rfl (asg rfl) ?_
  refine Go.Sx.V rfl wu rfl rfl (asg rfl) ?_
  refine wr_nil (post_thenN (wc_seq (wc_seq ?_)))
  refine wc_region [0,1,2,3,4,5,6,7] rfl ?_
  refine Go.Sx.V rfl wu rfl rfl (mv rfl) ?_
  refine Go.Sx.V rfl wu rfl rfl (mv rfl) ?_
  refine Go.Sx.V rfl wu rfl rfl (mv rfl) ?_
  refine Go.Sx.V rfl wu rfl rfl (mv rfl) ?_
  refine Go.Sx.V rfl wu rfl rfl (mv rfl) ?_
  refine Go.Sx.V rfl wu rfl rfl (mv rfl) ?_
  refine C rfl wu rfl rfl Tryz.call111 (bArgs P g u v xs ys m wt l _ hG hu hv) ?_
  rintro _ w1 hE1 rfl
  refine Go.Sx.V rfl wu rfl rfl (asg rfl) ?_
  refine wr_nil (post_thenN (wc_seq ?_))
  refine wc_region [0,1] rfl ?_
  refine Go.Sx.V rfl wu rfl rfl (mv rfl) ?_
  refine Go.Sx.V rfl wu rfl rfl (neqI rfl rfl) ?_
  refine wr_nil (post_thenN ?_)
  refine wc_cond rfl ?_ ?_
  · intro h
    simp at h
    refine wc_seq ?_
    refine wc_region [0,1,2] rfl ?_
    refine Go.Sx.V rfl wu rfl rfl (mv rfl) ?_
    refine Go.Sx.V rfl wu rfl rfl (asg rfl) ?_
    refine Go.Sx.V rfl wu rfl rfl (asg rfl) ?_
    refine wr_nil (post_thenN (wc_ret (post_thenR ?_)))
    refine post_ret2 rfl rfl rfl ?_
    exact ⟨hE1, .inl ⟨h, rfl⟩⟩
  · intro h
    simp at h
    have hxy : xs.length = ys.length := by
      rw [argsA] at h
      split at h
      · omega
      · omega
    have hr : 1 ≤ m ∧ m ≤ 16 ∧ 0 ≤ wt ∧ wt ≤ 64 ∧ 0 ≤ l ∧ l ≤ 64 ∧ ((xs.length : Int) * m * (m + 1)) / 2 ≤ 4096 := by
      rw [argsA] at h
      split at h
      · omega
      · split at h
        · omega
        · split at h
          · omega
          · split at h
            · omega
            · omega
    obtain ⟨m1, m2, w1', w2', l1, l2, hN⟩ := hr
    obtain ⟨m, rfl⟩ : ∃ n : Nat, m = n := ⟨m.toNat, by omega⟩
    obtain ⟨wt, rfl⟩ : ∃ n : Nat, wt = n := ⟨wt.toNat, by omega⟩
    obtain ⟨l, rfl⟩ : ∃ n : Nat, l = n := ⟨l.toNat, by omega⟩
    rw [num_conds] at hN
    obtain ⟨N, hNN⟩ : ∃ N, N = xs.length * rs m m := ⟨_, rfl⟩
    rw [← hNN] at hN
    have hnum := num_conds xs.length m
    rw [← hNN] at hnum
    have hmm : (xs.length : Int) * m * (m + 1) ≤ 9000 := by
      have h1 := Int.emod_nonneg ((xs.length : Int) * m * (m + 1)) (b := 2) (by omega)
      have h2 := Int.emod_lt_of_pos ((xs.length : Int) * m * (m + 1)) (b := 2) (by omega)
      have h3 := Int.mul_ediv_add_emod ((xs.length : Int) * m * (m + 1)) 2
      omega
    have hxm0 : 0 ≤ (xs.length : Int) * m := Int.mul_nonneg (by omega) (by omega)
    have hxm1 : (xs.length : Int) * m ≤ (xs.length : Int) * m * (m + 1) := by
      have := Int.mul_le_mul_of_nonneg_left (show (1 : Int) ≤ (m : Int) + 1 by omega) hxm0
      omega
    have hxmm0 : 0 ≤ (xs.length : Int) * m * (m + 1) := Int.mul_nonneg hxm0 (by omega)
    simp only [Int.toNat_natCast]
    obtain ⟨L, hLL⟩ : ∃ L, L = l + 1 := ⟨_, rfl⟩
    rw [← hLL]
    obtain ⟨X, hX⟩ : ∃ X : Nat → K P, X = fun i : Nat => inK P (gi xs i) := ⟨_, rfl⟩
    obtain ⟨Y, hY⟩ : ∃ Y : Nat → K P, Y = fun i : Nat => inK P (gi ys i) := ⟨_, rfl⟩
    rw [← hX, ← hY]
    refine wc_skip (post_thenN (wc_seq ?_))
    refine wc_region [0,1,2,3] rfl ?_
    refine Go.Sx.V rfl wu rfl rfl (mv rfl) ?_
    refine Go.Sx.V rfl wu rfl rfl (addI rfl rfl) ?_
    refine MK (n := L) rfl wu rfl rfl ty145 rfl ?_
    intro base w2 hE2 hb2 hbb2
    refine Go.Sx.V rfl wu rfl rfl (asg rfl) ?_
    refine wr_nil (post_thenN (wc_seq ?_))
    have hz01 := hE1.size
    replace hE1 := hE1.trans hE2
    refine wc_region [0,1,2,3] rfl ?_
    refine Go.Sx.V rfl wu rfl rfl (mv rfl) ?_
    refine Go.Sx.V rfl wu rfl rfl (addI rfl rfl) ?_
    refine MKI (n := L) rfl wu rfl rfl ty22 ?_
    intro degree w3 hE3 hd3 hdi3 hdb3
    refine Go.Sx.V rfl wu rfl rfl (asg rfl) ?_
    refine wr_nil (post_thenN (wc_seq (wc_seq ?_)))
    have hz1 := hE1.size
    have hz2 := hE2.size
    have hz3 := hE3.size
    obtain ⟨bb, hbb⟩ : ∃ bb, base.ownBlock = some bb := ⟨_, hbb2⟩
    obtain ⟨db, hdb⟩ : ∃ db, degree.ownBlock = some db := ⟨_, hdb3⟩
    have hbb0 := (hb2.lt bb hbb)
    have hdb0 := (Own.lt hd3 db hdb)
    have hbd : bb ≠ db := by omega
    have hbw : w.heap.size ≤ bb := by omega
    have hdw : w.heap.size ≤ db := by omega
    have hXb : ∀ k, base.ownBlock = some k → k ∈ [bb, db] := fun k hk => by rw [hbb] at hk; cases hk; simp
    have hXd : ∀ k, degree.ownBlock = some k → k ∈ [bb, db] := fun k hk => by rw [hdb] at hk; cases hk; simp
    have hXw : ∀ k ∈ [bb, db], w.heap.size ≤ k := fun k hk => by
      simp only [List.mem_cons, List.not_mem_nil, or_false] at hk
      rcases hk with rfl | rfl <;> omega
    have hXlt : ∀ k ∈ [bb, db], k < w3.heap.size := fun k hk => by
      simp only [List.mem_cons, List.not_mem_nil, or_false] at hk
      rcases hk with rfl | rfl <;> omega
    have hbdn : base.ownBlock ≠ degree.ownBlock := by rw [hdb, hbb]; intro e; exact hbd (Option.some.inj e)
    have hb3 := (hb2.mono (B' := w.heap.size) (by omega)).ext hE3
    have hd3' := Own.mono hd3 (B' := w.heap.size) (by omega)
    rw [← upd_zero' L (fun t => ((wt * t : Nat) : Int)) (fun _ => 0)] at hd3'
    have hbo : BO [bb, db] w.heap.size w3 base 30 (bls L (fun s => (npow pX s : Pol (Pol (K P)))) (fun _ => 0) 0) := ⟨_, hb3, by rw [List.length_replicate, bls_length], fun i u' L' h1 h2 => by
      have hil : i < L := by
        have := (List.getElem?_eq_some_iff.1 h1).1
        simpa using this
      rw [List.getElem?_replicate, if_pos hil] at h1
      rw [bls, List.getElem?_map, List.getElem?_range hil] at h2
      cases h1
      cases h2
      show LLX _ _ _ (bcl (if i < 0 then _ else _))
      rw [if_neg (by omega), bcl_nil.2 rfl]
      exact LLX.nil _ _⟩
    clear hdi3 hd3
    replace hE1 := hE1.trans hE3
    have hz0 := hE1.size
    refine wc_region [0,1,2] rfl ?_
    refine Go.Sx.V rfl wu rfl rfl (mv rfl) ?_
    refine Go.Sx.V rfl wu rfl rfl (lenS rfl ty145 hb3.sl) ?_
    refine Go.Sx.V rfl wu rfl rfl (mv rfl) ?_
    refine wr_nil (post_thenN (wc_block ?_))
    rw [List.length_replicate]
    refine wc_loop (fun j : Nat => [(0, g), (1, u), (2, v), (3, .int .i64 m), (4, .int .i64 wt), (5, .int .i64 l), (15, base), (16, degree), (42, .int .i64 L), (43, .int .i64 j)])
      (fun j w' => j ≤ L ∧ Ext w w' ∧ w3.heap.size ≤ w'.heap.size ∧ BO [bb, db] w.heap.size w' base 30 (bls L (fun s => (npow pX s : Pol (Pol (K P)))) (fun _ => 0) j) ∧ OwnI w.heap.size w' degree 3 (upd L (fun t => ((wt * t : Nat) : Int)) (fun _ => 0) j)) (fun j => L - j) 0 ⟨rfl, rfl, rfl, rfl, rfl, rfl, rfl, rfl, rfl, rfl, trivial⟩ ⟨by omega, hE1, Nat.le_refl _, hbo, hd3'⟩ ?_
    clear hE1 hbo hd3' hb3
    rintro j w4 ⟨j1, hE, hz4, hbo, hdo⟩
    have hbll := bls_length L (fun s => (npow pX s : Pol (Pol (K P)))) (fun _ => 0) j
    have hupl := upd_length L (fun t => ((wt * t : Nat) : Int)) (fun _ => 0) j
    try dsimp only
    refine wc_seq ?_
    refine wc_region [0] rfl ?_
    refine Go.Sx.V rfl wu rfl rfl (lssI rfl rfl) ?_
    refine wr_nil (post_thenN (wc_seq ?_))
    refine wc_cond rfl ?_ ?_
    · intro hc
      simp at hc
      obtain ⟨us, ho1, ho2, ho3⟩ := hbo
      have hblt := (ho1.lt bb hbb).2
      have hdlt := (Own.lt hdo db hdb).2
      have hvn : ∀ r, (us.set ((j : Int)).toNat r)[((j : Int)).toNat]? = some r := fun r => by rw [List.getElem?_set_self (by omega)]
      refine wc_skip (post_thenN (wc_seq (wc_block (wc_seq ?_))))
      refine wc_region [0,1] rfl ?_
      refine Go.Sx.V rfl wu rfl rfl (mv rfl) ?_
      refine Go.Sx.V rfl wu rfl rfl (asg rfl) ?_
      refine wr_nil (post_thenN (wc_seq ?_))
      refine wc_region [0,1,2,3,4,5,6] rfl ?_
      refine Go.Sx.V rfl wu rfl rfl (mv rfl) ?_
      refine Go.Sx.V rfl wu rfl rfl (mv rfl) ?_
      refine Go.Sx.V rfl wu rfl rfl (mv rfl) ?_
      refine Go.Sx.V rfl wu rfl rfl (addI rfl rfl) ?_
      refine MKL (n := (j + 1)) rfl wu rfl rfl ty30 ?_
      intro bi w5 hE5 hbi
      have ho15 := ho1.ext hE5
      refine Go.Sx.V rfl wu rfl rfl (iad rfl rfl ty145 ho15.sl (by omega) (by omega)) ?_
      refine ST rfl wu rfl rfl sz30 hbi.ll.one (by intro h; cases h) ?_ ho15 (by omega) (by omega)
      intro w6 hg6 ho6
      refine wr_nil (post_thenN (wc_seq ?_))
      have hbi6 := hbi.kept hg6 (fun k hk => by rw [hbb] at hk; cases hk; omega)
      obtain ⟨nb, hnb, hnl⟩ : ∃ k, bi.ownBlock = some k ∧ k < w5.heap.size := by
        obtain ⟨rows, h1, h2, _⟩ := hbi.ll.row
        exact h1.lt (by rw [h2, tab_length]; omega)
      have hnb4 := (hbi.lt nb hnb).1
      have hE6 := (hE.trans hE5).grown hg6 ho15 (Nat.le_refl _)
      have hdo6 := Own.kept (Own.ext hdo hE5) hg6 (.inl (Ne.symm hbdn))
      obtain ⟨brs, hbrs, hbrl, hx⟩ := hbi6.ll.row
      clear hx
      rw [tab_length] at hbrl
      have htl : (tab (j + 1) fun _ => ([] : List Int)).length = j + 1 := tab_length _ _
      refine wc_region [0,1,2,3,4,5,6,7] rfl ?_
      refine Go.Sx.V rfl wu rfl rfl (mv rfl) ?_
      refine Go.Sx.V rfl wu rfl rfl (mv rfl) ?_
      refine Go.Sx.V rfl wu rfl rfl (iad rfl rfl ty145 ho6.sl (by omega) (by rw [List.length_set]; omega)) ?_
      refine Go.Sx.V rfl wu rfl rfl (ldE rfl na30 ho6.sl (hvn bi)) ?_
      refine Go.Sx.V rfl wu rfl rfl (mv rfl) ?_
      refine BSI (zs := [1]) rfl wu rfl rfl rfl rfl ty22 ?_
      intro r w7 hE7 hro hri hrb
      have hbi7 := hbi6.ext hE7
      refine Go.Sx.V rfl wu rfl rfl (iad rfl rfl ty30 (hbrs.ext hE7) (by omega) (by omega)) ?_
      refine STL rfl wu rfl rfl sz22 (by intro h; cases h) (hri) (.inr ⟨by rw [hrb, hnb]; intro e; have := Option.some.inj e; have := hg6.size; omega, fun k hk => (show w4.heap.size ≤ k by rw [hrb] at hk; cases hk; have := hg6.size; have := hE5.size; omega)⟩) ?_
      intro w8 hg8 hX8 hbi8
      refine wr_nil (post_thenN ?_)
      have hyl : (tab (j + 1) fun _ => ([] : List Int)).set ((j : Int)).toNat [1] = bcl (npow pX j : Pol (Pol (K P))) := by
        rw [bcl_y, tab_set]
        exact tab_congr fun t _ => by rw [Int.toNat_natCast]
      rw [hyl] at hbi8
      have hz5 := hE5.size
      have hz6 := hg6.size
      have hz7 := hE7.size
      have hz8 := hg8.size
      have hE8 := hX8 _ (by omega) (hE6.trans hE7)
      have hb8 : Sx.Own w.heap.size w8 base 30 (us.set ((j : Int)).toNat bi) := Own.kept (ho6.ext hE7) hg8 (.inl (by rw [hbb, hnb]; intro e; have := Option.some.inj e; omega))
      have hd8 : OwnI w.heap.size w8 degree 3 (upd L (fun t => ((wt * t : Nat) : Int)) (fun _ => 0) j) := Own.kept (Own.ext hdo6 hE7) hg8 (.inl (by rw [hdb, hnb]; intro e; have := Option.some.inj e; omega))
      have hbo8 : BO [bb, db] w.heap.size w8 base 30 (bls L (fun s => (npow pX s : Pol (Pol (K P)))) (fun _ => 0) (j + 1)) := by
        refine ⟨_, hb8, by rw [List.length_set, ho2, bls_length, bls_length], fun i q Q h1 h2 => ?_⟩
        rw [← bls_step] at h2
        by_cases e : ((j : Int)).toNat = i
        · subst e
          rw [hvn] at h1
          rw [List.getElem?_set_self (by omega)] at h2
          cases h1
          cases h2
          exact LO.llx hbi8 (fun k hk => by have := hXlt k hk; omega)
        · rw [List.getElem?_set_ne e] at h1 h2
          have h3 := ho3 i q Q h1 h2
          have h4 : LLX (nb :: [bb, db]) w5 q Q := h3.gr (Gr.of_ext hE5) (fun k hk => by
            rcases List.mem_cons.1 hk with rfl | hk
            · exact .inr (by omega)
            · exact .inl hk)
          have h5 := h4.gr (Gr.of_grown hg6 (fun k hk => List.mem_cons_of_mem _ (hXb k hk))) (Newer.refl _ _)
          have h6 := (h5.ext hE7).gr (Gr.of_grown hg8 (fun k hk => by rw [hnb] at hk; cases hk; simp)) (Newer.refl _ _)
          exact h6.less (fun k hk => List.mem_cons_of_mem _ hk)
      have hdi8 := OwnI.ints hd8
      have hwj : (wt : Int) * (j : Int) ≤ 64 * 65 := Int.mul_le_mul (by omega) (by omega) (by omega) (by omega)
      have hwj0 : 0 ≤ (wt : Int) * (j : Int) := Int.mul_nonneg (by omega) (by omega)
      refine wc_region [0,1,2,3,4,5,6] rfl ?_
      refine Go.Sx.V rfl wu rfl rfl (mv rfl) ?_
      refine Go.Sx.V rfl wu rfl rfl (mv rfl) ?_
      refine Go.Sx.V rfl wu rfl rfl (mv rfl) ?_
      refine Go.Sx.V rfl wu rfl rfl (mv rfl) ?_
      refine Go.Sx.V rfl wu rfl rfl (mulI rfl rfl) ?_
      refine Go.Sx.V rfl wu rfl rfl (iadI rfl rfl ty22 hdi8 (by omega) (by omega)) ?_
      refine STI rfl wu rfl rfl sz3 (by intro h; cases h) ?_
      intro w9 hg9 hX9 ho9 hi9
      refine wr_nil (post_blockN (post_thenN ?_))
      rw [show (wt : Int) * (j : Int) = (fun t => ((wt * t : Nat) : Int)) ((j : Int)).toNat by simp, upd_step (by omega)] at ho9
      refine wc_region [0,1] rfl ?_
      refine Go.Sx.V rfl wu rfl rfl (addI rfl rfl) ?_
      refine Go.Sx.V rfl wu rfl rfl (mv rfl) ?_
      refine wr_nil ?_
      exact post_loopN (j + 1) ⟨rfl, rfl, rfl, rfl, rfl, rfl, rfl, rfl, rfl, rfl, trivial⟩ ⟨by omega, hX9 _ (Nat.le_refl _) hE8, by have := hg9.size; omega, hbo8.kept hg9 hbdn hXd, ho9⟩ (by omega)
    · intro hc
      simp at hc
      obtain rfl : j = L := by omega
      rw [bls_last] at hbo
      rw [upd_last j _ _ (Int.le_refl _)] at hdo
      have hks : KS X Y wt j m 0 0 0 (fun j => (npow pX j : Pol (Pol (K P)))) (fun j => wt * j) := KS.first (by omega)
      have hui := hu.ext hE
      refine wc_exit (post_thenE (post_loopE (post_blockX (post_thenN (wc_seq ?_)))))
      have hj0 : 0 < j := by omega
      obtain ⟨rows, hrows⟩ : ∃ rows, rows = max l N + 2 := ⟨_, rfl⟩
      have hz4' := hz4
      refine wc_region [0,1,2,3,4,5,6,7,8,9,10,11,12,13,14,15,16] rfl ?_
      refine Go.Sx.V rfl wu rfl rfl (mv rfl) ?_
      refine Go.Sx.V rfl wu rfl rfl (mv rfl) ?_
      refine Go.Sx.V rfl wu rfl rfl (lenI rfl ty22 hui) ?_
      refine Go.Sx.V rfl wu rfl rfl (mv rfl) ?_
      refine Go.Sx.V rfl wu rfl rfl (mulI rfl rfl) ?_
      refine Go.Sx.V rfl wu rfl rfl (mv rfl) ?_
      refine Go.Sx.V rfl wu rfl rfl (addI rfl rfl) ?_
      refine Go.Sx.V rfl wu rfl rfl (mulI rfl rfl) ?_
      refine Go.Sx.V rfl wu rfl rfl (quoI rfl rfl) ?_
      refine Go.Sx.V rfl wu rfl rfl (maxI rfl rfl) ?_
      rw [hnum]
      refine Go.Sx.V rfl wu rfl rfl (addI rfl rfl) ?_
      refine Go.Sx.V rfl wu rfl rfl (mv rfl) ?_
      refine Go.Sx.V rfl wu rfl rfl (mv rfl) ?_
      rw [show max (l : Int) (N : Int) + 2 = ((rows : Nat) : Int) by omega]
      refine C rfl wu rfl rfl Tryz.call113 (gField P g _ (hG.ext hE)) ?_
      rintro _ w5 hE5 ⟨mo, md, rfl, hfv⟩
      have hp256 := hfv.p
      refine Go.Sx.V rfl wu rfl rfl (fld rfl (fvF _ _ _)) ?_
      refine C rfl wu rfl rfl Tryz.call112 (bPascal P.p rows m _ ⟨hp2, hp256⟩ (by omega) (by omega) (by omega)) ?_
      intro tb w6 hE6 htb
      refine Go.Sx.V rfl wu rfl rfl (asg rfl) ?_
      refine wr_nil (post_thenN (wc_seq (wc_seq ?_)))
      have hz5 := hE5.size
      have htb6 : LLX [bb, db] w6 tb (pcT P.p rows m) := LO.llx htb (fun k hk => by have := hXlt k hk; omega)
      have hinv : ∃ Bs d, KS X Y wt j m 0 0 0 Bs d ∧ Ext w w6 ∧ BO [bb, db] w.heap.size w6 base 30 (bl j Bs) ∧ OwnI w.heap.size w6 degree 3 (tab j fun t => (d t : Int)) ∧ LLX [bb, db] w6 tb (pcT P.p rows m) :=
        ⟨_, _, hks, (hE.trans hE5).trans hE6, (hbo.ext hE5).ext hE6, Own.ext (Own.ext hdo hE5) hE6, htb6⟩
      have hui6 := hui.ext (hE5.trans hE6)
      clear hks hbo hdo htb6 htb hfv
      refine wc_region [0,1,2] rfl ?_
      refine Go.Sx.V rfl wu rfl rfl (mv rfl) ?_
      refine Go.Sx.V rfl wu rfl rfl (lenI rfl ty22) ?_
      refine Go.Sx.V rfl wu rfl rfl (mv rfl) ?_
      refine wr_nil (post_thenN (wc_block ?_))
      refine wc_loop (fun i : Nat => [(0, g), (2, v), (3, .int .i64 m), (15, base), (16, degree), (18, tb), (82, u), (83, .int .i64 xs.length), (84, .int .i64 i)])
        (fun i w' => i ≤ xs.length ∧ ∃ Bs d, KS X Y wt j m i 0 0 Bs d ∧ Ext w w' ∧ BO [bb, db] w.heap.size w' base 30 (bl j Bs) ∧ OwnI w.heap.size w' degree 3 (tab j fun t => (d t : Int)) ∧ LLX [bb, db] w' tb (pcT P.p rows m)) (fun i => xs.length - i) 0 ⟨rfl, rfl, rfl, rfl, rfl, rfl, rfl, rfl, rfl, trivial⟩ ⟨by omega, hinv⟩ ?_
      clear hinv hE hui hui6 hE5 hE6
      rintro i w7 ⟨i1, Bs, d, hks, hE, hbo, hdo, htb⟩
      have hui := hu.ext hE
      try dsimp only
      refine wc_seq ?_
      refine wc_region [0] rfl ?_
      refine Go.Sx.V rfl wu rfl rfl (lssI rfl rfl) ?_
      refine wr_nil (post_thenN (wc_seq ?_))
      refine wc_cond rfl ?_ ?_
      · intro hc2
        simp at hc2
        refine wc_skip (post_thenN (wc_seq (wc_block (wc_seq ?_))))
        refine wc_region [0,1,2,3,4] rfl ?_
        refine Go.Sx.V rfl wu rfl rfl (mv rfl) ?_
        refine Go.Sx.V rfl wu rfl rfl (iadI rfl rfl ty22 hui (by omega) (by omega)) ?_
        refine Go.Sx.V rfl wu rfl rfl (ldI rfl na3 hui) ?_
        refine Go.Sx.V rfl wu rfl rfl (asg rfl) ?_
        refine Go.Sx.V rfl wu rfl rfl (asg rfl) ?_
        refine wr_nil (post_thenN (wc_seq ?_))
        refine wc_region [0,1] rfl ?_
        refine Go.Sx.V rfl wu rfl rfl (mv rfl) ?_
        refine Go.Sx.V rfl wu rfl rfl (mv rfl) ?_
        refine wr_nil (post_thenN (wc_block ?_))
        refine wc_loop (fun b : Nat => [(0, g), (2, v), (3, .int .i64 m), (15, base), (16, degree), (18, tb), (19, .int .i64 i), (20, .int .i64 (gi xs i)), (82, u), (83, .int .i64 xs.length), (84, .int .i64 i), (89, .int .i64 m), (90, .int .i64 b)])
          (fun b w' => b ≤ m ∧ ∃ Bs d, KS X Y wt j m i b 0 Bs d ∧ Ext w w' ∧ BO [bb, db] w.heap.size w' base 30 (bl j Bs) ∧ OwnI w.heap.size w' degree 3 (tab j fun t => (d t : Int)) ∧ LLX [bb, db] w' tb (pcT P.p rows m)) (fun b => m - b) 0 ⟨rfl, rfl, rfl, rfl, rfl, rfl, rfl, rfl, rfl, rfl, rfl, rfl, rfl, trivial⟩ ⟨by omega, Bs, d, hks, hE, hbo, hdo, htb⟩ ?_
        clear hks hE hbo hdo htb hui
        clear Bs d w7
        rintro b w7 ⟨b1, Bs, d, hks, hE, hbo, hdo, htb⟩
        try dsimp only
        refine wc_seq ?_
        refine wc_region [0] rfl ?_
        refine Go.Sx.V rfl wu rfl rfl (lssI rfl rfl) ?_
        refine wr_nil (post_thenN (wc_seq ?_))
        refine wc_cond rfl ?_ ?_
        · intro hc3
          simp at hc3
          refine wc_skip (post_thenN (wc_seq (wc_block (wc_seq ?_))))
          refine wc_region [0,1] rfl ?_
          refine Go.Sx.V rfl wu rfl rfl (mv rfl) ?_
          refine Go.Sx.V rfl wu rfl rfl (asg rfl) ?_
          refine wr_nil (post_thenN (wc_seq ?_))
          refine wc_region [0,1,2,3] rfl ?_
          refine Go.Sx.V rfl wu rfl rfl (mv rfl) ?_
          refine Go.Sx.V rfl wu rfl rfl (mv rfl) ?_
          refine Go.Sx.V rfl wu rfl rfl (subI rfl rfl) ?_
          refine Go.Sx.V rfl wu rfl rfl (mv rfl) ?_
          refine wr_nil (post_thenN (wc_block ?_))
          refine wc_loop (fun a : Nat => [(0, g), (2, v), (3, .int .i64 m), (15, base), (16, degree), (18, tb), (19, .int .i64 i), (20, .int .i64 (gi xs i)), (21, .int .i64 b), (82, u), (83, .int .i64 xs.length), (84, .int .i64 i), (89, .int .i64 m), (90, .int .i64 b), (95, .int .i64 ((m : Int) - b)), (96, .int .i64 a)])
            (fun a w' => a ≤ m - b ∧ ∃ Bs d, KS X Y wt j m i b a Bs d ∧ Ext w w' ∧ BO [bb, db] w.heap.size w' base 30 (bl j Bs) ∧ OwnI w.heap.size w' degree 3 (tab j fun t => (d t : Int)) ∧ LLX [bb, db] w' tb (pcT P.p rows m)) (fun a => m - b - a) 0 ⟨rfl, rfl, rfl, rfl, rfl, rfl, rfl, rfl, rfl, rfl, rfl, rfl, rfl, rfl, rfl, rfl, trivial⟩ ⟨by omega, Bs, d, hks, hE, hbo, hdo, htb⟩ ?_
          clear hks hE hbo hdo htb
          clear Bs d w7
          rintro a w7 ⟨a1, Bs, d, hks, hE, hbo, hdo, htb⟩
          try dsimp only
          refine wc_seq ?_
          refine wc_region [0] rfl ?_
          refine Go.Sx.V rfl wu rfl rfl (lssI rfl rfl) ?_
          refine wr_nil (post_thenN (wc_seq ?_))
          refine wc_cond rfl ?_ ?_
          · intro hc4
            simp at hc4
            have hab : a + b < m := by omega
            have hcnt := cnt_le (m := m) (n := xs.length) (b := b) (a := a) hc2 hab
            rw [← hNN] at hcnt
            have hvi := hv.ext hE
            have hxi : inK P (gi xs i) = X i := by rw [hX]
            have hyi : inK P (gi ys i) = Y i := by rw [hY]
            refine wc_skip (post_thenN (wc_seq (wc_block (wc_seq ?_))))
            refine wc_region [0,1] rfl ?_
            refine Go.Sx.V rfl wu rfl rfl (mv rfl) ?_
            refine Go.Sx.V rfl wu rfl rfl (asg rfl) ?_
            refine wr_nil (post_thenN ?_)
            refine wc_region [0,1,2,3,4,5,6,7,8,9,10,11] rfl ?_
            refine Go.Sx.V rfl wu rfl rfl (mv rfl) ?_
            refine Go.Sx.V rfl wu rfl rfl (mv rfl) ?_
            refine Go.Sx.V rfl wu rfl rfl (mv rfl) ?_
            refine Go.Sx.V rfl wu rfl rfl (mv rfl) ?_
            refine Go.Sx.V rfl wu rfl rfl (mv rfl) ?_
            refine Go.Sx.V rfl wu rfl rfl (mv rfl) ?_
            refine Go.Sx.V rfl wu rfl rfl (iadI rfl rfl ty22 hvi (by omega) (by omega)) ?_
            refine Go.Sx.V rfl wu rfl rfl (ldI rfl na3 hvi) ?_
            refine Go.Sx.V rfl wu rfl rfl (mv rfl) ?_
            refine Go.Sx.V rfl wu rfl rfl (mv rfl) ?_
            refine Go.Sx.V rfl wu rfl rfl (mv rfl) ?_
            refine CG rfl wu rfl rfl Tryz.call114 (bMeet P g base degree tb Bs d j (gi xs i) (gi ys i) a b rows m (N + 1) bb db w _ hG hE hbb hdb hbd hbw hdw hbo hdo htb (fun s hs => (hks.xb s hs).mono (by omega)) (fun s hs => (hks.ki.mem s hs).1) (by omega) hj0 (by omega) (by omega) hc3 (by omega) (by omega) (hks.dle (by omega) (by omega) (by omega))) (by intro h; cases h) ?_
            rintro _ w8 hGr ⟨Bs', d', hst, hbo', hdo'⟩
            refine wr_nil (post_blockN (post_thenN ?_))
            rw [hxi, hyi] at hst
            refine wc_region [0,1] rfl ?_
            refine Go.Sx.V rfl wu rfl rfl (addI rfl rfl) ?_
            refine Go.Sx.V rfl wu rfl rfl (mv rfl) ?_
            refine wr_nil ?_
            exact post_loopN (a + 1) ⟨rfl, rfl, rfl, rfl, rfl, rfl, rfl, rfl, rfl, rfl, rfl, rfl, rfl, rfl, rfl, rfl, trivial⟩ ⟨by omega, Bs', d', hks.step hgx hj0 hab hst, hGr.ext hE hXw, hbo', hdo', htb.gr hGr (Newer.refl _ _)⟩ (by omega)
          · intro hc4
            simp at hc4
            obtain rfl : a = m - b := by omega
            refine wc_exit (post_thenE (post_loopE (post_blockX (post_blockN (post_thenN ?_)))))
            refine wc_region [0,1] rfl ?_
            refine Go.Sx.V rfl wu rfl rfl (addI rfl rfl) ?_
            refine Go.Sx.V rfl wu rfl rfl (mv rfl) ?_
            refine wr_nil ?_
            exact post_loopN (b + 1) ⟨rfl, rfl, rfl, rfl, rfl, rfl, rfl, rfl, rfl, rfl, rfl, rfl, rfl, trivial⟩ ⟨by omega, Bs, d, hks.row, hE, hbo, hdo, htb⟩ (by omega)
        · intro hc3
          simp at hc3
          obtain rfl : b = m := by omega
          refine wc_exit (post_thenE (post_loopE (post_blockX (post_blockN (post_thenN ?_)))))
          refine wc_region [0,1] rfl ?_
          refine Go.Sx.V rfl wu rfl rfl (addI rfl rfl) ?_
          refine Go.Sx.V rfl wu rfl rfl (mv rfl) ?_
          refine wr_nil ?_
          exact post_loopN (i + 1) ⟨rfl, rfl, rfl, rfl, rfl, rfl, rfl, rfl, rfl, trivial⟩ ⟨by omega, Bs, d, hks.point, hE, hbo, hdo, htb⟩ (by omega)
      · intro hc2
        simp at hc2
        obtain rfl : i = xs.length := by omega
        obtain ⟨us, hus, husl, husr⟩ := hbo.row
        rw [bl_length] at husl husr
        have hdi := OwnI.ints hdo
        have hdl : (tab j fun t => (d t : Int)).length = j := tab_length _ _
        have hdg : ∀ s : Nat, s < j → gi (tab j fun t => (d t : Int)) (s : Int) = d s := fun s hs => by rw [gi_tab (by omega) (by omega)]; rfl
        refine wc_exit (post_thenE (post_loopE (post_blockX (post_thenN (wc_seq ?_)))))
        refine wc_region [0] rfl ?_
        refine Go.Sx.V rfl wu rfl rfl (asg rfl) ?_
        refine wr_nil (post_thenN (wc_seq (wc_seq ?_)))
        refine wc_region [0,1,2] rfl ?_
        refine Go.Sx.V rfl wu rfl rfl (mv rfl) ?_
        refine Go.Sx.V rfl wu rfl rfl (lenS rfl ty145 hus) ?_
        refine Go.Sx.V rfl wu rfl rfl (mv rfl) ?_
        refine wr_nil (post_thenN (wc_block ?_))
        rw [husl]
        have hE7 := Ext.refl w7
        refine wc_loop (fun s : Nat × Nat => [(0, g), (15, base), (16, degree), (23, .int .i64 s.2), (115, .int .i64 j), (116, .int .i64 s.1)])
          (fun s w' => s.1 ≤ j ∧ s.2 < j ∧ Ext w7 w' ∧ ∀ t, t < s.1 → d s.2 ≤ d t) (fun s => j - s.1) (0, 0) ⟨rfl, rfl, rfl, rfl, rfl, rfl, trivial⟩ ⟨by show 0 ≤ j; omega, by show 0 < j; omega, hE7, fun t ht => by cases ht⟩ ?_
        clear hE7
        rintro ⟨s, best⟩ w8 ⟨s1, hbj, hE8, hmin⟩
        dsimp only at s1 hbj hmin
        have hdi8 := hdi.ext hE8
        try dsimp only
        refine wc_seq ?_
        refine wc_region [0] rfl ?_
        refine Go.Sx.V rfl wu rfl rfl (lssI rfl rfl) ?_
        refine wr_nil (post_thenN (wc_seq ?_))
        refine wc_cond rfl ?_ ?_
        · intro hc5
          simp at hc5
          refine wc_skip (post_thenN (wc_seq (wc_block (wc_seq ?_))))
          refine wc_region [0,1] rfl ?_
          refine Go.Sx.V rfl wu rfl rfl (mv rfl) ?_
          refine Go.Sx.V rfl wu rfl rfl (asg rfl) ?_
          refine wr_nil (post_thenN (wc_seq ?_))
          refine wc_draw mixed [0,1,2,3,4,5,6,7,8] (by kernel_rfl) ?_
          intro w9 hd9 _
          replace hE8 := hE8.trans hd9
          replace hdi8 := hdi8.ext hd9
          refine Go.Sx.V rfl wu rfl rfl (mv rfl) ?_
          refine Go.Sx.V rfl wu rfl rfl (mv rfl) ?_
          refine Go.Sx.V rfl wu rfl rfl (iadI rfl rfl ty22 hdi8 (by omega) (by omega)) ?_
          refine Go.Sx.V rfl wu rfl rfl (ldI rfl na3 hdi8) ?_
          refine Go.Sx.V rfl wu rfl rfl (mv rfl) ?_
          refine Go.Sx.V rfl wu rfl rfl (mv rfl) ?_
          refine Go.Sx.V rfl wu rfl rfl (iadI rfl rfl ty22 hdi8 (by omega) (by omega)) ?_
          refine Go.Sx.V rfl wu rfl rfl (ldI rfl na3 hdi8) ?_
          refine Go.Sx.V rfl wu rfl rfl (lssI rfl rfl) ?_
          refine wr_nil (post_thenN ?_)
          rw [hdg s hc5, hdg best hbj]
          refine wc_cond rfl ?_ ?_
          · intro hc6
            simp at hc6
            refine wc_region [0,1] rfl ?_
            refine Go.Sx.V rfl wu rfl rfl (mv rfl) ?_
            refine Go.Sx.V rfl wu rfl rfl (asg rfl) ?_
            refine wr_nil (post_blockN (post_thenN ?_))
            refine wc_region [0,1] rfl ?_
            refine Go.Sx.V rfl wu rfl rfl (addI rfl rfl) ?_
            refine Go.Sx.V rfl wu rfl rfl (mv rfl) ?_
            refine wr_nil ?_
            exact post_loopN (s + 1, s) ⟨rfl, rfl, rfl, rfl, rfl, rfl, trivial⟩ ⟨by show s + 1 ≤ j; omega, hc5, hE8, fun t ht => by
              by_cases e : t = s
              · rw [e]; exact Nat.le_refl _
              · have := hmin t (by show t < s; have : t < s + 1 := ht; omega); show d s ≤ d t; omega⟩ (by show j - (s + 1) < j - s; omega)
          · intro hc6
            simp at hc6
            refine wc_skip (post_blockN (post_thenN ?_))
            refine wc_region [0,1] rfl ?_
            refine Go.Sx.V rfl wu rfl rfl (addI rfl rfl) ?_
            refine Go.Sx.V rfl wu rfl rfl (mv rfl) ?_
            refine wr_nil ?_
            exact post_loopN (s + 1, best) ⟨rfl, rfl, rfl, rfl, rfl, rfl, trivial⟩ ⟨by show s + 1 ≤ j; omega, hbj, hE8, fun t ht => by
              by_cases e : t = s
              · rw [e]; exact hc6
              · exact hmin t (by show t < s; have : t < s + 1 := ht; omega)⟩ (by show j - (s + 1) < j - s; omega)
        · intro hc5
          simp at hc5
          obtain rfl : s = j := by omega
          obtain ⟨ub, hub, hubr⟩ := husr best hbj
          rw [bl_get hbj] at hubr
          have hip := hks.last hj0 hbj hmin
          have hrb : RB 17592186044416 (bcl (Bs best)) := XB.rb (hip.xb.mono (by omega))
          have hbyl : (bcl (Bs best)).length ≤ s := bcl_len hip.yb
          refine wc_exit (post_thenE (post_loopE (post_blockX (post_thenN (wc_seq ?_)))))
          refine wc_region [0,1,2,3,4,5,6,7] rfl ?_
          refine Go.Sx.V rfl wu rfl rfl (mv rfl) ?_
          refine Go.Sx.V rfl wu rfl rfl (mv rfl) ?_
          refine Go.Sx.V rfl wu rfl rfl (mv rfl) ?_
          refine Go.Sx.V rfl wu rfl rfl (iad rfl rfl ty145 (hus.ext hE8) (by omega) (by omega)) ?_
          refine Go.Sx.V rfl wu rfl rfl (ldE rfl na30 (hus.ext hE8) hub) ?_
          refine C rfl wu rfl rfl Tryz.call58 (bCanon P g ub _ _ ((hG.ext hE).ext hE8) (hubr.ll.ext hE8) hrb (by omega)) ?_
          intro q w9 hE9 hq
          rw [bz_bcl] at hq
          refine Go.Sx.V rfl wu rfl rfl (asg rfl) ?_
          refine Go.Sx.V rfl wu rfl rfl (asg rfl) ?_
          refine wr_nil (post_thenN (wc_ret ?_))
          refine post_ret2 rfl rfl rfl ?_
          exact ⟨(hE.trans hE8).trans hE9, .inr ⟨h, q, Bs best, rfl, LO.mono hq (hE.trans hE8).size, hip⟩⟩
end Go.Proofs.YtmnojknfjbimdaaGreat

