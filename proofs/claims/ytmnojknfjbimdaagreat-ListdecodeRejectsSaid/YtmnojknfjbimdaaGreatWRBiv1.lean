/-
  The reference's polynomials in two variables, by contract: Canon, Same, At, Add, Mul, Eval, Substitute, Degree, Less.
-/
import Derived.Test.YtmnojknfjbimdaaGreatWRPoly
namespace Go.Fd
open Go.Pl Go.Alg
variable {P : FP}
theorem cntB_step (F : Pol (Pol (K P))) (i : Nat) : (trimB (tab (i + 1) fun t => cl (F.co t))).length = if cl (F.co i) = [] then (trimB (tab i fun t => cl (F.co t))).length else i + 1 := by
  rw [tab_succ]
  split
  · rename_i h; rw [h, trimB_snoc0]
  · rename_i h
    rw [trimB_snoc h, List.length_append, tab_length]; rfl
theorem bcl_self (F : Pol (Pol (K P))) : tab (bcl F).length (fun t => cl (F.co t)) = bcl F := by
  apply List.ext_getElem
  · rw [tab_length]
  · intro i h1 h2
    have h3 := bcl_row F i
    rw [List.getD_eq_getElem?_getD, List.getElem?_eq_getElem h2, Option.getD_some] at h3
    rw [h3]
    simp [tab]
theorem val2_part (F : Pol (Pol (K P))) (x y : K P) (i : Nat) : val2 (Go.Alg.part (i + 1) F) x y = val2 (Go.Alg.part i F) x y + val1 (F.co i) x * npow y i := by
  rw [val2, pev_part (val1_hom x), mul_comm (npow y i)]; rfl
theorem val2_part0 (F : Pol (Pol (K P))) (x y : K P) : val2 (Go.Alg.part 0 F) x y = 0 := by rw [part_zero]; exact (val2_hom x y).zero
theorem bz_all (L : List (List Int)) : Go.Alg.part L.length (bz P L) = bz P L := part_all fun _ h => co_bz_over h
theorem ll_ext {A B : List (List Int)} (hl : A.length = B.length) (h : ∀ t, t < A.length → A.getD t [] = B.getD t []) : A = B := by
  apply List.ext_getElem hl
  intro i h1 h2
  have := h i h1
  rwa [List.getD_eq_getElem?_getD, List.getElem?_eq_getElem h1, Option.getD_some, List.getD_eq_getElem?_getD, List.getElem?_eq_getElem h2, Option.getD_some] at this
theorem row_ext {a b : List Int} (hl : a.length = b.length) (h : ∀ t : Nat, t < a.length → gi a t = gi b t) : a = b := by
  apply List.ext_getElem hl
  intro i h1 h2
  have := h i h1
  rw [gi, gi, Int.toNat_natCast] at this
  rwa [List.getD_eq_getElem?_getD, List.getElem?_eq_getElem h1, Option.getD_some, List.getD_eq_getElem?_getD, List.getElem?_eq_getElem h2, Option.getD_some] at this
def LessP (f g : Pol (K P)) (k : Nat) : Prop := ∃ i, i < k ∧ (∀ t, t < i → f.co t = g.co t) ∧ (f.co i).1 < (g.co i).1
end Go.Fd
namespace Go.Proofs.YtmnojknfjbimdaaGreat
open Go Go.Sx Go.Pl Go.RowKit Go.Fd Go.Alg
set_option maxRecDepth 10000 in
theorem rBCanon (P : FP) (mo : Value) (md : List Int) (u : Value) (A : List (List Int)) (w : World) (hF : FV w P mo md) (hu : LL w u A) (hA : RB 17592186044416 A) (hn : A.length ≤ 1099511627776) :
    Calls Tryz.prog 19 #[fv P mo, u] w (RetX w fun r w' => LO w.heap.size w' r 22 (bcl (bz P A))) := by
  obtain ⟨rows, hs, hrl, hrr⟩ := hu.row
  refine calls2 Tryz.func19 rfl rfl ?_
  refine wc_seq ?_
  refine wc_region [0,1] rfl ?_
  refine BXA rfl wu rfl rfl ?_
  intro fb w1 hE hB hg
  refine Go.Sx.V rfl wu rfl rfl (asg rfl) ?_
  refine wr_nil (post_thenN (wc_seq ?_))
  refine wc_region [0] rfl ?_
  refine Go.Sx.V rfl wu rfl rfl (asg rfl) ?_
  refine wr_nil (post_thenN (wc_seq (wc_seq ?_)))
  refine wc_region [0] rfl ?_
  refine Go.Sx.V rfl wu rfl rfl (asg rfl) ?_
  refine wr_nil (post_thenN (wc_block ?_))
  have hsz := hE.size
  refine wc_loop (fun i : Nat => [(1, u), (2, .pointer (some ⟨fb, 0, none⟩)), (5, .int .i64 (trimB (tab i fun t => cl ((bz P A).co t))).length), (6, .int .i64 i)])
    (fun i w' => i ≤ A.length ∧ Ext w w' ∧ Ext w1 w') (fun i => A.length - i) 0 ⟨rfl, rfl, rfl, rfl, trivial⟩ ⟨by omega, hE, Ext.refl _⟩ ?_
  clear hE
  rintro i w4 ⟨i1, hE, hE1⟩
  have hsi := hs.ext hE
  have hBi := hB.ext hE1
  try dsimp only
  refine wc_seq (wc_seq ?_)
  refine wc_region [0,1,2,3] rfl ?_
  refine Go.Sx.V rfl wu rfl rfl (mv rfl) ?_
  refine Go.Sx.V rfl wu rfl rfl (mv rfl) ?_
  refine Go.Sx.V rfl wu rfl rfl (lenS rfl ty30 hsi) ?_
  refine Go.Sx.V rfl wu rfl rfl (lssI rfl rfl) ?_
  refine wr_nil (post_thenN ?_)
  rw [hrl]
  refine wc_cond rfl ?_ ?_
  · intro hc
    simp at hc
    obtain ⟨r, hr, hri⟩ := hrr i hc
    have hst := cntB_step (bz P A) i
    refine wc_skip (post_thenN (wc_seq (wc_block (wc_seq ?_))))
    refine wc_draw mixed [0,1,2,3,4,5,6] (by kernel_rfl) ?_
    intro w5 hd _
    replace hE := hE.trans hd
    replace hE1 := hE1.trans hd
    replace hsi := hsi.ext hd
    replace hBi := hBi.ext hd
    refine Go.Sx.V rfl wu rfl rfl (ldA rfl ag24) ?_
    refine Go.Sx.V rfl wu rfl rfl (mv rfl) ?_
    refine Go.Sx.V rfl wu rfl rfl (mv rfl) ?_
    refine Go.Sx.V rfl wu rfl rfl (iad rfl rfl ty30 hsi (by omega) (by omega)) ?_
    refine Go.Sx.V rfl wu rfl rfl (ldE rfl na22 hsi hr) ?_
    refine C rfl wu rfl rfl Tryz.call40 (rPDegree P mo md r _ _ (hF.ext hE) (hri.ext hE) (hA i)) ?_
    rintro _ w6 hE6 rfl
    replace hE := hE.trans hE6
    replace hE1 := hE1.trans hE6
    refine Go.Sx.V rfl wu rfl rfl (geqI rfl rfl) ?_
    refine wr_nil (post_thenN ?_)
    rw [← co_bz]
    refine wc_cond rfl ?_ ?_
    · intro hs'
      simp at hs'
      rw [if_neg (fun e => by rw [e] at hs'; simp at hs')] at hst
      refine wc_region [0,1,2] rfl ?_
      refine Go.Sx.V rfl wu rfl rfl (mv rfl) ?_
      refine Go.Sx.V rfl wu rfl rfl (addI rfl rfl) ?_
      refine Go.Sx.V rfl wu rfl rfl (asg rfl) ?_
      refine wr_nil (post_blockN (post_thenN ?_))
      refine wc_region [0,1,2] rfl ?_
      refine Go.Sx.V rfl wu rfl rfl (mv rfl) ?_
      refine Go.Sx.V rfl wu rfl rfl (addI rfl rfl) ?_
      refine Go.Sx.V rfl wu rfl rfl (asg rfl) ?_
      refine wr_nil ?_
      exact post_loopN (i + 1) ⟨rfl, rfl, by rw [hst]; rfl, rfl, trivial⟩ ⟨by omega, hE, hE1⟩ (by omega)
    · intro hs'
      simp at hs'
      rw [if_pos (List.eq_nil_of_length_eq_zero (by omega))] at hst
      refine wc_skip (post_blockN (post_thenN ?_))
      refine wc_region [0,1,2] rfl ?_
      refine Go.Sx.V rfl wu rfl rfl (mv rfl) ?_
      refine Go.Sx.V rfl wu rfl rfl (addI rfl rfl) ?_
      refine Go.Sx.V rfl wu rfl rfl (asg rfl) ?_
      refine wr_nil ?_
      exact post_loopN (i + 1) ⟨rfl, rfl, by rw [hst]; rfl, rfl, trivial⟩ ⟨by omega, hE, hE1⟩ (by omega)
  · intro hc
    simp at hc
    refine wc_exit (post_thenE (post_loopE (post_blockX (post_thenN (wc_seq ?_)))))
    rw [show i = A.length by omega, bcl_tab (fun i hi => co_bz_over hi)]
    have hcl := bcl_bz_len (P := P) A
    have hrow := fun t => co_bz (P := P) A t
    obtain ⟨F, hFF⟩ : ∃ F, bz P A = F := ⟨_, rfl⟩
    rw [hFF] at hcl hrow ⊢
    refine wc_region [0,1,2] rfl ?_
    refine Go.Sx.V rfl wu rfl rfl (mv rfl) ?_
    refine MKL (n := (bcl F).length) rfl wu rfl rfl ty30 ?_
    intro out w2 hE2 ho
    refine Go.Sx.V rfl wu rfl rfl (asg rfl) ?_
    refine wr_nil (post_thenN (wc_seq (wc_seq ?_)))
    have hcs := bcl_self F
    rw [← updB_zero (bcl F).length (fun t => cl (F.co t)) (fun _ => [])] at ho
    replace ho := ho.mono hE1.size
    refine wc_region [0] rfl ?_
    refine Go.Sx.V rfl wu rfl rfl (asg rfl) ?_
    refine wr_nil (post_thenN (wc_block ?_))
    obtain ⟨n, hnn⟩ : ∃ n, n = (bcl F).length := ⟨_, rfl⟩
    rw [← hnn] at hcl hcs ho ⊢
    refine wc_loop (fun i : Nat => [(1, u), (2, .pointer (some ⟨fb, 0, none⟩)), (5, .int .i64 n), (7, out), (8, .int .i64 i)])
      (fun i w' => i ≤ n ∧ Ext w w' ∧ Ext w1 w' ∧ LO w1.heap.size w' out 22 (updB n (fun t => cl (F.co t)) (fun _ => []) i)) (fun i => n - i) 0 ⟨rfl, rfl, rfl, rfl, rfl, trivial⟩ ⟨by omega, hE.trans hE2, hE1.trans hE2, ho⟩ ?_
    clear hE hE1 hE2 ho hsi hBi
    clear w2
    clear w4
    rintro i w4 ⟨i1, hE, hE1, ho⟩
    have hsi := hs.ext hE
    have hBi := hB.ext hE1
    have hul := updB_length n (fun t => cl (F.co t)) (fun _ => []) i
    obtain ⟨orows, hos, hol, hox⟩ := ho.ll.row
    try dsimp only
    refine wc_seq (wc_seq ?_)
    refine wc_region [0,1,2] rfl ?_
    refine Go.Sx.V rfl wu rfl rfl (mv rfl) ?_
    refine Go.Sx.V rfl wu rfl rfl (mv rfl) ?_
    refine Go.Sx.V rfl wu rfl rfl (lssI rfl rfl) ?_
    refine wr_nil (post_thenN ?_)
    refine wc_cond rfl ?_ ?_
    · intro hc
      simp at hc
      obtain ⟨r, hr, hri⟩ := hrr i (by omega)
      refine wc_skip (post_thenN (wc_seq (wc_block ?_)))
      refine wc_draw mixed [0,1,2,3,4,5,6,7,8,9] (by kernel_rfl) ?_
      intro w5 hd _
      replace hE := hE.trans hd
      replace hE1 := hE1.trans hd
      replace hsi := hsi.ext hd
      replace hBi := hBi.ext hd
      replace ho := ho.ext hd
      replace hos := hos.ext hd
      refine Go.Sx.V rfl wu rfl rfl (mv rfl) ?_
      refine Go.Sx.V rfl wu rfl rfl (mv rfl) ?_
      refine Go.Sx.V rfl wu rfl rfl (ldA rfl ag24) ?_
      refine Go.Sx.V rfl wu rfl rfl (mv rfl) ?_
      refine Go.Sx.V rfl wu rfl rfl (mv rfl) ?_
      refine Go.Sx.V rfl wu rfl rfl (iad rfl rfl ty30 hsi (by omega) (by omega)) ?_
      refine Go.Sx.V rfl wu rfl rfl (ldE rfl na22 hsi hr) ?_
      refine C rfl wu rfl rfl Tryz.call41 (rPCanon P mo md r _ _ (hF.ext hE) (hri.ext hE) (hA i)) ?_
      intro z w6 hE6 hz
      have hne := row_newI ho hz (Nat.le_refl _)
      replace hE := hE.trans hE6
      replace hE1 := hE1.trans hE6
      replace ho := ho.ext hE6
      refine Go.Sx.V rfl wu rfl rfl (iad rfl rfl ty30 hos (by omega) (by omega)) ?_
      refine STL rfl wu rfl rfl sz22 (by intro h; kernel_rfl) (OwnI.ints hz) (hne) ?_
      intro w7 hg7 hX7 ho7
      refine wr_nil (post_blockN (post_thenN ?_))
      rw [← hrow, updB_step (f := fun t => cl (F.co t))] at ho7
      refine wc_region [0,1,2] rfl ?_
      refine Go.Sx.V rfl wu rfl rfl (mv rfl) ?_
      refine Go.Sx.V rfl wu rfl rfl (addI rfl rfl) ?_
      refine Go.Sx.V rfl wu rfl rfl (asg rfl) ?_
      refine wr_nil ?_
      exact post_loopN (i + 1) ⟨rfl, rfl, rfl, rfl, rfl, trivial⟩ ⟨by omega, hX7 _ hsz hE, hX7 _ (Nat.le_refl _) hE1, ho7⟩ (by omega)
    · intro hc
      simp at hc
      refine wc_exit (post_thenE (post_loopE (post_blockX (post_thenN (wc_seq ?_)))))
      rw [show i = n by omega, updB_last, hcs] at ho
      refine wc_region [0,1] rfl ?_
      refine Go.Sx.V rfl wu rfl rfl (mv rfl) ?_
      refine Go.Sx.V rfl wu rfl rfl (asg rfl) ?_
      refine wr_nil (post_thenN (wc_ret ?_))
      refine post_ret1 rfl rfl ?_
      exact ⟨hE, ho.mono hsz⟩
set_option maxRecDepth 10000 in
theorem rBSame (u v : Value) (A B : List (List Int)) (w : World) (hu : LL w u A) (hv : LL w v B) :
    Calls Tryz.prog 18 #[u, v] w (RetX w fun r _ => r = .bool (decide (A = B))) := by
  obtain ⟨rows, hs, hrl, hrr⟩ := hu.row
  obtain ⟨rows2, hs2, hrl2, hrr2⟩ := hv.row
  have hle := hs.le
  refine calls2 Tryz.func18 rfl rfl ?_
  refine wc_seq ?_
  refine wc_region [0] rfl ?_
  refine Go.Sx.V rfl wu rfl rfl (asg rfl) ?_
  refine wr_nil (post_thenN (wc_seq (wc_seq ?_)))
  refine wc_region [0,1,2,3,4] rfl ?_
  refine Go.Sx.V rfl wu rfl rfl (mv rfl) ?_
  refine Go.Sx.V rfl wu rfl rfl (lenS rfl ty30 hs) ?_
  refine Go.Sx.V rfl wu rfl rfl (mv rfl) ?_
  refine Go.Sx.V rfl wu rfl rfl (lenS rfl ty30 hs2) ?_
  refine Go.Sx.V rfl wu rfl rfl (neqI rfl rfl) ?_
  refine wr_nil (post_thenN ?_)
  rw [hrl, hrl2]
  refine wc_cond rfl ?_ ?_
  · intro h
    simp at h
    refine wc_seq ?_
    refine wc_region [0] rfl ?_
    refine Go.Sx.V rfl wu rfl rfl (asg rfl) ?_
    refine wr_nil (post_thenN (wc_ret (post_thenR ?_)))
    refine post_ret1 rfl rfl ?_
    exact ⟨Ext.refl _, by rw [decide_eq_false (fun e => by rw [e] at h; omega)]⟩
  · intro h
    simp at h
    refine wc_skip (post_thenN (wc_seq (wc_seq ?_)))
    refine wc_region [0] rfl ?_
    refine Go.Sx.V rfl wu rfl rfl (asg rfl) ?_
    refine wr_nil (post_thenN (wc_block ?_))
    refine wc_loop (fun i : Nat => [(0, u), (1, v), (5, .int .i64 i)])
      (fun i w' => i ≤ A.length ∧ Ext w w' ∧ ∀ t, t < i → A.getD t [] = B.getD t []) (fun i => A.length - i) 0 ⟨rfl, rfl, rfl, trivial⟩ ⟨by omega, Ext.refl _, fun t ht => by omega⟩ ?_
    rintro i w4 ⟨i1, hE, hrows⟩
    have hsi := hs.ext hE
    have hsi2 := hs2.ext hE
    try dsimp only
    refine wc_seq (wc_seq ?_)
    refine wc_region [0,1,2,3] rfl ?_
    refine Go.Sx.V rfl wu rfl rfl (mv rfl) ?_
    refine Go.Sx.V rfl wu rfl rfl (mv rfl) ?_
    refine Go.Sx.V rfl wu rfl rfl (lenS rfl ty30 hsi) ?_
    refine Go.Sx.V rfl wu rfl rfl (lssI rfl rfl) ?_
    refine wr_nil (post_thenN ?_)
    rw [hrl]
    refine wc_cond rfl ?_ ?_
    · intro hc
      simp at hc
      obtain ⟨r, hr, hri⟩ := hrr i (by omega)
      obtain ⟨r2, hr2, hri2⟩ := hrr2 i (by omega)
      replace hri := hri.ext hE
      replace hri2 := hri2.ext hE
      have hne : A.getD i [] ≠ B.getD i [] → A ≠ B := fun h e => h (by rw [e])
      have hnx : A.getD i [] = B.getD i [] → ∀ t, t < i + 1 → A.getD t [] = B.getD t [] := fun e t ht => by
        rcases Nat.lt_or_ge t i with h1 | h1
        · exact hrows t h1
        · obtain rfl : t = i := by omega
          exact e
      generalize A.getD i [] = a at *
      generalize B.getD i [] = b at *
      have hal := hri.le
      refine wc_skip (post_thenN (wc_seq (wc_block (wc_seq (wc_seq ?_)))))
      refine wc_draw mixed [0,1,2,3,4,5,6,7,8,9,10] (by kernel_rfl) ?_
      intro w5 hd _
      replace hE := hE.trans hd
      replace hsi := hsi.ext hd
      replace hsi2 := hsi2.ext hd
      replace hri := hri.ext hd
      replace hri2 := hri2.ext hd
      refine Go.Sx.V rfl wu rfl rfl (mv rfl) ?_
      refine Go.Sx.V rfl wu rfl rfl (mv rfl) ?_
      refine Go.Sx.V rfl wu rfl rfl (iad rfl rfl ty30 hsi (by omega) (by omega)) ?_
      refine Go.Sx.V rfl wu rfl rfl (ldE rfl na22 hsi hr) ?_
      refine Go.Sx.V rfl wu rfl rfl (lenI rfl ty22 hri) ?_
      refine Go.Sx.V rfl wu rfl rfl (mv rfl) ?_
      refine Go.Sx.V rfl wu rfl rfl (mv rfl) ?_
      refine Go.Sx.V rfl wu rfl rfl (iad rfl rfl ty30 hsi2 (by omega) (by omega)) ?_
      refine Go.Sx.V rfl wu rfl rfl (ldE rfl na22 hsi2 hr2) ?_
      refine Go.Sx.V rfl wu rfl rfl (lenI rfl ty22 hri2) ?_
      refine Go.Sx.V rfl wu rfl rfl (neqI rfl rfl) ?_
      refine wr_nil (post_thenN ?_)
      refine wc_cond rfl ?_ ?_
      · intro hl
        simp at hl
        refine wc_seq ?_
        refine wc_region [0] rfl ?_
        refine Go.Sx.V rfl wu rfl rfl (asg rfl) ?_
        refine wr_nil (post_thenN (wc_ret (post_thenR (post_blockR (post_thenR (post_loopR (post_blockR (post_thenR ?_))))))))
        refine post_ret1 rfl rfl ?_
        exact ⟨hE, by rw [decide_eq_false (hne fun e => by rw [e] at hl; omega)]⟩
      · intro hl
        simp at hl
        refine wc_skip (post_thenN (wc_seq ?_))
        refine wc_region [0] rfl ?_
        refine Go.Sx.V rfl wu rfl rfl (asg rfl) ?_
        refine wr_nil (post_thenN (wc_block ?_))
        refine wc_loop (fun j : Nat => [(0, u), (1, v), (5, .int .i64 i), (6, .int .i64 j)])
          (fun j w' => j ≤ a.length ∧ Ext w w' ∧ Ext w5 w' ∧ ∀ t : Nat, t < j → gi a t = gi b t) (fun j => a.length - j) 0 ⟨rfl, rfl, rfl, rfl, trivial⟩ ⟨by omega, hE, Ext.refl _, fun t ht => by omega⟩ ?_
        clear hE hd
        rintro j w6 ⟨j1, hE, hE5, hent⟩
        replace hsi := hsi.ext hE5
        replace hsi2 := hsi2.ext hE5
        replace hri := hri.ext hE5
        replace hri2 := hri2.ext hE5
        try dsimp only
        refine wc_seq (wc_seq ?_)
        refine wc_region [0,1,2,3,4,5,6] rfl ?_
        refine Go.Sx.V rfl wu rfl rfl (mv rfl) ?_
        refine Go.Sx.V rfl wu rfl rfl (mv rfl) ?_
        refine Go.Sx.V rfl wu rfl rfl (mv rfl) ?_
        refine Go.Sx.V rfl wu rfl rfl (iad rfl rfl ty30 hsi (by omega) (by omega)) ?_
        refine Go.Sx.V rfl wu rfl rfl (ldE rfl na22 hsi hr) ?_
        refine Go.Sx.V rfl wu rfl rfl (lenI rfl ty22 hri) ?_
        refine Go.Sx.V rfl wu rfl rfl (lssI rfl rfl) ?_
        refine wr_nil (post_thenN ?_)
        refine wc_cond rfl ?_ ?_
        · intro hc2
          simp at hc2
          refine wc_skip (post_thenN (wc_seq (wc_block (wc_seq ?_))))
          refine wc_draw mixed [0,1,2,3,4,5,6,7,8,9,10,11,12,13,14] (by kernel_rfl) ?_
          intro w7 hd _
          replace hE := hE.trans hd
          replace hsi := hsi.ext hd
          replace hsi2 := hsi2.ext hd
          replace hri := hri.ext hd
          replace hri2 := hri2.ext hd
          replace hE5 := hE5.trans hd
          refine Go.Sx.V rfl wu rfl rfl (mv rfl) ?_
          refine Go.Sx.V rfl wu rfl rfl (mv rfl) ?_
          refine Go.Sx.V rfl wu rfl rfl (iad rfl rfl ty30 hsi (by omega) (by omega)) ?_
          refine Go.Sx.V rfl wu rfl rfl (ldE rfl na22 hsi hr) ?_
          refine Go.Sx.V rfl wu rfl rfl (mv rfl) ?_
          refine Go.Sx.V rfl wu rfl rfl (iadI rfl rfl ty22 hri (by omega) (by omega)) ?_
          refine Go.Sx.V rfl wu rfl rfl (ldI rfl na3 hri) ?_
          refine Go.Sx.V rfl wu rfl rfl (mv rfl) ?_
          refine Go.Sx.V rfl wu rfl rfl (mv rfl) ?_
          refine Go.Sx.V rfl wu rfl rfl (iad rfl rfl ty30 hsi2 (by omega) (by omega)) ?_
          refine Go.Sx.V rfl wu rfl rfl (ldE rfl na22 hsi2 hr2) ?_
          refine Go.Sx.V rfl wu rfl rfl (mv rfl) ?_
          refine Go.Sx.V rfl wu rfl rfl (iadI rfl rfl ty22 hri2 (by omega) (by omega)) ?_
          refine Go.Sx.V rfl wu rfl rfl (ldI rfl na3 hri2) ?_
          refine Go.Sx.V rfl wu rfl rfl (neqI rfl rfl) ?_
          refine wr_nil (post_thenN ?_)
          refine wc_cond rfl ?_ ?_
          · intro hx
            simp at hx
            refine wc_seq ?_
            refine wc_region [0] rfl ?_
            refine Go.Sx.V rfl wu rfl rfl (asg rfl) ?_
            refine wr_nil (post_thenN (wc_ret (post_blockR (post_thenR (post_loopR (post_blockR (post_blockR (post_thenR (post_loopR (post_blockR (post_thenR ?_)))))))))))
            refine post_ret1 rfl rfl ?_
            exact ⟨hE, by rw [decide_eq_false (hne fun e => hx (by rw [e]))]⟩
          · intro hx
            simp at hx
            refine wc_skip (post_blockN (post_thenN ?_))
            refine wc_region [0,1,2] rfl ?_
            refine Go.Sx.V rfl wu rfl rfl (mv rfl) ?_
            refine Go.Sx.V rfl wu rfl rfl (addI rfl rfl) ?_
            refine Go.Sx.V rfl wu rfl rfl (asg rfl) ?_
            refine wr_nil ?_
            exact post_loopN (j + 1) ⟨rfl, rfl, rfl, rfl, trivial⟩ ⟨by omega, hE, hE5, fun t ht => by
              rcases Nat.lt_or_ge t j with h1 | h1
              · exact hent t h1
              · obtain rfl : t = j := by omega
                exact hx⟩ (by omega)
        · intro hc2
          simp at hc2
          have e : a = b := row_ext (by omega) (fun t ht => hent t (by omega))
          refine wc_exit (post_thenE (post_loopE (post_blockX (post_blockN (post_thenN ?_)))))
          refine wc_region [0,1,2] rfl ?_
          refine Go.Sx.V rfl wu rfl rfl (mv rfl) ?_
          refine Go.Sx.V rfl wu rfl rfl (addI rfl rfl) ?_
          refine Go.Sx.V rfl wu rfl rfl (asg rfl) ?_
          refine wr_nil ?_
          exact post_loopN (i + 1) ⟨rfl, rfl, rfl, trivial⟩ ⟨by omega, hE, hnx e⟩ (by omega)
    · intro hc
      simp at hc
      refine wc_exit (post_thenE (post_loopE (post_blockX (post_thenN (wc_seq ?_)))))
      refine wc_region [0] rfl ?_
      refine Go.Sx.V rfl wu rfl rfl (asg rfl) ?_
      refine wr_nil (post_thenN (wc_ret ?_))
      refine post_ret1 rfl rfl ?_
      exact ⟨hE, by rw [decide_eq_true (ll_ext (by omega) (fun t ht => hrows t (by omega)))]⟩
end Go.Proofs.YtmnojknfjbimdaaGreat

