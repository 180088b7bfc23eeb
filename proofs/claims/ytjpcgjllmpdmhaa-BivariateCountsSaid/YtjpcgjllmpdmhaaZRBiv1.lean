/-
  The reference's polynomials in two variables, by contract: Canon, Same, At, Add, Mul, Eval, Substitute, Degree, Less.
-/
import Derived.Test.YtjpcgjllmpdmhaaZRPoly
namespace Go.Fd
open Go.Pl Go.Alg
variable {P : FP}
theorem cntB_step (F : Pol (Pol (K P))) (i : Nat) : (trimB (tab (i + 1) fun t => cl (F.co t))).length = if cl (F.co i) = [] then (trimB (tab i fun t => cl (F.co t))).length else i + 1 := by
  rw [tab_succ]
  split
  · rename_i h; rw [h, trimB_snoc0]
  · rename_i h
    rw [trimB_snoc h, List.length_append, tab_length]; rfl
theorem bcl_self (F : Pol (Pol (K P))) : tab (bcl F).length (fun t => cl (F.co t)) = bcl F := by
  apply List.ext_getElem
  · rw [tab_length]
  · intro i h1 h2
    have h3 := bcl_row F i
    rw [List.getD_eq_getElem?_getD, List.getElem?_eq_getElem h2, Option.getD_some] at h3
    rw [h3]
    simp [tab]
theorem bz_tab {F : Pol (Pol (K P))} {m : Nat} (h : ∀ t, m ≤ t → F.co t = 0) : bz P (tab m fun t => cl (F.co t)) = F := Pol.ext fun t => by
  rw [co_bz, tab_at]
  split
  · exact pz_cl _
  · rw [h t (by omega)]; exact pz_nil
theorem val2_part (F : Pol (Pol (K P))) (x y : K P) (i : Nat) : val2 (Go.Alg.part (i + 1) F) x y = val2 (Go.Alg.part i F) x y + val1 (F.co i) x * npow y i := by
  rw [val2, pev_part (val1_hom x), mul_comm (npow y i)]; rfl
theorem val2_part0 (F : Pol (Pol (K P))) (x y : K P) : val2 (Go.Alg.part 0 F) x y = 0 := by rw [part_zero]; exact (val2_hom x y).zero
theorem bz_all (L : List (List Int)) : Go.Alg.part L.length (bz P L) = bz P L := part_all fun i h => co_bz_over h
theorem subst_part (F : Pol (Pol (K P))) (h : Pol (K P)) (i : Nat) : subst (Go.Alg.part (i + 1) F) h = subst (Go.Alg.part i F) h + F.co i * npow h i := by
  rw [subst, pev_part Hom.id, mul_comm (npow h i)]; rfl
theorem subst_part0 (F : Pol (Pol (K P))) (h : Pol (K P)) : subst (Go.Alg.part 0 F) h = 0 := by rw [part_zero]; exact (subst_hom h).zero
theorem YB.npow {R : Type} [CR R] {n : Nat} {f : Pol R} (h : YB (n + 1) f) : ∀ i, YB (i * n + 1) (npow f i)
  | 0 => by rw [npow_zero]; exact fun i hi => by rw [co_one, if_neg (by omega)]
  | i + 1 => by
    rw [npow_succ]
    have := YB.mul' (YB.npow h i) h
    refine this.mono ?_
    rw [Nat.add_mul]; omega
theorem ll_ext {A B : List (List Int)} (hl : A.length = B.length) (h : ∀ t, t < A.length → A.getD t [] = B.getD t []) : A = B := by
  apply List.ext_getElem hl
  intro i h1 h2
  have := h i h1
  rwa [List.getD_eq_getElem?_getD, List.getElem?_eq_getElem h1, Option.getD_some, List.getD_eq_getElem?_getD, List.getElem?_eq_getElem h2, Option.getD_some] at this
theorem row_ext {a b : List Int} (hl : a.length = b.length) (h : ∀ t : Nat, t < a.length → gi a t = gi b t) : a = b := by
  apply List.ext_getElem hl
  intro i h1 h2
  have := h i h1
  rw [gi, gi, Int.toNat_natCast] at this
  rwa [List.getD_eq_getElem?_getD, List.getElem?_eq_getElem h1, Option.getD_some, List.getD_eq_getElem?_getD, List.getElem?_eq_getElem h2, Option.getD_some] at this
/-- The order of the lists of k coefficients. -/
def LessP (f g : Pol (K P)) (k : Nat) : Prop := ∃ i, i < k ∧ (∀ t, t < i → f.co t = g.co t) ∧ (f.co i).1 < (g.co i).1
end Go.Fd
namespace Go.Proofs.Ytjpcgjllmpdmhaa
open Go Go.Sx Go.Pl Go.RowKit Go.Fd Go.Alg

set_option maxRecDepth 10000 in
theorem rBCanon (P : FP) (mo : Value) (md : List Int) (u : Value) (A : List (List Int)) (w : World) (hF : FV w P mo md) (hu : LL w u A) (hA : RB 17592186044416 A) (hn : A.length ≤ 1099511627776) :
    Calls Try.prog 21 #[fv P mo, u] w (RetX w fun r w' => LO w.heap.size w' r 22 (bcl (bz P A))) := by
  obtain ⟨rows, hs, hrl, hrr⟩ := hu.row
  refine calls2 Try.func21 rfl rfl ?_
  refine wc_seq ?_
  refine wc_region [0,1] rfl ?_
  refine BXA rfl wu rfl rfl ?_
  intro fb w1 hE hB hg
  refine Go.Sx.V rfl wu rfl rfl (asg rfl) ?_
  refine wr_nil (post_thenN (wc_seq ?_))
  refine wc_region [0] rfl ?_
  refine Go.Sx.V rfl wu rfl rfl (asg rfl) ?_
  refine wr_nil (post_thenN (wc_seq (wc_seq ?_)))
  refine wc_region [0] rfl ?_
  refine Go.Sx.V rfl wu rfl rfl (asg rfl) ?_
  refine wr_nil (post_thenN (wc_block ?_))
  have hsz := hE.size
  refine wc_loop (fun i : Nat => [(1, u), (2, .pointer (some ⟨fb, 0, none⟩)), (5, .int .i64 (trimB (tab i fun t => cl ((bz P A).co t))).length), (6, .int .i64 i)])
    (fun i w' => i ≤ A.length ∧ Ext w w' ∧ Ext w1 w') (fun i => A.length - i) 0 ⟨rfl, rfl, rfl, rfl, trivial⟩ ⟨by omega, hE, Ext.refl _⟩ ?_
  clear hE
  rintro i w4 ⟨i1, hE, hE1⟩
  have hsi := hs.ext hE
  have hBi := hB.ext hE1
  try dsimp only
  refine wc_seq (wc_seq ?_)
  refine wc_region [0,1,2,3] rfl ?_
  refine Go.Sx.V rfl wu rfl rfl (mv rfl) ?_
  refine Go.Sx.V rfl wu rfl rfl (mv rfl) ?_
  refine Go.Sx.V rfl wu rfl rfl (lenS rfl ty26 hsi) ?_
  refine Go.Sx.V rfl wu rfl rfl (lssI rfl rfl) ?_
  refine wr_nil (post_thenN ?_)
  rw [hrl]
  refine wc_cond rfl ?_ ?_
  · intro hc
    simp at hc
    obtain ⟨r, hr, hri⟩ := hrr i hc
    have hst := cntB_step (bz P A) i
    refine wc_skip (post_thenN (wc_seq (wc_block (wc_seq ?_))))
    refine wc_draw mixed [0,1,2,3,4,5,6] (by kernel_rfl) ?_
    intro w5 hd _
    replace hE := hE.trans hd
    replace hE1 := hE1.trans hd
    replace hsi := hsi.ext hd
    replace hBi := hBi.ext hd
    refine Go.Sx.V rfl wu rfl rfl (ldA rfl ag24) ?_
    refine Go.Sx.V rfl wu rfl rfl (mv rfl) ?_
    refine Go.Sx.V rfl wu rfl rfl (mv rfl) ?_
    refine Go.Sx.V rfl wu rfl rfl (iad rfl rfl ty26 hsi (by omega) (by omega)) ?_
    refine Go.Sx.V rfl wu rfl rfl (ldE rfl na22 hsi hr) ?_
    refine C rfl wu rfl rfl Try.call35 (rPDegree P mo md r _ _ (hF.ext hE) (hri.ext hE) (hA i)) ?_
    rintro _ w6 hE6 rfl
    replace hE := hE.trans hE6
    replace hE1 := hE1.trans hE6
    refine Go.Sx.V rfl wu rfl rfl (geqI rfl rfl) ?_
    refine wr_nil (post_thenN ?_)
    rw [← co_bz]
    refine wc_cond rfl ?_ ?_
    · intro hs'
      simp at hs'
      rw [if_neg (fun e => by rw [e] at hs'; simp at hs')] at hst
      refine wc_region [0,1,2] rfl ?_
      refine Go.Sx.V rfl wu rfl rfl (mv rfl) ?_
      refine Go.Sx.V rfl wu rfl rfl (addI rfl rfl) ?_
      refine Go.Sx.V rfl wu rfl rfl (asg rfl) ?_
      refine wr_nil (post_blockN (post_thenN ?_))
      refine wc_region [0,1,2] rfl ?_
      refine Go.Sx.V rfl wu rfl rfl (mv rfl) ?_
      refine Go.Sx.V rfl wu rfl rfl (addI rfl rfl) ?_
      refine Go.Sx.V rfl wu rfl rfl (asg rfl) ?_
      refine wr_nil ?_
      exact post_loopN (i + 1) ⟨rfl, rfl, by rw [hst]; rfl, rfl, trivial⟩ ⟨by omega, hE, hE1⟩ (by omega)
    · intro hs'
      simp at hs'
      rw [if_pos (List.eq_nil_of_length_eq_zero (by omega))] at hst
      refine wc_skip (post_blockN (post_thenN ?_))
      refine wc_region [0,1,2] rfl ?_
      refine Go.Sx.V rfl wu rfl rfl (mv rfl) ?_
      refine Go.Sx.V rfl wu rfl rfl (addI rfl rfl) ?_
      refine Go.Sx.V rfl wu rfl rfl (asg rfl) ?_
      refine wr_nil ?_
      exact post_loopN (i + 1) ⟨rfl, rfl, by rw [hst]; rfl, rfl, trivial⟩ ⟨by omega, hE, hE1⟩ (by omega)
  · intro hc
    simp at hc
    refine wc_exit (post_thenE (post_loopE (post_blockX (post_thenN (wc_seq ?_)))))
    rw [show i = A.length by omega, bcl_tab (fun i hi => co_bz_over hi)]
    have hcl := bcl_bz_len (P := P) A
    have hrow := fun t => co_bz (P := P) A t
    obtain ⟨F, hFF⟩ : ∃ F, bz P A = F := ⟨_, rfl⟩
    rw [hFF] at hcl hrow ⊢
    refine wc_region [0,1,2] rfl ?_
    refine Go.Sx.V rfl wu rfl rfl (mv rfl) ?_
    refine MKL (n := (bcl F).length) rfl wu rfl rfl ty26 ?_
    intro out w2 hE2 ho
    refine Go.Sx.V rfl wu rfl rfl (asg rfl) ?_
    refine wr_nil (post_thenN (wc_seq (wc_seq ?_)))
    have hcs := bcl_self F
    rw [← updB_zero (bcl F).length (fun t => cl (F.co t)) (fun _ => [])] at ho
    replace ho := ho.mono hE1.size
    refine wc_region [0] rfl ?_
    refine Go.Sx.V rfl wu rfl rfl (asg rfl) ?_
    refine wr_nil (post_thenN (wc_block ?_))
    obtain ⟨n, hnn⟩ : ∃ n, n = (bcl F).length := ⟨_, rfl⟩
    rw [← hnn] at hcl hcs ho ⊢
    refine wc_loop (fun i : Nat => [(1, u), (2, .pointer (some ⟨fb, 0, none⟩)), (5, .int .i64 n), (7, out), (8, .int .i64 i)])
      (fun i w' => i ≤ n ∧ Ext w w' ∧ Ext w1 w' ∧ LO w1.heap.size w' out 22 (updB n (fun t => cl (F.co t)) (fun _ => []) i)) (fun i => n - i) 0 ⟨rfl, rfl, rfl, rfl, rfl, trivial⟩ ⟨by omega, hE.trans hE2, hE1.trans hE2, ho⟩ ?_
    clear hE hE1 hE2 ho hsi hBi
    clear w2
    clear w4
    rintro i w4 ⟨i1, hE, hE1, ho⟩
    have hsi := hs.ext hE
    have hBi := hB.ext hE1
    have hul := updB_length n (fun t => cl (F.co t)) (fun _ => []) i
    obtain ⟨orows, hos, hol, hox⟩ := ho.ll.row
    try dsimp only
    refine wc_seq (wc_seq ?_)
    refine wc_region [0,1,2] rfl ?_
    refine Go.Sx.V rfl wu rfl rfl (mv rfl) ?_
    refine Go.Sx.V rfl wu rfl rfl (mv rfl) ?_
    refine Go.Sx.V rfl wu rfl rfl (lssI rfl rfl) ?_
    refine wr_nil (post_thenN ?_)
    refine wc_cond rfl ?_ ?_
    · intro hc
      simp at hc
      obtain ⟨r, hr, hri⟩ := hrr i (by omega)
      refine wc_skip (post_thenN (wc_seq (wc_block ?_)))
      refine wc_draw mixed [0,1,2,3,4,5,6,7,8,9] (by kernel_rfl) ?_
      intro w5 hd _
      replace hE := hE.trans hd
      replace hE1 := hE1.trans hd
      replace hsi := hsi.ext hd
      replace hBi := hBi.ext hd
      replace ho := ho.ext hd
      replace hos := hos.ext hd
      refine Go.Sx.V rfl wu rfl rfl (mv rfl) ?_
      refine Go.Sx.V rfl wu rfl rfl (mv rfl) ?_
      refine Go.Sx.V rfl wu rfl rfl (ldA rfl ag24) ?_
      refine Go.Sx.V rfl wu rfl rfl (mv rfl) ?_
      refine Go.Sx.V rfl wu rfl rfl (mv rfl) ?_
      refine Go.Sx.V rfl wu rfl rfl (iad rfl rfl ty26 hsi (by omega) (by omega)) ?_
      refine Go.Sx.V rfl wu rfl rfl (ldE rfl na22 hsi hr) ?_
      refine C rfl wu rfl rfl Try.call32 (rPCanon P mo md r _ _ (hF.ext hE) (hri.ext hE) (hA i)) ?_
      intro z w6 hE6 hz
      have hne := row_newI ho hz (Nat.le_refl _)
      replace hE := hE.trans hE6
      replace hE1 := hE1.trans hE6
      replace ho := ho.ext hE6
      refine Go.Sx.V rfl wu rfl rfl (iad rfl rfl ty26 hos (by omega) (by omega)) ?_
      refine STL rfl wu rfl rfl sz22 (by intro h; kernel_rfl) (OwnI.ints hz) (hne) ?_
      intro w7 hg7 hX7 ho7
      refine wr_nil (post_blockN (post_thenN ?_))
      rw [← hrow, updB_step (f := fun t => cl (F.co t))] at ho7
      refine wc_region [0,1,2] rfl ?_
      refine Go.Sx.V rfl wu rfl rfl (mv rfl) ?_
      refine Go.Sx.V rfl wu rfl rfl (addI rfl rfl) ?_
      refine Go.Sx.V rfl wu rfl rfl (asg rfl) ?_
      refine wr_nil ?_
      exact post_loopN (i + 1) ⟨rfl, rfl, rfl, rfl, rfl, trivial⟩ ⟨by omega, hX7 _ hsz hE, hX7 _ (Nat.le_refl _) hE1, ho7⟩ (by omega)
    · intro hc
      simp at hc
      refine wc_exit (post_thenE (post_loopE (post_blockX (post_thenN (wc_seq ?_)))))
      rw [show i = n by omega, updB_last, hcs] at ho
      refine wc_region [0,1] rfl ?_
      refine Go.Sx.V rfl wu rfl rfl (mv rfl) ?_
      refine Go.Sx.V rfl wu rfl rfl (asg rfl) ?_
      refine wr_nil (post_thenN (wc_ret ?_))
      refine post_ret1 rfl rfl ?_
      exact ⟨hE, ho.mono hsz⟩

set_option maxRecDepth 10000 in
theorem rBSame (u v : Value) (A B : List (List Int)) (w : World) (hu : LL w u A) (hv : LL w v B) :
    Calls Try.prog 19 #[u, v] w (RetX w fun r _ => r = .bool (decide (A = B))) := by
  obtain ⟨rows, hs, hrl, hrr⟩ := hu.row
  obtain ⟨rows2, hs2, hrl2, hrr2⟩ := hv.row
  have hle := hs.le
  refine calls2 Try.func19 rfl rfl ?_
  refine wc_seq ?_
  refine wc_region [0] rfl ?_
  refine Go.Sx.V rfl wu rfl rfl (asg rfl) ?_
  refine wr_nil (post_thenN (wc_seq (wc_seq ?_)))
  refine wc_region [0,1,2,3,4] rfl ?_
  refine Go.Sx.V rfl wu rfl rfl (mv rfl) ?_
  refine Go.Sx.V rfl wu rfl rfl (lenS rfl ty26 hs) ?_
  refine Go.Sx.V rfl wu rfl rfl (mv rfl) ?_
  refine Go.Sx.V rfl wu rfl rfl (lenS rfl ty26 hs2) ?_
  refine Go.Sx.V rfl wu rfl rfl (neqI rfl rfl) ?_
  refine wr_nil (post_thenN ?_)
  rw [hrl, hrl2]
  refine wc_cond rfl ?_ ?_
  · intro h
    simp at h
    refine wc_seq ?_
    refine wc_region [0] rfl ?_
    refine Go.Sx.V rfl wu rfl rfl (asg rfl) ?_
    refine wr_nil (post_thenN (wc_ret (post_thenR ?_)))
    refine post_ret1 rfl rfl ?_
    exact ⟨Ext.refl _, by rw [decide_eq_false (fun e => by rw [e] at h; omega)]⟩
  · intro h
    simp at h
    refine wc_skip (post_thenN (wc_seq (wc_seq ?_)))
    refine wc_region [0] rfl ?_
    refine Go.Sx.V rfl wu rfl rfl (asg rfl) ?_
    refine wr_nil (post_thenN (wc_block ?_))
    refine wc_loop (fun i : Nat => [(0, u), (1, v), (5, .int .i64 i)])
      (fun i w' => i ≤ A.length ∧ Ext w w' ∧ ∀ t, t < i → A.getD t [] = B.getD t []) (fun i => A.length - i) 0 ⟨rfl, rfl, rfl, trivial⟩ ⟨by omega, Ext.refl _, fun t ht => by omega⟩ ?_
    rintro i w4 ⟨i1, hE, hrows⟩
    have hsi := hs.ext hE
    have hsi2 := hs2.ext hE
    try dsimp only
    refine wc_seq (wc_seq ?_)
    refine wc_region [0,1,2,3] rfl ?_
    refine Go.Sx.V rfl wu rfl rfl (mv rfl) ?_
    refine Go.Sx.V rfl wu rfl rfl (mv rfl) ?_
    refine Go.Sx.V rfl wu rfl rfl (lenS rfl ty26 hsi) ?_
    refine Go.Sx.V rfl wu rfl rfl (lssI rfl rfl) ?_
    refine wr_nil (post_thenN ?_)
    rw [hrl]
    refine wc_cond rfl ?_ ?_
    · intro hc
      simp at hc
      obtain ⟨r, hr, hri⟩ := hrr i (by omega)
      obtain ⟨r2, hr2, hri2⟩ := hrr2 i (by omega)
      replace hri := hri.ext hE
      replace hri2 := hri2.ext hE
      have hne : A.getD i [] ≠ B.getD i [] → A ≠ B := fun h e => h (by rw [e])
      have hnx : A.getD i [] = B.getD i [] → ∀ t, t < i + 1 → A.getD t [] = B.getD t [] := fun e t ht => by
        rcases Nat.lt_or_ge t i with h1 | h1
        · exact hrows t h1
        · obtain rfl : t = i := by omega
          exact e
      generalize A.getD i [] = a at *
      generalize B.getD i [] = b at *
      have hal := hri.le
      refine wc_skip (post_thenN (wc_seq (wc_block (wc_seq (wc_seq ?_)))))
      refine wc_draw mixed [0,1,2,3,4,5,6,7,8,9,10] (by kernel_rfl) ?_
      intro w5 hd _
      replace hE := hE.trans hd
      replace hsi := hsi.ext hd
      replace hsi2 := hsi2.ext hd
      replace hri := hri.ext hd
      replace hri2 := hri2.ext hd
      refine Go.Sx.V rfl wu rfl rfl (mv rfl) ?_
      refine Go.Sx.V rfl wu rfl rfl (mv rfl) ?_
      refine Go.Sx.V rfl wu rfl rfl (iad rfl rfl ty26 hsi (by omega) (by omega)) ?_
      refine Go.Sx.V rfl wu rfl rfl (ldE rfl na22 hsi hr) ?_
      refine Go.Sx.V rfl wu rfl rfl (lenI rfl ty22 hri) ?_
      refine Go.Sx.V rfl wu rfl rfl (mv rfl) ?_
      refine Go.Sx.V rfl wu rfl rfl (mv rfl) ?_
      refine Go.Sx.V rfl wu rfl rfl (iad rfl rfl ty26 hsi2 (by omega) (by omega)) ?_
      refine Go.Sx.V rfl wu rfl rfl (ldE rfl na22 hsi2 hr2) ?_
      refine Go.Sx.V rfl wu rfl rfl (lenI rfl ty22 hri2) ?_
      refine Go.Sx.V rfl wu rfl rfl (neqI rfl rfl) ?_
      refine wr_nil (post_thenN ?_)
      refine wc_cond rfl ?_ ?_
      · intro hl
        simp at hl
        refine wc_seq ?_
        refine wc_region [0] rfl ?_
        refine Go.Sx.V rfl wu rfl rfl (asg rfl) ?_
        refine wr_nil (post_thenN (wc_ret (post_thenR (post_blockR (post_thenR (post_loopR (post_blockR (post_thenR ?_))))))))
        refine post_ret1 rfl rfl ?_
        exact ⟨hE, by rw [decide_eq_false (hne fun e => by rw [e] at hl; omega)]⟩
      · intro hl
        simp at hl
        refine wc_skip (post_thenN (wc_seq ?_))
        refine wc_region [0] rfl ?_
        refine Go.Sx.V rfl wu rfl rfl (asg rfl) ?_
        refine wr_nil (post_thenN (wc_block ?_))
        refine wc_loop (fun j : Nat => [(0, u), (1, v), (5, .int .i64 i), (6, .int .i64 j)])
          (fun j w' => j ≤ a.length ∧ Ext w w' ∧ Ext w5 w' ∧ ∀ t : Nat, t < j → gi a t = gi b t) (fun j => a.length - j) 0 ⟨rfl, rfl, rfl, rfl, trivial⟩ ⟨by omega, hE, Ext.refl _, fun t ht => by omega⟩ ?_
        clear hE hd
        rintro j w6 ⟨j1, hE, hE5, hent⟩
        replace hsi := hsi.ext hE5
        replace hsi2 := hsi2.ext hE5
        replace hri := hri.ext hE5
        replace hri2 := hri2.ext hE5
        try dsimp only
        refine wc_seq (wc_seq ?_)
        refine wc_region [0,1,2,3,4,5,6] rfl ?_
        refine Go.Sx.V rfl wu rfl rfl (mv rfl) ?_
        refine Go.Sx.V rfl wu rfl rfl (mv rfl) ?_
        refine Go.Sx.V rfl wu rfl rfl (mv rfl) ?_
        refine Go.Sx.V rfl wu rfl rfl (iad rfl rfl ty26 hsi (by omega) (by omega)) ?_
        refine Go.Sx.V rfl wu rfl rfl (ldE rfl na22 hsi hr) ?_
        refine Go.Sx.V rfl wu rfl rfl (lenI rfl ty22 hri) ?_
        refine Go.Sx.V rfl wu rfl rfl (lssI rfl rfl) ?_
        refine wr_nil (post_thenN ?_)
        refine wc_cond rfl ?_ ?_
        · intro hc2
          simp at hc2
          refine wc_skip (post_thenN (wc_seq (wc_block (wc_seq ?_))))
          refine wc_draw mixed [0,1,2,3,4,5,6,7,8,9,10,11,12,13,14] (by kernel_rfl) ?_
          intro w7 hd _
          replace hE := hE.trans hd
          replace hsi := hsi.ext hd
          replace hsi2 := hsi2.ext hd
          replace hri := hri.ext hd
          replace hri2 := hri2.ext hd
          replace hE5 := hE5.trans hd
          refine Go.Sx.V rfl wu rfl rfl (mv rfl) ?_
          refine Go.Sx.V rfl wu rfl rfl (mv rfl) ?_
          refine Go.Sx.V rfl wu rfl rfl (iad rfl rfl ty26 hsi (by omega) (by omega)) ?_
          refine Go.Sx.V rfl wu rfl rfl (ldE rfl na22 hsi hr) ?_
          refine Go.Sx.V rfl wu rfl rfl (mv rfl) ?_
          refine Go.Sx.V rfl wu rfl rfl (iadI rfl rfl ty22 hri (by omega) (by omega)) ?_
          refine Go.Sx.V rfl wu rfl rfl (ldI rfl na3 hri) ?_
          refine Go.Sx.V rfl wu rfl rfl (mv rfl) ?_
          refine Go.Sx.V rfl wu rfl rfl (mv rfl) ?_
          refine Go.Sx.V rfl wu rfl rfl (iad rfl rfl ty26 hsi2 (by omega) (by omega)) ?_
          refine Go.Sx.V rfl wu rfl rfl (ldE rfl na22 hsi2 hr2) ?_
          refine Go.Sx.V rfl wu rfl rfl (mv rfl) ?_
          refine Go.Sx.V rfl wu rfl rfl (iadI rfl rfl ty22 hri2 (by omega) (by omega)) ?_
          refine Go.Sx.V rfl wu rfl rfl (ldI rfl na3 hri2) ?_
          refine Go.Sx.V rfl wu rfl rfl (neqI rfl rfl) ?_
          refine wr_nil (post_thenN ?_)
          refine wc_cond rfl ?_ ?_
          · intro hx
            simp at hx
            refine wc_seq ?_
            refine wc_region [0] rfl ?_
            refine Go.Sx.V rfl wu rfl rfl (asg rfl) ?_
            refine wr_nil (post_thenN (wc_ret (post_blockR (post_thenR (post_loopR (post_blockR (post_blockR (post_thenR (post_loopR (post_blockR (post_thenR ?_)))))))))))
            refine post_ret1 rfl rfl ?_
            exact ⟨hE, by rw [decide_eq_false (hne fun e => hx (by rw [e]))]⟩
          · intro hx
            simp at hx
            refine wc_skip (post_blockN (post_thenN ?_))
            refine wc_region [0,1,2] rfl ?_
            refine Go.Sx.V rfl wu rfl rfl (mv rfl) ?_
            refine Go.Sx.V rfl wu rfl rfl (addI rfl rfl) ?_
            refine Go.Sx.V rfl wu rfl rfl (asg rfl) ?_
            refine wr_nil ?_
            exact post_loopN (j + 1) ⟨rfl, rfl, rfl, rfl, trivial⟩ ⟨by omega, hE, hE5, fun t ht => by
              rcases Nat.lt_or_ge t j with h1 | h1
              · exact hent t h1
              · obtain rfl : t = j := by omega
                exact hx⟩ (by omega)
        · intro hc2
          simp at hc2
          have e : a = b := row_ext (by omega) (fun t ht => hent t (by omega))
          refine wc_exit (post_thenE (post_loopE (post_blockX (post_blockN (post_thenN ?_)))))
          refine wc_region [0,1,2] rfl ?_
          refine Go.Sx.V rfl wu rfl rfl (mv rfl) ?_
          refine Go.Sx.V rfl wu rfl rfl (addI rfl rfl) ?_
          refine Go.Sx.V rfl wu rfl rfl (asg rfl) ?_
          refine wr_nil ?_
          exact post_loopN (i + 1) ⟨rfl, rfl, rfl, trivial⟩ ⟨by omega, hE, hnx e⟩ (by omega)
    · intro hc
      simp at hc
      refine wc_exit (post_thenE (post_loopE (post_blockX (post_thenN (wc_seq ?_)))))
      refine wc_region [0] rfl ?_
      refine Go.Sx.V rfl wu rfl rfl (asg rfl) ?_
      refine wr_nil (post_thenN (wc_ret ?_))
      refine post_ret1 rfl rfl ?_
      exact ⟨hE, by rw [decide_eq_true (ll_ext (by omega) (fun t ht => hrows t (by omega)))]⟩

set_option maxRecDepth 10000 in
theorem rBAt (u : Value) (A : List (List Int)) (i : Int) (w : World) (hu : LL w u A) (hi : 0 ≤ i) :
    Calls Try.prog 60 #[u, .int .i64 i] w (RetX w fun r w' => Ints w' r (A.getD i.toNat [])) := by
  obtain ⟨rows, hs, hrl, hrr⟩ := hu.row
  refine calls2 Try.func60 rfl rfl ?_
  refine wc_seq ?_
  refine wc_region [0] rfl ?_
  refine Go.Sx.V rfl wu rfl rfl (asg rfl) ?_
  refine wr_nil (post_thenN (wc_seq (wc_seq ?_)))
  refine wc_region [0,1,2,3,4,5,6,7] rfl ?_
  refine Go.Sx.V rfl wu rfl rfl (mv rfl) ?_
  refine Go.Sx.V rfl wu rfl rfl (lssI rfl rfl) ?_
  refine Go.Sx.V rfl wu rfl rfl (mv rfl) ?_
  refine OR (π1 := [3,4,5,6,7]) (π2 := []) (tc := 7) (tp := 12) rfl rfl rfl (by
      intro _
      refine SK rfl rfl rfl rfl rfl ?_
      refine SK rfl rfl rfl rfl rfl ?_
      refine SK rfl rfl rfl rfl rfl ?_
      refine SK rfl rfl rfl rfl rfl ?_
      refine Go.Sx.V rfl wu rfl rfl (pk rfl rfl) ?_
      exact join rfl) (by
      intro hg
      simp at hg
      refine Go.Sx.V rfl (wg rfl rfl) rfl rfl (mv rfl) ?_
      refine Go.Sx.V rfl (wg rfl rfl) rfl rfl (mv rfl) ?_
      refine Go.Sx.V rfl (wg rfl rfl) rfl rfl (lenS rfl ty26 hs) ?_
      refine Go.Sx.V rfl (wg rfl rfl) rfl rfl (geqI rfl rfl) ?_
      refine Go.Sx.V rfl wu rfl rfl (pk rfl rfl) ?_
      exact join rfl) ?_
  refine wr_nil (post_thenN ?_)
  rw [hrl]
  refine wc_cond rfl ?_ ?_
  · intro h
    simp at h
    refine wc_seq ?_
    refine wc_region [0] rfl ?_
    refine Go.Sx.V rfl wu rfl rfl (asg rfl) ?_
    refine wr_nil (post_thenN (wc_ret (post_thenR ?_)))
    refine post_ret1 rfl rfl ?_
    have e : A.getD i.toNat [] = [] := by rw [List.getD_eq_getElem?_getD, List.getElem?_eq_none (by omega)]; rfl
    exact ⟨Ext.refl _, by rw [e]; exact Ints.nil _⟩
  · intro h
    simp at h
    obtain ⟨r, hr, hri⟩ := hrr i.toNat (by omega)
    refine wc_skip (post_thenN (wc_seq ?_))
    refine wc_region [0,1,2,3,4] rfl ?_
    refine Go.Sx.V rfl wu rfl rfl (mv rfl) ?_
    refine Go.Sx.V rfl wu rfl rfl (mv rfl) ?_
    refine Go.Sx.V rfl wu rfl rfl (iad rfl rfl ty26 hs (by omega) (by omega)) ?_
    refine Go.Sx.V rfl wu rfl rfl (ldE rfl na22 hs hr) ?_
    refine Go.Sx.V rfl wu rfl rfl (asg rfl) ?_
    refine wr_nil (post_thenN (wc_ret ?_))
    refine post_ret1 rfl rfl ?_
    exact ⟨Ext.refl _, hri⟩

set_option maxRecDepth 10000 in
theorem rBAdd (P : FP) (mo : Value) (md : List Int) (u v : Value) (A B : List (List Int)) (w : World) (hF : FV w P mo md) (hu : LL w u A) (hv : LL w v B) (hA : RB 17592186044416 A) (hRB : RB 17592186044416 B) (hl : A.length ≤ 1099511627776) (hm : B.length ≤ 1099511627776) :
    Calls Try.prog 23 #[fv P mo, u, v] w (RetX w fun r w' => LO w.heap.size w' r 22 (bcl (bz P A + bz P B))) := by
  obtain ⟨rows, hs, hrl, _⟩ := hu.row
  obtain ⟨rows2, hs2, hrl2, _⟩ := hv.row
  obtain ⟨m, hmm⟩ : ∃ m : Nat, m = max A.length B.length := ⟨_, rfl⟩
  have hco : ∀ t, (bz P A + bz P B).co t = pz P (A.getD t []) + pz P (B.getD t []) := fun t => by rw [co_add]; rfl
  have hfin : RB 17592186044416 (tab m fun t => cl ((bz P A + bz P B).co t)) := fun j => by
    rw [tab_at]
    split
    · have h1 := hA.xb (P := P)
      have h2 := hRB.xb (P := P)
      exact cl_len ((h1.add h2) j)
    · simp
  refine calls3 Try.func23 rfl rfl ?_
  refine wc_seq ?_
  refine wc_region [0,1] rfl ?_
  refine BXA rfl wu rfl rfl ?_
  intro fb w1 hE hB hg
  refine Go.Sx.V rfl wu rfl rfl (asg rfl) ?_
  refine wr_nil (post_thenN (wc_seq ?_))
  have hsz := hE.size
  refine wc_region [0,1,2,3,4,5,6] rfl ?_
  refine Go.Sx.V rfl wu rfl rfl (mv rfl) ?_
  refine Go.Sx.V rfl wu rfl rfl (lenS rfl ty26 hs) ?_
  refine Go.Sx.V rfl wu rfl rfl (mv rfl) ?_
  refine Go.Sx.V rfl wu rfl rfl (lenS rfl ty26 hs2) ?_
  refine Go.Sx.V rfl wu rfl rfl (maxI rfl rfl) ?_
  refine MKL (n := m) rfl wu rfl rfl ty26 ?_
  intro out w2 hE2 ho
  refine Go.Sx.V rfl wu rfl rfl (asg rfl) ?_
  refine wr_nil (post_thenN (wc_seq (wc_seq ?_)))
  rw [← updB_zero m (fun t => cl ((bz P A + bz P B).co t)) (fun _ => [])] at ho
  refine wc_region [0] rfl ?_
  refine Go.Sx.V rfl wu rfl rfl (asg rfl) ?_
  refine wr_nil (post_thenN (wc_block ?_))
  refine wc_loop (fun i : Nat => [(1, u), (2, v), (3, .pointer (some ⟨fb, 0, none⟩)), (7, out), (8, .int .i64 i)])
    (fun i w' => i ≤ m ∧ Ext w w' ∧ Ext w1 w' ∧ LO w1.heap.size w' out 22 (updB m (fun t => cl ((bz P A + bz P B).co t)) (fun _ => []) i)) (fun i => m - i) 0 ⟨rfl, rfl, rfl, rfl, rfl, trivial⟩ ⟨by omega, hE.trans hE2, hE2, ho⟩ ?_
  clear hE hE2 ho
  clear w2
  rintro i w4 ⟨i1, hE, hE1, ho⟩
  have hui := hu.ext hE
  have hvi := hv.ext hE
  have hBi := hB.ext hE1
  have hul := updB_length m (fun t => cl ((bz P A + bz P B).co t)) (fun _ => []) i
  obtain ⟨orows, hos, hol, hox⟩ := ho.ll.row
  rw [hul] at hol
  try dsimp only
  refine wc_seq (wc_seq ?_)
  refine wc_region [0,1,2,3] rfl ?_
  refine Go.Sx.V rfl wu rfl rfl (mv rfl) ?_
  refine Go.Sx.V rfl wu rfl rfl (mv rfl) ?_
  refine Go.Sx.V rfl wu rfl rfl (lenS rfl ty26 hos) ?_
  refine Go.Sx.V rfl wu rfl rfl (lssI rfl rfl) ?_
  refine wr_nil (post_thenN ?_)
  rw [hol]
  refine wc_cond rfl ?_ ?_
  · intro hc
    simp at hc
    refine wc_skip (post_thenN (wc_seq (wc_block ?_)))
    refine wc_draw mixed [0,1,2,3,4,6,7,5,8,9,10,11] (by kernel_rfl) ?_
    intro w5 hd _
    replace hE := hE.trans hd
    replace hE1 := hE1.trans hd
    replace hui := hui.ext hd
    replace hvi := hvi.ext hd
    replace hBi := hBi.ext hd
    replace ho := ho.ext hd
    replace hos := hos.ext hd
    refine Go.Sx.V rfl wu rfl rfl (mv rfl) ?_
    refine Go.Sx.V rfl wu rfl rfl (mv rfl) ?_
    refine Go.Sx.V rfl wu rfl rfl (ldA rfl ag24) ?_
    refine Go.Sx.V rfl wu rfl rfl (mv rfl) ?_
    refine Go.Sx.V rfl wu rfl rfl (mv rfl) ?_
    refine Go.Sx.V rfl wu rfl rfl (mv rfl) ?_
    refine Go.Sx.V rfl wu rfl rfl (mv rfl) ?_
    refine C rfl wu rfl rfl Try.call60 (rBAt u A i _ hui (by omega)) ?_
    intro ra w6 hE6 ha
    replace hE := hE.trans hE6
    replace hE1 := hE1.trans hE6
    replace ho := ho.ext hE6
    replace hvi := hvi.ext hE6
    refine C rfl wu rfl rfl Try.call60 (rBAt v B i _ hvi (by omega)) ?_
    intro rb w6 hE6 hb
    replace hE := hE.trans hE6
    replace hE1 := hE1.trans hE6
    replace ho := ho.ext hE6
    replace ha := ha.ext hE6
    refine C rfl wu rfl rfl Try.call59 (rPAdd P mo md ra rb _ _ _ (hF.ext hE) ha hb (hA _) (hRB _)) ?_
    intro z w6 hE6 hz
    have hne := row_newI ho hz (Nat.le_refl _)
    replace hE := hE.trans hE6
    replace hE1 := hE1.trans hE6
    replace ho := ho.ext hE6
    refine Go.Sx.V rfl wu rfl rfl (iad rfl rfl ty26 hos (by omega) (by omega)) ?_
    refine STL rfl wu rfl rfl sz22 (by intro h; kernel_rfl) (OwnI.ints hz) (hne) ?_
    intro w7 hg7 hX7 ho7
    refine wr_nil (post_blockN (post_thenN ?_))
    rw [Int.toNat_natCast, ← hco] at ho7
    have hst := updB_step (m := m) (f := fun t => cl ((bz P A + bz P B).co t)) (g := fun _ => []) (i := i)
    rw [Int.toNat_natCast] at hst
    rw [hst] at ho7
    refine wc_region [0,1,2] rfl ?_
    refine Go.Sx.V rfl wu rfl rfl (mv rfl) ?_
    refine Go.Sx.V rfl wu rfl rfl (addI rfl rfl) ?_
    refine Go.Sx.V rfl wu rfl rfl (asg rfl) ?_
    refine wr_nil ?_
    exact post_loopN (i + 1) ⟨rfl, rfl, rfl, rfl, rfl, trivial⟩ ⟨by omega, hX7 _ hsz hE, hX7 _ (Nat.le_refl _) hE1, ho7⟩ (by omega)
  · intro hc
    simp at hc
    refine wc_exit (post_thenE (post_loopE (post_blockX (post_thenN (wc_seq ?_)))))
    rw [show i = m by omega, updB_last] at ho
    refine wc_region [0,1,2,3] rfl ?_
    refine Go.Sx.V rfl wu rfl rfl (ldA rfl ag24) ?_
    refine Go.Sx.V rfl wu rfl rfl (mv rfl) ?_
    refine C rfl wu rfl rfl Try.call21 (rBCanon P mo md out _ _ (hF.ext hE) ho.ll hfin (by rw [tab_length]; omega)) ?_
    intro c w6 hE6 hc
    refine Go.Sx.V rfl wu rfl rfl (asg rfl) ?_
    refine wr_nil (post_thenN (wc_ret ?_))
    refine post_ret1 rfl rfl ?_
    rw [bz_tab (fun t ht => by rw [co_add, co_bz_over (by omega), co_bz_over (by omega), zero_add])] at hc
    exact ⟨hE.trans hE6, hc.mono hE.size⟩

set_option maxRecDepth 10000 in
theorem rBMul (P : FP) (mo : Value) (md : List Int) (u v : Value) (A B : List (List Int)) (na nb : Nat) (w : World) (hF : FV w P mo md) (hu : LL w u A) (hv : LL w v B) (hA : RB na A) (hRB : RB nb B) (hna : na ≤ 1048576) (hnb : nb ≤ 1048576) (hl : A.length ≤ 1048576) (hm : B.length ≤ 1048576) :
    Calls Try.prog 25 #[fv P mo, u, v] w (RetX w fun r w' => LO w.heap.size w' r 22 (bcl (bz P A * bz P B))) := by
  obtain ⟨rows, hs, hrl, hrr⟩ := hu.row
  obtain ⟨rows2, hs2, hrl2, hrr2⟩ := hv.row
  obtain ⟨N, hN⟩ : ∃ N, N = A.length + B.length := ⟨_, rfl⟩
  have hfin : RB 17592186044416 (tab N fun t => cl ((bz P A * bz P B).co t)) := fun j => by
    rw [tab_at]
    split
    · exact Nat.le_trans (cl_len (((hA.xb (P := P)).mul (hRB.xb (P := P))) j)) (by omega)
    · simp
  refine calls3 Try.func25 rfl rfl ?_
  refine wc_seq ?_
  refine wc_region [0,1] rfl ?_
  refine BXA rfl wu rfl rfl ?_
  intro fb w1 hE hB hg
  refine Go.Sx.V rfl wu rfl rfl (asg rfl) ?_
  refine wr_nil (post_thenN (wc_seq ?_))
  have hsz := hE.size
  refine wc_region [0,1,2,3,4,5,6] rfl ?_
  refine Go.Sx.V rfl wu rfl rfl (mv rfl) ?_
  refine Go.Sx.V rfl wu rfl rfl (lenS rfl ty26 hs) ?_
  refine Go.Sx.V rfl wu rfl rfl (mv rfl) ?_
  refine Go.Sx.V rfl wu rfl rfl (lenS rfl ty26 hs2) ?_
  refine Go.Sx.V rfl wu rfl rfl (addI rfl rfl) ?_
  refine MKL (n := N) rfl wu rfl rfl ty26 ?_
  intro out w2 hE2 ho
  refine Go.Sx.V rfl wu rfl rfl (asg rfl) ?_
  refine wr_nil (post_thenN (wc_seq (wc_seq ?_)))
  rw [← mstB_zero (bz P A) (bz P B) N] at ho
  refine wc_region [0] rfl ?_
  refine Go.Sx.V rfl wu rfl rfl (asg rfl) ?_
  refine wr_nil (post_thenN (wc_block ?_))
  refine wc_loop (fun i : Nat => [(1, u), (2, v), (3, .pointer (some ⟨fb, 0, none⟩)), (7, out), (8, .int .i64 i)])
    (fun i w' => i ≤ A.length ∧ Ext w w' ∧ Ext w1 w' ∧ LO w1.heap.size w' out 22 (mstB (bz P A) (bz P B) N i 0)) (fun i => A.length - i) 0 ⟨rfl, rfl, rfl, rfl, rfl, trivial⟩ ⟨by omega, hE.trans hE2, hE2, ho⟩ ?_
  clear hE hE2 ho
  clear w2
  rintro i w4 ⟨i1, hE, hE1, ho⟩
  try dsimp only
  refine wc_seq (wc_seq ?_)
  refine wc_region [0,1,2,3] rfl ?_
  refine Go.Sx.V rfl wu rfl rfl (mv rfl) ?_
  refine Go.Sx.V rfl wu rfl rfl (mv rfl) ?_
  refine Go.Sx.V rfl wu rfl rfl (lenS rfl ty26 hs) ?_
  refine Go.Sx.V rfl wu rfl rfl (lssI rfl rfl) ?_
  refine wr_nil (post_thenN ?_)
  rw [hrl]
  refine wc_cond rfl ?_ ?_
  · intro hc
    simp at hc
    obtain ⟨r, hr, hri⟩ := hrr i hc
    refine wc_skip (post_thenN (wc_seq (wc_block (wc_seq ?_))))
    refine wc_region [0] rfl ?_
    refine Go.Sx.V rfl wu rfl rfl (asg rfl) ?_
    refine wr_nil (post_thenN (wc_block ?_))
    refine wc_loop (fun j : Nat => [(1, u), (2, v), (3, .pointer (some ⟨fb, 0, none⟩)), (7, out), (8, .int .i64 i), (9, .int .i64 j)])
      (fun j w' => j ≤ B.length ∧ Ext w w' ∧ Ext w1 w' ∧ LO w1.heap.size w' out 22 (mstB (bz P A) (bz P B) N i j)) (fun j => B.length - j) 0 ⟨rfl, rfl, rfl, rfl, rfl, rfl, trivial⟩ ⟨by omega, hE, hE1, ho⟩ ?_
    clear hE hE1 ho
    clear w4
    rintro j w4 ⟨j1, hE, hE1, ho⟩
    have hBi := hB.ext hE1
    have hl' := mstB_length (bz P A) (bz P B) N i j
    obtain ⟨orows, hos, hol, horr⟩ := ho.ll.row
    try dsimp only
    refine wc_seq (wc_seq ?_)
    refine wc_region [0,1,2,3] rfl ?_
    refine Go.Sx.V rfl wu rfl rfl (mv rfl) ?_
    refine Go.Sx.V rfl wu rfl rfl (mv rfl) ?_
    refine Go.Sx.V rfl wu rfl rfl (lenS rfl ty26 hs2) ?_
    refine Go.Sx.V rfl wu rfl rfl (lssI rfl rfl) ?_
    refine wr_nil (post_thenN ?_)
    rw [hrl2]
    refine wc_cond rfl ?_ ?_
    · intro hc2
      simp at hc2
      obtain ⟨r2, hr2, hri2⟩ := hrr2 j hc2
      obtain ⟨ro, hro, hroi⟩ := horr (i + j) (by omega)
      rw [mstB_get (by omega)] at hroi
      have hro' : orows[((i : Int) + j).toNat]? = some ro := by rw [show ((i : Int) + j).toNat = i + j by omega]; exact hro
      have hxb := cl_len ((hA.xb (P := P)).mst (hRB.xb (P := P)) (i := i) (j := j) (i + j))
      have hla := hA i
      have hlb := hRB j
      have hpl := Nat.le_trans (cl_mul_len (pz P (A.getD i [])) (pz P (B.getD j []))) (Nat.le_trans (Nat.sub_le _ _) (Nat.add_le_add (Nat.le_trans (cl_pz_len _) hla) (Nat.le_trans (cl_pz_len _) hlb)))
      refine wc_skip (post_thenN (wc_seq (wc_block ?_)))
      refine wc_draw mixed [0,1,2,3,4,5,6,7,8,9,10,11,12,13,14,15,16,17,18,19,20,21,22,23] (by kernel_rfl) ?_
      intro w5 hd _
      replace hE := hE.trans hd
      replace hE1 := hE1.trans hd
      replace hos := hos.ext hd
      replace hroi := hroi.ext hd
      replace ho := ho.ext hd
      replace hBi := hBi.ext hd
      refine Go.Sx.V rfl wu rfl rfl (mv rfl) ?_
      refine Go.Sx.V rfl wu rfl rfl (mv rfl) ?_
      refine Go.Sx.V rfl wu rfl rfl (mv rfl) ?_
      refine Go.Sx.V rfl wu rfl rfl (addI rfl rfl) ?_
      refine Go.Sx.V rfl wu rfl rfl (ldA rfl ag24) ?_
      refine Go.Sx.V rfl wu rfl rfl (mv rfl) ?_
      refine Go.Sx.V rfl wu rfl rfl (mv rfl) ?_
      refine Go.Sx.V rfl wu rfl rfl (mv rfl) ?_
      refine Go.Sx.V rfl wu rfl rfl (addI rfl rfl) ?_
      refine Go.Sx.V rfl wu rfl rfl (iad rfl rfl ty26 hos (by omega) (by omega)) ?_
      refine Go.Sx.V rfl wu rfl rfl (ldE rfl na22 hos hro') ?_
      refine Go.Sx.V rfl wu rfl rfl (ldA rfl ag24) ?_
      refine Go.Sx.V rfl wu rfl rfl (mv rfl) ?_
      refine Go.Sx.V rfl wu rfl rfl (mv rfl) ?_
      refine Go.Sx.V rfl wu rfl rfl (iad rfl rfl ty26 hs (by omega) (by omega)) ?_
      refine Go.Sx.V rfl wu rfl rfl (ldE rfl na22 hs hr hE) ?_
      refine Go.Sx.V rfl wu rfl rfl (mv rfl) ?_
      refine Go.Sx.V rfl wu rfl rfl (mv rfl) ?_
      refine Go.Sx.V rfl wu rfl rfl (iad rfl rfl ty26 hs2 (by omega) (by omega)) ?_
      refine Go.Sx.V rfl wu rfl rfl (ldE rfl na22 hs2 hr2 hE) ?_
      refine C rfl wu rfl rfl Try.call62 (rPMul P mo md r r2 _ _ _ (hF.ext hE) (hri.ext hE) (hri2.ext hE) (by omega) (by omega)) ?_
      intro pr w7 hE7 hpr
      replace hE := hE.trans hE7
      replace hE1 := hE1.trans hE7
      replace hroi := hroi.ext hE7
      replace ho := ho.ext hE7
      refine C rfl wu rfl rfl Try.call59 (rPAdd P mo md ro pr _ _ _ (hF.ext hE) hroi (OwnI.ints hpr) (by omega) (by omega)) ?_
      intro z w8 hE8 hz
      rw [pz_cl, pz_cl] at hz
      have hne := row_newI ho hz (Nat.le_refl _)
      replace ho := ho.ext hE8
      replace hE := hE.trans hE8
      replace hE1 := hE1.trans hE8
      refine Go.Sx.V rfl wu rfl rfl (iad rfl rfl ty26 hos (by omega) (by omega)) ?_
      refine STL rfl wu rfl rfl sz22 (by intro h; kernel_rfl) (OwnI.ints hz) (hne) ?_
      intro w9 hg9 hX9 ho9
      refine wr_nil (post_blockN (post_thenN ?_))
      rw [mstB_step (co_bz A i).symm (co_bz B j).symm] at ho9
      refine wc_region [0,1,2] rfl ?_
      refine Go.Sx.V rfl wu rfl rfl (mv rfl) ?_
      refine Go.Sx.V rfl wu rfl rfl (addI rfl rfl) ?_
      refine Go.Sx.V rfl wu rfl rfl (asg rfl) ?_
      refine wr_nil ?_
      exact post_loopN (j + 1) ⟨rfl, rfl, rfl, rfl, rfl, rfl, trivial⟩ ⟨by omega, hX9 _ hsz hE, hX9 _ (Nat.le_refl _) hE1, ho9⟩ (by omega)
    · intro hc2
      simp at hc2
      refine wc_exit (post_thenE (post_loopE (post_blockX (post_blockN (post_thenN ?_)))))
      rw [show j = B.length by omega, mstB_row (fun t ht => co_bz_over ht)] at ho
      refine wc_region [0,1,2] rfl ?_
      refine Go.Sx.V rfl wu rfl rfl (mv rfl) ?_
      refine Go.Sx.V rfl wu rfl rfl (addI rfl rfl) ?_
      refine Go.Sx.V rfl wu rfl rfl (asg rfl) ?_
      refine wr_nil ?_
      exact post_loopN (i + 1) ⟨rfl, rfl, rfl, rfl, rfl, trivial⟩ ⟨by omega, hE, hE1, ho⟩ (by omega)
  · intro hc
    simp at hc
    refine wc_exit (post_thenE (post_loopE (post_blockX (post_thenN (wc_seq ?_)))))
    rw [show i = A.length by omega, mstB_all (fun t ht => co_bz_over ht)] at ho
    have hBi := hB.ext hE1
    refine wc_region [0,1,2,3] rfl ?_
    refine Go.Sx.V rfl wu rfl rfl (ldA rfl ag24) ?_
    refine Go.Sx.V rfl wu rfl rfl (mv rfl) ?_
    refine C rfl wu rfl rfl Try.call21 (rBCanon P mo md out _ _ (hF.ext hE) ho.ll hfin (by rw [tab_length]; omega)) ?_
    intro c w6 hE6 hc
    refine Go.Sx.V rfl wu rfl rfl (asg rfl) ?_
    refine wr_nil (post_thenN (wc_ret ?_))
    refine post_ret1 rfl rfl ?_
    rw [bz_tab (fun t ht => mul_over (fun t ht => co_bz_over ht) (fun t ht => co_bz_over ht) (by omega))] at hc
    exact ⟨hE.trans hE6, hc.mono hE.size⟩
end Go.Proofs.Ytjpcgjllmpdmhaa
