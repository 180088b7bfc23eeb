/-
  The package bivariate, by contract, part 3: divide, search, Roots.
-/
import Derived.Test.YtmnojknfjbimdaaGreatWBiv1
import Derived.Test.YtmnojknfjbimdaaGreatWPoly2
import Derived.Test.YtmnojknfjbimdaaGreatWMSxa
import Derived.Test.YtmnojknfjbimdaaGreatWMPa
namespace Go.Proofs.YtmnojknfjbimdaaGreat
open Go Go.Sx Go.Pl Go.RowKit Go.Fd Go.Alg
set_option maxRecDepth 10000 in
theorem bDivide (P : FP) (u : Value) (F : Pol (Pol (K P))) (X : List Nat) (w : World) (hF : F ≠ 0) (hu : LLX X w u (bcl F)) (hX : ∀ k ∈ X, k < w.heap.size) (hl : (bcl F).length ≤ 1048576) :
    Calls Tryz.prog 128 #[u] w (RetX w fun r w' => LLX X w' r (bcl (dv (lowOf F) F))) := by
  obtain ⟨rows, hs, hrl, hrr⟩ := hu.row
  have hyb : YB (bcl F).length F := fun j hj => bcl_over F hj
  refine calls1 Tryz.func128 rfl rfl ?_
  refine wc_seq ?_
  refine wc_region [0] rfl ?_
  refine Go.Sx.V rfl wu rfl rfl (asg rfl) ?_
  refine wr_nil (post_thenN (wc_seq ?_))
  refine wc_region [0] rfl ?_
  refine Go.Sx.V rfl wu rfl rfl (asg rfl) ?_
  refine wr_nil (post_thenN (wc_seq (wc_seq ?_)))
  refine wc_region [0,1,2] rfl ?_
  refine Go.Sx.V rfl wu rfl rfl (mv rfl) ?_
  refine Go.Sx.V rfl wu rfl rfl (lenS rfl ty30 hs) ?_
  refine Go.Sx.V rfl wu rfl rfl (mv rfl) ?_
  refine wr_nil (post_thenN (wc_block ?_))
  rw [hrl]
  refine wc_loop (fun s : Nat × Int => [(0, u), (3, .int .i64 s.2), (11, u), (12, .int .i64 (bcl F).length), (13, .int .i64 s.1)])
    (fun s w' => s.1 ≤ (bcl F).length ∧ w' = w ∧ LowP F s.1 s.2) (fun s => (bcl F).length - s.1) (0, -1) ⟨rfl, rfl, rfl, rfl, rfl, trivial⟩ ⟨by omega, rfl, LowP.first F⟩ ?_
  rintro ⟨i, low⟩ w1 ⟨i1, rfl, hP⟩
  dsimp only at i1 hP
  try dsimp only
  refine wc_seq ?_
  refine wc_region [0] rfl ?_
  refine Go.Sx.V rfl wu rfl rfl (lssI rfl rfl) ?_
  refine wr_nil (post_thenN (wc_seq ?_))
  refine wc_cond rfl ?_ ?_
  · intro hc
    simp at hc
    obtain ⟨r, hr, hri, _⟩ := hrr i hc
    rw [bcl_row] at hri
    have hcle := hri.le
    refine wc_skip (post_thenN (wc_seq (wc_block (wc_seq ?_))))
    refine wc_region [0,1,2] rfl ?_
    refine Go.Sx.V rfl wu rfl rfl (iad rfl rfl ty30 hs (by omega) (by omega)) ?_
    refine Go.Sx.V rfl wu rfl rfl (ldE rfl na22 hs hr) ?_
    refine Go.Sx.V rfl wu rfl rfl (asg rfl) ?_
    refine wr_nil (post_thenN (wc_seq ?_))
    refine wc_region [0,1,2] rfl ?_
    refine Go.Sx.V rfl wu rfl rfl (mv rfl) ?_
    refine Go.Sx.V rfl wu rfl rfl (lenI rfl ty22) ?_
    refine Go.Sx.V rfl wu rfl rfl (mv rfl) ?_
    refine wr_nil (post_thenN (wc_block ?_))
    refine wc_loop (fun t : Nat => [(0, u), (3, .int .i64 low), (11, u), (12, .int .i64 (bcl F).length), (13, .int .i64 i), (17, r), (18, .int .i64 (cl (F.co i)).length), (19, .int .i64 t)])
      (fun t w' => t ≤ (cl (F.co i)).length ∧ w' = w1 ∧ ∀ s, s < t → (F.co i).co s = 0) (fun t => (cl (F.co i)).length - t) 0 ⟨rfl, rfl, rfl, rfl, rfl, rfl, rfl, rfl, trivial⟩ ⟨by omega, rfl, fun s hs => by omega⟩ ?_
    rintro t w2 ⟨t1, rfl, h0⟩
    try dsimp only
    refine wc_seq ?_
    refine wc_region [0] rfl ?_
    refine Go.Sx.V rfl wu rfl rfl (lssI rfl rfl) ?_
    refine wr_nil (post_thenN (wc_seq ?_))
    refine wc_cond rfl ?_ ?_
    · intro hc2
      simp at hc2
      have hv : gi (cl (F.co i)) t = ((F.co i).co t).1 := cl_gi _ _
      refine wc_skip (post_thenN (wc_seq (wc_block (wc_seq ?_))))
      refine wc_region [0,1,2,3,4] rfl ?_
      refine Go.Sx.V rfl wu rfl rfl (mv rfl) ?_
      refine Go.Sx.V rfl wu rfl rfl (iadI rfl rfl ty22) ?_
      refine Go.Sx.V rfl wu rfl rfl (ldI rfl na3 hri) ?_
      refine Go.Sx.V rfl wu rfl rfl (asg rfl) ?_
      refine Go.Sx.V rfl wu rfl rfl (asg rfl) ?_
      refine wr_nil (post_thenN (wc_seq ?_))
      rw [hv]
      refine wc_region [0,1] rfl ?_
      refine Go.Sx.V rfl wu rfl rfl (mv rfl) ?_
      refine Go.Sx.V rfl wu rfl rfl (neqI rfl rfl) ?_
      refine wr_nil (post_thenN ?_)
      refine wc_cond rfl ?_ ?_
      · intro hz
        simp at hz
        have hz' : (F.co i).co t ≠ 0 := fun e => hz (by rw [e]; rfl)
        refine wc_seq (wc_seq ?_)
        refine wc_region [0,1,2,3,4,5,6] rfl ?_
        refine Go.Sx.V rfl wu rfl rfl (mv rfl) ?_
        refine Go.Sx.V rfl wu rfl rfl (lssI rfl rfl) ?_
        refine Go.Sx.V rfl wu rfl rfl (mv rfl) ?_
        refine OR (π1 := [3,4,5,6]) (π2 := []) (tc := 28) (tp := 32) rfl rfl rfl (by
            intro _
            refine SK rfl rfl rfl rfl rfl ?_
            refine SK rfl rfl rfl rfl rfl ?_
            refine SK rfl rfl rfl rfl rfl ?_
            refine Go.Sx.V rfl wu rfl rfl (pk rfl rfl) ?_
            exact join rfl) (by
            intro hg
            simp at hg
            refine Go.Sx.V rfl (wg rfl rfl) rfl rfl (mv rfl) ?_
            refine Go.Sx.V rfl (wg rfl rfl) rfl rfl (mv rfl) ?_
            refine Go.Sx.V rfl (wg rfl rfl) rfl rfl (lssI rfl rfl) ?_
            refine Go.Sx.V rfl wu rfl rfl (pk rfl rfl) ?_
            exact join rfl) ?_
        refine wr_nil (post_thenN ?_)
        refine wc_cond rfl ?_ ?_
        · intro hlt
          simp at hlt
          refine wc_region [0,1] rfl ?_
          refine Go.Sx.V rfl wu rfl rfl (mv rfl) ?_
          refine Go.Sx.V rfl wu rfl rfl (asg rfl) ?_
          refine wr_nil (post_thenN (wc_exit (post_blockE rfl (post_thenE (post_loopE (post_blockX (post_blockN (post_thenN ?_))))))))
          refine wc_region [0,1] rfl ?_
          refine Go.Sx.V rfl wu rfl rfl (addI rfl rfl) ?_
          refine Go.Sx.V rfl wu rfl rfl (mv rfl) ?_
          refine wr_nil ?_
          exact post_loopN (i + 1, (t : Int)) ⟨rfl, rfl, rfl, rfl, rfl, trivial⟩ ⟨by show i + 1 ≤ _; omega, rfl, hP.take h0 hz' hlt⟩ (by show (bcl F).length - (i + 1) < (bcl F).length - i; omega)
        · intro hlt
          simp at hlt
          refine wc_skip (post_thenN (wc_exit (post_blockE rfl (post_thenE (post_loopE (post_blockX (post_blockN (post_thenN ?_))))))))
          refine wc_region [0,1] rfl ?_
          refine Go.Sx.V rfl wu rfl rfl (addI rfl rfl) ?_
          refine Go.Sx.V rfl wu rfl rfl (mv rfl) ?_
          refine wr_nil ?_
          exact post_loopN (i + 1, low) ⟨rfl, rfl, rfl, rfl, rfl, trivial⟩ ⟨by show i + 1 ≤ _; omega, rfl, hP.keep h0 (by omega)⟩ (by show (bcl F).length - (i + 1) < (bcl F).length - i; omega)
      · intro hz
        simp at hz
        have hz' : (F.co i).co t = 0 := Subtype.ext hz
        refine wc_skip (post_blockN (post_thenN ?_))
        refine wc_region [0,1] rfl ?_
        refine Go.Sx.V rfl wu rfl rfl (addI rfl rfl) ?_
        refine Go.Sx.V rfl wu rfl rfl (mv rfl) ?_
        refine wr_nil ?_
        exact post_loopN (t + 1) ⟨rfl, rfl, rfl, rfl, rfl, rfl, rfl, rfl, trivial⟩ ⟨by omega, rfl, fun s hs => by
          rcases Nat.lt_or_ge s t with h1 | h1
          · exact h0 s h1
          · obtain rfl : s = t := by omega
            exact hz'⟩ (by omega)
    · intro hc2
      simp at hc2
      have hz' : F.co i = 0 := Pol.ext fun s => by
        rcases Nat.lt_or_ge s t with h1 | h1
        · exact h0 s h1
        · exact cl_over _ (by omega)
      refine wc_exit (post_thenE (post_loopE (post_blockX (post_blockN (post_thenN ?_)))))
      refine wc_region [0,1] rfl ?_
      refine Go.Sx.V rfl wu rfl rfl (addI rfl rfl) ?_
      refine Go.Sx.V rfl wu rfl rfl (mv rfl) ?_
      refine wr_nil ?_
      exact post_loopN (i + 1, low) ⟨rfl, rfl, rfl, rfl, rfl, trivial⟩ ⟨by show i + 1 ≤ _; omega, rfl, hP.zero hz'⟩ (by show (bcl F).length - (i + 1) < (bcl F).length - i; omega)
  · intro hc
    simp at hc
    obtain rfl := LowP.last hF hyb (by rw [show (bcl F).length = i by omega]; exact hP)
    have hLow := lowOf_spec hF
    clear hP
    obtain ⟨n, hn⟩ : ∃ n, n = (bcl F).length := ⟨_, rfl⟩
    have hfin := dv_rows hLow
    rw [← hn] at hfin hrl hl hrr
    refine wc_exit (post_thenE (post_loopE (post_blockX (post_thenN (wc_seq ?_)))))
    refine wc_region [0,1,2,3] rfl ?_
    refine Go.Sx.V rfl wu rfl rfl (mv rfl) ?_
    refine Go.Sx.V rfl wu rfl rfl (lenS rfl ty30 hs) ?_
    refine MKX (X := X) (n := n) rfl wu rfl rfl ty30 ?_
    intro out w2 hE ho
    refine Go.Sx.V rfl wu rfl rfl (asg rfl) ?_
    refine wr_nil (post_thenN (wc_seq (wc_seq ?_)))
    refine wc_region [0,1,2] rfl ?_
    refine Go.Sx.V rfl wu rfl rfl (mv rfl) ?_
    refine Go.Sx.V rfl wu rfl rfl (lenS rfl ty30 hs) ?_
    refine Go.Sx.V rfl wu rfl rfl (mv rfl) ?_
    refine wr_nil (post_thenN (wc_block ?_))
    rw [hrl]
    rw [← updB_zero n (fun j => cl ((dv (lowOf F) F).co j)) (fun _ => [])] at ho
    have hX2 : ∀ k ∈ X, k < w1.heap.size := hX
    refine wc_loop (fun j : Nat => [(3, .int .i64 (lowOf F)), (8, out), (39, u), (40, .int .i64 n), (41, .int .i64 j)])
      (fun j w' => j ≤ n ∧ Ext w1 w' ∧ LOX X w1.heap.size w' out 22 (updB n (fun j => cl ((dv (lowOf F) F).co j)) (fun _ => []) j)) (fun j => n - j) 0 ⟨rfl, rfl, rfl, rfl, rfl, trivial⟩ ⟨by omega, hE, ho⟩ ?_
    clear hE ho
    clear w2
    rintro j w2 ⟨j1, hE, ho⟩
    have hul := updB_length n (fun j => cl ((dv (lowOf F) F).co j)) (fun _ => []) j
    obtain ⟨orows, hos, hol, hox⟩ := (ho.llx hX2).ll.row
    rw [hul] at hol
    try dsimp only
    refine wc_seq ?_
    refine wc_region [0] rfl ?_
    refine Go.Sx.V rfl wu rfl rfl (lssI rfl rfl) ?_
    refine wr_nil (post_thenN (wc_seq ?_))
    refine wc_cond rfl ?_ ?_
    · intro hc2
      simp at hc2
      obtain ⟨r, hr, hrx⟩ := hrr j hc2
      rw [bcl_row] at hrx
      have hri := hrx.1.ext hE
      have hcd : cl ((dv (lowOf F) F).co j) = (cl (F.co j)).drop (lowOf F) := by rw [co_dv, cl_drop]
      refine wc_skip (post_thenN (wc_seq (wc_block (wc_seq ?_))))
      refine wc_region [0,1,2,3,4] rfl ?_
      refine Go.Sx.V rfl wu rfl rfl (mv rfl) ?_
      refine Go.Sx.V rfl wu rfl rfl (iad rfl rfl ty30 hs (by omega) (by omega)) ?_
      refine Go.Sx.V rfl wu rfl rfl (ldE rfl na22 hs hr hE) ?_
      refine Go.Sx.V rfl wu rfl rfl (asg rfl) ?_
      refine Go.Sx.V rfl wu rfl rfl (asg rfl) ?_
      refine wr_nil (post_thenN (wc_seq ?_))
      refine wc_region [0,1,2] rfl ?_
      refine Go.Sx.V rfl wu rfl rfl (mv rfl) ?_
      refine Go.Sx.V rfl wu rfl rfl (lenI rfl ty22) ?_
      refine Go.Sx.V rfl wu rfl rfl (gtrI rfl rfl) ?_
      refine wr_nil (post_thenN ?_)
      refine wc_cond rfl ?_ ?_
      · intro h5
        simp at h5
        have hlt := low_len hLow (j := j) (List.ne_nil_of_length_pos h5)
        have hsv := hri.slv (lo := (lowOf F : Int)) (hi := ((cl (F.co j)).length : Int)) (by omega) (by omega) (by omega)
        rw [show ((lowOf F : Nat) : Int).toNat = lowOf F from rfl, List.take_of_length_le (by rw [List.length_drop]; omega), ← hcd] at hsv
        have hne : cl ((dv (lowOf F) F).co j) = [] ∨ ((slv r (lowOf F : Int) ((cl (F.co j)).length : Int)).ownBlock ≠ out.ownBlock ∧ NB X (slv r (lowOf F : Int) ((cl (F.co j)).length : Int))) := by
          right
          rw [NB, slv_block]
          obtain ⟨k, hk, hlt2⟩ := hrx.1.lt h5
          refine ⟨fun e => ?_, hrx.2.resolve_left (List.ne_nil_of_length_pos h5)⟩
          obtain ⟨rows0, h1, _⟩ := ho
          have := (h1.lt k (by rw [← e]; exact hk)).1
          omega
        refine wc_region [0,1,2,3,4,5,6] rfl ?_
        refine Go.Sx.V rfl wu rfl rfl (mv rfl) ?_
        refine Go.Sx.V rfl wu rfl rfl (mv rfl) ?_
        refine Go.Sx.V rfl wu rfl rfl (mv rfl) ?_
        refine Go.Sx.V rfl wu rfl rfl (mv rfl) ?_
        refine Go.Sx.V rfl wu rfl rfl (slL rfl rfl ty22 hri (by omega) (by rw [List.length_map]; omega)) ?_
        refine Go.Sx.V rfl wu rfl rfl (iad rfl rfl ty30 hos (by omega) (by omega)) ?_
        refine STX rfl wu rfl rfl sz22 (by intro h; cases h) ((by rw [List.length_map]; exact hsv)) ((by rw [List.length_map]; exact hne)) ?_
        intro w6 hg6 hX6 ho6
        refine wr_nil (post_blockN (post_thenN ?_))
        rw [updB_step (f := fun j => cl ((dv (lowOf F) F).co j))] at ho6
        refine wc_region [0,1] rfl ?_
        refine Go.Sx.V rfl wu rfl rfl (addI rfl rfl) ?_
        refine Go.Sx.V rfl wu rfl rfl (mv rfl) ?_
        refine wr_nil ?_
        exact post_loopN (j + 1) ⟨rfl, rfl, rfl, rfl, rfl, trivial⟩ ⟨by omega, hX6 _ (Nat.le_refl _) hE, ho6⟩ (by omega)
      · intro h5
        simp at h5
        have hnil : (fun _ => [] : Nat → List Int) j = (fun j => cl ((dv (lowOf F) F).co j)) j := by
          show [] = cl ((dv (lowOf F) F).co j)
          rw [hcd, h5, List.drop_nil]
        rw [updB_skip hnil] at ho
        refine wc_skip (post_blockN (post_thenN ?_))
        refine wc_region [0,1] rfl ?_
        refine Go.Sx.V rfl wu rfl rfl (addI rfl rfl) ?_
        refine Go.Sx.V rfl wu rfl rfl (mv rfl) ?_
        refine wr_nil ?_
        exact post_loopN (j + 1) ⟨rfl, rfl, rfl, rfl, rfl, trivial⟩ ⟨by omega, hE, ho⟩ (by omega)
    · intro hc2
      simp at hc2
      refine wc_exit (post_thenE (post_loopE (post_blockX (post_thenN (wc_seq ?_)))))
      rw [show j = n by omega, updB_last, hfin] at ho
      refine wc_region [0,1] rfl ?_
      refine Go.Sx.V rfl wu rfl rfl (mv rfl) ?_
      refine Go.Sx.V rfl wu rfl rfl (asg rfl) ?_
      refine wr_nil (post_thenN (wc_ret ?_))
      refine post_ret1 rfl rfl ?_
      exact ⟨hE, ho.llx hX2⟩
theorem k_one_ne {P : FP} : (1 : K P) ≠ 0 := fun e => by
  have := congrArg Subtype.val e
  exact absurd this (by show ¬ ((1 : Int) = 0); omega)
set_option maxRecDepth 10000 in
theorem bSearch (P : FP) (g : Value) (w0 : World) (fc : FuncId) (fs cs : List Value) (M : Nat) (J : List (List Int) → List Nat → World → Prop) (hJ : Fnd Tryz.prog w0 fc fs cs M J) (hG : GFV w0 P g) (k : Nat) (hk : k ≤ 64) :
    ∀ (kr : Nat) (F : Pol (Pol (K P))) (f : List Int) (u v : Value) (bx ny : Nat) (pre : List (List Int)) (X : List Nat) (w : World), Ext w0 w → J pre X w → LLX X w u (bcl F) → F ≠ 0 → IntsX X w v f → f.length + kr = k → XB bx F → YB ny F → bx + kr * (ny + kr) ≤ 524288 → ny + kr ≤ 1024 → pre.length + (srch P kr F f).length ≤ M →
    Calls Tryz.prog 92 #[g, u, v, .int .i64 k, .func (.func fc) fs.toArray cs.toArray] w (Ret fun _ w' => ∃ X', J (pre ++ srch P kr F f) X' w' ∧ Gr X w w' ∧ Newer w X X')
  | 0, F, f, u, v, bx, ny, pre, X, w, hE0, hJw, hu, hF, hv, hfk, hx, hy, hb1, hb2, hM => by
    obtain ⟨rows, hs, hrl, hrr⟩ := hu.row
    have hvi := hv.1
    have hlen : 0 < (bcl F).length := by
      rcases Nat.eq_zero_or_pos (bcl F).length with e | e
      · exact absurd (bcl_nil.1 (List.eq_nil_of_length_eq_zero e)) hF
      · exact e
    obtain ⟨r, hr, hrx⟩ := hrr 0 hlen
    have hri := hrx.1
    rw [bcl_row] at hri
    refine calls5 Tryz.func92 rfl rfl ?_
    refine wc_seq (wc_seq ?_)
    refine wc_region [0,1,2,3] rfl ?_
    refine Go.Sx.V rfl wu rfl rfl (mv rfl) ?_
    refine Go.Sx.V rfl wu rfl rfl (lenI rfl ty22) ?_
    refine Go.Sx.V rfl wu rfl rfl (mv rfl) ?_
    refine Go.Sx.V rfl wu rfl rfl (eqlI rfl rfl) ?_
    refine wr_nil (post_thenN ?_)
    refine wc_condT rfl (by simp; omega) ?_
    refine wc_seq (wc_seq ?_)
    refine wc_region [0,1,2,3,4,5,6,7,8,9] rfl ?_
    refine Go.Sx.V rfl wu rfl rfl (mv rfl) ?_
    refine Go.Sx.V rfl wu rfl rfl (lenS rfl ty30 hs) ?_
    refine Go.Sx.V rfl wu rfl rfl (eqlI rfl rfl) ?_
    refine Go.Sx.V rfl wu rfl rfl (mv rfl) ?_
    refine KB 24 false rfl (by simp; exact List.ne_nil_of_length_pos (by omega)) ?_
    refine Go.Sx.V rfl (wg rfl rfl) rfl rfl (mv rfl) ?_
    refine Go.Sx.V rfl (wg rfl rfl) rfl rfl (iad rfl rfl ty30 hs (by omega) (by omega)) ?_
    refine Go.Sx.V rfl (wg rfl rfl) rfl rfl (ldE rfl na22 hs hr) ?_
    refine Go.Sx.V rfl (wg rfl rfl) rfl rfl (lenI rfl ty22 hri) ?_
    refine Go.Sx.V rfl (wg rfl rfl) rfl rfl (eqlI rfl rfl) ?_
    refine Go.Sx.V rfl wu rfl rfl (pk rfl rfl) ?_
    refine wr_nil (post_thenN ?_)
    refine wc_cond rfl ?_ ?_
    · intro h
      simp at h
      refine wc_region [0,1,2] rfl ?_
      refine Go.Sx.V rfl wu rfl rfl (mv rfl) ?_
      refine Go.Sx.V rfl wu rfl rfl (mv rfl) ?_
      refine CVG rfl wu rfl rfl rfl hJ.enter (hJ.call pre X w v f hJw (by rw [srch, if_pos h] at hM; simp only [List.length_cons, List.length_nil] at hM; omega) hE0 hvi (by omega)) (by intro h; cases h) ?_
      rintro _ w1 ⟨X', h1, h2, h3⟩
      refine wr_nil (post_thenN (wc_ret (post_thenR ?_)))
      refine post_ret0 rfl ⟨X', ?_, h2, h3⟩
      rw [srch, if_pos h]
      exact h1
    · intro h
      simp at h
      refine wc_skip (post_thenN (wc_ret (post_thenR ?_)))
      refine post_ret0 rfl ⟨X, ?_, Gr.refl _ _, Newer.refl _ _⟩
      rw [srch, if_neg h, List.append_nil]
      exact hJw
  | kr + 1, F, f, u, v, bx, ny, pre, X, w, hE0, hJw, hu, hF, hv, hfk, hx, hy, hb1, hb2, hM => by
    have hvi := hv.1
    have hLow := lowOf_spec hF
    have hlt := hJ.lt _ _ _ hJw
    have hK := hG.nzd
    have hbl : (bcl F).length ≤ ny := bcl_len hy
    refine calls5 Tryz.func92 rfl rfl ?_
    refine wc_seq (wc_seq ?_)
    refine wc_region [0,1,2,3] rfl ?_
    refine Go.Sx.V rfl wu rfl rfl (mv rfl) ?_
    refine Go.Sx.V rfl wu rfl rfl (lenI rfl ty22) ?_
    refine Go.Sx.V rfl wu rfl rfl (mv rfl) ?_
    refine Go.Sx.V rfl wu rfl rfl (eqlI rfl rfl) ?_
    refine wr_nil (post_thenN ?_)
    refine wc_condF rfl (by simp; omega) ?_
    refine wc_skip (post_thenN (wc_seq ?_))
    refine wc_region [0,1,2] rfl ?_
    refine Go.Sx.V rfl wu rfl rfl (mv rfl) ?_
    refine C rfl wu rfl rfl Tryz.call128 (bDivide P u F X _ hF hu (fun k hk => (hlt k hk).1) (by omega)) ?_
    intro p w1 hE1 hp
    refine Go.Sx.V rfl wu rfl rfl (asg rfl) ?_
    refine wr_nil (post_thenN (wc_seq ?_))
    obtain ⟨F', hF'⟩ : ∃ F', F' = dv (lowOf F) F := ⟨_, rfl⟩
    obtain ⟨hy', hx'⟩ := dv_bounds (m := lowOf F) hy hx
    have hne' := dv_ne hLow
    have hline := hLow.line
    rw [← hF'] at hp hy' hx' hne' hline
    obtain ⟨n, hn⟩ : ∃ n, n = (bcl F').length := ⟨_, rfl⟩
    have hbl' : n ≤ ny := by rw [hn]; exact bcl_len hy'
    obtain ⟨rows, hs, hrl, hrr⟩ := hp.row
    rw [← hn] at hrl hrr
    refine wc_region [0,1,2,3] rfl ?_
    refine Go.Sx.V rfl wu rfl rfl (mv rfl) ?_
    refine Go.Sx.V rfl wu rfl rfl (lenS rfl ty30 hs) ?_
    refine MKI (n := n) rfl wu rfl rfl ty22 ?_
    intro ln w2 hE2 ho hoi hob
    refine Go.Sx.V rfl wu rfl rfl (asg rfl) ?_
    refine wr_nil (post_thenN (wc_seq (wc_seq ?_)))
    refine wc_region [0,1,2] rfl ?_
    refine Go.Sx.V rfl wu rfl rfl (mv rfl) ?_
    refine Go.Sx.V rfl wu rfl rfl (lenS rfl ty30 hs) ?_
    refine Go.Sx.V rfl wu rfl rfl (mv rfl) ?_
    refine wr_nil (post_thenN (wc_block ?_))
    rw [hrl]
    rw [← upd_zero' n (fun t => ((line F').co t).1) (fun _ => 0)] at ho
    refine wc_loop (fun j : Int => [(0, g), (1, p), (2, v), (3, .int .i64 k), (4, .func (.func fc) fs.toArray cs.toArray), (10, ln), (39, p), (40, .int .i64 n), (41, .int .i64 j)])
      (fun j w' => 0 ≤ j ∧ j ≤ n ∧ Ext w1 w' ∧ OwnI w1.heap.size w' ln 3 (upd n (fun t => ((line F').co t).1) (fun _ => 0) j)) (fun j => (n - j).toNat) 0 ⟨rfl, rfl, rfl, rfl, rfl, rfl, rfl, rfl, rfl, trivial⟩ ⟨by omega, by omega, hE2, ho⟩ ?_
    clear hE2 ho hoi
    clear w2
    rintro j w2 ⟨j0, j1, hE2, ho⟩
    have hul := upd_length n (fun t => ((line F').co t).1) (fun _ => 0) j
    have hoi := OwnI.ints ho
    try dsimp only
    refine wc_seq ?_
    refine wc_region [0] rfl ?_
    refine Go.Sx.V rfl wu rfl rfl (lssI rfl rfl) ?_
    refine wr_nil (post_thenN (wc_seq ?_))
    refine wc_cond rfl ?_ ?_
    · intro hc
      simp at hc
      obtain ⟨r, hr, hrx⟩ := hrr j.toNat (by omega)
      have hri := hrx.1.ext hE2
      rw [bcl_row] at hri
      refine wc_skip (post_thenN (wc_seq (wc_block (wc_seq ?_))))
      refine wc_region [0,1,2,3,4] rfl ?_
      refine Go.Sx.V rfl wu rfl rfl (mv rfl) ?_
      refine Go.Sx.V rfl wu rfl rfl (iad rfl rfl ty30 hs (by omega) (by omega)) ?_
      refine Go.Sx.V rfl wu rfl rfl (ldE rfl na22 hs hr hE2) ?_
      refine Go.Sx.V rfl wu rfl rfl (asg rfl) ?_
      refine Go.Sx.V rfl wu rfl rfl (asg rfl) ?_
      refine wr_nil (post_thenN (wc_seq ?_))
      refine wc_region [0,1,2] rfl ?_
      refine Go.Sx.V rfl wu rfl rfl (mv rfl) ?_
      refine Go.Sx.V rfl wu rfl rfl (lenI rfl ty22 hri) ?_
      refine Go.Sx.V rfl wu rfl rfl (gtrI rfl rfl) ?_
      refine wr_nil (post_thenN ?_)
      refine wc_cond rfl ?_ ?_
      · intro h3
        simp at h3
        have hv0 : gi (cl (F'.co j.toNat)) 0 = ((line F').co j.toNat).1 := cl_gi _ _
        refine wc_region [0,1,2,3,4,5,6] rfl ?_
        refine Go.Sx.V rfl wu rfl rfl (mv rfl) ?_
        refine Go.Sx.V rfl wu rfl rfl (mv rfl) ?_
        refine Go.Sx.V rfl wu rfl rfl (mv rfl) ?_
        refine Go.Sx.V rfl wu rfl rfl (iadI rfl rfl ty22 hri (by omega) (by omega)) ?_
        refine Go.Sx.V rfl wu rfl rfl (ldI rfl na3 hri) ?_
        refine Go.Sx.V rfl wu rfl rfl (iadI rfl rfl ty22) ?_
        refine STI rfl wu rfl rfl sz3 (by intro h; cases h) ?_
        intro w6 hg6 hX6 ho6 hi6
        refine wr_nil (post_blockN (post_thenN ?_))
        rw [hv0, upd_step (f := fun t => ((line F').co t).1) j0] at ho6
        refine wc_region [0,1] rfl ?_
        refine Go.Sx.V rfl wu rfl rfl (addI rfl rfl) ?_
        refine Go.Sx.V rfl wu rfl rfl (mv rfl) ?_
        refine wr_nil ?_
        exact post_loopN (j + 1) ⟨rfl, rfl, rfl, rfl, rfl, rfl, rfl, rfl, rfl, trivial⟩ ⟨by omega, by omega, hX6 _ (Nat.le_refl _) hE2, ho6⟩ (by omega)
      · intro h3
        simp at h3
        have hv0 : ((line F').co j.toNat).1 = 0 := by
          show ((F'.co j.toNat).co 0).1 = 0
          rw [cl_nil.1 h3]; rfl
        rw [upd_skip' j0 hv0] at ho
        refine wc_skip (post_blockN (post_thenN ?_))
        refine wc_region [0,1] rfl ?_
        refine Go.Sx.V rfl wu rfl rfl (addI rfl rfl) ?_
        refine Go.Sx.V rfl wu rfl rfl (mv rfl) ?_
        refine wr_nil ?_
        exact post_loopN (j + 1) ⟨rfl, rfl, rfl, rfl, rfl, rfl, rfl, rfl, rfl, trivial⟩ ⟨by omega, by omega, hE2, ho⟩ (by omega)
    · intro hc
      simp at hc
      rw [upd_last _ _ _ (by omega)] at ho hoi
      have hpz : pz P (tab n fun t => ((line F').co t).1) = line F' := Pol.ext fun t => by
        rw [co_pz, tab_at]
        split
        · rw [inK_val]
        · rw [show (line F').co t = (F'.co t).co 0 from rfl, bcl_over F' (by omega)]; exact inK0
      refine wc_exit (post_thenE (post_loopE (post_blockX (post_thenN (wc_seq ?_)))))
      refine wc_region [0,1,2,3,4,5,6,7] rfl ?_
      refine Go.Sx.V rfl wu rfl rfl (mv rfl) ?_
      refine Go.Sx.V rfl wu rfl rfl (mv rfl) ?_
      refine C rfl wu rfl rfl Tryz.call129 (pRoots P g ln _ _ (hG.ext ((hE0.trans hE1).trans hE2)) hoi (by rw [tab_length]; omega)) ?_
      rintro _ w3 hE3 ⟨rv, hrv, rfl⟩
      rw [hpz, if_neg (fun e => hline (cl_nil.1 e))] at hrv
      refine Go.Sx.V rfl wu rfl rfl (mv rfl) ?_
      refine Go.Sx.V rfl wu rfl rfl (ext rfl rfl) ?_
      refine Go.Sx.V rfl wu rfl rfl (ext rfl rfl) ?_
      refine Go.Sx.V rfl wu rfl rfl (asg rfl) ?_
      refine Go.Sx.V rfl wu rfl rfl (asg rfl) ?_
      refine wr_nil (post_thenN (wc_seq ?_))
      obtain ⟨R, hR⟩ : ∃ R, R = rootsIn P (fun x => val1 (line F') x) (els P.q.toNat) := ⟨_, rfl⟩
      rw [← hR] at hrv
      have hRl : R.length ≤ 256 := by
        rw [hR]
        have h1 := rootsIn_len P (fun x => val1 (line F') x) (els P.q.toNat)
        have h2 := hG.q
        rw [els_length] at h1
        omega
      have hE13 := (hE1.trans hE2).trans hE3
      have hsr : srch P (kr + 1) F f = R.flatMap fun r => srch P kr (nx (inK P r) F') (f ++ [r]) := by rw [hR, hF']; rfl
      have hrvi := OwnI.ints hrv
      refine wc_region [0,1,2] rfl ?_
      refine Go.Sx.V rfl wu rfl rfl (mv rfl) ?_
      refine Go.Sx.V rfl wu rfl rfl (lenI rfl ty22) ?_
      refine Go.Sx.V rfl wu rfl rfl (mv rfl) ?_
      refine wr_nil (post_thenN (wc_block ?_))
      refine wc_loop (fun s : Nat × List Nat => [(0, g), (1, p), (2, v), (3, .int .i64 k), (4, .func (.func fc) fs.toArray cs.toArray), (62, rv), (63, .int .i64 R.length), (64, .int .i64 s.1)])
        (fun s w' => s.1 ≤ R.length ∧ J (pre ++ (R.take s.1).flatMap fun r => srch P kr (nx (inK P r) F') (f ++ [r])) s.2 w' ∧ Gr X w w' ∧ Newer w X s.2 ∧ LLX s.2 w' p (bcl F') ∧ IntsX s.2 w' rv R ∧ IntsX s.2 w' v f ∧ Ext w0 w') (fun s => R.length - s.1) (0, X) ⟨rfl, rfl, rfl, rfl, rfl, rfl, rfl, rfl, trivial⟩
        ⟨by omega, by show J (pre ++ (R.take 0).flatMap _) X w3; rw [List.take_zero, List.flatMap_nil, List.append_nil]; exact hJ.ext _ _ _ _ hJw hE13, Gr.of_ext hE13, Newer.refl _ _, (hp.ext hE2).ext hE3, OwnI.intsX hrv (fun k hk => by have := (hlt k hk).1; have := hE1.size; have := hE2.size; omega), hv.ext hE13, hE0.trans hE13⟩ ?_
      clear hrv hrvi ho hoi hE3 hE2 hul hJw hu hv hvi hp hlt hE13 hs hrr hrl
      clear w3 w2
      rintro ⟨i, X1⟩ w4 ⟨i1, hJ1, hGr1, hN1, hp1, hr1, hv1, hE01⟩
      dsimp only at i1 hJ1 hN1 hp1 hr1 hv1
      have hlt1 := hJ.lt _ _ _ hJ1
      have hri := hr1.1
      have hvi := hv1.1
      have hfl : f.length ≤ 63 := by omega
      try dsimp only
      refine wc_seq ?_
      refine wc_region [0] rfl ?_
      refine Go.Sx.V rfl wu rfl rfl (lssI rfl rfl) ?_
      refine wr_nil (post_thenN (wc_seq ?_))
      refine wc_cond rfl ?_ ?_
      · intro hc4
        simp at hc4
        refine wc_skip (post_thenN (wc_seq (wc_block (wc_seq ?_))))
        refine wc_region [0,1,2] rfl ?_
        refine Go.Sx.V rfl wu rfl rfl (iadI rfl rfl ty22) ?_
        refine Go.Sx.V rfl wu rfl rfl (ldI rfl na3) ?_
        refine Go.Sx.V rfl wu rfl rfl (asg rfl) ?_
        refine wr_nil (post_thenN ?_)
        obtain ⟨a0, ha0⟩ := capTo_cap hvi
        have hf0 := hvi.cap
        rw [ha0] at hf0
        have hst : R.take (i + 1) = R.take i ++ [gi R i] := by
          rw [take_snoc hc4, gi, Int.toNat_natCast, List.getD_eq_getElem?_getD, List.getElem?_eq_getElem hc4]; rfl
        have hMi : (pre ++ (R.take i).flatMap fun r => srch P kr (nx (inK P r) F') (f ++ [r])).length + (srch P kr (nx (inK P (gi R i)) F') (f ++ [gi R i])).length ≤ M := by
          have h1 : R.flatMap (fun r => srch P kr (nx (inK P r) F') (f ++ [r])) = (R.take (i + 1)).flatMap (fun r => srch P kr (nx (inK P r) F') (f ++ [r])) ++ (R.drop (i + 1)).flatMap (fun r => srch P kr (nx (inK P r) F') (f ++ [r])) := by
            rw [← List.flatMap_append, List.take_append_drop]
          rw [hsr, h1, hst, List.flatMap_append, List.flatMap_singleton, List.length_append, List.length_append] at hM
          rw [List.length_append]
          omega
        have hE4 := Ext.refl w4
        have hb3 : bx + ny + kr * (ny + 1 + kr) ≤ 524288 := by
          have e1 : (kr + 1) * (ny + (kr + 1)) = kr * (ny + 1 + kr) + (ny + (kr + 1)) := by
            rw [Nat.add_mul, Nat.one_mul, show ny + (kr + 1) = ny + 1 + kr by omega]
          rw [e1] at hb1
          omega
        have hnb := nx_bounds (inK P (gi R i)) hy' hx' 0 ny (by omega)
        rw [dropP_none] at hnb
        have hrx : RB bx (bcl F') := XB.rb hx'
        have hmul0 : 0 ≤ kr * (ny + 1 + kr) := Nat.zero_le _
        refine wc_cutQ (σ := List Nat) (fun X2 => [(0, g), (1, p), (2, v), (3, .int .i64 k), (4, .func (.func fc) fs.toArray cs.toArray), (62, rv), (63, .int .i64 R.length), (64, .int .i64 i)])
          (fun X2 w' => J (pre ++ ((R.take i).flatMap fun r => srch P kr (nx (inK P r) F') (f ++ [r])) ++ srch P kr (nx (inK P (gi R i)) F') (f ++ [gi R i])) X2 w' ∧ Gr X1 w4 w' ∧ Newer w4 X1 X2) ?_ ?_
        · skip
          refine wc_drawT mixed (.br [0,1,2,3,5,6,7,8,9,10,11,14,15] (.leaf [4,12,13,16]) (.leaf [12,4,13,16])) (by kernel_rfl) ?_
          intro w5 hd _
          replace hE4 := hE4.trans hd
          refine wt_br ?_
          refine Go.Sx.V rfl wu rfl rfl (mv rfl) ?_
          refine Go.Sx.V rfl wu rfl rfl (mv rfl) ?_
          refine Go.Sx.V rfl wu rfl rfl (mv rfl) ?_
          refine Go.Sx.V rfl wu rfl rfl (mv rfl) ?_
          refine Go.Sx.V rfl wu rfl rfl (mv rfl) ?_
          refine Go.Sx.V rfl wu rfl rfl (mv rfl) ?_
          refine Go.Sx.V rfl wu rfl rfl (lenI rfl ty22) ?_
          refine Go.Sx.V rfl wu rfl rfl (mv rfl) ?_
          refine Go.Sx.V rfl wu rfl rfl (lenI rfl ty22) ?_
          refine Go.Sx.V rfl wu rfl rfl (slHM rfl rfl rfl ty22 hvi (by rw [List.length_map])) ?_
          rw [List.length_map, ha0]
          refine Go.Sx.V rfl wu rfl rfl (mv rfl) ?_
          refine Go.Sx.V rfl wu rfl rfl (mv rfl) ?_
          refine Go.Sx.V rfl wu rfl rfl (mv rfl) ?_
          refine wr_br ?_ ?_
          · skip
            refine wt_leaf ?_
            refine C rfl wu rfl rfl Tryz.call130 (bNext P g p _ (gi R i) bx _ (hG.ext (hE01.trans hE4)) (hp1.ext hE4).ll hrx (by rw [← hn]; omega)) ?_
            intro nxt wa hEa hnx
            rw [bz_bcl] at hnx
            have hnx := hnx.llx (X := X1) (fun k hk => Nat.lt_of_lt_of_le (hlt1 k hk).1 hE4.size)
            replace hE4 := hE4.trans hEa
            try replace hir := hir.ext hEa
            try replace hfv := hfv.ext hEa
            refine BSI (zs := [gi R i]) rfl wu rfl rfl rfl rfl ty22 ?_
            intro sr wa hEa hoa hir hba
            replace hE4 := hE4.trans hEa
            try replace hnx := hnx.ext hEa
            refine APF rfl wu rfl rfl rfl ty22 hf0 hE4 hir (Ext.refl _) (by simp) (by simp only [List.length_cons, List.length_nil]; omega) ?_
            intro fv wa hEa hif hbf
            have hfv := intsX_new (X := X1) hif hbf (fun k hk => Nat.lt_of_lt_of_le (hlt1 k hk).1 hE4.size)
            replace hE4 := hE4.trans hEa
            try replace hnx := hnx.ext hEa
            refine CRG rfl wu rfl rfl Tryz.call92 (bSearch P g w0 fc fs cs M J hJ hG k hk kr _ (f ++ [gi R i]) nxt fv (bx + ny) (ny + 1) _ X1 _ (hE01.trans hE4) (hJ.ext _ _ _ _ hJ1 hE4) hnx (nx_ne hK k_one_ne hne') hfv (by rw [List.length_append]; simp only [List.length_cons, List.length_nil]; omega) hnb.2 hnb.1 hb3 (by omega) hMi) (by intro h; kernel_rfl) ?_
            rintro _ wb ⟨X2, hJ2, hGr2, hN2⟩
            refine wr_cutQ X2 ⟨rfl, rfl, rfl, rfl, rfl, rfl, rfl, rfl, trivial⟩ ⟨hJ2, (Gr.of_ext hE4).comp (Newer.refl _ _) hGr2, fun k hk => (hN2 k hk).imp id (fun h => Nat.le_trans hE4.size h)⟩
          · skip
            refine wt_leaf ?_
            refine BSI (zs := [gi R i]) rfl wu rfl rfl rfl rfl ty22 ?_
            intro sr wa hEa hoa hir hba
            replace hE4 := hE4.trans hEa
            try replace hnx := hnx.ext hEa
            refine C rfl wu rfl rfl Tryz.call130 (bNext P g p _ (gi R i) bx _ (hG.ext (hE01.trans hE4)) (hp1.ext hE4).ll hrx (by rw [← hn]; omega)) ?_
            intro nxt wa hEa hnx
            rw [bz_bcl] at hnx
            have hnx := hnx.llx (X := X1) (fun k hk => Nat.lt_of_lt_of_le (hlt1 k hk).1 hE4.size)
            replace hE4 := hE4.trans hEa
            try replace hir := hir.ext hEa
            try replace hfv := hfv.ext hEa
            refine APF rfl wu rfl rfl rfl ty22 hf0 hE4 hir (Ext.refl _) (by simp) (by simp only [List.length_cons, List.length_nil]; omega) ?_
            intro fv wa hEa hif hbf
            have hfv := intsX_new (X := X1) hif hbf (fun k hk => Nat.lt_of_lt_of_le (hlt1 k hk).1 hE4.size)
            replace hE4 := hE4.trans hEa
            try replace hnx := hnx.ext hEa
            refine CRG rfl wu rfl rfl Tryz.call92 (bSearch P g w0 fc fs cs M J hJ hG k hk kr _ (f ++ [gi R i]) nxt fv (bx + ny) (ny + 1) _ X1 _ (hE01.trans hE4) (hJ.ext _ _ _ _ hJ1 hE4) hnx (nx_ne hK k_one_ne hne') hfv (by rw [List.length_append]; simp only [List.length_cons, List.length_nil]; omega) hnb.2 hnb.1 hb3 (by omega) hMi) (by intro h; kernel_rfl) ?_
            rintro _ wb ⟨X2, hJ2, hGr2, hN2⟩
            refine wr_cutQ X2 ⟨rfl, rfl, rfl, rfl, rfl, rfl, rfl, rfl, trivial⟩ ⟨hJ2, (Gr.of_ext hE4).comp (Newer.refl _ _) hGr2, fun k hk => (hN2 k hk).imp id (fun h => Nat.le_trans hE4.size h)⟩
        · rintro X2 w6 ⟨hJ2, hGr2, hN2⟩
          refine post_blockN (post_thenN ?_)
          refine wc_region [0,1] rfl ?_
          refine Go.Sx.V rfl wu rfl rfl (addI rfl rfl) ?_
          refine Go.Sx.V rfl wu rfl rfl (mv rfl) ?_
          refine wr_nil ?_
          refine post_loopN (i + 1, X2) ⟨rfl, rfl, rfl, rfl, rfl, rfl, rfl, rfl, trivial⟩ ⟨by show i + 1 ≤ _; omega, ?_, hGr1.comp hN1 hGr2, hN1.trans hN2 hGr1.size, hp1.gr hGr2 hN2, hr1.gr hGr2 hN2, hv1.gr hGr2 hN2, hGr2.ext hE01 (fun k hk => (hlt1 k hk).2)⟩ (by show R.length - (i + 1) < R.length - i; omega)
          show J (pre ++ (R.take (i + 1)).flatMap _) X2 w6
          rw [hst, List.flatMap_append, ← List.append_assoc, List.flatMap_singleton]
          exact hJ2
      · intro hc4
        simp at hc4
        refine wc_exit (post_thenE (post_loopE (post_blockX ?_)))
        refine post_end0 rfl ⟨X1, ?_, hGr1, hN1⟩
        rw [show i = R.length by omega, List.take_length] at hJ1
        rw [hsr]
        exact hJ1
def RJ (P : FP) (w0 : World) (g : Value) (ob gb : Nat) (pre : List (List Int)) (X : List Nat) (w : World) : Prop :=
  ∃ v, X = ob :: v.ownBlock.toList ∧ Blk w ob 29 #[v] ∧ Blk w gb 84 #[g] ∧ LOX [ob] w0.heap.size w v 22 (pre.map fun f => cl (pz P f)) ∧ v.ownBlock ≠ some ob ∧ v.ownBlock ≠ some gb
end Go.Proofs.YtmnojknfjbimdaaGreat

