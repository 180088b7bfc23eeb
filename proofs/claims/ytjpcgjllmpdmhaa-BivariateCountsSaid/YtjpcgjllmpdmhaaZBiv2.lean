/-
  The package bivariate, by contract, part 3: divide, search, Roots.
-/
import Derived.Test.YtjpcgjllmpdmhaaZBiv1
import Derived.Test.YtjpcgjllmpdmhaaZPoly2
import Derived.Test.YtjpcgjllmpdmhaaZMSxb
import Derived.Test.YtjpcgjllmpdmhaaZMPa
namespace Go.Proofs.Ytjpcgjllmpdmhaa
open Go Go.Sx Go.Pl Go.RowKit Go.Fd Go.Alg

set_option maxRecDepth 10000 in
theorem bDivide (P : FP) (u : Value) (F : Pol (Pol (K P))) (X : List Nat) (w : World) (hF : F ≠ 0) (hu : LLX X w u (bcl F)) (hX : ∀ k ∈ X, k < w.heap.size) (hl : (bcl F).length ≤ 1048576) :
    Calls Try.prog 91 #[u] w (RetX w fun r w' => LLX X w' r (bcl (dv (lowOf F) F))) := by
  obtain ⟨rows, hs, hrl, hrr⟩ := hu.row
  have hyb : YB (bcl F).length F := fun j hj => bcl_over F hj
  refine calls1 Try.func91 rfl rfl ?_
  refine wc_seq ?_
  refine wc_region [0] rfl ?_
  refine Go.Sx.V rfl wu rfl rfl (asg rfl) ?_
  refine wr_nil (post_thenN (wc_seq ?_))
  refine wc_region [0] rfl ?_
  refine Go.Sx.V rfl wu rfl rfl (asg rfl) ?_
  refine wr_nil (post_thenN (wc_seq (wc_seq ?_)))
  refine wc_region [0,1,2] rfl ?_
  refine Go.Sx.V rfl wu rfl rfl (mv rfl) ?_
  refine Go.Sx.V rfl wu rfl rfl (lenS rfl ty26 hs) ?_
  refine Go.Sx.V rfl wu rfl rfl (mv rfl) ?_
  refine wr_nil (post_thenN (wc_block ?_))
  rw [hrl]
  refine wc_loop (fun s : Nat × Int => [(0, u), (3, .int .i64 s.2), (11, u), (12, .int .i64 (bcl F).length), (13, .int .i64 s.1)])
    (fun s w' => s.1 ≤ (bcl F).length ∧ w' = w ∧ LowP F s.1 s.2) (fun s => (bcl F).length - s.1) (0, -1) ⟨rfl, rfl, rfl, rfl, rfl, trivial⟩ ⟨by omega, rfl, LowP.first F⟩ ?_
  rintro ⟨i, low⟩ w1 ⟨i1, rfl, hP⟩
  dsimp only at i1 hP
  try dsimp only
  refine wc_seq ?_
  refine wc_region [0] rfl ?_
  refine Go.Sx.V rfl wu rfl rfl (lssI rfl rfl) ?_
  refine wr_nil (post_thenN (wc_seq ?_))
  refine wc_cond rfl ?_ ?_
  · intro hc
    simp at hc
    obtain ⟨r, hr, hri, _⟩ := hrr i hc
    rw [bcl_row] at hri
    have hcle := hri.le
    refine wc_skip (post_thenN (wc_seq (wc_block (wc_seq ?_))))
    refine wc_region [0,1,2] rfl ?_
    refine Go.Sx.V rfl wu rfl rfl (iad rfl rfl ty26 hs (by omega) (by omega)) ?_
    refine Go.Sx.V rfl wu rfl rfl (ldE rfl na22 hs hr) ?_
    refine Go.Sx.V rfl wu rfl rfl (asg rfl) ?_
    refine wr_nil (post_thenN (wc_seq ?_))
    refine wc_region [0,1,2] rfl ?_
    refine Go.Sx.V rfl wu rfl rfl (mv rfl) ?_
    refine Go.Sx.V rfl wu rfl rfl (lenI rfl ty22) ?_
    refine Go.Sx.V rfl wu rfl rfl (mv rfl) ?_
    refine wr_nil (post_thenN (wc_block ?_))
    refine wc_loop (fun t : Nat => [(0, u), (3, .int .i64 low), (11, u), (12, .int .i64 (bcl F).length), (13, .int .i64 i), (17, r), (18, .int .i64 (cl (F.co i)).length), (19, .int .i64 t)])
      (fun t w' => t ≤ (cl (F.co i)).length ∧ w' = w1 ∧ ∀ s, s < t → (F.co i).co s = 0) (fun t => (cl (F.co i)).length - t) 0 ⟨rfl, rfl, rfl, rfl, rfl, rfl, rfl, rfl, trivial⟩ ⟨by omega, rfl, fun s hs => by omega⟩ ?_
    rintro t w2 ⟨t1, rfl, h0⟩
    try dsimp only
    refine wc_seq ?_
    refine wc_region [0] rfl ?_
    refine Go.Sx.V rfl wu rfl rfl (lssI rfl rfl) ?_
    refine wr_nil (post_thenN (wc_seq ?_))
    refine wc_cond rfl ?_ ?_
    · intro hc2
      simp at hc2
      have hv : gi (cl (F.co i)) t = ((F.co i).co t).1 := cl_gi _ _
      refine wc_skip (post_thenN (wc_seq (wc_block (wc_seq ?_))))
      refine wc_region [0,1,2,3,4] rfl ?_
      refine Go.Sx.V rfl wu rfl rfl (mv rfl) ?_
      refine Go.Sx.V rfl wu rfl rfl (iadI rfl rfl ty22) ?_
      refine Go.Sx.V rfl wu rfl rfl (ldI rfl na3 hri) ?_
      refine Go.Sx.V rfl wu rfl rfl (asg rfl) ?_
      refine Go.Sx.V rfl wu rfl rfl (asg rfl) ?_
      refine wr_nil (post_thenN (wc_seq ?_))
      rw [hv]
      refine wc_region [0,1] rfl ?_
      refine Go.Sx.V rfl wu rfl rfl (mv rfl) ?_
      refine Go.Sx.V rfl wu rfl rfl (neqI rfl rfl) ?_
      refine wr_nil (post_thenN ?_)
      refine wc_cond rfl ?_ ?_
      · intro hz
        simp at hz
        have hz' : (F.co i).co t ≠ 0 := fun e => hz (by rw [e]; rfl)
        refine wc_seq (wc_seq ?_)
        refine wc_region [0,1,2,3,4,5,6] rfl ?_
        refine Go.Sx.V rfl wu rfl rfl (mv rfl) ?_
        refine Go.Sx.V rfl wu rfl rfl (lssI rfl rfl) ?_
        refine Go.Sx.V rfl wu rfl rfl (mv rfl) ?_
        refine OR (π1 := [3,4,5,6]) (π2 := []) (tc := 28) (tp := 32) rfl rfl rfl (by
            intro _
            refine SK rfl rfl rfl rfl rfl ?_
            refine SK rfl rfl rfl rfl rfl ?_
            refine SK rfl rfl rfl rfl rfl ?_
            refine Go.Sx.V rfl wu rfl rfl (pk rfl rfl) ?_
            exact join rfl) (by
            intro hg
            simp at hg
            refine Go.Sx.V rfl (wg rfl rfl) rfl rfl (mv rfl) ?_
            refine Go.Sx.V rfl (wg rfl rfl) rfl rfl (mv rfl) ?_
            refine Go.Sx.V rfl (wg rfl rfl) rfl rfl (lssI rfl rfl) ?_
            refine Go.Sx.V rfl wu rfl rfl (pk rfl rfl) ?_
            exact join rfl) ?_
        refine wr_nil (post_thenN ?_)
        refine wc_cond rfl ?_ ?_
        · intro hlt
          simp at hlt
          refine wc_region [0,1] rfl ?_
          refine Go.Sx.V rfl wu rfl rfl (mv rfl) ?_
          refine Go.Sx.V rfl wu rfl rfl (asg rfl) ?_
          refine wr_nil (post_thenN (wc_exit (post_blockE rfl (post_thenE (post_loopE (post_blockX (post_blockN (post_thenN ?_))))))))
          refine wc_region [0,1] rfl ?_
          refine Go.Sx.V rfl wu rfl rfl (addI rfl rfl) ?_
          refine Go.Sx.V rfl wu rfl rfl (mv rfl) ?_
          refine wr_nil ?_
          exact post_loopN (i + 1, (t : Int)) ⟨rfl, rfl, rfl, rfl, rfl, trivial⟩ ⟨by show i + 1 ≤ _; omega, rfl, hP.take h0 hz' hlt⟩ (by show (bcl F).length - (i + 1) < (bcl F).length - i; omega)
        · intro hlt
          simp at hlt
          refine wc_skip (post_thenN (wc_exit (post_blockE rfl (post_thenE (post_loopE (post_blockX (post_blockN (post_thenN ?_))))))))
          refine wc_region [0,1] rfl ?_
          refine Go.Sx.V rfl wu rfl rfl (addI rfl rfl) ?_
          refine Go.Sx.V rfl wu rfl rfl (mv rfl) ?_
          refine wr_nil ?_
          exact post_loopN (i + 1, low) ⟨rfl, rfl, rfl, rfl, rfl, trivial⟩ ⟨by show i + 1 ≤ _; omega, rfl, hP.keep h0 (by omega)⟩ (by show (bcl F).length - (i + 1) < (bcl F).length - i; omega)
      · intro hz
        simp at hz
        have hz' : (F.co i).co t = 0 := Subtype.ext hz
        refine wc_skip (post_blockN (post_thenN ?_))
        refine wc_region [0,1] rfl ?_
        refine Go.Sx.V rfl wu rfl rfl (addI rfl rfl) ?_
        refine Go.Sx.V rfl wu rfl rfl (mv rfl) ?_
        refine wr_nil ?_
        exact post_loopN (t + 1) ⟨rfl, rfl, rfl, rfl, rfl, rfl, rfl, rfl, trivial⟩ ⟨by omega, rfl, fun s hs => by
          rcases Nat.lt_or_ge s t with h1 | h1
          · exact h0 s h1
          · obtain rfl : s = t := by omega
            exact hz'⟩ (by omega)
    · intro hc2
      simp at hc2
      have hz' : F.co i = 0 := Pol.ext fun s => by
        rcases Nat.lt_or_ge s t with h1 | h1
        · exact h0 s h1
        · exact cl_over _ (by omega)
      refine wc_exit (post_thenE (post_loopE (post_blockX (post_blockN (post_thenN ?_)))))
      refine wc_region [0,1] rfl ?_
      refine Go.Sx.V rfl wu rfl rfl (addI rfl rfl) ?_
      refine Go.Sx.V rfl wu rfl rfl (mv rfl) ?_
      refine wr_nil ?_
      exact post_loopN (i + 1, low) ⟨rfl, rfl, rfl, rfl, rfl, trivial⟩ ⟨by show i + 1 ≤ _; omega, rfl, hP.zero hz'⟩ (by show (bcl F).length - (i + 1) < (bcl F).length - i; omega)
  · intro hc
    simp at hc
    obtain rfl := LowP.last hF hyb (by rw [show (bcl F).length = i by omega]; exact hP)
    have hLow := lowOf_spec hF
    clear hP
    obtain ⟨n, hn⟩ : ∃ n, n = (bcl F).length := ⟨_, rfl⟩
    have hfin := dv_rows hLow
    rw [← hn] at hfin hrl hl hrr
    refine wc_exit (post_thenE (post_loopE (post_blockX (post_thenN (wc_seq ?_)))))
    refine wc_region [0,1,2,3] rfl ?_
    refine Go.Sx.V rfl wu rfl rfl (mv rfl) ?_
    refine Go.Sx.V rfl wu rfl rfl (lenS rfl ty26 hs) ?_
    refine MKX (X := X) (n := n) rfl wu rfl rfl ty26 ?_
    intro out w2 hE ho
    refine Go.Sx.V rfl wu rfl rfl (asg rfl) ?_
    refine wr_nil (post_thenN (wc_seq (wc_seq ?_)))
    refine wc_region [0,1,2] rfl ?_
    refine Go.Sx.V rfl wu rfl rfl (mv rfl) ?_
    refine Go.Sx.V rfl wu rfl rfl (lenS rfl ty26 hs) ?_
    refine Go.Sx.V rfl wu rfl rfl (mv rfl) ?_
    refine wr_nil (post_thenN (wc_block ?_))
    rw [hrl]
    rw [← updB_zero n (fun j => cl ((dv (lowOf F) F).co j)) (fun _ => [])] at ho
    have hX2 : ∀ k ∈ X, k < w1.heap.size := hX
    refine wc_loop (fun j : Nat => [(3, .int .i64 (lowOf F)), (8, out), (39, u), (40, .int .i64 n), (41, .int .i64 j)])
      (fun j w' => j ≤ n ∧ Ext w1 w' ∧ LOX X w1.heap.size w' out 22 (updB n (fun j => cl ((dv (lowOf F) F).co j)) (fun _ => []) j)) (fun j => n - j) 0 ⟨rfl, rfl, rfl, rfl, rfl, trivial⟩ ⟨by omega, hE, ho⟩ ?_
    clear hE ho
    clear w2
    rintro j w2 ⟨j1, hE, ho⟩
    have hul := updB_length n (fun j => cl ((dv (lowOf F) F).co j)) (fun _ => []) j
    obtain ⟨orows, hos, hol, hox⟩ := (ho.llx hX2).ll.row
    rw [hul] at hol
    try dsimp only
    refine wc_seq ?_
    refine wc_region [0] rfl ?_
    refine Go.Sx.V rfl wu rfl rfl (lssI rfl rfl) ?_
    refine wr_nil (post_thenN (wc_seq ?_))
    refine wc_cond rfl ?_ ?_
    · intro hc2
      simp at hc2
      obtain ⟨r, hr, hrx⟩ := hrr j hc2
      rw [bcl_row] at hrx
      have hri := hrx.1.ext hE
      have hcd : cl ((dv (lowOf F) F).co j) = (cl (F.co j)).drop (lowOf F) := by rw [co_dv, cl_drop]
      refine wc_skip (post_thenN (wc_seq (wc_block (wc_seq ?_))))
      refine wc_region [0,1,2,3,4] rfl ?_
      refine Go.Sx.V rfl wu rfl rfl (mv rfl) ?_
      refine Go.Sx.V rfl wu rfl rfl (iad rfl rfl ty26 hs (by omega) (by omega)) ?_
      refine Go.Sx.V rfl wu rfl rfl (ldE rfl na22 hs hr hE) ?_
      refine Go.Sx.V rfl wu rfl rfl (asg rfl) ?_
      refine Go.Sx.V rfl wu rfl rfl (asg rfl) ?_
      refine wr_nil (post_thenN (wc_seq ?_))
      refine wc_region [0,1,2] rfl ?_
      refine Go.Sx.V rfl wu rfl rfl (mv rfl) ?_
      refine Go.Sx.V rfl wu rfl rfl (lenI rfl ty22) ?_
      refine Go.Sx.V rfl wu rfl rfl (gtrI rfl rfl) ?_
      refine wr_nil (post_thenN ?_)
      refine wc_cond rfl ?_ ?_
      · intro h5
        simp at h5
        have hlt := low_len hLow (j := j) (List.ne_nil_of_length_pos h5)
        have hsv := hri.slv (lo := (lowOf F : Int)) (hi := ((cl (F.co j)).length : Int)) (by omega) (by omega) (by omega)
        rw [show ((lowOf F : Nat) : Int).toNat = lowOf F from rfl, List.take_of_length_le (by rw [List.length_drop]; omega), ← hcd] at hsv
        have hne : cl ((dv (lowOf F) F).co j) = [] ∨ ((slv r (lowOf F : Int) ((cl (F.co j)).length : Int)).ownBlock ≠ out.ownBlock ∧ NB X (slv r (lowOf F : Int) ((cl (F.co j)).length : Int))) := by
          right
          rw [NB, slv_block]
          obtain ⟨k, hk, hlt2⟩ := hrx.1.lt h5
          refine ⟨fun e => ?_, hrx.2.resolve_left (List.ne_nil_of_length_pos h5)⟩
          obtain ⟨rows0, h1, _⟩ := ho
          have := (h1.lt k (by rw [← e]; exact hk)).1
          omega
        refine wc_region [0,1,2,3,4,5,6] rfl ?_
        refine Go.Sx.V rfl wu rfl rfl (mv rfl) ?_
        refine Go.Sx.V rfl wu rfl rfl (mv rfl) ?_
        refine Go.Sx.V rfl wu rfl rfl (mv rfl) ?_
        refine Go.Sx.V rfl wu rfl rfl (mv rfl) ?_
        refine Go.Sx.V rfl wu rfl rfl (slL rfl rfl ty22 hri (by omega) (by rw [List.length_map]; omega)) ?_
        refine Go.Sx.V rfl wu rfl rfl (iad rfl rfl ty26 hos (by omega) (by omega)) ?_
        refine STX rfl wu rfl rfl sz22 (by intro h; cases h) ((by rw [List.length_map]; exact hsv)) ((by rw [List.length_map]; exact hne)) ?_
        intro w6 hg6 hX6 ho6
        refine wr_nil (post_blockN (post_thenN ?_))
        rw [updB_step (f := fun j => cl ((dv (lowOf F) F).co j))] at ho6
        refine wc_region [0,1] rfl ?_
        refine Go.Sx.V rfl wu rfl rfl (addI rfl rfl) ?_
        refine Go.Sx.V rfl wu rfl rfl (mv rfl) ?_
        refine wr_nil ?_
        exact post_loopN (j + 1) ⟨rfl, rfl, rfl, rfl, rfl, trivial⟩ ⟨by omega, hX6 _ (Nat.le_refl _) hE, ho6⟩ (by omega)
      · intro h5
        simp at h5
        have hnil : (fun _ => [] : Nat → List Int) j = (fun j => cl ((dv (lowOf F) F).co j)) j := by
          show [] = cl ((dv (lowOf F) F).co j)
          rw [hcd, h5, List.drop_nil]
        rw [updB_skip hnil] at ho
        refine wc_skip (post_blockN (post_thenN ?_))
        refine wc_region [0,1] rfl ?_
        refine Go.Sx.V rfl wu rfl rfl (addI rfl rfl) ?_
        refine Go.Sx.V rfl wu rfl rfl (mv rfl) ?_
        refine wr_nil ?_
        exact post_loopN (j + 1) ⟨rfl, rfl, rfl, rfl, rfl, trivial⟩ ⟨by omega, hE, ho⟩ (by omega)
    · intro hc2
      simp at hc2
      refine wc_exit (post_thenE (post_loopE (post_blockX (post_thenN (wc_seq ?_)))))
      rw [show j = n by omega, updB_last, hfin] at ho
      refine wc_region [0,1] rfl ?_
      refine Go.Sx.V rfl wu rfl rfl (mv rfl) ?_
      refine Go.Sx.V rfl wu rfl rfl (asg rfl) ?_
      refine wr_nil (post_thenN (wc_ret ?_))
      refine post_ret1 rfl rfl ?_
      exact ⟨hE, ho.llx hX2⟩

theorem k_one_ne {P : FP} : (1 : K P) ≠ 0 := fun e => by
  have := congrArg Subtype.val e
  exact absurd this (by show ¬ ((1 : Int) = 0); omega)

set_option maxRecDepth 10000 in
theorem bSearch (P : FP) (g : Value) (w0 : World) (fc : FuncId) (fs cs : List Value) (M : Nat) (J : List (List Int) → List Nat → World → Prop) (hJ : Fnd Try.prog w0 fc fs cs M J) (hG : GFV w0 P g) (k : Nat) (hk : k ≤ 64) :
    ∀ (kr : Nat) (F : Pol (Pol (K P))) (f : List Int) (u v : Value) (bx ny : Nat) (pre : List (List Int)) (X : List Nat) (w : World), Ext w0 w → J pre X w → LLX X w u (bcl F) → F ≠ 0 → IntsX X w v f → f.length + kr = k → XB bx F → YB ny F → bx + kr * (ny + kr) ≤ 524288 → ny + kr ≤ 1024 → pre.length + (srch P kr F f).length ≤ M →
    Calls Try.prog 65 #[g, u, v, .int .i64 k, .func (.func fc) fs.toArray cs.toArray] w (Ret fun _ w' => ∃ X', J (pre ++ srch P kr F f) X' w' ∧ Gr X w w' ∧ Newer w X X')
  | 0, F, f, u, v, bx, ny, pre, X, w, hE0, hJw, hu, hF, hv, hfk, hx, hy, hb1, hb2, hM => by
    obtain ⟨rows, hs, hrl, hrr⟩ := hu.row
    have hvi := hv.1
    have hlen : 0 < (bcl F).length := by
      rcases Nat.eq_zero_or_pos (bcl F).length with e | e
      · exact absurd (bcl_nil.1 (List.eq_nil_of_length_eq_zero e)) hF
      · exact e
    obtain ⟨r, hr, hrx⟩ := hrr 0 hlen
    have hri := hrx.1
    rw [bcl_row] at hri
    refine calls5 Try.func65 rfl rfl ?_
    refine wc_seq (wc_seq ?_)
    refine wc_region [0,1,2,3] rfl ?_
    refine Go.Sx.V rfl wu rfl rfl (mv rfl) ?_
    refine Go.Sx.V rfl wu rfl rfl (lenI rfl ty22) ?_
    refine Go.Sx.V rfl wu rfl rfl (mv rfl) ?_
    refine Go.Sx.V rfl wu rfl rfl (eqlI rfl rfl) ?_
    refine wr_nil (post_thenN ?_)
    refine wc_condT rfl (by simp; omega) ?_
    refine wc_seq (wc_seq ?_)
    refine wc_region [0,1,2,3,4,5,6,7,8,9] rfl ?_
    refine Go.Sx.V rfl wu rfl rfl (mv rfl) ?_
    refine Go.Sx.V rfl wu rfl rfl (lenS rfl ty26 hs) ?_
    refine Go.Sx.V rfl wu rfl rfl (eqlI rfl rfl) ?_
    refine Go.Sx.V rfl wu rfl rfl (mv rfl) ?_
    refine KB 24 false rfl (by simp; exact List.ne_nil_of_length_pos (by omega)) ?_
    refine Go.Sx.V rfl (wg rfl rfl) rfl rfl (mv rfl) ?_
    refine Go.Sx.V rfl (wg rfl rfl) rfl rfl (iad rfl rfl ty26 hs (by omega) (by omega)) ?_
    refine Go.Sx.V rfl (wg rfl rfl) rfl rfl (ldE rfl na22 hs hr) ?_
    refine Go.Sx.V rfl (wg rfl rfl) rfl rfl (lenI rfl ty22 hri) ?_
    refine Go.Sx.V rfl (wg rfl rfl) rfl rfl (eqlI rfl rfl) ?_
    refine Go.Sx.V rfl wu rfl rfl (pk rfl rfl) ?_
    refine wr_nil (post_thenN ?_)
    refine wc_cond rfl ?_ ?_
    · intro h
      simp at h
      refine wc_region [0,1,2] rfl ?_
      refine Go.Sx.V rfl wu rfl rfl (mv rfl) ?_
      refine Go.Sx.V rfl wu rfl rfl (mv rfl) ?_
      refine CVG rfl wu rfl rfl rfl hJ.enter (hJ.call pre X w v f hJw (by rw [srch, if_pos h] at hM; simp only [List.length_cons, List.length_nil] at hM; omega) hE0 hvi (by omega)) (by intro h; cases h) ?_
      rintro _ w1 ⟨X', h1, h2, h3⟩
      refine wr_nil (post_thenN (wc_ret (post_thenR ?_)))
      refine post_ret0 rfl ⟨X', ?_, h2, h3⟩
      rw [srch, if_pos h]
      exact h1
    · intro h
      simp at h
      refine wc_skip (post_thenN (wc_ret (post_thenR ?_)))
      refine post_ret0 rfl ⟨X, ?_, Gr.refl _ _, Newer.refl _ _⟩
      rw [srch, if_neg h, List.append_nil]
      exact hJw
  | kr + 1, F, f, u, v, bx, ny, pre, X, w, hE0, hJw, hu, hF, hv, hfk, hx, hy, hb1, hb2, hM => by
    have hvi := hv.1
    have hLow := lowOf_spec hF
    have hlt := hJ.lt _ _ _ hJw
    have hK := hG.nzd
    have hbl : (bcl F).length ≤ ny := bcl_len hy
    refine calls5 Try.func65 rfl rfl ?_
    refine wc_seq (wc_seq ?_)
    refine wc_region [0,1,2,3] rfl ?_
    refine Go.Sx.V rfl wu rfl rfl (mv rfl) ?_
    refine Go.Sx.V rfl wu rfl rfl (lenI rfl ty22) ?_
    refine Go.Sx.V rfl wu rfl rfl (mv rfl) ?_
    refine Go.Sx.V rfl wu rfl rfl (eqlI rfl rfl) ?_
    refine wr_nil (post_thenN ?_)
    refine wc_condF rfl (by simp; omega) ?_
    refine wc_skip (post_thenN (wc_seq ?_))
    refine wc_region [0,1,2] rfl ?_
    refine Go.Sx.V rfl wu rfl rfl (mv rfl) ?_
    refine C rfl wu rfl rfl Try.call91 (bDivide P u F X _ hF hu (fun k hk => (hlt k hk).1) (by omega)) ?_
    intro p w1 hE1 hp
    refine Go.Sx.V rfl wu rfl rfl (asg rfl) ?_
    refine wr_nil (post_thenN (wc_seq ?_))
    obtain ⟨F', hF'⟩ : ∃ F', F' = dv (lowOf F) F := ⟨_, rfl⟩
    obtain ⟨hy', hx'⟩ := dv_bounds (m := lowOf F) hy hx
    have hne' := dv_ne hLow
    have hline := hLow.line
    rw [← hF'] at hp hy' hx' hne' hline
    obtain ⟨n, hn⟩ : ∃ n, n = (bcl F').length := ⟨_, rfl⟩
    have hbl' : n ≤ ny := by rw [hn]; exact bcl_len hy'
    obtain ⟨rows, hs, hrl, hrr⟩ := hp.row
    rw [← hn] at hrl hrr
    refine wc_region [0,1,2,3] rfl ?_
    refine Go.Sx.V rfl wu rfl rfl (mv rfl) ?_
    refine Go.Sx.V rfl wu rfl rfl (lenS rfl ty26 hs) ?_
    refine MKI (n := n) rfl wu rfl rfl ty22 ?_
    intro ln w2 hE2 ho hoi hob
    refine Go.Sx.V rfl wu rfl rfl (asg rfl) ?_
    refine wr_nil (post_thenN (wc_seq (wc_seq ?_)))
    refine wc_region [0,1,2] rfl ?_
    refine Go.Sx.V rfl wu rfl rfl (mv rfl) ?_
    refine Go.Sx.V rfl wu rfl rfl (lenS rfl ty26 hs) ?_
    refine Go.Sx.V rfl wu rfl rfl (mv rfl) ?_
    refine wr_nil (post_thenN (wc_block ?_))
    rw [hrl]
    rw [← upd_zero' n (fun t => ((line F').co t).1) (fun _ => 0)] at ho
    refine wc_loop (fun j : Int => [(0, g), (1, p), (2, v), (3, .int .i64 k), (4, .func (.func fc) fs.toArray cs.toArray), (10, ln), (39, p), (40, .int .i64 n), (41, .int .i64 j)])
      (fun j w' => 0 ≤ j ∧ j ≤ n ∧ Ext w1 w' ∧ OwnI w1.heap.size w' ln 3 (upd n (fun t => ((line F').co t).1) (fun _ => 0) j)) (fun j => (n - j).toNat) 0 ⟨rfl, rfl, rfl, rfl, rfl, rfl, rfl, rfl, rfl, trivial⟩ ⟨by omega, by omega, hE2, ho⟩ ?_
    clear hE2 ho hoi
    clear w2
    rintro j w2 ⟨j0, j1, hE2, ho⟩
    have hul := upd_length n (fun t => ((line F').co t).1) (fun _ => 0) j
    have hoi := OwnI.ints ho
    try dsimp only
    refine wc_seq ?_
    refine wc_region [0] rfl ?_
    refine Go.Sx.V rfl wu rfl rfl (lssI rfl rfl) ?_
    refine wr_nil (post_thenN (wc_seq ?_))
    refine wc_cond rfl ?_ ?_
    · intro hc
      simp at hc
      obtain ⟨r, hr, hrx⟩ := hrr j.toNat (by omega)
      have hri := hrx.1.ext hE2
      rw [bcl_row] at hri
      refine wc_skip (post_thenN (wc_seq (wc_block (wc_seq ?_))))
      refine wc_region [0,1,2,3,4] rfl ?_
      refine Go.Sx.V rfl wu rfl rfl (mv rfl) ?_
      refine Go.Sx.V rfl wu rfl rfl (iad rfl rfl ty26 hs (by omega) (by omega)) ?_
      refine Go.Sx.V rfl wu rfl rfl (ldE rfl na22 hs hr hE2) ?_
      refine Go.Sx.V rfl wu rfl rfl (asg rfl) ?_
      refine Go.Sx.V rfl wu rfl rfl (asg rfl) ?_
      refine wr_nil (post_thenN (wc_seq ?_))
      refine wc_region [0,1,2] rfl ?_
      refine Go.Sx.V rfl wu rfl rfl (mv rfl) ?_
      refine Go.Sx.V rfl wu rfl rfl (lenI rfl ty22 hri) ?_
      refine Go.Sx.V rfl wu rfl rfl (gtrI rfl rfl) ?_
      refine wr_nil (post_thenN ?_)
      refine wc_cond rfl ?_ ?_
      · intro h3
        simp at h3
        have hv0 : gi (cl (F'.co j.toNat)) 0 = ((line F').co j.toNat).1 := cl_gi _ _
        refine wc_region [0,1,2,3,4,5,6] rfl ?_
        refine Go.Sx.V rfl wu rfl rfl (mv rfl) ?_
        refine Go.Sx.V rfl wu rfl rfl (mv rfl) ?_
        refine Go.Sx.V rfl wu rfl rfl (mv rfl) ?_
        refine Go.Sx.V rfl wu rfl rfl (iadI rfl rfl ty22 hri (by omega) (by omega)) ?_
        refine Go.Sx.V rfl wu rfl rfl (ldI rfl na3 hri) ?_
        refine Go.Sx.V rfl wu rfl rfl (iadI rfl rfl ty22) ?_
        refine STI rfl wu rfl rfl sz3 (by intro h; cases h) ?_
        intro w6 hg6 hX6 ho6 hi6
        refine wr_nil (post_blockN (post_thenN ?_))
        rw [hv0, upd_step (f := fun t => ((line F').co t).1) j0] at ho6
        refine wc_region [0,1] rfl ?_
        refine Go.Sx.V rfl wu rfl rfl (addI rfl rfl) ?_
        refine Go.Sx.V rfl wu rfl rfl (mv rfl) ?_
        refine wr_nil ?_
        exact post_loopN (j + 1) ⟨rfl, rfl, rfl, rfl, rfl, rfl, rfl, rfl, rfl, trivial⟩ ⟨by omega, by omega, hX6 _ (Nat.le_refl _) hE2, ho6⟩ (by omega)
      · intro h3
        simp at h3
        have hv0 : ((line F').co j.toNat).1 = 0 := by
          show ((F'.co j.toNat).co 0).1 = 0
          rw [cl_nil.1 h3]; rfl
        rw [upd_skip' j0 hv0] at ho
        refine wc_skip (post_blockN (post_thenN ?_))
        refine wc_region [0,1] rfl ?_
        refine Go.Sx.V rfl wu rfl rfl (addI rfl rfl) ?_
        refine Go.Sx.V rfl wu rfl rfl (mv rfl) ?_
        refine wr_nil ?_
        exact post_loopN (j + 1) ⟨rfl, rfl, rfl, rfl, rfl, rfl, rfl, rfl, rfl, trivial⟩ ⟨by omega, by omega, hE2, ho⟩ (by omega)
    · intro hc
      simp at hc
      rw [upd_last _ _ _ (by omega)] at ho hoi
      have hpz : pz P (tab n fun t => ((line F').co t).1) = line F' := Pol.ext fun t => by
        rw [co_pz, tab_at]
        split
        · rw [inK_val]
        · rw [show (line F').co t = (F'.co t).co 0 from rfl, bcl_over F' (by omega)]; exact inK0
      refine wc_exit (post_thenE (post_loopE (post_blockX (post_thenN (wc_seq ?_)))))
      refine wc_region [0,1,2,3,4,5,6,7] rfl ?_
      refine Go.Sx.V rfl wu rfl rfl (mv rfl) ?_
      refine Go.Sx.V rfl wu rfl rfl (mv rfl) ?_
      refine C rfl wu rfl rfl Try.call92 (pRoots P g ln _ _ (hG.ext ((hE0.trans hE1).trans hE2)) hoi (by rw [tab_length]; omega)) ?_
      rintro _ w3 hE3 ⟨rv, hrv, rfl⟩
      rw [hpz, if_neg (fun e => hline (cl_nil.1 e))] at hrv
      refine Go.Sx.V rfl wu rfl rfl (mv rfl) ?_
      refine Go.Sx.V rfl wu rfl rfl (ext rfl rfl) ?_
      refine Go.Sx.V rfl wu rfl rfl (ext rfl rfl) ?_
      refine Go.Sx.V rfl wu rfl rfl (asg rfl) ?_
      refine Go.Sx.V rfl wu rfl rfl (asg rfl) ?_
      refine wr_nil (post_thenN (wc_seq ?_))
      obtain ⟨R, hR⟩ : ∃ R, R = rootsIn P (fun x => val1 (line F') x) (els P.q.toNat) := ⟨_, rfl⟩
      rw [← hR] at hrv
      have hRl : R.length ≤ 256 := by
        rw [hR]
        have h1 := rootsIn_len P (fun x => val1 (line F') x) (els P.q.toNat)
        have h2 := hG.q
        rw [els_length] at h1
        omega
      have hE13 := (hE1.trans hE2).trans hE3
      have hsr : srch P (kr + 1) F f = R.flatMap fun r => srch P kr (nx (inK P r) F') (f ++ [r]) := by rw [hR, hF']; rfl
      have hrvi := OwnI.ints hrv
      refine wc_region [0,1,2] rfl ?_
      refine Go.Sx.V rfl wu rfl rfl (mv rfl) ?_
      refine Go.Sx.V rfl wu rfl rfl (lenI rfl ty22) ?_
      refine Go.Sx.V rfl wu rfl rfl (mv rfl) ?_
      refine wr_nil (post_thenN (wc_block ?_))
      refine wc_loop (fun s : Nat × List Nat => [(0, g), (1, p), (2, v), (3, .int .i64 k), (4, .func (.func fc) fs.toArray cs.toArray), (62, rv), (63, .int .i64 R.length), (64, .int .i64 s.1)])
        (fun s w' => s.1 ≤ R.length ∧ J (pre ++ (R.take s.1).flatMap fun r => srch P kr (nx (inK P r) F') (f ++ [r])) s.2 w' ∧ Gr X w w' ∧ Newer w X s.2 ∧ LLX s.2 w' p (bcl F') ∧ IntsX s.2 w' rv R ∧ IntsX s.2 w' v f ∧ Ext w0 w') (fun s => R.length - s.1) (0, X) ⟨rfl, rfl, rfl, rfl, rfl, rfl, rfl, rfl, trivial⟩
        ⟨by omega, by show J (pre ++ (R.take 0).flatMap _) X w3; rw [List.take_zero, List.flatMap_nil, List.append_nil]; exact hJ.ext _ _ _ _ hJw hE13, Gr.of_ext hE13, Newer.refl _ _, (hp.ext hE2).ext hE3, OwnI.intsX hrv (fun k hk => by have := (hlt k hk).1; have := hE1.size; have := hE2.size; omega), hv.ext hE13, hE0.trans hE13⟩ ?_
      clear hrv hrvi ho hoi hE3 hE2 hul hJw hu hv hvi hp hlt hE13 hs hrr hrl
      clear w3 w2
      rintro ⟨i, X1⟩ w4 ⟨i1, hJ1, hGr1, hN1, hp1, hr1, hv1, hE01⟩
      dsimp only at i1 hJ1 hN1 hp1 hr1 hv1
      have hlt1 := hJ.lt _ _ _ hJ1
      have hri := hr1.1
      have hvi := hv1.1
      have hfl : f.length ≤ 63 := by omega
      try dsimp only
      refine wc_seq ?_
      refine wc_region [0] rfl ?_
      refine Go.Sx.V rfl wu rfl rfl (lssI rfl rfl) ?_
      refine wr_nil (post_thenN (wc_seq ?_))
      refine wc_cond rfl ?_ ?_
      · intro hc4
        simp at hc4
        refine wc_skip (post_thenN (wc_seq (wc_block (wc_seq ?_))))
        refine wc_region [0,1,2] rfl ?_
        refine Go.Sx.V rfl wu rfl rfl (iadI rfl rfl ty22) ?_
        refine Go.Sx.V rfl wu rfl rfl (ldI rfl na3) ?_
        refine Go.Sx.V rfl wu rfl rfl (asg rfl) ?_
        refine wr_nil (post_thenN ?_)
        obtain ⟨a0, ha0⟩ := capTo_cap hvi
        have hf0 := hvi.cap
        rw [ha0] at hf0
        have hst : R.take (i + 1) = R.take i ++ [gi R i] := by
          rw [take_snoc hc4, gi, Int.toNat_natCast, List.getD_eq_getElem?_getD, List.getElem?_eq_getElem hc4]; rfl
        have hMi : (pre ++ (R.take i).flatMap fun r => srch P kr (nx (inK P r) F') (f ++ [r])).length + (srch P kr (nx (inK P (gi R i)) F') (f ++ [gi R i])).length ≤ M := by
          have h1 : R.flatMap (fun r => srch P kr (nx (inK P r) F') (f ++ [r])) = (R.take (i + 1)).flatMap (fun r => srch P kr (nx (inK P r) F') (f ++ [r])) ++ (R.drop (i + 1)).flatMap (fun r => srch P kr (nx (inK P r) F') (f ++ [r])) := by
            rw [← List.flatMap_append, List.take_append_drop]
          rw [hsr, h1, hst, List.flatMap_append, List.flatMap_singleton, List.length_append, List.length_append] at hM
          rw [List.length_append]
          omega
        have hE4 := Ext.refl w4
        have hb3 : bx + ny + kr * (ny + 1 + kr) ≤ 524288 := by
          have e1 : (kr + 1) * (ny + (kr + 1)) = kr * (ny + 1 + kr) + (ny + (kr + 1)) := by
            rw [Nat.add_mul, Nat.one_mul, show ny + (kr + 1) = ny + 1 + kr by omega]
          rw [e1] at hb1
          omega
        have hnb := nx_bounds (inK P (gi R i)) hy' hx' 0 ny (by omega)
        rw [dropP_none] at hnb
        have hrx : RB bx (bcl F') := XB.rb hx'
        have hmul0 : 0 ≤ kr * (ny + 1 + kr) := Nat.zero_le _
        refine wc_cutQ (σ := List Nat) (fun X2 => [(0, g), (1, p), (2, v), (3, .int .i64 k), (4, .func (.func fc) fs.toArray cs.toArray), (62, rv), (63, .int .i64 R.length), (64, .int .i64 i)])
          (fun X2 w' => J (pre ++ ((R.take i).flatMap fun r => srch P kr (nx (inK P r) F') (f ++ [r])) ++ srch P kr (nx (inK P (gi R i)) F') (f ++ [gi R i])) X2 w' ∧ Gr X1 w4 w' ∧ Newer w4 X1 X2) ?_ ?_
        · skip
          refine wc_drawT mixed (.br [0,1,2,3,5,6,7,8,9,10,11,14,15] (.leaf [4,12,13,16]) (.leaf [12,4,13,16])) (by kernel_rfl) ?_
          intro w5 hd _
          replace hE4 := hE4.trans hd
          refine wt_br ?_
          refine Go.Sx.V rfl wu rfl rfl (mv rfl) ?_
          refine Go.Sx.V rfl wu rfl rfl (mv rfl) ?_
          refine Go.Sx.V rfl wu rfl rfl (mv rfl) ?_
          refine Go.Sx.V rfl wu rfl rfl (mv rfl) ?_
          refine Go.Sx.V rfl wu rfl rfl (mv rfl) ?_
          refine Go.Sx.V rfl wu rfl rfl (mv rfl) ?_
          refine Go.Sx.V rfl wu rfl rfl (lenI rfl ty22) ?_
          refine Go.Sx.V rfl wu rfl rfl (mv rfl) ?_
          refine Go.Sx.V rfl wu rfl rfl (lenI rfl ty22) ?_
          refine Go.Sx.V rfl wu rfl rfl (slHM rfl rfl rfl ty22 hvi (by rw [List.length_map])) ?_
          rw [List.length_map, ha0]
          refine Go.Sx.V rfl wu rfl rfl (mv rfl) ?_
          refine Go.Sx.V rfl wu rfl rfl (mv rfl) ?_
          refine Go.Sx.V rfl wu rfl rfl (mv rfl) ?_
          refine wr_br ?_ ?_
          · skip
            refine wt_leaf ?_
            refine C rfl wu rfl rfl Try.call93 (bNext P g p _ (gi R i) bx _ (hG.ext (hE01.trans hE4)) (hp1.ext hE4).ll hrx (by rw [← hn]; omega)) ?_
            intro nxt wa hEa hnx
            rw [bz_bcl] at hnx
            have hnx := hnx.llx (X := X1) (fun k hk => Nat.lt_of_lt_of_le (hlt1 k hk).1 hE4.size)
            replace hE4 := hE4.trans hEa
            try replace hir := hir.ext hEa
            try replace hfv := hfv.ext hEa
            refine BSI (zs := [gi R i]) rfl wu rfl rfl rfl rfl ty22 ?_
            intro sr wa hEa hoa hir hba
            replace hE4 := hE4.trans hEa
            try replace hnx := hnx.ext hEa
            refine APF rfl wu rfl rfl rfl ty22 hf0 hE4 hir (Ext.refl _) (by simp) (by simp only [List.length_cons, List.length_nil]; omega) ?_
            intro fv wa hEa hif hbf
            have hfv := intsX_new (X := X1) hif hbf (fun k hk => Nat.lt_of_lt_of_le (hlt1 k hk).1 hE4.size)
            replace hE4 := hE4.trans hEa
            try replace hnx := hnx.ext hEa
            refine CRG rfl wu rfl rfl Try.call65 (bSearch P g w0 fc fs cs M J hJ hG k hk kr _ (f ++ [gi R i]) nxt fv (bx + ny) (ny + 1) _ X1 _ (hE01.trans hE4) (hJ.ext _ _ _ _ hJ1 hE4) hnx (nx_ne hK k_one_ne hne') hfv (by rw [List.length_append]; simp only [List.length_cons, List.length_nil]; omega) hnb.2 hnb.1 hb3 (by omega) hMi) (by intro h; kernel_rfl) ?_
            rintro _ wb ⟨X2, hJ2, hGr2, hN2⟩
            refine wr_cutQ X2 ⟨rfl, rfl, rfl, rfl, rfl, rfl, rfl, rfl, trivial⟩ ⟨hJ2, (Gr.of_ext hE4).comp (Newer.refl _ _) hGr2, fun k hk => (hN2 k hk).imp id (fun h => Nat.le_trans hE4.size h)⟩
          · skip
            refine wt_leaf ?_
            refine BSI (zs := [gi R i]) rfl wu rfl rfl rfl rfl ty22 ?_
            intro sr wa hEa hoa hir hba
            replace hE4 := hE4.trans hEa
            try replace hnx := hnx.ext hEa
            refine C rfl wu rfl rfl Try.call93 (bNext P g p _ (gi R i) bx _ (hG.ext (hE01.trans hE4)) (hp1.ext hE4).ll hrx (by rw [← hn]; omega)) ?_
            intro nxt wa hEa hnx
            rw [bz_bcl] at hnx
            have hnx := hnx.llx (X := X1) (fun k hk => Nat.lt_of_lt_of_le (hlt1 k hk).1 hE4.size)
            replace hE4 := hE4.trans hEa
            try replace hir := hir.ext hEa
            try replace hfv := hfv.ext hEa
            refine APF rfl wu rfl rfl rfl ty22 hf0 hE4 hir (Ext.refl _) (by simp) (by simp only [List.length_cons, List.length_nil]; omega) ?_
            intro fv wa hEa hif hbf
            have hfv := intsX_new (X := X1) hif hbf (fun k hk => Nat.lt_of_lt_of_le (hlt1 k hk).1 hE4.size)
            replace hE4 := hE4.trans hEa
            try replace hnx := hnx.ext hEa
            refine CRG rfl wu rfl rfl Try.call65 (bSearch P g w0 fc fs cs M J hJ hG k hk kr _ (f ++ [gi R i]) nxt fv (bx + ny) (ny + 1) _ X1 _ (hE01.trans hE4) (hJ.ext _ _ _ _ hJ1 hE4) hnx (nx_ne hK k_one_ne hne') hfv (by rw [List.length_append]; simp only [List.length_cons, List.length_nil]; omega) hnb.2 hnb.1 hb3 (by omega) hMi) (by intro h; kernel_rfl) ?_
            rintro _ wb ⟨X2, hJ2, hGr2, hN2⟩
            refine wr_cutQ X2 ⟨rfl, rfl, rfl, rfl, rfl, rfl, rfl, rfl, trivial⟩ ⟨hJ2, (Gr.of_ext hE4).comp (Newer.refl _ _) hGr2, fun k hk => (hN2 k hk).imp id (fun h => Nat.le_trans hE4.size h)⟩
        · rintro X2 w6 ⟨hJ2, hGr2, hN2⟩
          refine post_blockN (post_thenN ?_)
          refine wc_region [0,1] rfl ?_
          refine Go.Sx.V rfl wu rfl rfl (addI rfl rfl) ?_
          refine Go.Sx.V rfl wu rfl rfl (mv rfl) ?_
          refine wr_nil ?_
          refine post_loopN (i + 1, X2) ⟨rfl, rfl, rfl, rfl, rfl, rfl, rfl, rfl, trivial⟩ ⟨by show i + 1 ≤ _; omega, ?_, hGr1.comp hN1 hGr2, hN1.trans hN2 hGr1.size, hp1.gr hGr2 hN2, hr1.gr hGr2 hN2, hv1.gr hGr2 hN2, hGr2.ext hE01 (fun k hk => (hlt1 k hk).2)⟩ (by show R.length - (i + 1) < R.length - i; omega)
          show J (pre ++ (R.take (i + 1)).flatMap _) X2 w6
          rw [hst, List.flatMap_append, ← List.append_assoc, List.flatMap_singleton]
          exact hJ2
      · intro hc4
        simp at hc4
        refine wc_exit (post_thenE (post_loopE (post_blockX ?_)))
        refine post_end0 rfl ⟨X1, ?_, hGr1, hN1⟩
        rw [show i = R.length by omega, List.take_length] at hJ1
        rw [hsr]
        exact hJ1

/-- What the closure of Roots keeps: the roots so far, in a slice of its own, in a variable. -/
def RJ (P : FP) (w0 : World) (g : Value) (ob gb : Nat) (pre : List (List Int)) (X : List Nat) (w : World) : Prop :=
  ∃ v, X = ob :: v.ownBlock.toList ∧ Blk w ob 25 #[v] ∧ Blk w gb 28 #[g] ∧ LOX [ob] w0.heap.size w v 22 (pre.map fun f => cl (pz P f)) ∧ v.ownBlock ≠ some ob ∧ v.ownBlock ≠ some gb
theorem RJ.lt {P : FP} {w0 : World} {g : Value} {ob gb : Nat} {pre : List (List Int)} {X : List Nat} {w : World} (h : RJ P w0 g ob gb pre X w) (hob : w0.heap.size ≤ ob) : ∀ k ∈ X, k < w.heap.size ∧ w0.heap.size ≤ k := by
  obtain ⟨v, rfl, h1, _, ⟨rows, h2, _⟩, _⟩ := h
  intro k hk
  rcases List.mem_cons.1 hk with rfl | hk
  · exact ⟨h1.lt, hob⟩
  · have hk' : v.ownBlock = some k := by simpa using hk
    have := h2.lt k hk'
    omega
theorem RJ.ext {P : FP} {w0 : World} {g : Value} {ob gb : Nat} {pre : List (List Int)} {X : List Nat} {w w' : World} (h : RJ P w0 g ob gb pre X w) (hE : Ext w w') : RJ P w0 g ob gb pre X w' := by
  obtain ⟨v, h0, h1, h2, h3, h4⟩ := h
  exact ⟨v, h0, h1.ext hE, h2.ext hE, h3.ext hE, h4⟩

set_option maxRecDepth 10000 in
theorem bRoots1 (P : FP) (w0 : World) (g : Value) (ob gb : Nat) (pre : List (List Int)) (X : List Nat) (u : Value) (z : List Int) (w : World) (hG : GFV w0 P g) (hJ : RJ P w0 g ob gb pre X w) (hob : w0.heap.size ≤ ob) (hgo : ob ≠ gb) (hpre : pre.length ≤ 1099511627776) (hE0 : Ext w0 w) (hu : Ints w u z) (hz : z.length ≤ 64) :
    Calls Try.prog 66 #[u, .pointer (some ⟨ob, 0, none⟩), .pointer (some ⟨gb, 0, none⟩)] w (Ret fun _ w' => ∃ X', RJ P w0 g ob gb (pre ++ [z]) X' w' ∧ Gr X w w' ∧ Newer w X X') := by
  obtain ⟨v, rfl, hO, hB, ⟨rows, ho, hrl, hrr⟩, hvo, hvg⟩ := hJ
  rw [List.length_map] at hrl
  have hlt := ho.lt
  have lO := hO.lt
  have lB := hB.lt
  have hE := Ext.refl w
  refine calls3 Try.func66 rfl rfl ?_
  refine wc_draw mixed [0,1,2,3,4,5,6] (by kernel_rfl) ?_
  intro w1 hd _
  replace hE := hE.trans hd
  replace hO := hO.ext hd
  replace hB := hB.ext hd
  replace hu := hu.ext hd
  replace ho := ho.ext hd
  refine Go.Sx.V rfl wu rfl rfl (ldB rfl na25 hO) ?_
  refine Go.Sx.V rfl wu rfl rfl (ldB rfl naE28 hB) ?_
  refine Go.Sx.V rfl wu rfl rfl (mv rfl) ?_
  refine C rfl wu rfl rfl Try.call56 (pCanon P g u z _ (hG.ext (hE0.trans hE)) hu (by omega)) ?_
  intro c w2 hE2 hc
  have hce := OwnI.ints hc
  replace hO := hO.ext hE2
  replace hB := hB.ext hE2
  replace ho := ho.ext hE2
  have hs1 := hE.size
  have hc' : ∀ k, c.ownBlock = some k → w1.heap.size ≤ k ∧ k < w2.heap.size := Own.lt hc
  replace hE := hE.trans hE2
  refine BS (us := [c]) rfl wu rfl rfl rfl rfl ty25 (by intro q hq; obtain rfl : q = c := (by simpa using hq); exact hce.one) ?_
  intro sv w3 hE3 hsv hsb
  replace hO := hO.ext hE3
  replace hB := hB.ext hE3
  replace ho := ho.ext hE3
  replace hce := hce.ext hE3
  replace hE := hE.trans hE3
  have hs2 := hE2.size
  have hs3 := hE3.size
  refine AP rfl wu rfl rfl rfl ty25 rfl (by intro h h2; exact absurd h2 (by decide +kernel)) ho (hE0.trans hE).size hsv.sl (Ext.refl _) (by intro q hq; obtain rfl : q = c := (by simpa using hq); exact hce.one) (by simp only [List.length_cons, List.length_nil]; omega) (by simp only [List.length_cons, List.length_nil]; omega) ?_
  intro v2 w4 hg4 hX4 ho4 hb4
  refine STV rfl wu rfl rfl sv25 (by intro h; kernel_rfl) (hO.grown hg4 hvo) (Sl.one ho4.sl) ?_
  intro w5 hg5 hX5 hO5
  refine wr_nil ?_
  have hv2 : ∀ q, v2.ownBlock = some q → q = w3.heap.size ∨ v.ownBlock = some q := fun q hq => by
    rcases hb4 with h | h
    · exact .inr (h.symm.trans hq)
    · rw [h] at hq; cases hq; exact .inl rfl
  have hsz := hE.size
  have hob3 : ob < w3.heap.size := by have := hO.lt; omega
  have hgb3 : gb < w3.heap.size := by have := hB.lt; omega
  have hvob : v2.ownBlock ≠ some ob := fun e => by
    rcases hv2 _ e with h | h
    · omega
    · exact hvo h
  have hvgb : v2.ownBlock ≠ some gb := fun e => by
    rcases hv2 _ e with h | h
    · omega
    · exact hvg h
  have hov2 : Sx.Own w0.heap.size w5 v2 22 (rows ++ [c]) := Own.kept ho4 (v2 := .slice (some ⟨ob, 0, none⟩) 0 0) hg5 (.inl hvob)
  have keep : ∀ {r : Value} {ys : List Int}, Ints w3 r ys → (ys = [] ∨ (r.ownBlock ≠ v.ownBlock ∧ NB [ob] r)) → Ints w5 r ys := fun {r ys} hr h => by
    rcases h with rfl | h
    · exact ints_empty hr
    · exact (hr.kept hg4 h.1).kept hg5 (fun e => h.2 ob e (List.mem_cons_self ..))
  have hcd : ∀ q, c.ownBlock = some q → q ≠ ob ∧ v.ownBlock ≠ some q ∧ q < w3.heap.size := fun q hq => by
    have h1 := hc' q hq
    refine ⟨by omega, fun e => ?_, by omega⟩
    have := (hlt q e).2
    omega
  have hcf : cl (pz P z) = [] ∨ (c.ownBlock ≠ v.ownBlock ∧ NB [ob] c) := by
    rcases Nat.eq_zero_or_pos (cl (pz P z)).length with h0 | h0
    · exact .inl (List.eq_nil_of_length_eq_zero h0)
    · obtain ⟨q, hq, _⟩ := hce.lt h0
      have h1 := hcd q hq
      exact .inr ⟨fun e => h1.2.1 (e.symm.trans hq), fun k hk hx => by
        rw [hq] at hk; cases hk
        exact h1.1 (by simpa using hx)⟩
  refine post_end0 rfl ⟨_, ⟨v2, rfl, hO5, (hB.grown hg4 hvg).grown hg5 (fun e => hgo (Option.some.inj e)), ⟨rows ++ [c], hov2, by simp [hrl], ?_⟩, hvob, hvgb⟩, ((Gr.of_ext hE).trans (Gr.of_grown hg4 ?_)).trans (Gr.of_grown hg5 ?_), ?_⟩
  · intro i r zs a b
    rw [List.map_append, List.map_cons, List.map_nil, List.getElem?_append] at b
    rw [List.getElem?_append] at a
    rw [List.length_map] at b
    by_cases hi : i < pre.length
    · rw [if_pos hi] at b
      rw [if_pos (by omega)] at a
      have h1 := hrr i r zs a b
      refine ⟨keep (h1.1.ext hE) h1.2, ?_⟩
      rcases Nat.eq_zero_or_pos zs.length with h0 | h0
      · exact .inl (List.eq_nil_of_length_eq_zero h0)
      · obtain ⟨q, hq, hql⟩ := h1.1.lt h0
        have h2 := h1.2.resolve_left (List.ne_nil_of_length_pos h0)
        refine .inr ⟨fun e => ?_, h2.2⟩
        rcases hv2 q (e.symm.trans hq) with h3 | h3
        · omega
        · exact h2.1 (hq.trans h3.symm)
    · rw [if_neg hi] at b
      rw [if_neg (by omega)] at a
      have hl0 : i - rows.length = 0 := by
        have := (List.getElem?_eq_some_iff.1 a).1
        simp at this; omega
      rw [hl0] at a
      rw [show i - pre.length = 0 by omega] at b
      simp at a b
      subst a b
      refine ⟨keep hce hcf, ?_⟩
      rcases Nat.eq_zero_or_pos (cl (pz P z)).length with h0 | h0
      · exact .inl (List.eq_nil_of_length_eq_zero h0)
      · obtain ⟨q, hq, _⟩ := hce.lt h0
        have h1 := hcd q hq
        refine .inr ⟨fun e => ?_, (hcf.resolve_left (List.ne_nil_of_length_pos h0)).2⟩
        rcases hv2 q (e.symm.trans hq) with h3 | h3
        · omega
        · exact h1.2.1 h3
  · intro q hq
    have hq' : v.ownBlock = some q := hq
    rw [hq']; simp
  · intro q hq
    cases hq
    simp
  · intro q hq
    rcases List.mem_cons.1 hq with rfl | hq
    · exact .inl (List.mem_cons_self ..)
    · have hq' : v2.ownBlock = some q := by simpa using hq
      rcases hv2 q hq' with h3 | h3
      · exact .inr (by omega)
      · left; rw [h3]; simp

set_option maxRecDepth 10000 in
theorem bRoots (P : FP) (g u : Value) (A : List (List Int)) (k : Int) (na : Nat) (w : World) (hG : GFV w P g) (hu : LL w u A) (hA : RB na A) (hna : na ≤ 262144) (hl : A.length ≤ 512) :
    Calls Try.prog 30 #[g, u, .int .i64 k] w (RetX w fun r w' => ∃ s e L, r = .tuple #[s, .int .i64 e] ∧ LL w' s L ∧ ((bz P A = 0 ∧ e = 7 ∧ L = []) ∨ (bz P A ≠ 0 ∧ ¬ (0 ≤ k ∧ k ≤ 64) ∧ e = 6 ∧ L = []) ∨ (bz P A ≠ 0 ∧ (0 ≤ k ∧ k ≤ 64) ∧ e = 0 ∧ L = (srch P k.toNat (bz P A) []).map fun f => cl (pz P f)))) := by
  have hg1 : g.oneCell' = true := by
    obtain ⟨gb, _, _, _, _, _, _, rfl, _⟩ := hG.ex
    rfl
  have hxb := hA.xb (P := P)
  have hyb := (YB.bz (P := P) A).mono hl
  refine calls3 Try.func30 rfl rfl ?_
  refine wc_seq ?_
  refine wc_region [0,1,2] rfl ?_
  refine BXV rfl wu rfl rfl (by first | rfl | assumption) ?_
  intro gb w1 hE hB hgb
  refine Go.Sx.V rfl wu rfl rfl (asg rfl) ?_
  refine Go.Sx.V rfl wu rfl rfl (asg rfl) ?_
  refine wr_nil (post_thenN (wc_seq ?_))
  refine wc_region [0,1,2,3] rfl ?_
  refine Go.Sx.V rfl wu rfl rfl (ldB rfl naE28 hB) ?_
  refine Go.Sx.V rfl wu rfl rfl (mv rfl) ?_
  refine C rfl wu rfl rfl Try.call20 (bCanon P g u A _ (hG.ext hE) (hu.ext hE) (hA.mono (by omega)) (by omega)) ?_
  intro p w2 hE2 hp
  replace hB := hB.ext hE2
  have hE1 := hE.size
  replace hE := hE.trans hE2
  refine Go.Sx.V rfl wu rfl rfl (asg rfl) ?_
  refine wr_nil (post_thenN (wc_seq (wc_seq ?_)))
  generalize bz P A = F at *
  obtain ⟨rows, hs, hrl, _⟩ := hp.ll.row
  refine wc_region [0,1,2] rfl ?_
  refine Go.Sx.V rfl wu rfl rfl (mv rfl) ?_
  refine Go.Sx.V rfl wu rfl rfl (lenS rfl ty26 hs) ?_
  refine Go.Sx.V rfl wu rfl rfl (eqlI rfl rfl) ?_
  refine wr_nil (post_thenN ?_)
  rw [hrl]
  refine wc_cond rfl ?_ ?_
  · intro h
    simp at h
    refine wc_seq ?_
    refine wc_region [0,1] rfl ?_
    refine Go.Sx.V rfl wu rfl rfl (asg rfl) ?_
    refine Go.Sx.V rfl wu rfl rfl (asg rfl) ?_
    refine wr_nil (post_thenN (wc_ret (post_thenR ?_)))
    refine post_ret2 rfl rfl rfl ?_
    exact ⟨hE, _, _, [], rfl, LL.nil _, .inl ⟨bcl_nil.1 h, rfl, rfl⟩⟩
  · intro h
    simp at h
    have hF : F ≠ 0 := fun e => h (bcl_nil.2 e)
    refine wc_skip (post_thenN (wc_seq (wc_seq ?_)))
    refine wc_region [0,1,2,3,4,5] rfl ?_
    refine Go.Sx.V rfl wu rfl rfl (mv rfl) ?_
    refine Go.Sx.V rfl wu rfl rfl (lssI rfl rfl) ?_
    refine Go.Sx.V rfl wu rfl rfl (mv rfl) ?_
    refine OR (π1 := [3,4,5]) (π2 := []) (tc := 17) (tp := 20) rfl rfl rfl (by
        intro _
        refine SK rfl rfl rfl rfl rfl ?_
        refine SK rfl rfl rfl rfl rfl ?_
        refine Go.Sx.V rfl wu rfl rfl (pk rfl rfl) ?_
        exact join rfl) (by
        intro hg
        simp at hg
        refine Go.Sx.V rfl (wg rfl rfl) rfl rfl (mv rfl) ?_
        refine Go.Sx.V rfl (wg rfl rfl) rfl rfl (gtrI rfl rfl) ?_
        refine Go.Sx.V rfl wu rfl rfl (pk rfl rfl) ?_
        exact join rfl) ?_
    refine wr_nil (post_thenN ?_)
    refine wc_cond rfl ?_ ?_
    · intro h1
      simp at h1
      refine wc_seq ?_
      refine wc_region [0,1] rfl ?_
      refine Go.Sx.V rfl wu rfl rfl (asg rfl) ?_
      refine Go.Sx.V rfl wu rfl rfl (asg rfl) ?_
      refine wr_nil (post_thenN (wc_ret (post_thenR ?_)))
      refine post_ret2 rfl rfl rfl ?_
      exact ⟨hE, _, _, [], rfl, LL.nil _, .inr (.inl ⟨hF, by omega, rfl, rfl⟩)⟩
    · intro h1
      simp at h1
      refine wc_skip (post_thenN (wc_seq ?_))
      refine wc_region [0] rfl ?_
      refine AL rfl wu rfl zv25 ?_
      intro ob w3 hE3 hO hob
      refine wr_nil (post_thenN (wc_seq ?_))
      have hob0 : w.heap.size ≤ ob := Nat.le_trans hE.size hob
      have hgo : ob ≠ gb := by have := hB.lt; omega
      have lO := hO.lt
      have hB3 := hB.ext hE3
      replace hE := hE.trans hE3
      have hfnd : Fnd Try.prog w 66 [] [.pointer (some ⟨ob, 0, none⟩), .pointer (some ⟨gb, 0, none⟩)] 1099511627776 (RJ P w g ob gb) :=
        ⟨Try.call66, fun pre X w' v z hJ hp hE hz hzl => bRoots1 P w g ob gb pre X v z w' hG hJ hob0 hgo (by omega) hE hz hzl, fun pre X w' w'' hJ hE => hJ.ext hE, fun pre X w' hJ => hJ.lt hob0⟩
      have hkn : ((k.toNat : Nat) : Int) = k := by omega
      have hJ0 : RJ P w g ob gb [] [ob] w3 := ⟨_, rfl, hO, hB3, ⟨[], Own.nil _ _ _, rfl, fun i r zs a => by simp at a⟩, by simp [Value.ownBlock], by simp [Value.ownBlock]⟩
      have hk64 : k.toNat ≤ 64 := by omega
      have hcnt := srch_len hG.nzd hF hyb k.toNat []
      have hmul : k.toNat * (512 + k.toNat) ≤ 64 * (512 + 64) := Nat.mul_le_mul hk64 (by omega)
      have hcall := bSearch P g w _ [] [.pointer (some ⟨ob, 0, none⟩), .pointer (some ⟨gb, 0, none⟩)] _ _ hfnd hG k.toNat (by omega) k.toNat F [] p (.slice none 0 0) na 512 [] [ob] w3 hE hJ0 ((hp.ll.llx (by intro q hq; obtain rfl : q = ob := (by simpa using hq); exact hob)).ext hE3) hF ⟨Ints.nil _, .inl rfl⟩ (by simp) hxb hyb (by omega) (by omega) (by simp; omega)
      rw [hkn] at hcall
      refine wc_region [0,1,2,3,4] rfl ?_
      refine Go.Sx.V rfl wu rfl rfl (ldB rfl naE28 hB3) ?_
      refine Go.Sx.V rfl wu rfl rfl (mv rfl) ?_
      refine Go.Sx.V rfl wu rfl rfl (mv rfl) ?_
      refine Go.Sx.V rfl wu rfl rfl (mkf rfl rfl) ?_
      refine CRG rfl wu rfl rfl Try.call65 hcall (by intro h; cases h) ?_
      rintro _ w4 ⟨X', ⟨v, rfl, hO4, _, hlox, _⟩, hGr, _⟩
      refine wr_nil (post_thenN (wc_seq ?_))
      refine wc_region [0,1,2] rfl ?_
      refine Go.Sx.V rfl wu rfl rfl (ldB rfl na25 hO4) ?_
      refine Go.Sx.V rfl wu rfl rfl (asg rfl) ?_
      refine Go.Sx.V rfl wu rfl rfl (asg rfl) ?_
      refine wr_nil (post_thenN (wc_ret ?_))
      refine post_ret2 rfl rfl rfl ?_
      refine ⟨hGr.ext hE (by intro q hq; obtain rfl : q = ob := (by simpa using hq); exact hob0), v, 0, _, rfl, ?_, .inr (.inr ⟨hF, by omega, rfl, rfl⟩)⟩
      rw [List.nil_append] at hlox
      obtain ⟨orows, ho1, ho2, ho3⟩ := hlox
      exact ⟨orows, ho1.sl, ho2, fun i r zs a b => (ho3 i r zs a b).1⟩
end Go.Proofs.Ytjpcgjllmpdmhaa
