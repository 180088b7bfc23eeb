/-
  The reference's polynomials, by contract: Canon, Degree, At, Add, Mul, Eval, Scale. Each answers the canonical list of the polynomial that is meant.
-/
import Derived.Test.YtmnojknfjbimdaaGreatWMPa
import Derived.Test.YtmnojknfjbimdaaGreatWRef6
import Derived.Test.YtmnojknfjbimdaaGreatWMTya
namespace Go.Fd
open Go.Pl Go.Alg
variable {P : FP}
theorem tab_succ {α : Type} (n : Nat) (f : Nat → α) : tab (n + 1) f = tab n f ++ [f n] := by simp [tab, List.range_succ]
theorem cnt_step (f : Pol (K P)) (i : Nat) : (trimL (tab (i + 1) fun t => (f.co t).1)).length = if (f.co i).1 = 0 then (trimL (tab i fun t => (f.co t).1)).length else i + 1 := by
  rw [tab_succ]
  split
  · rename_i h; rw [h, trimL_snoc0]
  · rename_i h
    rw [trimL_snoc h, List.length_append, tab_length]; rfl
theorem cl_self (f : Pol (K P)) : tab (cl f).length (fun t => (f.co t).1) = cl f := by
  have h := list_pz (lo_cl f)
  rw [pz_cl] at h
  exact h.symm
theorem pz_tab {f : Pol (K P)} {m : Nat} (h : ∀ t, m ≤ t → f.co t = 0) : pz P (tab m fun t => (f.co t).1) = f := Pol.ext fun t => by
  rw [co_pz, tab_at]
  split
  · rw [inK_val]
  · rw [h t (by omega)]; exact inK0
theorem val1_part (z : List Int) (x : K P) (i : Nat) : val1 (Go.Alg.part (i + 1) (pz P z)) x = val1 (Go.Alg.part i (pz P z)) x + inK P (gi z i) * npow x i := by
  rw [val1, pev_part Hom.id, mul_comm (npow x i)]; rfl
theorem val1_part0 (f : Pol (K P)) (x : K P) : val1 (Go.Alg.part 0 f) x = 0 := by rw [part_zero]; exact (val1_hom x).zero
theorem val1_all (z : List Int) : Go.Alg.part z.length (pz P z) = pz P z := part_all fun _ h => co_pz_over h
end Go.Fd
namespace Go.Proofs.YtmnojknfjbimdaaGreat
open Go Go.Sx Go.Pl Go.RowKit Go.Fd Go.Alg
set_option maxRecDepth 10000 in
theorem rPCanon (P : FP) (mo : Value) (md : List Int) (u : Value) (z : List Int) (w : World) (hF : FV w P mo md) (hu : Ints w u z) (hn : z.length ≤ 17592186044416) :
    Calls Tryz.prog 41 #[fv P mo, u] w (RetX w fun r w' => OwnI w.heap.size w' r 3 (cl (pz P z))) := by
  refine calls2 Tryz.func41 rfl rfl ?_
  refine wc_seq ?_
  refine wc_region [0,1] rfl ?_
  refine BXA rfl wu rfl rfl ?_
  intro fb w1 hE hB hg
  refine Go.Sx.V rfl wu rfl rfl (asg rfl) ?_
  refine wr_nil (post_thenN (wc_seq ?_))
  refine wc_region [0] rfl ?_
  refine Go.Sx.V rfl wu rfl rfl (asg rfl) ?_
  refine wr_nil (post_thenN (wc_seq (wc_seq ?_)))
  refine wc_region [0] rfl ?_
  refine Go.Sx.V rfl wu rfl rfl (asg rfl) ?_
  refine wr_nil (post_thenN (wc_block ?_))
  have hsz := hE.size
  refine wc_loop (fun i : Nat => [(1, u), (2, .pointer (some ⟨fb, 0, none⟩)), (5, .int .i64 (trimL (tab i fun t => ((pz P z).co t).1)).length), (6, .int .i64 i)])
    (fun i w' => i ≤ z.length ∧ Ext w w' ∧ Ext w1 w') (fun i => z.length - i) 0 ⟨rfl, rfl, rfl, rfl, trivial⟩ ⟨by omega, hE, Ext.refl _⟩ ?_
  clear hE
  rintro i w4 ⟨i1, hE, hE1⟩
  have hui := hu.ext hE
  have hBi := hB.ext hE1
  try dsimp only
  refine wc_seq (wc_seq ?_)
  refine wc_region [0,1,2,3] rfl ?_
  refine Go.Sx.V rfl wu rfl rfl (mv rfl) ?_
  refine Go.Sx.V rfl wu rfl rfl (mv rfl) ?_
  refine Go.Sx.V rfl wu rfl rfl (lenI rfl ty22) ?_
  refine Go.Sx.V rfl wu rfl rfl (lssI rfl rfl) ?_
  refine wr_nil (post_thenN ?_)
  refine wc_cond rfl ?_ ?_
  · intro hc
    simp at hc
    have hst := cnt_step (pz P z) i
    refine wc_skip (post_thenN (wc_seq (wc_block (wc_seq ?_))))
    refine wc_draw mixed [0,1,2,3,4,5,6] (by kernel_rfl) ?_
    intro w5 hd _
    replace hE := hE.trans hd
    replace hE1 := hE1.trans hd
    replace hui := hui.ext hd
    replace hBi := hBi.ext hd
    refine Go.Sx.V rfl wu rfl rfl (ldA rfl ag24) ?_
    refine Go.Sx.V rfl wu rfl rfl (mv rfl) ?_
    refine Go.Sx.V rfl wu rfl rfl (mv rfl) ?_
    refine Go.Sx.V rfl wu rfl rfl (iadI rfl rfl ty22) ?_
    refine Go.Sx.V rfl wu rfl rfl (ldI rfl na3) ?_
    refine C rfl wu rfl rfl Tryz.call71 (rIn P mo md _ _ (hF.ext hE)) ?_
    rintro _ w6 hE6 rfl
    replace hE := hE.trans hE6
    replace hE1 := hE1.trans hE6
    refine Go.Sx.V rfl wu rfl rfl (neqI rfl rfl) ?_
    refine wr_nil (post_thenN ?_)
    rw [co_gi z (Int.natCast_nonneg i), Int.toNat_natCast]
    refine wc_cond rfl ?_ ?_
    · intro hs
      simp at hs
      rw [if_neg hs] at hst
      refine wc_region [0,1,2] rfl ?_
      refine Go.Sx.V rfl wu rfl rfl (mv rfl) ?_
      refine Go.Sx.V rfl wu rfl rfl (addI rfl rfl) ?_
      refine Go.Sx.V rfl wu rfl rfl (asg rfl) ?_
      refine wr_nil (post_blockN (post_thenN ?_))
      refine wc_region [0,1,2] rfl ?_
      refine Go.Sx.V rfl wu rfl rfl (mv rfl) ?_
      refine Go.Sx.V rfl wu rfl rfl (addI rfl rfl) ?_
      refine Go.Sx.V rfl wu rfl rfl (asg rfl) ?_
      refine wr_nil ?_
      exact post_loopN (i + 1) ⟨rfl, rfl, by rw [hst]; rfl, rfl, trivial⟩ ⟨by omega, hE, hE1⟩ (by omega)
    · intro hs
      simp at hs
      rw [if_pos hs] at hst
      refine wc_skip (post_blockN (post_thenN ?_))
      refine wc_region [0,1,2] rfl ?_
      refine Go.Sx.V rfl wu rfl rfl (mv rfl) ?_
      refine Go.Sx.V rfl wu rfl rfl (addI rfl rfl) ?_
      refine Go.Sx.V rfl wu rfl rfl (asg rfl) ?_
      refine wr_nil ?_
      exact post_loopN (i + 1) ⟨rfl, rfl, by rw [hst]; rfl, rfl, trivial⟩ ⟨by omega, hE, hE1⟩ (by omega)
  · intro hc
    simp at hc
    refine wc_exit (post_thenE (post_loopE (post_blockX (post_thenN (wc_seq ?_)))))
    rw [show i = z.length by omega, cl_tab (fun i hi => co_pz_over hi)]
    have hcl := cl_pz_len (P := P) z
    obtain ⟨f, hf⟩ : ∃ f, pz P z = f := ⟨_, rfl⟩
    rw [hf] at hcl ⊢
    refine wc_region [0,1,2] rfl ?_
    refine Go.Sx.V rfl wu rfl rfl (mv rfl) ?_
    refine MKI (n := (cl f).length) rfl wu rfl rfl ty22 ?_
    intro out w2 hE2 ho hi hob
    refine Go.Sx.V rfl wu rfl rfl (asg rfl) ?_
    refine wr_nil (post_thenN (wc_seq (wc_seq ?_)))
    have hcs := cl_self f
    have hui := hu.ext hE
    rw [← upd_zero' (cl f).length (fun t => (f.co t).1) (fun _ => 0)] at ho
    replace ho := ho.mono hE1.size
    refine wc_region [0] rfl ?_
    refine Go.Sx.V rfl wu rfl rfl (asg rfl) ?_
    refine wr_nil (post_thenN (wc_block ?_))
    have hz : ∀ i : Nat, inK P (gi z i) = f.co i := fun i => by rw [← hf]; exact co_gi z (Int.natCast_nonneg i)
    obtain ⟨n, hnn⟩ : ∃ n, n = (cl f).length := ⟨_, rfl⟩
    rw [← hnn] at hcl hcs ho ⊢
    refine wc_loop (fun i : Nat => [(1, u), (2, .pointer (some ⟨fb, 0, none⟩)), (5, .int .i64 n), (7, out), (8, .int .i64 i)])
      (fun i w' => i ≤ n ∧ Ext w w' ∧ Ext w1 w' ∧ OwnI w1.heap.size w' out 3 (upd n (fun t => (f.co t).1) (fun _ => 0) i)) (fun i => n - i) 0 ⟨rfl, rfl, rfl, rfl, rfl, trivial⟩ ⟨by omega, hE.trans hE2, hE1.trans hE2, ho⟩ ?_
    clear hui
    clear hE hE1 hE2 ho hi hob hui hBi
    clear w2
    clear w4
    rintro i w4 ⟨i1, hE, hE1, ho⟩
    have hui := hu.ext hE
    have hBi := hB.ext hE1
    have hul := upd_length n (fun t => (f.co t).1) (fun _ => 0) i
    try dsimp only
    refine wc_seq (wc_seq ?_)
    refine wc_region [0,1,2] rfl ?_
    refine Go.Sx.V rfl wu rfl rfl (mv rfl) ?_
    refine Go.Sx.V rfl wu rfl rfl (mv rfl) ?_
    refine Go.Sx.V rfl wu rfl rfl (lssI rfl rfl) ?_
    refine wr_nil (post_thenN ?_)
    refine wc_cond rfl ?_ ?_
    · intro hc
      simp at hc
      refine wc_skip (post_thenN (wc_seq (wc_block ?_)))
      refine wc_draw mixed [0,1,2,3,4,5,6,7,8,9] (by kernel_rfl) ?_
      intro w5 hd _
      replace hE := hE.trans hd
      replace hE1 := hE1.trans hd
      replace hui := hui.ext hd
      replace hBi := hBi.ext hd
      replace ho := ho.ext hd
      refine Go.Sx.V rfl wu rfl rfl (mv rfl) ?_
      refine Go.Sx.V rfl wu rfl rfl (mv rfl) ?_
      refine Go.Sx.V rfl wu rfl rfl (ldA rfl ag24) ?_
      refine Go.Sx.V rfl wu rfl rfl (mv rfl) ?_
      refine Go.Sx.V rfl wu rfl rfl (mv rfl) ?_
      refine Go.Sx.V rfl wu rfl rfl (iadI rfl rfl ty22) ?_
      refine Go.Sx.V rfl wu rfl rfl (ldI rfl na3) ?_
      refine C rfl wu rfl rfl Tryz.call71 (rIn P mo md _ _ (hF.ext hE)) ?_
      rintro _ w6 hE6 rfl
      replace hE := hE.trans hE6
      replace hE1 := hE1.trans hE6
      replace ho := Own.ext ho hE6
      have hoi := OwnI.ints ho
      refine Go.Sx.V rfl wu rfl rfl (iadI rfl rfl ty22) ?_
      refine STI rfl wu rfl rfl sz3 (by intro h; kernel_rfl) ?_
      intro w7 hg7 hX7 ho7 hi7
      refine wr_nil (post_blockN (post_thenN ?_))
      rw [hz i] at ho7
      have hst := upd_step (m := n) (f := fun t => (f.co t).1) (g := fun _ => 0) (i := (i : Int)) (by omega)
      rw [Int.toNat_natCast] at hst
      rw [hst] at ho7
      refine wc_region [0,1,2] rfl ?_
      refine Go.Sx.V rfl wu rfl rfl (mv rfl) ?_
      refine Go.Sx.V rfl wu rfl rfl (addI rfl rfl) ?_
      refine Go.Sx.V rfl wu rfl rfl (asg rfl) ?_
      refine wr_nil ?_
      exact post_loopN (i + 1) ⟨rfl, rfl, rfl, rfl, rfl, trivial⟩ ⟨by omega, hX7 _ hsz hE, hX7 _ (Nat.le_refl _) hE1, ho7⟩ (by omega)
    · intro hc
      simp at hc
      refine wc_exit (post_thenE (post_loopE (post_blockX (post_thenN (wc_seq ?_)))))
      rw [upd_last _ _ _ (by omega), hcs] at ho
      refine wc_region [0,1] rfl ?_
      refine Go.Sx.V rfl wu rfl rfl (mv rfl) ?_
      refine Go.Sx.V rfl wu rfl rfl (asg rfl) ?_
      refine wr_nil (post_thenN (wc_ret ?_))
      refine post_ret1 rfl rfl ?_
      exact ⟨hE, ho.mono hsz⟩
theorem rPDegree (P : FP) (mo : Value) (md : List Int) (u : Value) (z : List Int) (w : World) (hF : FV w P mo md) (hu : Ints w u z) (hn : z.length ≤ 17592186044416) :
    Calls Tryz.prog 40 #[fv P mo, u] w (RetX w fun r _ => r = .int .i64 ((cl (pz P z)).length - 1)) := by
  have hcl := cl_pz_len (P := P) z
  refine calls2 Tryz.func40 rfl rfl ?_
  refine wc_seq ?_
  refine wc_region [0,1] rfl ?_
  refine BXA rfl wu rfl rfl ?_
  intro fb w1 hE hB hg
  refine Go.Sx.V rfl wu rfl rfl (asg rfl) ?_
  refine wr_nil (post_thenN (wc_seq ?_))
  refine wc_region [0,1,2,3,4,5] rfl ?_
  refine Go.Sx.V rfl wu rfl rfl (ldA rfl ag24) ?_
  refine Go.Sx.V rfl wu rfl rfl (mv rfl) ?_
  refine C rfl wu rfl rfl Tryz.call41 (rPCanon P mo md u z _ (hF.ext hE) (hu.ext hE) hn) ?_
  intro c w2 hE2 hc
  have hci := OwnI.ints hc
  refine Go.Sx.V rfl wu rfl rfl (lenI rfl ty22) ?_
  refine Go.Sx.V rfl wu rfl rfl (subI rfl rfl) ?_
  refine Go.Sx.V rfl wu rfl rfl (asg rfl) ?_
  refine wr_nil (post_thenN (wc_ret ?_))
  refine post_ret1 rfl rfl ?_
  exact ⟨hE.trans hE2, rfl⟩
set_option maxRecDepth 10000 in
theorem rPEval (P : FP) (mo : Value) (md : List Int) (u : Value) (z : List Int) (x : Int) (w : World) (hF : FV w P mo md) (hu : Ints w u z) :
    Calls Tryz.prog 38 #[fv P mo, u, .int .i64 x] w (RetX w fun r _ => r = .int .i64 (val1 (pz P z) (inK P x)).1) := by
  have hle := hu.le
  refine calls3 Tryz.func38 rfl rfl ?_
  refine wc_seq ?_
  refine wc_region [0,1] rfl ?_
  refine BXA rfl wu rfl rfl ?_
  intro fb w1 hE hB hg
  refine Go.Sx.V rfl wu rfl rfl (asg rfl) ?_
  refine wr_nil (post_thenN (wc_seq ?_))
  refine wc_region [0] rfl ?_
  refine Go.Sx.V rfl wu rfl rfl (asg rfl) ?_
  refine wr_nil (post_thenN (wc_seq ?_))
  refine wc_region [0] rfl ?_
  refine Go.Sx.V rfl wu rfl rfl (asg rfl) ?_
  refine wr_nil (post_thenN (wc_seq (wc_seq ?_)))
  refine wc_region [0] rfl ?_
  refine Go.Sx.V rfl wu rfl rfl (asg rfl) ?_
  refine wr_nil (post_thenN (wc_block ?_))
  refine wc_loop (fun i : Nat => [(1, u), (2, .int .i64 x), (3, .pointer (some ⟨fb, 0, none⟩)), (7, .int .i64 (val1 (Go.Alg.part i (pz P z)) (inK P x)).1), (8, .int .i64 (npow (inK P x) i).1), (9, .int .i64 i)])
    (fun i w' => i ≤ z.length ∧ Ext w w' ∧ Ext w1 w') (fun i => z.length - i) 0 ⟨rfl, rfl, rfl, by rw [val1_part0]; rfl, rfl, rfl, trivial⟩ ⟨by omega, hE, Ext.refl _⟩ ?_
  clear hE
  rintro i w4 ⟨i1, hE, hE1⟩
  have hui := hu.ext hE
  have hBi := hB.ext hE1
  try dsimp only
  refine wc_seq (wc_seq ?_)
  refine wc_region [0,1,2,3] rfl ?_
  refine Go.Sx.V rfl wu rfl rfl (mv rfl) ?_
  refine Go.Sx.V rfl wu rfl rfl (mv rfl) ?_
  refine Go.Sx.V rfl wu rfl rfl (lenI rfl ty22) ?_
  refine Go.Sx.V rfl wu rfl rfl (lssI rfl rfl) ?_
  refine wr_nil (post_thenN ?_)
  refine wc_cond rfl ?_ ?_
  · intro hc
    simp at hc
    have hst := val1_part (P := P) z (inK P x) i
    refine wc_skip (post_thenN (wc_seq (wc_block (wc_seq ?_))))
    refine wc_draw mixed [0,1,2,3,4,5,6,7,8,9,10] (by kernel_rfl) ?_
    intro w5 hd _
    replace hE := hE.trans hd
    replace hE1 := hE1.trans hd
    replace hui := hui.ext hd
    replace hBi := hBi.ext hd
    refine Go.Sx.V rfl wu rfl rfl (ldA rfl ag24) ?_
    refine Go.Sx.V rfl wu rfl rfl (mv rfl) ?_
    refine Go.Sx.V rfl wu rfl rfl (ldA rfl ag24) ?_
    refine Go.Sx.V rfl wu rfl rfl (mv rfl) ?_
    refine Go.Sx.V rfl wu rfl rfl (mv rfl) ?_
    refine Go.Sx.V rfl wu rfl rfl (iadI rfl rfl ty22) ?_
    refine Go.Sx.V rfl wu rfl rfl (ldI rfl na3) ?_
    refine Go.Sx.V rfl wu rfl rfl (mv rfl) ?_
    refine C rfl wu rfl rfl Tryz.call37 (rMul P mo md _ _ _ (hF.ext hE)) ?_
    rintro _ w6 hE6 rfl
    replace hE := hE.trans hE6
    replace hE1 := hE1.trans hE6
    replace hBi := hBi.ext hE6
    refine C rfl wu rfl rfl Tryz.call70 (rAdd P mo md _ _ _ (hF.ext hE)) ?_
    rintro _ w6 hE6 rfl
    replace hE := hE.trans hE6
    replace hE1 := hE1.trans hE6
    replace hBi := hBi.ext hE6
    refine Go.Sx.V rfl wu rfl rfl (asg rfl) ?_
    refine wr_nil (post_thenN ?_)
    refine wc_region [0,1,2,3,4] rfl ?_
    refine Go.Sx.V rfl wu rfl rfl (ldA rfl ag24) ?_
    refine Go.Sx.V rfl wu rfl rfl (mv rfl) ?_
    refine Go.Sx.V rfl wu rfl rfl (mv rfl) ?_
    refine C rfl wu rfl rfl Tryz.call37 (rMul P mo md _ _ _ (hF.ext hE)) ?_
    rintro _ w6 hE6 rfl
    replace hE := hE.trans hE6
    replace hE1 := hE1.trans hE6
    refine Go.Sx.V rfl wu rfl rfl (asg rfl) ?_
    refine wr_nil (post_blockN (post_thenN ?_))
    refine wc_region [0,1,2] rfl ?_
    refine Go.Sx.V rfl wu rfl rfl (mv rfl) ?_
    refine Go.Sx.V rfl wu rfl rfl (addI rfl rfl) ?_
    refine Go.Sx.V rfl wu rfl rfl (asg rfl) ?_
    refine wr_nil ?_
    exact post_loopN (i + 1) ⟨rfl, rfl, rfl, by rw [hst, inK_val, inK_val, inK_val]; rfl, by rw [inK_val]; rfl, rfl, trivial⟩ ⟨by omega, hE, hE1⟩ (by omega)
  · intro hc
    simp at hc
    refine wc_exit (post_thenE (post_loopE (post_blockX (post_thenN (wc_seq ?_)))))
    refine wc_region [0,1] rfl ?_
    refine Go.Sx.V rfl wu rfl rfl (mv rfl) ?_
    refine Go.Sx.V rfl wu rfl rfl (asg rfl) ?_
    refine wr_nil (post_thenN (wc_ret ?_))
    refine post_ret1 rfl rfl ?_
    rw [show i = z.length by omega, val1_all]
    exact ⟨hE, rfl⟩
end Go.Proofs.YtmnojknfjbimdaaGreat

