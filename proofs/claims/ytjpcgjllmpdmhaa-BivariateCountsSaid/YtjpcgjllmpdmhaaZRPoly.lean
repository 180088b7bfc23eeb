/-
  The reference's polynomials, by contract: Canon, Degree, At, Add, Mul, Eval, Scale. Each answers the canonical list of the polynomial that is meant.
-/
import Derived.Test.YtjpcgjllmpdmhaaZMPa
import Derived.Test.YtjpcgjllmpdmhaaZRef6
import Derived.Test.YtjpcgjllmpdmhaaZMTya
namespace Go.Fd
open Go.Pl Go.Alg
variable {P : FP}
theorem tab_succ {α : Type} (n : Nat) (f : Nat → α) : tab (n + 1) f = tab n f ++ [f n] := by simp [tab, List.range_succ]
/-- The length of the canonical list, term by term. -/
theorem cnt_step (f : Pol (K P)) (i : Nat) : (trimL (tab (i + 1) fun t => (f.co t).1)).length = if (f.co i).1 = 0 then (trimL (tab i fun t => (f.co t).1)).length else i + 1 := by
  rw [tab_succ]
  split
  · rename_i h; rw [h, trimL_snoc0]
  · rename_i h
    rw [trimL_snoc h, List.length_append, tab_length]; rfl
theorem cl_self (f : Pol (K P)) : tab (cl f).length (fun t => (f.co t).1) = cl f := by
  have h := list_pz (lo_cl f)
  rw [pz_cl] at h
  exact h.symm
theorem pz_tab {f : Pol (K P)} {m : Nat} (h : ∀ t, m ≤ t → f.co t = 0) : pz P (tab m fun t => (f.co t).1) = f := Pol.ext fun t => by
  rw [co_pz, tab_at]
  split
  · rw [inK_val]
  · rw [h t (by omega)]; exact inK0
theorem val1_part (z : List Int) (x : K P) (i : Nat) : val1 (Go.Alg.part (i + 1) (pz P z)) x = val1 (Go.Alg.part i (pz P z)) x + inK P (gi z i) * npow x i := by
  rw [val1, pev_part Hom.id, mul_comm (npow x i)]; rfl
theorem val1_part0 (f : Pol (K P)) (x : K P) : val1 (Go.Alg.part 0 f) x = 0 := by rw [part_zero]; exact (val1_hom x).zero
theorem val1_all (z : List Int) : Go.Alg.part z.length (pz P z) = pz P z := part_all fun i h => co_pz_over h
end Go.Fd
namespace Go.Proofs.Ytjpcgjllmpdmhaa
open Go Go.Sx Go.Pl Go.RowKit Go.Fd Go.Alg
theorem upd_skp {m : Nat} {f g : Nat → Int} {i : Int} (h0 : 0 ≤ i) (h : f i.toNat = g i.toNat) : upd m f g i = upd m f g (i + 1) := by
  refine tab_congr fun t ht => ?_
  by_cases e : t = i.toNat
  · subst e; rw [if_neg (by omega), if_pos (by omega), h]
  · by_cases h2 : (t : Int) < i
    · rw [if_pos h2, if_pos (by omega)]
    · rw [if_neg h2, if_neg (by omega)]

set_option maxRecDepth 10000 in
theorem rPCanon (P : FP) (mo : Value) (md : List Int) (u : Value) (z : List Int) (w : World) (hF : FV w P mo md) (hu : Ints w u z) (hn : z.length ≤ 17592186044416) :
    Calls Try.prog 32 #[fv P mo, u] w (RetX w fun r w' => OwnI w.heap.size w' r 3 (cl (pz P z))) := by
  refine calls2 Try.func32 rfl rfl ?_
  refine wc_seq ?_
  refine wc_region [0,1] rfl ?_
  refine BXA rfl wu rfl rfl ?_
  intro fb w1 hE hB hg
  refine Go.Sx.V rfl wu rfl rfl (asg rfl) ?_
  refine wr_nil (post_thenN (wc_seq ?_))
  refine wc_region [0] rfl ?_
  refine Go.Sx.V rfl wu rfl rfl (asg rfl) ?_
  refine wr_nil (post_thenN (wc_seq (wc_seq ?_)))
  refine wc_region [0] rfl ?_
  refine Go.Sx.V rfl wu rfl rfl (asg rfl) ?_
  refine wr_nil (post_thenN (wc_block ?_))
  have hsz := hE.size
  refine wc_loop (fun i : Nat => [(1, u), (2, .pointer (some ⟨fb, 0, none⟩)), (5, .int .i64 (trimL (tab i fun t => ((pz P z).co t).1)).length), (6, .int .i64 i)])
    (fun i w' => i ≤ z.length ∧ Ext w w' ∧ Ext w1 w') (fun i => z.length - i) 0 ⟨rfl, rfl, rfl, rfl, trivial⟩ ⟨by omega, hE, Ext.refl _⟩ ?_
  clear hE
  rintro i w4 ⟨i1, hE, hE1⟩
  have hui := hu.ext hE
  have hBi := hB.ext hE1
  try dsimp only
  refine wc_seq (wc_seq ?_)
  refine wc_region [0,1,2,3] rfl ?_
  refine Go.Sx.V rfl wu rfl rfl (mv rfl) ?_
  refine Go.Sx.V rfl wu rfl rfl (mv rfl) ?_
  refine Go.Sx.V rfl wu rfl rfl (lenI rfl ty22) ?_
  refine Go.Sx.V rfl wu rfl rfl (lssI rfl rfl) ?_
  refine wr_nil (post_thenN ?_)
  refine wc_cond rfl ?_ ?_
  · intro hc
    simp at hc
    have hst := cnt_step (pz P z) i
    refine wc_skip (post_thenN (wc_seq (wc_block (wc_seq ?_))))
    refine wc_draw mixed [0,1,2,3,4,5,6] (by kernel_rfl) ?_
    intro w5 hd _
    replace hE := hE.trans hd
    replace hE1 := hE1.trans hd
    replace hui := hui.ext hd
    replace hBi := hBi.ext hd
    refine Go.Sx.V rfl wu rfl rfl (ldA rfl ag24) ?_
    refine Go.Sx.V rfl wu rfl rfl (mv rfl) ?_
    refine Go.Sx.V rfl wu rfl rfl (mv rfl) ?_
    refine Go.Sx.V rfl wu rfl rfl (iadI rfl rfl ty22) ?_
    refine Go.Sx.V rfl wu rfl rfl (ldI rfl na3) ?_
    refine C rfl wu rfl rfl Try.call67 (rIn P mo md _ _ (hF.ext hE)) ?_
    rintro _ w6 hE6 rfl
    replace hE := hE.trans hE6
    replace hE1 := hE1.trans hE6
    refine Go.Sx.V rfl wu rfl rfl (neqI rfl rfl) ?_
    refine wr_nil (post_thenN ?_)
    rw [co_gi z (Int.natCast_nonneg i), Int.toNat_natCast]
    refine wc_cond rfl ?_ ?_
    · intro hs
      simp at hs
      rw [if_neg hs] at hst
      refine wc_region [0,1,2] rfl ?_
      refine Go.Sx.V rfl wu rfl rfl (mv rfl) ?_
      refine Go.Sx.V rfl wu rfl rfl (addI rfl rfl) ?_
      refine Go.Sx.V rfl wu rfl rfl (asg rfl) ?_
      refine wr_nil (post_blockN (post_thenN ?_))
      refine wc_region [0,1,2] rfl ?_
      refine Go.Sx.V rfl wu rfl rfl (mv rfl) ?_
      refine Go.Sx.V rfl wu rfl rfl (addI rfl rfl) ?_
      refine Go.Sx.V rfl wu rfl rfl (asg rfl) ?_
      refine wr_nil ?_
      exact post_loopN (i + 1) ⟨rfl, rfl, by rw [hst]; rfl, rfl, trivial⟩ ⟨by omega, hE, hE1⟩ (by omega)
    · intro hs
      simp at hs
      rw [if_pos hs] at hst
      refine wc_skip (post_blockN (post_thenN ?_))
      refine wc_region [0,1,2] rfl ?_
      refine Go.Sx.V rfl wu rfl rfl (mv rfl) ?_
      refine Go.Sx.V rfl wu rfl rfl (addI rfl rfl) ?_
      refine Go.Sx.V rfl wu rfl rfl (asg rfl) ?_
      refine wr_nil ?_
      exact post_loopN (i + 1) ⟨rfl, rfl, by rw [hst]; rfl, rfl, trivial⟩ ⟨by omega, hE, hE1⟩ (by omega)
  · intro hc
    simp at hc
    refine wc_exit (post_thenE (post_loopE (post_blockX (post_thenN (wc_seq ?_)))))
    rw [show i = z.length by omega, cl_tab (fun i hi => co_pz_over hi)]
    have hcl := cl_pz_len (P := P) z
    obtain ⟨f, hf⟩ : ∃ f, pz P z = f := ⟨_, rfl⟩
    rw [hf] at hcl ⊢
    refine wc_region [0,1,2] rfl ?_
    refine Go.Sx.V rfl wu rfl rfl (mv rfl) ?_
    refine MKI (n := (cl f).length) rfl wu rfl rfl ty22 ?_
    intro out w2 hE2 ho hi hob
    refine Go.Sx.V rfl wu rfl rfl (asg rfl) ?_
    refine wr_nil (post_thenN (wc_seq (wc_seq ?_)))
    have hcs := cl_self f
    have hui := hu.ext hE
    rw [← upd_zero' (cl f).length (fun t => (f.co t).1) (fun _ => 0)] at ho
    replace ho := ho.mono hE1.size
    refine wc_region [0] rfl ?_
    refine Go.Sx.V rfl wu rfl rfl (asg rfl) ?_
    refine wr_nil (post_thenN (wc_block ?_))
    have hz : ∀ i : Nat, inK P (gi z i) = f.co i := fun i => by rw [← hf]; exact co_gi z (Int.natCast_nonneg i)
    obtain ⟨n, hnn⟩ : ∃ n, n = (cl f).length := ⟨_, rfl⟩
    rw [← hnn] at hcl hcs ho ⊢
    refine wc_loop (fun i : Nat => [(1, u), (2, .pointer (some ⟨fb, 0, none⟩)), (5, .int .i64 n), (7, out), (8, .int .i64 i)])
      (fun i w' => i ≤ n ∧ Ext w w' ∧ Ext w1 w' ∧ OwnI w1.heap.size w' out 3 (upd n (fun t => (f.co t).1) (fun _ => 0) i)) (fun i => n - i) 0 ⟨rfl, rfl, rfl, rfl, rfl, trivial⟩ ⟨by omega, hE.trans hE2, hE1.trans hE2, ho⟩ ?_
    clear hui
    clear hE hE1 hE2 ho hi hob hui hBi
    clear w2
    clear w4
    rintro i w4 ⟨i1, hE, hE1, ho⟩
    have hui := hu.ext hE
    have hBi := hB.ext hE1
    have hul := upd_length n (fun t => (f.co t).1) (fun _ => 0) i
    try dsimp only
    refine wc_seq (wc_seq ?_)
    refine wc_region [0,1,2] rfl ?_
    refine Go.Sx.V rfl wu rfl rfl (mv rfl) ?_
    refine Go.Sx.V rfl wu rfl rfl (mv rfl) ?_
    refine Go.Sx.V rfl wu rfl rfl (lssI rfl rfl) ?_
    refine wr_nil (post_thenN ?_)
    refine wc_cond rfl ?_ ?_
    · intro hc
      simp at hc
      refine wc_skip (post_thenN (wc_seq (wc_block ?_)))
      refine wc_draw mixed [0,1,2,3,4,5,6,7,8,9] (by kernel_rfl) ?_
      intro w5 hd _
      replace hE := hE.trans hd
      replace hE1 := hE1.trans hd
      replace hui := hui.ext hd
      replace hBi := hBi.ext hd
      replace ho := ho.ext hd
      refine Go.Sx.V rfl wu rfl rfl (mv rfl) ?_
      refine Go.Sx.V rfl wu rfl rfl (mv rfl) ?_
      refine Go.Sx.V rfl wu rfl rfl (ldA rfl ag24) ?_
      refine Go.Sx.V rfl wu rfl rfl (mv rfl) ?_
      refine Go.Sx.V rfl wu rfl rfl (mv rfl) ?_
      refine Go.Sx.V rfl wu rfl rfl (iadI rfl rfl ty22) ?_
      refine Go.Sx.V rfl wu rfl rfl (ldI rfl na3) ?_
      refine C rfl wu rfl rfl Try.call67 (rIn P mo md _ _ (hF.ext hE)) ?_
      rintro _ w6 hE6 rfl
      replace hE := hE.trans hE6
      replace hE1 := hE1.trans hE6
      replace ho := Own.ext ho hE6
      have hoi := OwnI.ints ho
      refine Go.Sx.V rfl wu rfl rfl (iadI rfl rfl ty22) ?_
      refine STI rfl wu rfl rfl sz3 (by intro h; kernel_rfl) ?_
      intro w7 hg7 hX7 ho7 hi7
      refine wr_nil (post_blockN (post_thenN ?_))
      rw [hz i] at ho7
      have hst := upd_step (m := n) (f := fun t => (f.co t).1) (g := fun _ => 0) (i := (i : Int)) (by omega)
      rw [Int.toNat_natCast] at hst
      rw [hst] at ho7
      refine wc_region [0,1,2] rfl ?_
      refine Go.Sx.V rfl wu rfl rfl (mv rfl) ?_
      refine Go.Sx.V rfl wu rfl rfl (addI rfl rfl) ?_
      refine Go.Sx.V rfl wu rfl rfl (asg rfl) ?_
      refine wr_nil ?_
      exact post_loopN (i + 1) ⟨rfl, rfl, rfl, rfl, rfl, trivial⟩ ⟨by omega, hX7 _ hsz hE, hX7 _ (Nat.le_refl _) hE1, ho7⟩ (by omega)
    · intro hc
      simp at hc
      refine wc_exit (post_thenE (post_loopE (post_blockX (post_thenN (wc_seq ?_)))))
      rw [upd_last _ _ _ (by omega), hcs] at ho
      refine wc_region [0,1] rfl ?_
      refine Go.Sx.V rfl wu rfl rfl (mv rfl) ?_
      refine Go.Sx.V rfl wu rfl rfl (asg rfl) ?_
      refine wr_nil (post_thenN (wc_ret ?_))
      refine post_ret1 rfl rfl ?_
      exact ⟨hE, ho.mono hsz⟩

theorem rPDegree (P : FP) (mo : Value) (md : List Int) (u : Value) (z : List Int) (w : World) (hF : FV w P mo md) (hu : Ints w u z) (hn : z.length ≤ 17592186044416) :
    Calls Try.prog 35 #[fv P mo, u] w (RetX w fun r _ => r = .int .i64 ((cl (pz P z)).length - 1)) := by
  have hcl := cl_pz_len (P := P) z
  refine calls2 Try.func35 rfl rfl ?_
  refine wc_seq ?_
  refine wc_region [0,1] rfl ?_
  refine BXA rfl wu rfl rfl ?_
  intro fb w1 hE hB hg
  refine Go.Sx.V rfl wu rfl rfl (asg rfl) ?_
  refine wr_nil (post_thenN (wc_seq ?_))
  refine wc_region [0,1,2,3,4,5] rfl ?_
  refine Go.Sx.V rfl wu rfl rfl (ldA rfl ag24) ?_
  refine Go.Sx.V rfl wu rfl rfl (mv rfl) ?_
  refine C rfl wu rfl rfl Try.call32 (rPCanon P mo md u z _ (hF.ext hE) (hu.ext hE) hn) ?_
  intro c w2 hE2 hc
  have hci := OwnI.ints hc
  refine Go.Sx.V rfl wu rfl rfl (lenI rfl ty22) ?_
  refine Go.Sx.V rfl wu rfl rfl (subI rfl rfl) ?_
  refine Go.Sx.V rfl wu rfl rfl (asg rfl) ?_
  refine wr_nil (post_thenN (wc_ret ?_))
  refine post_ret1 rfl rfl ?_
  exact ⟨hE.trans hE2, rfl⟩

set_option maxRecDepth 10000 in
theorem rPAt (P : FP) (mo : Value) (md : List Int) (u : Value) (z : List Int) (i : Int) (w : World) (hF : FV w P mo md) (hu : Ints w u z) (hi : 0 ≤ i) :
    Calls Try.prog 68 #[fv P mo, u, .int .i64 i] w (RetX w fun r _ => r = .int .i64 ((pz P z).co i.toNat).1) := by
  refine calls3 Try.func68 rfl rfl ?_
  refine wc_seq ?_
  refine wc_region [0,1] rfl ?_
  refine BXA rfl wu rfl rfl ?_
  intro fb w1 hE hB hg
  refine Go.Sx.V rfl wu rfl rfl (asg rfl) ?_
  refine wr_nil (post_thenN (wc_seq (wc_seq ?_)))
  have hui := hu.ext hE
  refine wc_region [0,1,2,3,4,5,6,7] rfl ?_
  refine Go.Sx.V rfl wu rfl rfl (mv rfl) ?_
  refine Go.Sx.V rfl wu rfl rfl (lssI rfl rfl) ?_
  refine Go.Sx.V rfl wu rfl rfl (mv rfl) ?_
  refine OR (π1 := [3,4,5,6,7]) (π2 := []) (tc := 9) (tp := 14) rfl rfl rfl (by
      intro _
      refine SK rfl rfl rfl rfl rfl ?_
      refine SK rfl rfl rfl rfl rfl ?_
      refine SK rfl rfl rfl rfl rfl ?_
      refine SK rfl rfl rfl rfl rfl ?_
      refine Go.Sx.V rfl wu rfl rfl (pk rfl rfl) ?_
      exact join rfl) (by
      intro hg
      simp at hg
      refine Go.Sx.V rfl (wg rfl rfl) rfl rfl (mv rfl) ?_
      refine Go.Sx.V rfl (wg rfl rfl) rfl rfl (mv rfl) ?_
      refine Go.Sx.V rfl (wg rfl rfl) rfl rfl (lenI rfl ty22) ?_
      refine Go.Sx.V rfl (wg rfl rfl) rfl rfl (geqI rfl rfl) ?_
      refine Go.Sx.V rfl wu rfl rfl (pk rfl rfl) ?_
      exact join rfl) ?_
  refine wr_nil (post_thenN ?_)
  refine wc_cond rfl ?_ ?_
  · intro h
    simp at h
    refine wc_seq ?_
    refine wc_region [0] rfl ?_
    refine Go.Sx.V rfl wu rfl rfl (asg rfl) ?_
    refine wr_nil (post_thenN (wc_ret (post_thenR ?_)))
    refine post_ret1 rfl rfl ?_
    exact ⟨hE, by rw [co_pz_over (by omega)]; rfl⟩
  · intro h
    simp at h
    refine wc_skip (post_thenN (wc_seq ?_))
    refine wc_draw mixed [0,1,2,3,4,5,6] (by kernel_rfl) ?_
    intro w2 hd _
    replace hE := hE.trans hd
    replace hB := hB.ext hd
    replace hui := hui.ext hd
    refine Go.Sx.V rfl wu rfl rfl (ldA rfl ag24) ?_
    refine Go.Sx.V rfl wu rfl rfl (mv rfl) ?_
    refine Go.Sx.V rfl wu rfl rfl (mv rfl) ?_
    refine Go.Sx.V rfl wu rfl rfl (iadI rfl rfl ty22) ?_
    refine Go.Sx.V rfl wu rfl rfl (ldI rfl na3) ?_
    refine C rfl wu rfl rfl Try.call67 (rIn P mo md _ _ (hF.ext hE)) ?_
    rintro _ w3 hE3 rfl
    replace hE := hE.trans hE3
    refine Go.Sx.V rfl wu rfl rfl (asg rfl) ?_
    refine wr_nil (post_thenN (wc_ret ?_))
    refine post_ret1 rfl rfl ?_
    exact ⟨hE, by rw [co_gi z hi]⟩

set_option maxRecDepth 10000 in
theorem rPAdd (P : FP) (mo : Value) (md : List Int) (u v : Value) (a b : List Int) (w : World) (hF : FV w P mo md) (hu : Ints w u a) (hv : Ints w v b) (hn : a.length ≤ 17592186044416) (hm : b.length ≤ 17592186044416) :
    Calls Try.prog 59 #[fv P mo, u, v] w (RetX w fun r w' => OwnI w.heap.size w' r 3 (cl (pz P a + pz P b))) := by
  obtain ⟨m, hmm⟩ : ∃ m : Nat, m = max a.length b.length := ⟨_, rfl⟩
  refine calls3 Try.func59 rfl rfl ?_
  refine wc_seq ?_
  refine wc_region [0,1] rfl ?_
  refine BXA rfl wu rfl rfl ?_
  intro fb w1 hE hB hg
  refine Go.Sx.V rfl wu rfl rfl (asg rfl) ?_
  refine wr_nil (post_thenN (wc_seq ?_))
  have hsz := hE.size
  refine wc_region [0,1,2,3,4,5,6] rfl ?_
  refine Go.Sx.V rfl wu rfl rfl (mv rfl) ?_
  refine Go.Sx.V rfl wu rfl rfl (lenI rfl ty22) ?_
  refine Go.Sx.V rfl wu rfl rfl (mv rfl) ?_
  refine Go.Sx.V rfl wu rfl rfl (lenI rfl ty22) ?_
  refine Go.Sx.V rfl wu rfl rfl (maxI rfl rfl) ?_
  refine MKI (n := m) rfl wu rfl rfl ty22 ?_
  intro out w2 hE2 ho hi hob
  refine Go.Sx.V rfl wu rfl rfl (asg rfl) ?_
  refine wr_nil (post_thenN (wc_seq (wc_seq ?_)))
  rw [← upd_zero' m (fun t => ((pz P a + pz P b).co t).1) (fun _ => 0)] at ho
  refine wc_region [0] rfl ?_
  refine Go.Sx.V rfl wu rfl rfl (asg rfl) ?_
  refine wr_nil (post_thenN (wc_block ?_))
  refine wc_loop (fun i : Nat => [(1, u), (2, v), (3, .pointer (some ⟨fb, 0, none⟩)), (7, out), (8, .int .i64 i)])
    (fun i w' => i ≤ m ∧ Ext w w' ∧ Ext w1 w' ∧ OwnI w1.heap.size w' out 3 (upd m (fun t => ((pz P a + pz P b).co t).1) (fun _ => 0) i)) (fun i => m - i) 0 ⟨rfl, rfl, rfl, rfl, rfl, trivial⟩ ⟨by omega, hE.trans hE2, hE2, ho⟩ ?_
  clear hE hE2 ho hi hob
  clear w2
  rintro i w4 ⟨i1, hE, hE1, ho⟩
  have hui := hu.ext hE
  have hvi := hv.ext hE
  have hBi := hB.ext hE1
  have hul := upd_length m (fun t => ((pz P a + pz P b).co t).1) (fun _ => 0) i
  have hoi := OwnI.ints ho
  try dsimp only
  refine wc_seq (wc_seq ?_)
  refine wc_region [0,1,2,3] rfl ?_
  refine Go.Sx.V rfl wu rfl rfl (mv rfl) ?_
  refine Go.Sx.V rfl wu rfl rfl (mv rfl) ?_
  refine Go.Sx.V rfl wu rfl rfl (lenI rfl ty22) ?_
  refine Go.Sx.V rfl wu rfl rfl (lssI rfl rfl) ?_
  refine wr_nil (post_thenN ?_)
  rw [hul]
  refine wc_cond rfl ?_ ?_
  · intro hc
    simp at hc
    refine wc_skip (post_thenN (wc_seq (wc_block ?_)))
    clear hoi
    refine wc_draw mixed [0,1,2,3,4,5,7,8,9,6,10,11,12,13] (by kernel_rfl) ?_
    intro w5 hd _
    replace hE := hE.trans hd
    replace hE1 := hE1.trans hd
    replace hui := hui.ext hd
    replace hvi := hvi.ext hd
    replace hBi := hBi.ext hd
    replace ho := ho.ext hd
    refine Go.Sx.V rfl wu rfl rfl (mv rfl) ?_
    refine Go.Sx.V rfl wu rfl rfl (mv rfl) ?_
    refine Go.Sx.V rfl wu rfl rfl (ldA rfl ag24) ?_
    refine Go.Sx.V rfl wu rfl rfl (ldA rfl ag24) ?_
    refine Go.Sx.V rfl wu rfl rfl (mv rfl) ?_
    refine Go.Sx.V rfl wu rfl rfl (mv rfl) ?_
    refine Go.Sx.V rfl wu rfl rfl (ldA rfl ag24) ?_
    refine Go.Sx.V rfl wu rfl rfl (mv rfl) ?_
    refine Go.Sx.V rfl wu rfl rfl (mv rfl) ?_
    refine C rfl wu rfl rfl Try.call68 (rPAt P mo md u a i _ (hF.ext hE) hui (by omega)) ?_
    rintro _ w6 hE6 rfl
    replace hE := hE.trans hE6
    replace hE1 := hE1.trans hE6
    replace ho := Own.ext ho hE6
    replace hvi := hvi.ext hE6
    refine C rfl wu rfl rfl Try.call68 (rPAt P mo md v b i _ (hF.ext hE) hvi (by omega)) ?_
    rintro _ w6 hE6 rfl
    replace hE := hE.trans hE6
    replace hE1 := hE1.trans hE6
    replace ho := Own.ext ho hE6
    refine C rfl wu rfl rfl Try.call40 (rAdd P mo md _ _ _ (hF.ext hE)) ?_
    rintro _ w6 hE6 rfl
    replace hE := hE.trans hE6
    replace hE1 := hE1.trans hE6
    replace ho := Own.ext ho hE6
    have hoi := OwnI.ints ho
    refine Go.Sx.V rfl wu rfl rfl (iadI rfl rfl ty22) ?_
    refine STI rfl wu rfl rfl sz3 (by intro h; kernel_rfl) ?_
    intro w7 hg7 hX7 ho7 hi7
    refine wr_nil (post_blockN (post_thenN ?_))
    rw [inK_val, inK_val, Int.toNat_natCast] at ho7
    have hst := upd_step (m := m) (f := fun t => ((pz P a + pz P b).co t).1) (g := fun _ => 0) (i := (i : Int)) (by omega)
    rw [Int.toNat_natCast, co_add] at hst
    rw [hst] at ho7
    refine wc_region [0,1,2] rfl ?_
    refine Go.Sx.V rfl wu rfl rfl (mv rfl) ?_
    refine Go.Sx.V rfl wu rfl rfl (addI rfl rfl) ?_
    refine Go.Sx.V rfl wu rfl rfl (asg rfl) ?_
    refine wr_nil ?_
    exact post_loopN (i + 1) ⟨rfl, rfl, rfl, rfl, rfl, trivial⟩ ⟨by omega, hX7 _ hsz hE, hX7 _ (Nat.le_refl _) hE1, ho7⟩ (by omega)
  · intro hc
    simp at hc
    refine wc_exit (post_thenE (post_loopE (post_blockX (post_thenN (wc_seq ?_)))))
    rw [upd_last _ _ _ (by omega)] at ho
    refine wc_region [0,1,2,3] rfl ?_
    refine Go.Sx.V rfl wu rfl rfl (ldA rfl ag24) ?_
    refine Go.Sx.V rfl wu rfl rfl (mv rfl) ?_
    refine C rfl wu rfl rfl Try.call32 (rPCanon P mo md out _ _ (hF.ext hE) (OwnI.ints ho) (by rw [tab_length]; omega)) ?_
    intro c w6 hE6 hc
    refine Go.Sx.V rfl wu rfl rfl (asg rfl) ?_
    refine wr_nil (post_thenN (wc_ret ?_))
    refine post_ret1 rfl rfl ?_
    rw [pz_tab (fun t ht => by rw [co_add, co_pz_over (by omega), co_pz_over (by omega), zero_add])] at hc
    exact ⟨hE.trans hE6, hc.mono hE.size⟩

set_option maxRecDepth 10000 in
theorem rPScale (P : FP) (mo : Value) (md : List Int) (u : Value) (x : Int) (a : List Int) (w : World) (hF : FV w P mo md) (hu : Ints w u a) (hn : a.length ≤ 17592186044416) :
    Calls Try.prog 36 #[fv P mo, .int .i64 x, u] w (RetX w fun r w' => OwnI w.heap.size w' r 3 (cl (pC (inK P x) * pz P a))) := by
  obtain ⟨m, hmm⟩ : ∃ m : Nat, m = a.length := ⟨_, rfl⟩
  refine calls3 Try.func36 rfl rfl ?_
  refine wc_seq ?_
  refine wc_region [0,1] rfl ?_
  refine BXA rfl wu rfl rfl ?_
  intro fb w1 hE hB hg
  refine Go.Sx.V rfl wu rfl rfl (asg rfl) ?_
  refine wr_nil (post_thenN (wc_seq ?_))
  have hsz := hE.size
  refine wc_region [0,1,2,3] rfl ?_
  refine Go.Sx.V rfl wu rfl rfl (mv rfl) ?_
  refine Go.Sx.V rfl wu rfl rfl (lenI rfl ty22) ?_
  refine MKI (n := m) rfl wu rfl rfl ty22 ?_
  intro out w2 hE2 ho hi hob
  refine Go.Sx.V rfl wu rfl rfl (asg rfl) ?_
  refine wr_nil (post_thenN (wc_seq (wc_seq ?_)))
  rw [← upd_zero' m (fun t => ((pC (inK P x) * pz P a).co t).1) (fun _ => 0)] at ho
  refine wc_region [0] rfl ?_
  refine Go.Sx.V rfl wu rfl rfl (asg rfl) ?_
  refine wr_nil (post_thenN (wc_block ?_))
  refine wc_loop (fun i : Nat => [(1, .int .i64 x), (2, u), (3, .pointer (some ⟨fb, 0, none⟩)), (7, out), (8, .int .i64 i)])
    (fun i w' => i ≤ m ∧ Ext w w' ∧ Ext w1 w' ∧ OwnI w1.heap.size w' out 3 (upd m (fun t => ((pC (inK P x) * pz P a).co t).1) (fun _ => 0) i)) (fun i => m - i) 0 ⟨rfl, rfl, rfl, rfl, rfl, trivial⟩ ⟨by omega, hE.trans hE2, hE2, ho⟩ ?_
  clear hE hE2 ho hi hob
  clear w2
  rintro i w4 ⟨i1, hE, hE1, ho⟩
  have hui := hu.ext hE
  have hBi := hB.ext hE1
  have hul := upd_length m (fun t => ((pC (inK P x) * pz P a).co t).1) (fun _ => 0) i
  try dsimp only
  refine wc_seq (wc_seq ?_)
  refine wc_region [0,1,2,3] rfl ?_
  refine Go.Sx.V rfl wu rfl rfl (mv rfl) ?_
  refine Go.Sx.V rfl wu rfl rfl (mv rfl) ?_
  refine Go.Sx.V rfl wu rfl rfl (lenI rfl ty22) ?_
  refine Go.Sx.V rfl wu rfl rfl (lssI rfl rfl) ?_
  refine wr_nil (post_thenN ?_)
  refine wc_cond rfl ?_ ?_
  · intro hc
    simp at hc
    refine wc_skip (post_thenN (wc_seq (wc_block ?_)))
    refine wc_draw mixed [0,1,2,3,4,5,6,7,8,9,10] (by kernel_rfl) ?_
    intro w5 hd _
    replace hE := hE.trans hd
    replace hE1 := hE1.trans hd
    replace hui := hui.ext hd
    replace hBi := hBi.ext hd
    replace ho := ho.ext hd
    refine Go.Sx.V rfl wu rfl rfl (mv rfl) ?_
    refine Go.Sx.V rfl wu rfl rfl (mv rfl) ?_
    refine Go.Sx.V rfl wu rfl rfl (ldA rfl ag24) ?_
    refine Go.Sx.V rfl wu rfl rfl (mv rfl) ?_
    refine Go.Sx.V rfl wu rfl rfl (mv rfl) ?_
    refine Go.Sx.V rfl wu rfl rfl (mv rfl) ?_
    refine Go.Sx.V rfl wu rfl rfl (iadI rfl rfl ty22) ?_
    refine Go.Sx.V rfl wu rfl rfl (ldI rfl na3) ?_
    refine C rfl wu rfl rfl Try.call41 (rMul P mo md _ _ _ (hF.ext hE)) ?_
    rintro _ w6 hE6 rfl
    replace hE := hE.trans hE6
    replace hE1 := hE1.trans hE6
    replace ho := Own.ext ho hE6
    have hoi := OwnI.ints ho
    refine Go.Sx.V rfl wu rfl rfl (iadI rfl rfl ty22) ?_
    refine STI rfl wu rfl rfl sz3 (by intro h; kernel_rfl) ?_
    intro w7 hg7 hX7 ho7 hi7
    refine wr_nil (post_blockN (post_thenN ?_))
    rw [co_gi a (Int.natCast_nonneg i), Int.toNat_natCast] at ho7
    have hst := upd_step (m := m) (f := fun t => ((pC (inK P x) * pz P a).co t).1) (g := fun _ => 0) (i := (i : Int)) (by omega)
    rw [Int.toNat_natCast, co_pC_mul] at hst
    rw [hst] at ho7
    refine wc_region [0,1,2] rfl ?_
    refine Go.Sx.V rfl wu rfl rfl (mv rfl) ?_
    refine Go.Sx.V rfl wu rfl rfl (addI rfl rfl) ?_
    refine Go.Sx.V rfl wu rfl rfl (asg rfl) ?_
    refine wr_nil ?_
    exact post_loopN (i + 1) ⟨rfl, rfl, rfl, rfl, rfl, trivial⟩ ⟨by omega, hX7 _ hsz hE, hX7 _ (Nat.le_refl _) hE1, ho7⟩ (by omega)
  · intro hc
    simp at hc
    refine wc_exit (post_thenE (post_loopE (post_blockX (post_thenN (wc_seq ?_)))))
    rw [upd_last _ _ _ (by omega)] at ho
    refine wc_region [0,1,2,3] rfl ?_
    refine Go.Sx.V rfl wu rfl rfl (ldA rfl ag24) ?_
    refine Go.Sx.V rfl wu rfl rfl (mv rfl) ?_
    refine C rfl wu rfl rfl Try.call32 (rPCanon P mo md out _ _ (hF.ext hE) (OwnI.ints ho) (by rw [tab_length]; omega)) ?_
    intro c w6 hE6 hc
    refine Go.Sx.V rfl wu rfl rfl (asg rfl) ?_
    refine wr_nil (post_thenN (wc_ret ?_))
    refine post_ret1 rfl rfl ?_
    rw [pz_tab (fun t ht => by rw [co_pC_mul, co_pz_over (by omega), mul_zero])] at hc
    exact ⟨hE.trans hE6, hc.mono hE.size⟩

set_option maxRecDepth 10000 in
theorem rPMul (P : FP) (mo : Value) (md : List Int) (u v : Value) (a b : List Int) (w : World) (hF : FV w P mo md) (hu : Ints w u a) (hv : Ints w v b) (hn : a.length ≤ 4398046511104) (hm : b.length ≤ 4398046511104) :
    Calls Try.prog 62 #[fv P mo, u, v] w (RetX w fun r w' => OwnI w.heap.size w' r 3 (cl (pz P a * pz P b))) := by
  have hla := cl_pz_len (P := P) a
  have hlb := cl_pz_len (P := P) b
  refine calls3 Try.func62 rfl rfl ?_
  refine wc_seq ?_
  refine wc_region [0,1] rfl ?_
  refine BXA rfl wu rfl rfl ?_
  intro fb w0 hE0 hB hg
  refine Go.Sx.V rfl wu rfl rfl (asg rfl) ?_
  refine wr_nil (post_thenN (wc_seq ?_))
  refine wc_region [0,1,2,3] rfl ?_
  refine Go.Sx.V rfl wu rfl rfl (ldA rfl ag24) ?_
  refine Go.Sx.V rfl wu rfl rfl (mv rfl) ?_
  refine C rfl wu rfl rfl Try.call32 (rPCanon P mo md u a _ (hF.ext hE0) (hu.ext hE0) (by omega)) ?_
  intro p w1 hE1 hp
  replace hB := hB.ext hE1
  replace hE0 := hE0.trans hE1
  refine Go.Sx.V rfl wu rfl rfl (asg rfl) ?_
  refine wr_nil (post_thenN (wc_seq ?_))
  refine wc_region [0,1,2,3] rfl ?_
  refine Go.Sx.V rfl wu rfl rfl (ldA rfl ag24) ?_
  refine Go.Sx.V rfl wu rfl rfl (mv rfl) ?_
  refine C rfl wu rfl rfl Try.call32 (rPCanon P mo md v b _ (hF.ext hE0) (hv.ext hE0) (by omega)) ?_
  intro q w2 hE2 hq
  replace hB := hB.ext hE2
  replace hE0 := hE0.trans hE2
  refine Go.Sx.V rfl wu rfl rfl (asg rfl) ?_
  refine wr_nil (post_thenN (wc_seq ?_))
  replace hp := (OwnI.ints hp).ext hE2
  replace hq := OwnI.ints hq
  clear hE2 hE1
  generalize pz P a = f at *
  generalize pz P b = h at *
  obtain ⟨p0, hp0⟩ : ∃ l, l = cl f := ⟨_, rfl⟩
  obtain ⟨q0, hq0⟩ : ∃ l, l = cl h := ⟨_, rfl⟩
  rw [← hp0] at hp hla
  rw [← hq0] at hq hlb
  obtain ⟨N, hN⟩ : ∃ N, N = p0.length + q0.length := ⟨_, rfl⟩
  have hsz := hE0.size
  refine wc_region [0,1,2,3,4,5,6] rfl ?_
  refine Go.Sx.V rfl wu rfl rfl (mv rfl) ?_
  refine Go.Sx.V rfl wu rfl rfl (lenI rfl ty22) ?_
  refine Go.Sx.V rfl wu rfl rfl (mv rfl) ?_
  refine Go.Sx.V rfl wu rfl rfl (lenI rfl ty22) ?_
  refine Go.Sx.V rfl wu rfl rfl (addI rfl rfl) ?_
  refine MKI (n := N) rfl wu rfl rfl ty22 ?_
  intro out w3 hE ho hi hob
  refine Go.Sx.V rfl wu rfl rfl (asg rfl) ?_
  refine wr_nil (post_thenN (wc_seq (wc_seq ?_)))
  rw [← mstL_zero f h N] at ho
  refine wc_region [0] rfl ?_
  refine Go.Sx.V rfl wu rfl rfl (asg rfl) ?_
  refine wr_nil (post_thenN (wc_block ?_))
  refine wc_loop (fun i : Nat => [(1, p), (2, q), (3, .pointer (some ⟨fb, 0, none⟩)), (7, out), (8, .int .i64 i)])
    (fun i w' => i ≤ p0.length ∧ Ext w w' ∧ Ext w2 w' ∧ OwnI w2.heap.size w' out 3 (mstL f h N i 0)) (fun i => p0.length - i) 0 ⟨rfl, rfl, rfl, rfl, rfl, trivial⟩ ⟨by omega, hE0.trans hE, hE, ho⟩ ?_
  clear hE ho hi hE0
  rintro i w4 ⟨i1, hE, hE2, ho⟩
  have hpi := hp.ext hE2
  try dsimp only
  refine wc_seq (wc_seq ?_)
  refine wc_region [0,1,2,3] rfl ?_
  refine Go.Sx.V rfl wu rfl rfl (mv rfl) ?_
  refine Go.Sx.V rfl wu rfl rfl (mv rfl) ?_
  refine Go.Sx.V rfl wu rfl rfl (lenI rfl ty22) ?_
  refine Go.Sx.V rfl wu rfl rfl (lssI rfl rfl) ?_
  refine wr_nil (post_thenN ?_)
  refine wc_cond rfl ?_ ?_
  · intro hc
    simp at hc
    refine wc_skip (post_thenN (wc_seq (wc_block (wc_seq ?_))))
    have ha : inK P (gi p0 i) = f.co i := by rw [hp0]; exact cl_at f i
    refine wc_region [0] rfl ?_
    refine Go.Sx.V rfl wu rfl rfl (asg rfl) ?_
    refine wr_nil (post_thenN (wc_block ?_))
    refine wc_loop (fun j : Nat => [(1, p), (2, q), (3, .pointer (some ⟨fb, 0, none⟩)), (7, out), (8, .int .i64 i), (9, .int .i64 j)])
      (fun j w' => j ≤ q0.length ∧ Ext w w' ∧ Ext w2 w' ∧ OwnI w2.heap.size w' out 3 (mstL f h N i j)) (fun j => q0.length - j) 0 ⟨rfl, rfl, rfl, rfl, rfl, rfl, trivial⟩ ⟨by omega, hE, hE2, ho⟩ ?_
    clear hE hE2 ho hpi
    clear w4
    rintro j w4 ⟨j1, hE, hE2, ho⟩
    have hpi := hp.ext hE2
    have hqi := hq.ext hE2
    have hBi := hB.ext hE2
    have hoi := OwnI.ints ho
    have hl := mstL_length f h N i j
    try dsimp only
    refine wc_seq (wc_seq ?_)
    refine wc_region [0,1,2,3] rfl ?_
    refine Go.Sx.V rfl wu rfl rfl (mv rfl) ?_
    refine Go.Sx.V rfl wu rfl rfl (mv rfl) ?_
    refine Go.Sx.V rfl wu rfl rfl (lenI rfl ty22) ?_
    refine Go.Sx.V rfl wu rfl rfl (lssI rfl rfl) ?_
    refine wr_nil (post_thenN ?_)
    refine wc_cond rfl ?_ ?_
    · intro hc2
      simp at hc2
      have hb : inK P (gi q0 j) = h.co j := by rw [hq0]; exact cl_at h j
      have g1 := mstL_get (f := f) (h := h) (N := N) (i := i) (j := j) (by omega)
      refine wc_skip (post_thenN (wc_seq (wc_block ?_)))
      refine wc_draw mixed [0,1,2,3,4,5,6,7,8,9,10,11,12,13,14,15,16,17,18,19,20,21,22,23] (by kernel_rfl) ?_
      intro w5 hd _
      replace hE := hE.trans hd
      replace hE2 := hE2.trans hd
      replace hpi := hpi.ext hd
      replace hqi := hqi.ext hd
      replace hBi := hBi.ext hd
      replace hoi := hoi.ext hd
      replace ho := ho.ext hd
      refine Go.Sx.V rfl wu rfl rfl (mv rfl) ?_
      refine Go.Sx.V rfl wu rfl rfl (mv rfl) ?_
      refine Go.Sx.V rfl wu rfl rfl (mv rfl) ?_
      refine Go.Sx.V rfl wu rfl rfl (addI rfl rfl) ?_
      refine Go.Sx.V rfl wu rfl rfl (ldA rfl ag24) ?_
      refine Go.Sx.V rfl wu rfl rfl (mv rfl) ?_
      refine Go.Sx.V rfl wu rfl rfl (mv rfl) ?_
      refine Go.Sx.V rfl wu rfl rfl (mv rfl) ?_
      refine Go.Sx.V rfl wu rfl rfl (addI rfl rfl) ?_
      refine Go.Sx.V rfl wu rfl rfl (iadI rfl rfl ty22) ?_
      refine Go.Sx.V rfl wu rfl rfl (ldI rfl na3 hoi) ?_
      refine Go.Sx.V rfl wu rfl rfl (ldA rfl ag24) ?_
      refine Go.Sx.V rfl wu rfl rfl (mv rfl) ?_
      refine Go.Sx.V rfl wu rfl rfl (mv rfl) ?_
      refine Go.Sx.V rfl wu rfl rfl (iadI rfl rfl ty22) ?_
      refine Go.Sx.V rfl wu rfl rfl (ldI rfl na3 hpi) ?_
      refine Go.Sx.V rfl wu rfl rfl (mv rfl) ?_
      refine Go.Sx.V rfl wu rfl rfl (mv rfl) ?_
      refine Go.Sx.V rfl wu rfl rfl (iadI rfl rfl ty22) ?_
      refine Go.Sx.V rfl wu rfl rfl (ldI rfl na3 hqi) ?_
      refine C rfl wu rfl rfl Try.call41 (rMul P mo md _ _ _ (hF.ext hE)) ?_
      rintro _ w6 hE6 rfl
      replace hE := hE.trans hE6
      replace hE2 := hE2.trans hE6
      refine C rfl wu rfl rfl Try.call40 (rAdd P mo md _ _ _ (hF.ext hE)) ?_
      rintro _ w7 hE7 rfl
      replace hE := hE.trans hE7
      replace hE2 := hE2.trans hE7
      replace ho := Own.ext ho (hE6.trans hE7)
      replace hoi := OwnI.ints ho
      refine Go.Sx.V rfl wu rfl rfl (iadI rfl rfl ty22) ?_
      refine STI rfl wu rfl rfl sz3 (by intro h; kernel_rfl) ?_
      intro w8 hg8 hX8 ho8 hi8
      refine wr_nil (post_blockN (post_thenN ?_))
      rw [g1, inK_val, inK_val, mstL_step ha hb] at ho8
      refine wc_region [0,1,2] rfl ?_
      refine Go.Sx.V rfl wu rfl rfl (mv rfl) ?_
      refine Go.Sx.V rfl wu rfl rfl (addI rfl rfl) ?_
      refine Go.Sx.V rfl wu rfl rfl (asg rfl) ?_
      refine wr_nil ?_
      exact post_loopN (j + 1) ⟨rfl, rfl, rfl, rfl, rfl, rfl, trivial⟩ ⟨by omega, hX8 _ hsz hE, hX8 _ (Nat.le_refl _) hE2, ho8⟩ (by omega)
    · intro hc2
      simp at hc2
      refine wc_exit (post_thenE (post_loopE (post_blockX (post_blockN (post_thenN ?_)))))
      rw [show j = q0.length by omega, mstL_row (fun t ht => cl_over h (by rw [← hq0]; exact ht))] at ho
      refine wc_region [0,1,2] rfl ?_
      refine Go.Sx.V rfl wu rfl rfl (mv rfl) ?_
      refine Go.Sx.V rfl wu rfl rfl (addI rfl rfl) ?_
      refine Go.Sx.V rfl wu rfl rfl (asg rfl) ?_
      refine wr_nil ?_
      exact post_loopN (i + 1) ⟨rfl, rfl, rfl, rfl, rfl, trivial⟩ ⟨by omega, hE, hE2, ho⟩ (by omega)
  · intro hc
    simp at hc
    refine wc_exit (post_thenE (post_loopE (post_blockX (post_thenN (wc_seq ?_)))))
    rw [show i = p0.length by omega, mstL_all (fun t ht => cl_over f (by rw [← hp0]; exact ht))] at ho
    have hBi := hB.ext hE2
    refine wc_region [0,1,2,3] rfl ?_
    refine Go.Sx.V rfl wu rfl rfl (ldA rfl ag24) ?_
    refine Go.Sx.V rfl wu rfl rfl (mv rfl) ?_
    refine C rfl wu rfl rfl Try.call32 (rPCanon P mo md out _ _ (hF.ext hE) (OwnI.ints ho) (by rw [tab_length]; omega)) ?_
    intro c w6 hE6 hc
    refine Go.Sx.V rfl wu rfl rfl (asg rfl) ?_
    refine wr_nil (post_thenN (wc_ret ?_))
    refine post_ret1 rfl rfl ?_
    rw [pz_tab (fun t ht => co_mul_over (fun i hi => cl_over f hi) (fun i hi => cl_over h hi) (by rw [← hp0, ← hq0]; omega))] at hc
    exact ⟨hE.trans hE6, hc.mono hE.size⟩

set_option maxRecDepth 10000 in
theorem rPEval (P : FP) (mo : Value) (md : List Int) (u : Value) (z : List Int) (x : Int) (w : World) (hF : FV w P mo md) (hu : Ints w u z) :
    Calls Try.prog 43 #[fv P mo, u, .int .i64 x] w (RetX w fun r _ => r = .int .i64 (val1 (pz P z) (inK P x)).1) := by
  have hle := hu.le
  refine calls3 Try.func43 rfl rfl ?_
  refine wc_seq ?_
  refine wc_region [0,1] rfl ?_
  refine BXA rfl wu rfl rfl ?_
  intro fb w1 hE hB hg
  refine Go.Sx.V rfl wu rfl rfl (asg rfl) ?_
  refine wr_nil (post_thenN (wc_seq ?_))
  refine wc_region [0] rfl ?_
  refine Go.Sx.V rfl wu rfl rfl (asg rfl) ?_
  refine wr_nil (post_thenN (wc_seq ?_))
  refine wc_region [0] rfl ?_
  refine Go.Sx.V rfl wu rfl rfl (asg rfl) ?_
  refine wr_nil (post_thenN (wc_seq (wc_seq ?_)))
  refine wc_region [0] rfl ?_
  refine Go.Sx.V rfl wu rfl rfl (asg rfl) ?_
  refine wr_nil (post_thenN (wc_block ?_))
  refine wc_loop (fun i : Nat => [(1, u), (2, .int .i64 x), (3, .pointer (some ⟨fb, 0, none⟩)), (7, .int .i64 (val1 (Go.Alg.part i (pz P z)) (inK P x)).1), (8, .int .i64 (npow (inK P x) i).1), (9, .int .i64 i)])
    (fun i w' => i ≤ z.length ∧ Ext w w' ∧ Ext w1 w') (fun i => z.length - i) 0 ⟨rfl, rfl, rfl, by rw [val1_part0]; rfl, rfl, rfl, trivial⟩ ⟨by omega, hE, Ext.refl _⟩ ?_
  clear hE
  rintro i w4 ⟨i1, hE, hE1⟩
  have hui := hu.ext hE
  have hBi := hB.ext hE1
  try dsimp only
  refine wc_seq (wc_seq ?_)
  refine wc_region [0,1,2,3] rfl ?_
  refine Go.Sx.V rfl wu rfl rfl (mv rfl) ?_
  refine Go.Sx.V rfl wu rfl rfl (mv rfl) ?_
  refine Go.Sx.V rfl wu rfl rfl (lenI rfl ty22) ?_
  refine Go.Sx.V rfl wu rfl rfl (lssI rfl rfl) ?_
  refine wr_nil (post_thenN ?_)
  refine wc_cond rfl ?_ ?_
  · intro hc
    simp at hc
    have hst := val1_part (P := P) z (inK P x) i
    refine wc_skip (post_thenN (wc_seq (wc_block (wc_seq ?_))))
    refine wc_draw mixed [0,1,2,3,4,5,6,7,8,9,10] (by kernel_rfl) ?_
    intro w5 hd _
    replace hE := hE.trans hd
    replace hE1 := hE1.trans hd
    replace hui := hui.ext hd
    replace hBi := hBi.ext hd
    refine Go.Sx.V rfl wu rfl rfl (ldA rfl ag24) ?_
    refine Go.Sx.V rfl wu rfl rfl (mv rfl) ?_
    refine Go.Sx.V rfl wu rfl rfl (ldA rfl ag24) ?_
    refine Go.Sx.V rfl wu rfl rfl (mv rfl) ?_
    refine Go.Sx.V rfl wu rfl rfl (mv rfl) ?_
    refine Go.Sx.V rfl wu rfl rfl (iadI rfl rfl ty22) ?_
    refine Go.Sx.V rfl wu rfl rfl (ldI rfl na3) ?_
    refine Go.Sx.V rfl wu rfl rfl (mv rfl) ?_
    refine C rfl wu rfl rfl Try.call41 (rMul P mo md _ _ _ (hF.ext hE)) ?_
    rintro _ w6 hE6 rfl
    replace hE := hE.trans hE6
    replace hE1 := hE1.trans hE6
    replace hBi := hBi.ext hE6
    refine C rfl wu rfl rfl Try.call40 (rAdd P mo md _ _ _ (hF.ext hE)) ?_
    rintro _ w6 hE6 rfl
    replace hE := hE.trans hE6
    replace hE1 := hE1.trans hE6
    replace hBi := hBi.ext hE6
    refine Go.Sx.V rfl wu rfl rfl (asg rfl) ?_
    refine wr_nil (post_thenN ?_)
    refine wc_region [0,1,2,3,4] rfl ?_
    refine Go.Sx.V rfl wu rfl rfl (ldA rfl ag24) ?_
    refine Go.Sx.V rfl wu rfl rfl (mv rfl) ?_
    refine Go.Sx.V rfl wu rfl rfl (mv rfl) ?_
    refine C rfl wu rfl rfl Try.call41 (rMul P mo md _ _ _ (hF.ext hE)) ?_
    rintro _ w6 hE6 rfl
    replace hE := hE.trans hE6
    replace hE1 := hE1.trans hE6
    refine Go.Sx.V rfl wu rfl rfl (asg rfl) ?_
    refine wr_nil (post_blockN (post_thenN ?_))
    refine wc_region [0,1,2] rfl ?_
    refine Go.Sx.V rfl wu rfl rfl (mv rfl) ?_
    refine Go.Sx.V rfl wu rfl rfl (addI rfl rfl) ?_
    refine Go.Sx.V rfl wu rfl rfl (asg rfl) ?_
    refine wr_nil ?_
    exact post_loopN (i + 1) ⟨rfl, rfl, rfl, by rw [hst, inK_val, inK_val, inK_val]; rfl, by rw [inK_val]; rfl, rfl, trivial⟩ ⟨by omega, hE, hE1⟩ (by omega)
  · intro hc
    simp at hc
    refine wc_exit (post_thenE (post_loopE (post_blockX (post_thenN (wc_seq ?_)))))
    refine wc_region [0,1] rfl ?_
    refine Go.Sx.V rfl wu rfl rfl (mv rfl) ?_
    refine Go.Sx.V rfl wu rfl rfl (asg rfl) ?_
    refine wr_nil (post_thenN (wc_ret ?_))
    refine post_ret1 rfl rfl ?_
    rw [show i = z.length by omega, val1_all]
    exact ⟨hE, rfl⟩
end Go.Proofs.Ytjpcgjllmpdmhaa
