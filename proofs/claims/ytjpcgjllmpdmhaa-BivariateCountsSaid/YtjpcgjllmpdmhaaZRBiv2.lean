/-
  The reference's polynomials in two variables, by contract, part 2: Eval, Substitute, Degree, Less.
-/
import Derived.Test.YtjpcgjllmpdmhaaZRBiv1
namespace Go.Proofs.Ytjpcgjllmpdmhaa
open Go Go.Sx Go.Pl Go.RowKit Go.Fd Go.Alg

set_option maxRecDepth 10000 in
theorem rBEval (P : FP) (mo : Value) (md : List Int) (u : Value) (A : List (List Int)) (x y : Int) (w : World) (hF : FV w P mo md) (hu : LL w u A) :
    Calls Try.prog 39 #[fv P mo, u, .int .i64 x, .int .i64 y] w (RetX w fun r _ => r = .int .i64 (val2 (bz P A) (inK P x) (inK P y)).1) := by
  obtain ⟨rows, hs, hrl, hrr⟩ := hu.row
  have hle := hs.le
  refine calls4 Try.func39 rfl rfl ?_
  refine wc_seq ?_
  refine wc_region [0,1] rfl ?_
  refine BXA rfl wu rfl rfl ?_
  intro fb w1 hE hB hg
  refine Go.Sx.V rfl wu rfl rfl (asg rfl) ?_
  refine wr_nil (post_thenN (wc_seq ?_))
  refine wc_region [0] rfl ?_
  refine Go.Sx.V rfl wu rfl rfl (asg rfl) ?_
  refine wr_nil (post_thenN (wc_seq ?_))
  refine wc_region [0] rfl ?_
  refine Go.Sx.V rfl wu rfl rfl (asg rfl) ?_
  refine wr_nil (post_thenN (wc_seq (wc_seq ?_)))
  refine wc_region [0] rfl ?_
  refine Go.Sx.V rfl wu rfl rfl (asg rfl) ?_
  refine wr_nil (post_thenN (wc_block ?_))
  refine wc_loop (fun i : Nat => [(1, u), (2, .int .i64 x), (3, .int .i64 y), (4, .pointer (some ⟨fb, 0, none⟩)), (9, .int .i64 (val2 (Go.Alg.part i (bz P A)) (inK P x) (inK P y)).1), (10, .int .i64 (npow (inK P y) i).1), (11, .int .i64 i)])
    (fun i w' => i ≤ A.length ∧ Ext w w' ∧ Ext w1 w') (fun i => A.length - i) 0 ⟨rfl, rfl, rfl, rfl, by rw [val2_part0]; rfl, rfl, rfl, trivial⟩ ⟨by omega, hE, Ext.refl _⟩ ?_
  clear hE
  rintro i w4 ⟨i1, hE, hE1⟩
  have hsi := hs.ext hE
  have hBi := hB.ext hE1
  try dsimp only
  refine wc_seq (wc_seq ?_)
  refine wc_region [0,1,2,3] rfl ?_
  refine Go.Sx.V rfl wu rfl rfl (mv rfl) ?_
  refine Go.Sx.V rfl wu rfl rfl (mv rfl) ?_
  refine Go.Sx.V rfl wu rfl rfl (lenS rfl ty26 hsi) ?_
  refine Go.Sx.V rfl wu rfl rfl (lssI rfl rfl) ?_
  refine wr_nil (post_thenN ?_)
  rw [hrl]
  refine wc_cond rfl ?_ ?_
  · intro hc
    simp at hc
    obtain ⟨r, hr, hri⟩ := hrr i hc
    have hst := val2_part (bz P A) (inK P x) (inK P y) i
    refine wc_skip (post_thenN (wc_seq (wc_block (wc_seq ?_))))
    refine wc_draw mixed [0,1,2,3,4,5,6,7,8,10,9,11,12,13] (by kernel_rfl) ?_
    intro w5 hd _
    replace hE := hE.trans hd
    replace hE1 := hE1.trans hd
    replace hsi := hsi.ext hd
    replace hBi := hBi.ext hd
    refine Go.Sx.V rfl wu rfl rfl (ldA rfl ag24) ?_
    refine Go.Sx.V rfl wu rfl rfl (mv rfl) ?_
    refine Go.Sx.V rfl wu rfl rfl (ldA rfl ag24) ?_
    refine Go.Sx.V rfl wu rfl rfl (ldA rfl ag24) ?_
    refine Go.Sx.V rfl wu rfl rfl (mv rfl) ?_
    refine Go.Sx.V rfl wu rfl rfl (mv rfl) ?_
    refine Go.Sx.V rfl wu rfl rfl (iad rfl rfl ty26 hsi (by omega) (by omega)) ?_
    refine Go.Sx.V rfl wu rfl rfl (ldE rfl na22 hsi hr) ?_
    refine Go.Sx.V rfl wu rfl rfl (mv rfl) ?_
    refine Go.Sx.V rfl wu rfl rfl (mv rfl) ?_
    refine C rfl wu rfl rfl Try.call43 (rPEval P mo md r _ x _ (hF.ext hE) (hri.ext hE)) ?_
    rintro _ w6 hE6 rfl
    replace hE := hE.trans hE6
    replace hE1 := hE1.trans hE6
    replace hBi := hBi.ext hE6
    refine C rfl wu rfl rfl Try.call41 (rMul P mo md _ _ _ (hF.ext hE)) ?_
    rintro _ w6 hE6 rfl
    replace hE := hE.trans hE6
    replace hE1 := hE1.trans hE6
    replace hBi := hBi.ext hE6
    refine C rfl wu rfl rfl Try.call40 (rAdd P mo md _ _ _ (hF.ext hE)) ?_
    rintro _ w6 hE6 rfl
    replace hE := hE.trans hE6
    replace hE1 := hE1.trans hE6
    replace hBi := hBi.ext hE6
    refine Go.Sx.V rfl wu rfl rfl (asg rfl) ?_
    refine wr_nil (post_thenN ?_)
    refine wc_region [0,1,2,3,4] rfl ?_
    refine Go.Sx.V rfl wu rfl rfl (ldA rfl ag24) ?_
    refine Go.Sx.V rfl wu rfl rfl (mv rfl) ?_
    refine Go.Sx.V rfl wu rfl rfl (mv rfl) ?_
    refine C rfl wu rfl rfl Try.call41 (rMul P mo md _ _ _ (hF.ext hE)) ?_
    rintro _ w6 hE6 rfl
    replace hE := hE.trans hE6
    replace hE1 := hE1.trans hE6
    refine Go.Sx.V rfl wu rfl rfl (asg rfl) ?_
    refine wr_nil (post_blockN (post_thenN ?_))
    refine wc_region [0,1,2] rfl ?_
    refine Go.Sx.V rfl wu rfl rfl (mv rfl) ?_
    refine Go.Sx.V rfl wu rfl rfl (addI rfl rfl) ?_
    refine Go.Sx.V rfl wu rfl rfl (asg rfl) ?_
    refine wr_nil ?_
    exact post_loopN (i + 1) ⟨rfl, rfl, rfl, rfl, by rw [hst, inK_val, inK_val, inK_val, inK_val]; rfl, by rw [inK_val]; rfl, rfl, trivial⟩ ⟨by omega, hE, hE1⟩ (by omega)
  · intro hc
    simp at hc
    refine wc_exit (post_thenE (post_loopE (post_blockX (post_thenN (wc_seq ?_)))))
    refine wc_region [0,1] rfl ?_
    refine Go.Sx.V rfl wu rfl rfl (mv rfl) ?_
    refine Go.Sx.V rfl wu rfl rfl (asg rfl) ?_
    refine wr_nil (post_thenN (wc_ret ?_))
    refine post_ret1 rfl rfl ?_
    rw [show i = A.length by omega, bz_all]
    exact ⟨hE, rfl⟩

set_option maxRecDepth 10000 in
theorem rBSubst (P : FP) (mo : Value) (md : List Int) (u v : Value) (A : List (List Int)) (b : List Int) (na : Nat) (w : World) (hF : FV w P mo md) (hu : LL w u A) (hv : Ints w v b) (hA : RB na A) (hna : na ≤ 1048576) (hb : b.length ≤ 65536) (hl : A.length ≤ 1024) :
    Calls Try.prog 33 #[fv P mo, u, v] w (RetX w fun r w' => OwnI w.heap.size w' r 3 (cl (subst (bz P A) (pz P b)))) := by
  obtain ⟨rows, hs, hrl, hrr⟩ := hu.row
  have hle := hs.le
  have hpb : ∀ i, i ≤ 1024 → (cl (npow (pz P b) i)).length ≤ 67108865 := fun i hi => by
    have h1 := cl_len (YB.npow ((YB.pz (P := P) b).mono (show b.length ≤ 65536 + 1 by omega)) i)
    have h2 : i * 65536 ≤ 1024 * 65536 := Nat.mul_le_mul_right _ hi
    omega
  have hsb : ∀ i, i ≤ 1024 → (cl (subst (Go.Alg.part i (bz P A)) (pz P b))).length ≤ 68157441 := fun i => by
    induction i with
    | zero => intro _; rw [subst_part0, cl_zero]; simp
    | succ i ih =>
      intro hi
      rw [subst_part]
      have h1 := cl_add_len (subst (Go.Alg.part i (bz P A)) (pz P b)) ((bz P A).co i * npow (pz P b) i)
      have h2 := cl_mul_len ((bz P A).co i) (npow (pz P b) i)
      have h3 := hpb i (by omega)
      have h4 : (cl ((bz P A).co i)).length ≤ na := cl_len (hA.xb i)
      have h5 := ih (by omega)
      omega
  refine calls3 Try.func33 rfl rfl ?_
  refine wc_seq ?_
  refine wc_region [0,1] rfl ?_
  refine BXA rfl wu rfl rfl ?_
  intro fb w1 hE hB hg
  refine Go.Sx.V rfl wu rfl rfl (asg rfl) ?_
  refine wr_nil (post_thenN (wc_seq ?_))
  refine wc_region [0] rfl ?_
  refine Go.Sx.V rfl wu rfl rfl (asg rfl) ?_
  refine wr_nil (post_thenN (wc_seq ?_))
  refine wc_region [0,1] rfl ?_
  refine BSI (zs := [1]) rfl wu rfl rfl rfl rfl ty22 ?_
  intro v0 w2 hE2 ho hi hob
  refine Go.Sx.V rfl wu rfl rfl (asg rfl) ?_
  refine wr_nil (post_thenN (wc_seq (wc_seq ?_)))
  refine wc_region [0] rfl ?_
  refine Go.Sx.V rfl wu rfl rfl (asg rfl) ?_
  refine wr_nil (post_thenN (wc_block ?_))
  have hsz := hE.size
  rw [show ([1] : List Int) = cl (npow (pz P b) 0) from cl_one.symm] at ho
  have h00 : OwnI w1.heap.size w2 (.slice none 0 0) 3 (cl (subst (Go.Alg.part 0 (bz P A)) (pz P b))) := by
    rw [subst_part0, cl_zero]; exact OwnI.nil _ _ _
  refine wc_loop (fun s : Nat × Value × Value => [(1, u), (2, v), (3, .pointer (some ⟨fb, 0, none⟩)), (7, s.2.1), (8, s.2.2), (9, .int .i64 s.1)])
    (fun s w' => s.1 ≤ A.length ∧ Ext w w' ∧ Ext w1 w' ∧ OwnI w1.heap.size w' s.2.1 3 (cl (subst (Go.Alg.part s.1 (bz P A)) (pz P b))) ∧ OwnI w1.heap.size w' s.2.2 3 (cl (npow (pz P b) s.1))) (fun s => A.length - s.1) (0, .slice none 0 0, v0) ⟨rfl, rfl, rfl, rfl, rfl, rfl, trivial⟩ ⟨by omega, hE.trans hE2, hE2, h00, ho⟩ ?_
  clear hE hE2 ho hi hob h00
  rintro ⟨i, o, pw⟩ w4 ⟨i1, hE, hE1, ho, hpw⟩
  dsimp only at i1 ho hpw
  have hsi := hs.ext hE
  have hBi := hB.ext hE1
  have hoi := OwnI.ints ho
  have hpi := OwnI.ints hpw
  have k1 := hpb i (by omega)
  have k2 := hsb i (by omega)
  try dsimp only
  refine wc_seq (wc_seq ?_)
  refine wc_region [0,1,2,3] rfl ?_
  refine Go.Sx.V rfl wu rfl rfl (mv rfl) ?_
  refine Go.Sx.V rfl wu rfl rfl (mv rfl) ?_
  refine Go.Sx.V rfl wu rfl rfl (lenS rfl ty26 hsi) ?_
  refine Go.Sx.V rfl wu rfl rfl (lssI rfl rfl) ?_
  refine wr_nil (post_thenN ?_)
  rw [hrl]
  refine wc_cond rfl ?_ ?_
  · intro hc
    simp at hc
    obtain ⟨r, hr, hri⟩ := hrr i hc
    have hla := hA i
    have hst := subst_part (bz P A) (pz P b) i
    have hml := cl_mul_len (pz P (A.getD i [])) (npow (pz P b) i)
    have hml2 := cl_pz_len (P := P) (A.getD i [])
    refine wc_skip (post_thenN (wc_seq (wc_block (wc_seq ?_))))
    refine wc_draw mixed [0,1,2,3,4,5,6,7,8,9,10] (by kernel_rfl) ?_
    intro w5 hd _
    replace hE := hE.trans hd
    replace hE1 := hE1.trans hd
    replace hsi := hsi.ext hd
    replace hBi := hBi.ext hd
    replace hoi := hoi.ext hd
    replace hpi := hpi.ext hd
    refine Go.Sx.V rfl wu rfl rfl (ldA rfl ag24) ?_
    refine Go.Sx.V rfl wu rfl rfl (mv rfl) ?_
    refine Go.Sx.V rfl wu rfl rfl (ldA rfl ag24) ?_
    refine Go.Sx.V rfl wu rfl rfl (mv rfl) ?_
    refine Go.Sx.V rfl wu rfl rfl (mv rfl) ?_
    refine Go.Sx.V rfl wu rfl rfl (iad rfl rfl ty26 hsi (by omega) (by omega)) ?_
    refine Go.Sx.V rfl wu rfl rfl (ldE rfl na22 hsi hr) ?_
    refine Go.Sx.V rfl wu rfl rfl (mv rfl) ?_
    refine C rfl wu rfl rfl Try.call62 (rPMul P mo md r pw _ _ _ (hF.ext hE) (hri.ext hE) hpi (by omega) (by omega)) ?_
    intro m w6 hE6 hm
    rw [pz_cl] at hm
    replace hE := hE.trans hE6
    replace hE1 := hE1.trans hE6
    replace hoi := hoi.ext hE6
    replace hpi := hpi.ext hE6
    replace hBi := hBi.ext hE6
    refine C rfl wu rfl rfl Try.call59 (rPAdd P mo md o m _ _ _ (hF.ext hE) hoi (OwnI.ints hm) (by omega) (by omega)) ?_
    intro o2 w7 hE7 ho2
    rw [pz_cl, pz_cl, ← co_bz, ← hst] at ho2
    have hs1 := hE1.size
    replace hE := hE.trans hE7
    replace hE1 := hE1.trans hE7
    replace hpi := hpi.ext hE7
    replace hBi := hBi.ext hE7
    refine Go.Sx.V rfl wu rfl rfl (asg rfl) ?_
    refine wr_nil (post_thenN ?_)
    refine wc_region [0,1,2,3,4] rfl ?_
    refine Go.Sx.V rfl wu rfl rfl (ldA rfl ag24) ?_
    refine Go.Sx.V rfl wu rfl rfl (mv rfl) ?_
    refine Go.Sx.V rfl wu rfl rfl (mv rfl) ?_
    refine C rfl wu rfl rfl Try.call62 (rPMul P mo md pw v _ _ _ (hF.ext hE) hpi (hv.ext hE) (by omega) (by omega)) ?_
    intro p2 w8 hE8 hp2
    rw [pz_cl] at hp2
    have hs2 := hE1.size
    replace hE := hE.trans hE8
    replace hE1 := hE1.trans hE8
    refine Go.Sx.V rfl wu rfl rfl (asg rfl) ?_
    refine wr_nil (post_blockN (post_thenN ?_))
    refine wc_region [0,1,2] rfl ?_
    refine Go.Sx.V rfl wu rfl rfl (mv rfl) ?_
    refine Go.Sx.V rfl wu rfl rfl (addI rfl rfl) ?_
    refine Go.Sx.V rfl wu rfl rfl (asg rfl) ?_
    refine wr_nil ?_
    exact post_loopN (i + 1, o2, p2) ⟨rfl, rfl, rfl, rfl, rfl, rfl, trivial⟩ ⟨by show i + 1 ≤ _; omega, hE, hE1, (Own.ext ho2 hE8).mono hs1, hp2.mono hs2⟩ (by show A.length - (i + 1) < A.length - i; omega)
  · intro hc
    simp at hc
    refine wc_exit (post_thenE (post_loopE (post_blockX (post_thenN (wc_seq ?_)))))
    rw [show i = A.length by omega, bz_all] at hoi k2
    refine wc_region [0,1,2,3] rfl ?_
    refine Go.Sx.V rfl wu rfl rfl (ldA rfl ag24) ?_
    refine Go.Sx.V rfl wu rfl rfl (mv rfl) ?_
    refine C rfl wu rfl rfl Try.call32 (rPCanon P mo md o _ _ (hF.ext hE) hoi (by omega)) ?_
    intro c w6 hE6 hc
    refine Go.Sx.V rfl wu rfl rfl (asg rfl) ?_
    refine wr_nil (post_thenN (wc_ret ?_))
    refine post_ret1 rfl rfl ?_
    rw [pz_cl] at hc
    exact ⟨hE.trans hE6, hc.mono hE.size⟩

set_option maxRecDepth 10000 in
theorem rBDegree (P : FP) (mo : Value) (md : List Int) (u : Value) (A : List (List Int)) (wt : Int) (na : Nat) (w : World) (hF : FV w P mo md) (hu : LL w u A) (hw : 0 ≤ wt ∧ wt ≤ 256) (hA : RB na A) (hna : na ≤ 1048576) (hl : A.length ≤ 1048576) :
    Calls Try.prog 27 #[fv P mo, u, .int .i64 wt] w (RetX w fun r _ => r = .int .i64 (wdg (bz P A) wt)) := by
  obtain ⟨rows, hs, hrl, hrr⟩ := hu.row
  refine calls3 Try.func27 rfl rfl ?_
  refine wc_seq ?_
  refine wc_region [0,1] rfl ?_
  refine BXA rfl wu rfl rfl ?_
  intro fb w1 hE hB hg
  refine Go.Sx.V rfl wu rfl rfl (asg rfl) ?_
  refine wr_nil (post_thenN (wc_seq ?_))
  refine wc_region [0] rfl ?_
  refine Go.Sx.V rfl wu rfl rfl (asg rfl) ?_
  refine wr_nil (post_thenN (wc_seq (wc_seq ?_)))
  refine wc_region [0] rfl ?_
  refine Go.Sx.V rfl wu rfl rfl (asg rfl) ?_
  refine wr_nil (post_thenN (wc_block ?_))
  refine wc_loop (fun i : Nat => [(1, u), (2, .int .i64 wt), (3, .pointer (some ⟨fb, 0, none⟩)), (7, .int .i64 (wdN (bz P A) wt i)), (8, .int .i64 i)])
    (fun i w' => i ≤ A.length ∧ Ext w w' ∧ Ext w1 w') (fun i => A.length - i) 0 ⟨rfl, rfl, rfl, rfl, rfl, trivial⟩ ⟨by omega, hE, Ext.refl _⟩ ?_
  clear hE
  rintro i w4 ⟨i1, hE, hE1⟩
  have hsi := hs.ext hE
  have hBi := hB.ext hE1
  have hb := wdN_lo (bz P A) hw.1 hA.xb i
  have hwi : 0 ≤ wt * (i : Int) ∧ wt * (i : Int) ≤ 256 * 1048576 := ⟨Int.mul_nonneg hw.1 (by omega), Int.mul_le_mul hw.2 (by omega) (by omega) (by omega)⟩
  have hlen : (cl ((bz P A).co i)).length ≤ na := cl_len (hA.xb i)
  try dsimp only
  refine wc_seq (wc_seq ?_)
  refine wc_region [0,1,2,3] rfl ?_
  refine Go.Sx.V rfl wu rfl rfl (mv rfl) ?_
  refine Go.Sx.V rfl wu rfl rfl (mv rfl) ?_
  refine Go.Sx.V rfl wu rfl rfl (lenS rfl ty26 hsi) ?_
  refine Go.Sx.V rfl wu rfl rfl (lssI rfl rfl) ?_
  refine wr_nil (post_thenN ?_)
  rw [hrl]
  refine wc_cond rfl ?_ ?_
  · intro hc
    simp at hc
    obtain ⟨r, hr, hri⟩ := hrr i hc
    have hla := hA i
    have hstep : wdN (bz P A) wt (i + 1) = if cl ((bz P A).co i) = [] then wdN (bz P A) wt i else max (wdN (bz P A) wt i) ((cl ((bz P A).co i)).length - 1 + wt * i) := rfl
    refine wc_skip (post_thenN (wc_seq (wc_block (wc_seq ?_))))
    refine wc_draw mixed [0,1,2,3,4,5,6] (by kernel_rfl) ?_
    intro w5 hd _
    replace hE := hE.trans hd
    replace hE1 := hE1.trans hd
    replace hsi := hsi.ext hd
    replace hBi := hBi.ext hd
    refine Go.Sx.V rfl wu rfl rfl (ldA rfl ag24) ?_
    refine Go.Sx.V rfl wu rfl rfl (mv rfl) ?_
    refine Go.Sx.V rfl wu rfl rfl (mv rfl) ?_
    refine Go.Sx.V rfl wu rfl rfl (iad rfl rfl ty26 hsi (by omega) (by omega)) ?_
    refine Go.Sx.V rfl wu rfl rfl (ldE rfl na22 hsi hr) ?_
    refine C rfl wu rfl rfl Try.call35 (rPDegree P mo md r _ _ (hF.ext hE) (hri.ext hE) (by omega)) ?_
    rintro _ w6 hE6 rfl
    replace hE := hE.trans hE6
    replace hE1 := hE1.trans hE6
    refine Go.Sx.V rfl wu rfl rfl (asg rfl) ?_
    refine wr_nil (post_thenN (wc_seq ?_))
    rw [← co_bz]
    refine wc_region [0,1] rfl ?_
    refine Go.Sx.V rfl wu rfl rfl (mv rfl) ?_
    refine Go.Sx.V rfl wu rfl rfl (geqI rfl rfl) ?_
    refine wr_nil (post_thenN ?_)
    refine wc_cond rfl ?_ ?_
    · intro h1
      simp at h1
      have hne : cl ((bz P A).co i) ≠ [] := fun e => by rw [e] at h1; simp at h1
      rw [if_neg hne] at hstep
      refine wc_region [0,1,2,3,4,5,6,7] rfl ?_
      refine Go.Sx.V rfl wu rfl rfl (mv rfl) ?_
      refine Go.Sx.V rfl wu rfl rfl (mv rfl) ?_
      refine Go.Sx.V rfl wu rfl rfl (mv rfl) ?_
      refine Go.Sx.V rfl wu rfl rfl (mv rfl) ?_
      refine Go.Sx.V rfl wu rfl rfl (mulI rfl rfl) ?_
      refine Go.Sx.V rfl wu rfl rfl (addI rfl rfl) ?_
      refine Go.Sx.V rfl wu rfl rfl (maxI rfl rfl) ?_
      refine Go.Sx.V rfl wu rfl rfl (asg rfl) ?_
      refine wr_nil (post_blockN (post_thenN ?_))
      refine wc_region [0,1,2] rfl ?_
      refine Go.Sx.V rfl wu rfl rfl (mv rfl) ?_
      refine Go.Sx.V rfl wu rfl rfl (addI rfl rfl) ?_
      refine Go.Sx.V rfl wu rfl rfl (asg rfl) ?_
      refine wr_nil ?_
      exact post_loopN (i + 1) ⟨rfl, rfl, rfl, by rw [hstep]; rfl, rfl, trivial⟩ ⟨by omega, hE, hE1⟩ (by omega)
    · intro h1
      simp at h1
      rw [if_pos (List.eq_nil_of_length_eq_zero (by omega))] at hstep
      refine wc_skip (post_blockN (post_thenN ?_))
      refine wc_region [0,1,2] rfl ?_
      refine Go.Sx.V rfl wu rfl rfl (mv rfl) ?_
      refine Go.Sx.V rfl wu rfl rfl (addI rfl rfl) ?_
      refine Go.Sx.V rfl wu rfl rfl (asg rfl) ?_
      refine wr_nil ?_
      exact post_loopN (i + 1) ⟨rfl, rfl, rfl, by rw [hstep]; rfl, rfl, trivial⟩ ⟨by omega, hE, hE1⟩ (by omega)
  · intro hc
    simp at hc
    refine wc_exit (post_thenE (post_loopE (post_blockX (post_thenN (wc_seq ?_)))))
    refine wc_region [0,1] rfl ?_
    refine Go.Sx.V rfl wu rfl rfl (mv rfl) ?_
    refine Go.Sx.V rfl wu rfl rfl (asg rfl) ?_
    refine wr_nil (post_thenN (wc_ret ?_))
    refine post_ret1 rfl rfl ?_
    exact ⟨hE, by rw [show i = A.length by omega, wdN_wdg (YB.bz A)]⟩

set_option maxRecDepth 10000 in
theorem rBLess (P : FP) (mo : Value) (md : List Int) (u v : Value) (a b : List Int) (k : Int) (w : World) (hF : FV w P mo md) (hu : Ints w u a) (hv : Ints w v b) (hk : 0 ≤ k ∧ k ≤ 65536) :
    Calls Try.prog 34 #[fv P mo, u, v, .int .i64 k] w (RetX w fun r _ => ∃ t, r = .bool t ∧ (t = true ↔ LessP (pz P a) (pz P b) k.toNat)) := by
  refine calls4 Try.func34 rfl rfl ?_
  refine wc_seq ?_
  refine wc_region [0,1] rfl ?_
  refine BXA rfl wu rfl rfl ?_
  intro fb w1 hE hB hg
  refine Go.Sx.V rfl wu rfl rfl (asg rfl) ?_
  refine wr_nil (post_thenN (wc_seq (wc_seq ?_)))
  refine wc_region [0] rfl ?_
  refine Go.Sx.V rfl wu rfl rfl (asg rfl) ?_
  refine wr_nil (post_thenN (wc_block ?_))
  refine wc_loop (fun i : Nat => [(1, u), (2, v), (3, .int .i64 k), (4, .pointer (some ⟨fb, 0, none⟩)), (9, .int .i64 i)])
    (fun i w' => (i : Int) ≤ k ∧ Ext w w' ∧ Ext w1 w' ∧ ∀ t, t < i → (pz P a).co t = (pz P b).co t) (fun i => k.toNat - i) 0 ⟨rfl, rfl, rfl, rfl, rfl, trivial⟩ ⟨by omega, hE, Ext.refl _, fun t ht => by omega⟩ ?_
  clear hE
  rintro i w4 ⟨i1, hE, hE1, heq⟩
  have hui := hu.ext hE
  have hvi := hv.ext hE
  have hBi := hB.ext hE1
  try dsimp only
  refine wc_seq (wc_seq ?_)
  refine wc_region [0,1,2] rfl ?_
  refine Go.Sx.V rfl wu rfl rfl (mv rfl) ?_
  refine Go.Sx.V rfl wu rfl rfl (mv rfl) ?_
  refine Go.Sx.V rfl wu rfl rfl (lssI rfl rfl) ?_
  refine wr_nil (post_thenN ?_)
  refine wc_cond rfl ?_ ?_
  · intro hc
    simp at hc
    refine wc_skip (post_thenN (wc_seq (wc_block (wc_seq ?_))))
    refine wc_region [0,1,2,3,4] rfl ?_
    refine Go.Sx.V rfl wu rfl rfl (ldA rfl ag24) ?_
    refine Go.Sx.V rfl wu rfl rfl (mv rfl) ?_
    refine Go.Sx.V rfl wu rfl rfl (mv rfl) ?_
    refine C rfl wu rfl rfl Try.call68 (rPAt P mo md u a i _ (hF.ext hE) hui (by omega)) ?_
    rintro _ w6 hE6 rfl
    replace hE := hE.trans hE6
    replace hE1 := hE1.trans hE6
    replace hvi := hvi.ext hE6
    replace hBi := hBi.ext hE6
    refine Go.Sx.V rfl wu rfl rfl (asg rfl) ?_
    refine wr_nil (post_thenN (wc_seq ?_))
    refine wc_region [0,1,2,3,4] rfl ?_
    refine Go.Sx.V rfl wu rfl rfl (ldA rfl ag24) ?_
    refine Go.Sx.V rfl wu rfl rfl (mv rfl) ?_
    refine Go.Sx.V rfl wu rfl rfl (mv rfl) ?_
    refine C rfl wu rfl rfl Try.call68 (rPAt P mo md v b i _ (hF.ext hE) hvi (by omega)) ?_
    rintro _ w6 hE6 rfl
    replace hE := hE.trans hE6
    replace hE1 := hE1.trans hE6
    refine Go.Sx.V rfl wu rfl rfl (asg rfl) ?_
    refine wr_nil (post_thenN (wc_seq ?_))
    rw [Int.toNat_natCast]
    refine wc_region [0,1,2] rfl ?_
    refine Go.Sx.V rfl wu rfl rfl (mv rfl) ?_
    refine Go.Sx.V rfl wu rfl rfl (mv rfl) ?_
    refine Go.Sx.V rfl wu rfl rfl (neqI rfl rfl) ?_
    refine wr_nil (post_thenN ?_)
    refine wc_cond rfl ?_ ?_
    · intro h1
      simp at h1
      refine wc_seq ?_
      refine wc_region [0,1,2,3] rfl ?_
      refine Go.Sx.V rfl wu rfl rfl (mv rfl) ?_
      refine Go.Sx.V rfl wu rfl rfl (mv rfl) ?_
      refine Go.Sx.V rfl wu rfl rfl (lssI rfl rfl) ?_
      refine Go.Sx.V rfl wu rfl rfl (asg rfl) ?_
      refine wr_nil (post_thenN (wc_ret (post_blockR (post_thenR (post_loopR (post_blockR (post_thenR ?_)))))))
      refine post_ret1 rfl rfl ?_
      refine ⟨hE, _, rfl, ?_⟩
      rw [decide_eq_true_eq]
      constructor
      · intro h
        exact ⟨i, by omega, heq, h⟩
      · rintro ⟨j, hj, hje, hjl⟩
        rcases Nat.lt_trichotomy j i with h | h | h
        · rw [heq j h] at hjl; omega
        · rw [← h]; exact hjl
        · exact absurd (by rw [hje i h]) h1
    · intro h1
      simp at h1
      refine wc_skip (post_blockN (post_thenN ?_))
      refine wc_region [0,1,2] rfl ?_
      refine Go.Sx.V rfl wu rfl rfl (mv rfl) ?_
      refine Go.Sx.V rfl wu rfl rfl (addI rfl rfl) ?_
      refine Go.Sx.V rfl wu rfl rfl (asg rfl) ?_
      refine wr_nil ?_
      exact post_loopN (i + 1) ⟨rfl, rfl, rfl, rfl, rfl, trivial⟩ ⟨by omega, hE, hE1, fun t ht => by
        rcases Nat.lt_or_ge t i with h2 | h2
        · exact heq t h2
        · obtain rfl : t = i := by omega
          exact Subtype.ext h1⟩ (by omega)
  · intro hc
    simp at hc
    refine wc_exit (post_thenE (post_loopE (post_blockX (post_thenN (wc_seq ?_)))))
    refine wc_region [0] rfl ?_
    refine Go.Sx.V rfl wu rfl rfl (asg rfl) ?_
    refine wr_nil (post_thenN (wc_ret ?_))
    refine post_ret1 rfl rfl ?_
    refine ⟨hE, _, rfl, ?_⟩
    constructor
    · intro h; cases h
    · rintro ⟨j, hj, hje, hjl⟩
      rw [heq j (by omega)] at hjl
      omega
end Go.Proofs.Ytjpcgjllmpdmhaa
