/-
  Chapter 40: Different, Terms of the reference; canonical and may of the laws, by contract.
-/
import Derived.Test.YtjpcgjllmpdmhaaZOpen40
import Derived.Test.YtjpcgjllmpdmhaaZRBiv2
import Derived.Test.YtjpcgjllmpdmhaaZKoe1
import Derived.Test.YtjpcgjllmpdmhaaZMPa
namespace Go.Proofs.Ytjpcgjllmpdmhaa
open Go Go.Sx Go.Pl Go.RowKit Go.Fd Go.Alg Go.Fr
theorem infoTk : Try.prog.info? 73 = some Try.t73 := by kernel_rfl
theorem szTk : ∀ w, (sizeOf 73).run Try.prog w = .ok 5 w := fun w => by simp [sizeOf, typeInfo, infoTk]; rfl
theorem ag73 : AG Try.prog 73 5 := ⟨fun w => by simp [isAgg, run_underlying Try.underlying73], szTk⟩
theorem fa73_0 : FA Try.prog 73 0 0 := fun a w => by
  simp [Instr.fieldAt, run_underlying Try.underlying73, Instr.sureAddr, fieldPlace]
theorem fa73_1 : FA Try.prog 73 1 1 := fun a w => by
  simp [Instr.fieldAt, run_underlying Try.underlying73, Instr.sureAddr, fieldPlace, szSl]
theorem fa73_2 : FA Try.prog 73 2 2 := fun a w => by
  simp [Instr.fieldAt, run_underlying Try.underlying73, Instr.sureAddr, fieldPlace, szSl]
theorem fa73_3 : FA Try.prog 73 3 3 := fun a w => by
  simp [Instr.fieldAt, run_underlying Try.underlying73, Instr.sureAddr, fieldPlace, szSl, szInt]
theorem fa73_4 : FA Try.prog 73 4 4 := fun a w => by
  simp [Instr.fieldAt, run_underlying Try.underlying73, Instr.sureAddr, fieldPlace, szSl, szInt]

set_option maxRecDepth 10000 in
theorem rDifferent (P : FP) (mo : Value) (md : List Int) (u : Value) (xs : List Int) (w : World) (hF : FV w P mo md) (hu : Ints w u xs) :
    Calls Try.prog 49 #[fv P mo, u] w (RetX w fun r _ => r = .bool (dif P xs xs.length)) := by
  have hle := hu.le
  refine calls2 Try.func49 rfl rfl ?_
  refine wc_seq ?_
  refine wc_region [0,1] rfl ?_
  refine BXA rfl wu rfl rfl ?_
  intro fb w1 hE hB hg
  refine Go.Sx.V rfl wu rfl rfl (asg rfl) ?_
  refine wr_nil (post_thenN (wc_seq (wc_seq ?_)))
  refine wc_region [0] rfl ?_
  refine Go.Sx.V rfl wu rfl rfl (asg rfl) ?_
  refine wr_nil (post_thenN (wc_block ?_))
  refine wc_loop (fun i : Nat => [(1, u), (2, .pointer (some ⟨fb, 0, none⟩)), (5, .int .i64 i)])
    (fun i w' => i ≤ xs.length ∧ Ext w w' ∧ Ext w1 w' ∧ dif P xs i = true) (fun i => xs.length - i) 0 ⟨rfl, rfl, rfl, trivial⟩ ⟨by omega, hE, Ext.refl _, rfl⟩ ?_
  clear hE
  rintro i w4 ⟨i1, hE, hE1, hd⟩
  try dsimp only
  refine wc_seq (wc_seq ?_)
  refine wc_region [0,1,2,3] rfl ?_
  refine Go.Sx.V rfl wu rfl rfl (mv rfl) ?_
  refine Go.Sx.V rfl wu rfl rfl (mv rfl) ?_
  refine Go.Sx.V rfl wu rfl rfl (lenI rfl ty22 (hu.ext hE)) ?_
  refine Go.Sx.V rfl wu rfl rfl (lssI rfl rfl) ?_
  refine wr_nil (post_thenN ?_)
  refine wc_cond rfl ?_ ?_
  · intro hc
    simp at hc
    refine wc_skip (post_thenN (wc_seq (wc_block (wc_seq ?_))))
    refine wc_region [0] rfl ?_
    refine Go.Sx.V rfl wu rfl rfl (asg rfl) ?_
    refine wr_nil (post_thenN (wc_block ?_))
    refine wc_loop (fun j : Nat => [(1, u), (2, .pointer (some ⟨fb, 0, none⟩)), (5, .int .i64 i), (6, .int .i64 j)])
      (fun j w' => j ≤ i ∧ Ext w w' ∧ Ext w1 w' ∧ ∀ t, t < j → (inK P (gi xs t)).1 ≠ (inK P (gi xs i)).1) (fun j => i - j) 0 ⟨rfl, rfl, rfl, rfl, trivial⟩ ⟨by omega, hE, hE1, fun t h => by omega⟩ ?_
    clear hE hE1
    rintro j w5 ⟨j1, hE, hE1, hn⟩
    have hui := hu.ext hE
    have hBi := hB.ext hE1
    try dsimp only
    refine wc_seq (wc_seq ?_)
    refine wc_region [0,1,2] rfl ?_
    refine Go.Sx.V rfl wu rfl rfl (mv rfl) ?_
    refine Go.Sx.V rfl wu rfl rfl (mv rfl) ?_
    refine Go.Sx.V rfl wu rfl rfl (lssI rfl rfl) ?_
    refine wr_nil (post_thenN ?_)
    refine wc_cond rfl ?_ ?_
    · intro hc2
      simp at hc2
      refine wc_skip (post_thenN (wc_seq (wc_block (wc_seq ?_))))
      refine wc_draw mixed [0,1,2,3,4,6,7,8,9,10,5,11,12] (by kernel_rfl) ?_
      intro w6 hd6 _
      replace hE := hE.trans hd6
      replace hE1 := hE1.trans hd6
      replace hui := hui.ext hd6
      replace hBi := hBi.ext hd6
      refine Go.Sx.V rfl wu rfl rfl (ldA rfl ag24) ?_
      refine Go.Sx.V rfl wu rfl rfl (mv rfl) ?_
      refine Go.Sx.V rfl wu rfl rfl (mv rfl) ?_
      refine Go.Sx.V rfl wu rfl rfl (iadI rfl rfl ty22 hui (by omega) (by omega)) ?_
      refine Go.Sx.V rfl wu rfl rfl (ldI rfl na3 hui) ?_
      refine Go.Sx.V rfl wu rfl rfl (ldA rfl ag24) ?_
      refine Go.Sx.V rfl wu rfl rfl (mv rfl) ?_
      refine Go.Sx.V rfl wu rfl rfl (mv rfl) ?_
      refine Go.Sx.V rfl wu rfl rfl (iadI rfl rfl ty22 hui (by omega) (by omega)) ?_
      refine Go.Sx.V rfl wu rfl rfl (ldI rfl na3 hui) ?_
      refine C rfl wu rfl rfl Try.call67 (rIn P mo md _ _ (hF.ext hE)) ?_
      rintro _ w7 hE7 rfl
      replace hE := hE.trans hE7
      replace hE1 := hE1.trans hE7
      refine C rfl wu rfl rfl Try.call67 (rIn P mo md _ _ (hF.ext hE)) ?_
      rintro _ w8 hE8 rfl
      replace hE := hE.trans hE8
      replace hE1 := hE1.trans hE8
      refine Go.Sx.V rfl wu rfl rfl (eqlI rfl rfl) ?_
      refine wr_nil (post_thenN ?_)
      refine wc_cond rfl ?_ ?_
      · intro hc3
        simp at hc3
        refine wc_seq ?_
        refine wc_region [0] rfl ?_
        refine Go.Sx.V rfl wu rfl rfl (asg rfl) ?_
        refine wr_nil (post_thenN (wc_ret (post_blockR (post_thenR (post_loopR (post_blockR (post_blockR (post_thenR (post_loopR (post_blockR (post_thenR ?_)))))))))))
        refine post_ret1 rfl rfl ?_
        have hnd : dif P xs xs.length = false := by
          cases hdd : dif P xs xs.length
          · rfl
          · have h2 := dif_less (i := i + 1) xs.length (by omega) hdd
            rw [dif, Bool.and_eq_true, sn_true j (by omega) hc2 hc3.symm] at h2
            simp at h2
        exact ⟨hE, by rw [hnd]⟩
      · intro hc3
        simp at hc3
        refine wc_skip (post_blockN (post_thenN ?_))
        refine wc_region [0,1,2] rfl ?_
        refine Go.Sx.V rfl wu rfl rfl (mv rfl) ?_
        refine Go.Sx.V rfl wu rfl rfl (addI rfl rfl) ?_
        refine Go.Sx.V rfl wu rfl rfl (asg rfl) ?_
        refine wr_nil ?_
        exact post_loopN (j + 1) ⟨rfl, rfl, rfl, rfl, trivial⟩ ⟨by omega, hE, hE1, fun t ht => by
          by_cases e : t = j
          · rw [e]; exact fun e2 => hc3 e2.symm
          · exact hn t (by omega)⟩ (by omega)
    · intro hc2
      simp at hc2
      obtain rfl : j = i := by omega
      refine wc_exit (post_thenE (post_loopE (post_blockX (post_blockN (post_thenN ?_)))))
      refine wc_region [0,1,2] rfl ?_
      refine Go.Sx.V rfl wu rfl rfl (mv rfl) ?_
      refine Go.Sx.V rfl wu rfl rfl (addI rfl rfl) ?_
      refine Go.Sx.V rfl wu rfl rfl (asg rfl) ?_
      refine wr_nil ?_
      exact post_loopN (j + 1) ⟨rfl, rfl, rfl, trivial⟩ ⟨by omega, hE, hE1, by rw [dif, hd, sn_false (by omega) hn]; rfl⟩ (by omega)
  · intro hc
    simp at hc
    obtain rfl : i = xs.length := by omega
    refine wc_exit (post_thenE (post_loopE (post_blockX (post_thenN (wc_seq ?_)))))
    refine wc_region [0] rfl ?_
    refine Go.Sx.V rfl wu rfl rfl (asg rfl) ?_
    refine wr_nil (post_thenN (wc_ret ?_))
    refine post_ret1 rfl rfl ?_
    exact ⟨hE, by rw [hd]⟩

set_option maxRecDepth 10000 in
theorem rTerms (wt l d : Nat) (w : World) (hw : wt ≤ 64) (hl : l ≤ 64) (hd : d ≤ 65536) :
    Calls Try.prog 53 #[.int .i64 wt, .int .i64 l, .int .i64 d] w (RetX w fun r _ => r = .int .i64 (terms wt (l + 1) d)) := by
  have hbd : ∀ j : Nat, j ≤ 65 → (ns j fun j => if wt * j ≤ d then d - wt * j + 1 else 0) ≤ 65 * 65537 := fun j hj => by
    have h1 := ns_bound (f := fun j => if wt * j ≤ d then d - wt * j + 1 else 0) (c := 65537) j (fun j _ => by show (if wt * j ≤ d then d - wt * j + 1 else 0) ≤ 65537; split <;> omega)
    exact Nat.le_trans h1 (Nat.mul_le_mul_right _ hj)
  refine calls3 Try.func53 rfl rfl ?_
  refine wc_seq ?_
  refine wc_region [0] rfl ?_
  refine Go.Sx.V rfl wu rfl rfl (asg rfl) ?_
  refine wr_nil (post_thenN (wc_seq ?_))
  refine wc_region [0] rfl ?_
  refine Go.Sx.V rfl wu rfl rfl (asg rfl) ?_
  refine wr_nil (post_thenN (wc_seq (wc_seq ?_)))
  refine wc_region [0] rfl ?_
  refine Go.Sx.V rfl wu rfl rfl (asg rfl) ?_
  refine wr_nil (post_thenN (wc_block ?_))
  refine wc_loop (fun j : Nat => [(0, .int .i64 wt), (1, .int .i64 l), (2, .int .i64 d), (7, .int .i64 ((ns j fun j => if wt * j ≤ d then d - wt * j + 1 else 0 : Nat) : Int)), (8, .int .i64 j)])
    (fun j w' => j ≤ l + 1 ∧ w' = w) (fun j => l + 1 - j) 0 ⟨rfl, rfl, rfl, rfl, rfl, trivial⟩ ⟨by omega, rfl⟩ ?_
  rintro j w4 ⟨j1, rfl⟩
  have hb := hbd j (by omega)
  try dsimp only
  refine wc_seq (wc_seq ?_)
  refine wc_region [0,1,2] rfl ?_
  refine Go.Sx.V rfl wu rfl rfl (mv rfl) ?_
  refine Go.Sx.V rfl wu rfl rfl (mv rfl) ?_
  refine Go.Sx.V rfl wu rfl rfl (leqI rfl rfl) ?_
  refine wr_nil (post_thenN ?_)
  refine wc_cond rfl ?_ ?_
  · intro hc
    simp at hc
    have hwj : (wt : Int) * (j : Int) ≤ 64 * 65 := Int.mul_le_mul (by omega) (by omega) (by omega) (by omega)
    have hwj0 : 0 ≤ (wt : Int) * (j : Int) := Int.mul_nonneg (by omega) (by omega)
    have hcast : (wt : Int) * (j : Int) = ((wt * j : Nat) : Int) := by simp
    rw [hcast] at hwj hwj0
    refine wc_skip (post_thenN (wc_seq (wc_block (wc_seq ?_))))
    refine wc_region [0,1,2,3,4,5] rfl ?_
    refine Go.Sx.V rfl wu rfl rfl (mv rfl) ?_
    refine Go.Sx.V rfl wu rfl rfl (mv rfl) ?_
    refine Go.Sx.V rfl wu rfl rfl (mv rfl) ?_
    refine Go.Sx.V rfl wu rfl rfl (mulI rfl rfl) ?_
    rw [hcast]
    refine Go.Sx.V rfl wu rfl rfl (subI rfl rfl) ?_
    refine Go.Sx.V rfl wu rfl rfl (geqI rfl rfl) ?_
    refine wr_nil (post_thenN ?_)
    refine wc_cond rfl ?_ ?_
    · intro hc2
      simp only [decide_eq_true_eq] at hc2
      refine wc_region [0,1,2,3,4,5,6,7,8] rfl ?_
      refine Go.Sx.V rfl wu rfl rfl (mv rfl) ?_
      refine Go.Sx.V rfl wu rfl rfl (mv rfl) ?_
      refine Go.Sx.V rfl wu rfl rfl (mv rfl) ?_
      refine Go.Sx.V rfl wu rfl rfl (mv rfl) ?_
      refine Go.Sx.V rfl wu rfl rfl (mulI rfl rfl) ?_
      rw [hcast]
      refine Go.Sx.V rfl wu rfl rfl (subI rfl rfl) ?_
      refine Go.Sx.V rfl wu rfl rfl (addI rfl rfl) ?_
      refine Go.Sx.V rfl wu rfl rfl (addI rfl rfl) ?_
      refine Go.Sx.V rfl wu rfl rfl (asg rfl) ?_
      refine wr_nil (post_blockN (post_thenN ?_))
      refine wc_region [0,1,2] rfl ?_
      refine Go.Sx.V rfl wu rfl rfl (mv rfl) ?_
      refine Go.Sx.V rfl wu rfl rfl (addI rfl rfl) ?_
      refine Go.Sx.V rfl wu rfl rfl (asg rfl) ?_
      refine wr_nil ?_
      refine post_loopN (j + 1) ⟨rfl, rfl, rfl, ?_, rfl, trivial⟩ ⟨by omega, rfl⟩ (by omega)
      have h1 : (ns (j + 1) fun j => if wt * j ≤ d then d - wt * j + 1 else 0) = (ns j fun j => if wt * j ≤ d then d - wt * j + 1 else 0) + (d - wt * j + 1) := by
        rw [ns, if_pos (show wt * j ≤ d by omega)]
      rw [h1, show (((ns j fun j => if wt * j ≤ d then d - wt * j + 1 else 0) + (d - wt * j + 1) : Nat) : Int) = ((ns j fun j => if wt * j ≤ d then d - wt * j + 1 else 0 : Nat) : Int) + ((d : Int) - ((wt * j : Nat) : Int) + 1) by omega]
      rfl
    · intro hc2
      simp only [decide_eq_false_iff_not] at hc2
      refine wc_skip (post_blockN (post_thenN ?_))
      refine wc_region [0,1,2] rfl ?_
      refine Go.Sx.V rfl wu rfl rfl (mv rfl) ?_
      refine Go.Sx.V rfl wu rfl rfl (addI rfl rfl) ?_
      refine Go.Sx.V rfl wu rfl rfl (asg rfl) ?_
      refine wr_nil ?_
      refine post_loopN (j + 1) ⟨rfl, rfl, rfl, ?_, rfl, trivial⟩ ⟨by omega, rfl⟩ (by omega)
      have h1 : (ns (j + 1) fun j => if wt * j ≤ d then d - wt * j + 1 else 0) = ns j fun j => if wt * j ≤ d then d - wt * j + 1 else 0 := by
        rw [ns, if_neg (show ¬ wt * j ≤ d by omega)]; rfl
      rw [h1]; rfl
  · intro hc
    simp at hc
    obtain rfl : j = l + 1 := by omega
    refine wc_exit (post_thenE (post_loopE (post_blockX (post_thenN (wc_seq ?_)))))
    refine wc_region [0,1] rfl ?_
    refine Go.Sx.V rfl wu rfl rfl (mv rfl) ?_
    refine Go.Sx.V rfl wu rfl rfl (asg rfl) ?_
    refine wr_nil (post_thenN (wc_ret ?_))
    refine post_ret1 rfl rfl ?_
    exact ⟨Ext.refl _, rfl⟩

set_option maxRecDepth 10000 in
theorem lCanonical (P : FP) (mo : Value) (md : List Int) (u : Value) (A : List (List Int)) (w : World) (hF : FV w P mo md) (hu : LL w u A) (hA : RB 17592186044416 A) (hl : A.length ≤ 1099511627776) :
    Calls Try.prog 51 #[fv P mo, u] w (RetX w fun r _ => r = .bool (decide (A = bcl (bz P A)))) := by
  refine calls2 Try.func51 rfl rfl ?_
  refine wc_seq ?_
  refine wc_region [0,1] rfl ?_
  refine BXA rfl wu rfl rfl ?_
  intro fb w1 hE hB hg
  refine Go.Sx.V rfl wu rfl rfl (asg rfl) ?_
  refine wr_nil (post_thenN (wc_seq ?_))
  refine wc_region [0,1,2,3,4,5] rfl ?_
  refine Go.Sx.V rfl wu rfl rfl (mv rfl) ?_
  refine Go.Sx.V rfl wu rfl rfl (ldA rfl ag24) ?_
  refine Go.Sx.V rfl wu rfl rfl (mv rfl) ?_
  refine C rfl wu rfl rfl Try.call21 (rBCanon P mo md u A _ (hF.ext hE) (hu.ext hE) hA hl) ?_
  intro c w2 hE2 hc
  replace hE := hE.trans hE2
  refine C rfl wu rfl rfl Try.call19 (rBSame u c _ _ _ (hu.ext hE) hc.ll) ?_
  rintro _ w3 hE3 rfl
  replace hE := hE.trans hE3
  refine Go.Sx.V rfl wu rfl rfl (asg rfl) ?_
  refine wr_nil (post_thenN (wc_ret ?_))
  refine post_ret1 rfl rfl ?_
  exact ⟨hE, rfl⟩

/-- The tasks that the laws go through. -/
def May (P : FP) (x : TkRec) : Prop := x.xs.length = x.ys.length ∧ x.xs.length ≤ 8 ∧ 1 ≤ x.M ∧ x.M ≤ 3 ∧ 0 ≤ x.W ∧ x.W ≤ 8 ∧ 0 ≤ x.L ∧ x.L ≤ 5 ∧ dif P x.xs x.xs.length = true
set_option maxRecDepth 10000 in
theorem lMay (P : FP) (mo : Value) (md : List Int) (x : TkRec) (w : World) (hF : FV w P mo md) (hu : Ints w x.u x.xs) (hv : Ints w x.v x.ys) :
    Calls Try.prog 48 #[x.val, fv P mo] w (RetX w fun r _ => ∃ t, r = .bool t ∧ (t = true ↔ May P x)) := by
  obtain ⟨u, v, xs, ys, M, W, L⟩ := x
  dsimp only at hu hv
  refine calls2 Try.func48 rfl rfl ?_
  refine wc_seq ?_
  refine wc_region [0,1,2] rfl ?_
  refine BXA rfl wu rfl rfl ?_
  intro tb w1 hE hB hg
  refine BXA rfl wu rfl rfl ?_
  intro fb w2 hE2 hB2 hg2
  replace hB := hB.ext hE2
  replace hE := hE.trans hE2
  refine Go.Sx.V rfl wu rfl rfl (asg rfl) ?_
  refine wr_nil (post_thenN (wc_seq ?_))
  have hui := hu.ext hE
  have hvi := hv.ext hE
  refine wc_region [0,1,2,3] rfl ?_
  refine Go.Sx.V rfl wu rfl rfl (fad rfl fa73_0) ?_
  refine Go.Sx.V rfl wu rfl rfl (ldB rfl na22 hB) ?_
  refine Go.Sx.V rfl wu rfl rfl (lenI rfl ty22 hui) ?_
  refine Go.Sx.V rfl wu rfl rfl (asg rfl) ?_
  refine wr_nil (post_thenN (wc_seq ?_))
  refine wc_region [0,1,2,3,4,5,6,7,8,9,10,11,12,13,14,15,16,17,18,19,20,21,22,23,24,25,26,27,28,29,30,31,32,33,34,35,36,37,38,39,40,41,42,43,44,45] rfl ?_
  refine Go.Sx.V rfl wu rfl rfl (mv rfl) ?_
  refine Go.Sx.V rfl wu rfl rfl (fad rfl fa73_1) ?_
  refine Go.Sx.V rfl wu rfl rfl (ldB rfl na22 hB) ?_
  refine Go.Sx.V rfl wu rfl rfl (lenI rfl ty22 hvi) ?_
  refine Go.Sx.V rfl wu rfl rfl (eqlI rfl rfl) ?_
  refine Go.Sx.V rfl wu rfl rfl (mv rfl) ?_
  refine AND (π1 := [6,7,8]) (π2 := [9,10,11,12,13,14,15,16,17,18,19,20,21,22,23,24,25,26,27,28,29,30,31,32,33,34,35,36,37,38,39,40,41,42,43,44,45]) (tc := 14) (tp := 17) rfl rfl rfl (by
      intro hg
      simp at hg
      refine Go.Sx.V rfl (wg rfl rfl) rfl rfl (mv rfl) ?_
      refine Go.Sx.V rfl (wg rfl rfl) rfl rfl (leqI rfl rfl) ?_
      refine Go.Sx.V rfl wu rfl rfl (pk rfl rfl) ?_
      exact join rfl) (by
      intro _
      refine SK rfl rfl rfl rfl rfl ?_
      refine SK rfl rfl rfl rfl rfl ?_
      refine Go.Sx.V rfl wu rfl rfl (pk rfl rfl) ?_
      exact join rfl) ?_
  refine Go.Sx.V rfl wu rfl rfl (mv rfl) ?_
  refine AND (π1 := [10,11,12,13]) (π2 := [14,15,16,17,18,19,20,21,22,23,24,25,26,27,28,29,30,31,32,33,34,35,36,37,38,39,40,41,42,43,44,45]) (tc := 18) (tp := 22) rfl rfl rfl (by
      intro hg
      simp at hg
      refine Go.Sx.V rfl (wg rfl rfl) rfl rfl (fad rfl fa73_2) ?_
      refine Go.Sx.V rfl (wg rfl rfl) rfl rfl (ldB rfl na3) ?_
      refine Go.Sx.V rfl (wg rfl rfl) rfl rfl (geqI rfl rfl) ?_
      refine Go.Sx.V rfl wu rfl rfl (pk rfl rfl) ?_
      exact join rfl) (by
      intro _
      refine SK rfl rfl rfl rfl rfl ?_
      refine SK rfl rfl rfl rfl rfl ?_
      refine SK rfl rfl rfl rfl rfl ?_
      refine Go.Sx.V rfl wu rfl rfl (pk rfl rfl) ?_
      exact join rfl) ?_
  refine Go.Sx.V rfl wu rfl rfl (mv rfl) ?_
  refine AND (π1 := [15,16,17,18]) (π2 := [19,20,21,22,23,24,25,26,27,28,29,30,31,32,33,34,35,36,37,38,39,40,41,42,43,44,45]) (tc := 23) (tp := 27) rfl rfl rfl (by
      intro hg
      simp at hg
      refine Go.Sx.V rfl (wg rfl rfl) rfl rfl (fad rfl fa73_2) ?_
      refine Go.Sx.V rfl (wg rfl rfl) rfl rfl (ldB rfl na3) ?_
      refine Go.Sx.V rfl (wg rfl rfl) rfl rfl (leqI rfl rfl) ?_
      refine Go.Sx.V rfl wu rfl rfl (pk rfl rfl) ?_
      exact join rfl) (by
      intro _
      refine SK rfl rfl rfl rfl rfl ?_
      refine SK rfl rfl rfl rfl rfl ?_
      refine SK rfl rfl rfl rfl rfl ?_
      refine Go.Sx.V rfl wu rfl rfl (pk rfl rfl) ?_
      exact join rfl) ?_
  refine Go.Sx.V rfl wu rfl rfl (mv rfl) ?_
  refine AND (π1 := [20,21,22,23]) (π2 := [24,25,26,27,28,29,30,31,32,33,34,35,36,37,38,39,40,41,42,43,44,45]) (tc := 28) (tp := 32) rfl rfl rfl (by
      intro hg
      simp at hg
      refine Go.Sx.V rfl (wg rfl rfl) rfl rfl (fad rfl fa73_3) ?_
      refine Go.Sx.V rfl (wg rfl rfl) rfl rfl (ldB rfl na3) ?_
      refine Go.Sx.V rfl (wg rfl rfl) rfl rfl (geqI rfl rfl) ?_
      refine Go.Sx.V rfl wu rfl rfl (pk rfl rfl) ?_
      exact join rfl) (by
      intro _
      refine SK rfl rfl rfl rfl rfl ?_
      refine SK rfl rfl rfl rfl rfl ?_
      refine SK rfl rfl rfl rfl rfl ?_
      refine Go.Sx.V rfl wu rfl rfl (pk rfl rfl) ?_
      exact join rfl) ?_
  refine Go.Sx.V rfl wu rfl rfl (mv rfl) ?_
  refine AND (π1 := [25,26,27,28]) (π2 := [29,30,31,32,33,34,35,36,37,38,39,40,41,42,43,44,45]) (tc := 33) (tp := 37) rfl rfl rfl (by
      intro hg
      simp at hg
      refine Go.Sx.V rfl (wg rfl rfl) rfl rfl (fad rfl fa73_3) ?_
      refine Go.Sx.V rfl (wg rfl rfl) rfl rfl (ldB rfl na3) ?_
      refine Go.Sx.V rfl (wg rfl rfl) rfl rfl (leqI rfl rfl) ?_
      refine Go.Sx.V rfl wu rfl rfl (pk rfl rfl) ?_
      exact join rfl) (by
      intro _
      refine SK rfl rfl rfl rfl rfl ?_
      refine SK rfl rfl rfl rfl rfl ?_
      refine SK rfl rfl rfl rfl rfl ?_
      refine Go.Sx.V rfl wu rfl rfl (pk rfl rfl) ?_
      exact join rfl) ?_
  refine Go.Sx.V rfl wu rfl rfl (mv rfl) ?_
  refine AND (π1 := [30,31,32,33]) (π2 := [34,35,36,37,38,39,40,41,42,43,44,45]) (tc := 38) (tp := 42) rfl rfl rfl (by
      intro hg
      simp at hg
      refine Go.Sx.V rfl (wg rfl rfl) rfl rfl (fad rfl fa73_4) ?_
      refine Go.Sx.V rfl (wg rfl rfl) rfl rfl (ldB rfl na3) ?_
      refine Go.Sx.V rfl (wg rfl rfl) rfl rfl (geqI rfl rfl) ?_
      refine Go.Sx.V rfl wu rfl rfl (pk rfl rfl) ?_
      exact join rfl) (by
      intro _
      refine SK rfl rfl rfl rfl rfl ?_
      refine SK rfl rfl rfl rfl rfl ?_
      refine SK rfl rfl rfl rfl rfl ?_
      refine Go.Sx.V rfl wu rfl rfl (pk rfl rfl) ?_
      exact join rfl) ?_
  refine Go.Sx.V rfl wu rfl rfl (mv rfl) ?_
  refine AND (π1 := [35,36,37,38]) (π2 := [39,40,41,42,43,44,45]) (tc := 43) (tp := 47) rfl rfl rfl (by
      intro hg
      simp at hg
      refine Go.Sx.V rfl (wg rfl rfl) rfl rfl (fad rfl fa73_4) ?_
      refine Go.Sx.V rfl (wg rfl rfl) rfl rfl (ldB rfl na3) ?_
      refine Go.Sx.V rfl (wg rfl rfl) rfl rfl (leqI rfl rfl) ?_
      refine Go.Sx.V rfl wu rfl rfl (pk rfl rfl) ?_
      exact join rfl) (by
      intro _
      refine SK rfl rfl rfl rfl rfl ?_
      refine SK rfl rfl rfl rfl rfl ?_
      refine SK rfl rfl rfl rfl rfl ?_
      refine Go.Sx.V rfl wu rfl rfl (pk rfl rfl) ?_
      exact join rfl) ?_
  refine Go.Sx.V rfl wu rfl rfl (mv rfl) ?_
  refine ANDX (π1 := [40,41,42,43,44]) (π2 := [45]) (tc := 48) (tp := 53) rfl rfl rfl (by
      intro hg
      simp at hg
      refine Go.Sx.V rfl (wg rfl rfl) rfl rfl (ldA rfl ag24 hB2) ?_
      refine Go.Sx.V rfl (wg rfl rfl) rfl rfl (fad rfl fa73_0) ?_
      refine Go.Sx.V rfl (wg rfl rfl) rfl rfl (ldB rfl na22 hB) ?_
      refine C rfl (wg rfl rfl) rfl rfl Try.call49 (rDifferent P mo md u xs _ (hF.ext hE) hui) ?_
      rintro _ w3 hE3 rfl
      refine Go.Sx.V rfl wu rfl rfl (pk rfl rfl) ?_
      exact joinX rfl) (by
      intro _
      refine SK rfl rfl rfl rfl rfl ?_
      refine SK rfl rfl rfl rfl rfl ?_
      refine SK rfl rfl rfl rfl rfl ?_
      refine SK rfl rfl rfl rfl rfl ?_
      refine Go.Sx.V rfl wu rfl rfl (pk rfl rfl) ?_
      exact joinX rfl) ?_
  intro w3 hE3
  refine Go.Sx.V rfl wu rfl rfl (asg rfl) ?_
  refine wr_nil (post_thenN (wc_ret ?_))
  refine post_ret1 rfl rfl ?_
  refine ⟨hE.trans hE3, _, rfl, ?_⟩
  simp only [Bool.and_eq_true, decide_eq_true_eq, May]
  constructor
  · rintro ⟨⟨⟨⟨⟨⟨⟨⟨h1, h2⟩, h3⟩, h4⟩, h5⟩, h6⟩, h7⟩, h8⟩, h9⟩
    exact ⟨by omega, by omega, h3, h4, h5, h6, h7, h8, h9⟩
  · rintro ⟨h1, h2, h3, h4, h5, h6, h7, h8, h9⟩
    exact ⟨⟨⟨⟨⟨⟨⟨⟨by omega, by omega⟩, h3⟩, h4⟩, h5⟩, h6⟩, h7⟩, h8⟩, h9⟩
theorem may_args {P : FP} {x : TkRec} (h : May P x) : argsA P x.xs x.ys.length x.M x.W x.L = 0 := by
  obtain ⟨h1, h2, h3, h4, h5, h6, h7, h8, h9⟩ := h
  obtain ⟨m, hm⟩ : ∃ m : Nat, x.M = m := ⟨x.M.toNat, by omega⟩
  refine args_zero.2 ⟨h1, h9, h3, by omega, h5, by omega, h7, by omega, ?_⟩
  rw [hm]
  have a1 : ((x.xs.length : Int) * m) ≤ 8 * 3 := Int.mul_le_mul (by omega) (by omega) (by omega) (by omega)
  have a0 : 0 ≤ ((x.xs.length : Int) * m) := Int.mul_nonneg (by omega) (by omega)
  have a2 : ((x.xs.length : Int) * m) * (m + 1) ≤ 8 * 3 * 4 := Int.mul_le_mul a1 (by omega) (by omega) (by omega)
  omega

end Go.Proofs.Ytjpcgjllmpdmhaa
