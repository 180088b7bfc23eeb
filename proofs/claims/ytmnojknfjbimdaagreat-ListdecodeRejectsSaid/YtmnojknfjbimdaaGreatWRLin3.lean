/-
  The reference's codes, by contract: checks of a code that is reduced, its pivots, what is left of a word, whether a word is in it.
-/
import Derived.Test.YtmnojknfjbimdaaGreatWRLin2
import Derived.Test.YtmnojknfjbimdaaGreatWMTya
namespace Go.Proofs.YtmnojknfjbimdaaGreat
open Go Go.Sx Go.Pl Go.RowKit Go.Fd Go.Alg Go.Ld
set_option maxRecDepth 10000 in
theorem rSameInts (u v : Value) (a : List Int) (w : World) (hu : Ints w u a) (hv : Ints w v a) :
    Calls Tryz.prog 175 #[u, v] w (RetX w fun r _ => r = .bool true) := by
  have hle := hu.le
  refine calls2 Tryz.func175 rfl rfl ?_
  refine wc_seq ?_
  refine wc_region [0] rfl ?_
  refine Go.Sx.V rfl wu rfl rfl (asg rfl) ?_
  refine wr_nil (post_thenN (wc_seq (wc_seq ?_)))
  refine wc_region [0,1,2,3,4] rfl ?_
  refine Go.Sx.V rfl wu rfl rfl (mv rfl) ?_
  refine Go.Sx.V rfl wu rfl rfl (lenI rfl ty22) ?_
  refine Go.Sx.V rfl wu rfl rfl (mv rfl) ?_
  refine Go.Sx.V rfl wu rfl rfl (lenI rfl ty22) ?_
  refine Go.Sx.V rfl wu rfl rfl (neqI rfl rfl) ?_
  refine wr_nil (post_thenN ?_)
  refine wc_condF rfl (by simp) ?_
  refine wc_skip (post_thenN (wc_seq (wc_seq ?_)))
  refine wc_region [0] rfl ?_
  refine Go.Sx.V rfl wu rfl rfl (asg rfl) ?_
  refine wr_nil (post_thenN (wc_block ?_))
  refine wc_loop (fun i : Nat => [(0, u), (1, v), (5, .int .i64 i)]) (fun i w' => i ≤ a.length ∧ Ext w w') (fun i => a.length - i) 0 ⟨rfl, rfl, rfl, trivial⟩ ⟨by omega, Ext.refl _⟩ ?_
  rintro i w1 ⟨i1, hE⟩
  have hui := hu.ext hE
  have hvi := hv.ext hE
  try dsimp only
  refine wc_seq (wc_seq ?_)
  refine wc_region [0,1,2,3] rfl ?_
  refine Go.Sx.V rfl wu rfl rfl (mv rfl) ?_
  refine Go.Sx.V rfl wu rfl rfl (mv rfl) ?_
  refine Go.Sx.V rfl wu rfl rfl (lenI rfl ty22 hui) ?_
  refine Go.Sx.V rfl wu rfl rfl (lssI rfl rfl) ?_
  refine wr_nil (post_thenN ?_)
  refine wc_cond rfl ?_ ?_
  · intro hc
    simp at hc
    refine wc_skip (post_thenN (wc_seq (wc_block (wc_seq ?_))))
    refine wc_draw mixed [0,1,2,3,4,5,6,7,8] (by kernel_rfl) ?_
    intro w2 hd _
    replace hE := hE.trans hd
    replace hui := hui.ext hd
    replace hvi := hvi.ext hd
    refine Go.Sx.V rfl wu rfl rfl (mv rfl) ?_
    refine Go.Sx.V rfl wu rfl rfl (mv rfl) ?_
    refine Go.Sx.V rfl wu rfl rfl (iadI rfl rfl ty22 hui (by omega) (by omega)) ?_
    refine Go.Sx.V rfl wu rfl rfl (ldI rfl na3 hui) ?_
    refine Go.Sx.V rfl wu rfl rfl (mv rfl) ?_
    refine Go.Sx.V rfl wu rfl rfl (mv rfl) ?_
    refine Go.Sx.V rfl wu rfl rfl (iadI rfl rfl ty22 hvi (by omega) (by omega)) ?_
    refine Go.Sx.V rfl wu rfl rfl (ldI rfl na3 hvi) ?_
    refine Go.Sx.V rfl wu rfl rfl (neqI rfl rfl) ?_
    refine wr_nil (post_thenN ?_)
    refine wc_condF rfl (by simp) ?_
    refine wc_skip (post_blockN (post_thenN ?_))
    refine wc_region [0,1,2] rfl ?_
    refine Go.Sx.V rfl wu rfl rfl (mv rfl) ?_
    refine Go.Sx.V rfl wu rfl rfl (addI rfl rfl) ?_
    refine Go.Sx.V rfl wu rfl rfl (asg rfl) ?_
    refine wr_nil ?_
    exact post_loopN (i + 1) ⟨rfl, rfl, rfl, trivial⟩ ⟨by omega, hE⟩ (by omega)
  · intro hc
    refine wc_exit (post_thenE (post_loopE (post_blockX (post_thenN (wc_seq ?_)))))
    refine wc_region [0] rfl ?_
    refine Go.Sx.V rfl wu rfl rfl (asg rfl) ?_
    refine wr_nil (post_thenN (wc_ret ?_))
    refine post_ret1 rfl rfl ?_
    exact ⟨hE, rfl⟩
set_option maxRecDepth 10000 in
theorem rSameRows (u v : Value) (L : List (List Int)) (w : World) (hu : LL w u L) (hv : LL w v L) :
    Calls Tryz.prog 169 #[u, v] w (RetX w fun r _ => r = .bool true) := by
  obtain ⟨rows, hs, hrl, hrr⟩ := hu.row
  obtain ⟨rows2, hs2, hrl2, hrr2⟩ := hv.row
  have hle := hs.le
  refine calls2 Tryz.func169 rfl rfl ?_
  refine wc_seq ?_
  refine wc_region [0] rfl ?_
  refine Go.Sx.V rfl wu rfl rfl (asg rfl) ?_
  refine wr_nil (post_thenN (wc_seq (wc_seq ?_)))
  refine wc_region [0,1,2,3,4] rfl ?_
  refine Go.Sx.V rfl wu rfl rfl (mv rfl) ?_
  refine Go.Sx.V rfl wu rfl rfl (lenS rfl ty29 hs) ?_
  refine Go.Sx.V rfl wu rfl rfl (mv rfl) ?_
  refine Go.Sx.V rfl wu rfl rfl (lenS rfl ty29 hs2) ?_
  refine Go.Sx.V rfl wu rfl rfl (neqI rfl rfl) ?_
  refine wr_nil (post_thenN ?_)
  refine wc_condF rfl (by rw [hrl, hrl2]; simp) ?_
  refine wc_skip (post_thenN (wc_seq (wc_seq ?_)))
  refine wc_region [0] rfl ?_
  refine Go.Sx.V rfl wu rfl rfl (asg rfl) ?_
  refine wr_nil (post_thenN (wc_block ?_))
  refine wc_loop (fun i : Nat => [(0, u), (1, v), (5, .int .i64 i)]) (fun i w' => i ≤ L.length ∧ Ext w w') (fun i => L.length - i) 0 ⟨rfl, rfl, rfl, trivial⟩ ⟨by omega, Ext.refl _⟩ ?_
  rintro i w1 ⟨i1, hE⟩
  have hsi := hs.ext hE
  have hsi2 := hs2.ext hE
  try dsimp only
  refine wc_seq (wc_seq ?_)
  refine wc_region [0,1,2,3] rfl ?_
  refine Go.Sx.V rfl wu rfl rfl (mv rfl) ?_
  refine Go.Sx.V rfl wu rfl rfl (mv rfl) ?_
  refine Go.Sx.V rfl wu rfl rfl (lenS rfl ty29 hsi) ?_
  refine Go.Sx.V rfl wu rfl rfl (lssI rfl rfl) ?_
  refine wr_nil (post_thenN ?_)
  rw [hrl]
  refine wc_cond rfl ?_ ?_
  · intro hc
    simp at hc
    obtain ⟨r, hr, hri⟩ := hrr i hc
    obtain ⟨r2, hr2, hri2⟩ := hrr2 i hc
    refine wc_skip (post_thenN (wc_seq (wc_block (wc_seq ?_))))
    refine wc_draw mixed [0,1,2,3,4,5,6,7,8,9] (by kernel_rfl) ?_
    intro w2 hd _
    replace hE := hE.trans hd
    replace hsi := hsi.ext hd
    replace hsi2 := hsi2.ext hd
    refine Go.Sx.V rfl wu rfl rfl (mv rfl) ?_
    refine Go.Sx.V rfl wu rfl rfl (mv rfl) ?_
    refine Go.Sx.V rfl wu rfl rfl (iad rfl rfl ty29 hsi (by omega) (by omega)) ?_
    refine Go.Sx.V rfl wu rfl rfl (ldE rfl na22 hsi (by rw [Int.toNat_natCast]; exact hr)) ?_
    refine Go.Sx.V rfl wu rfl rfl (mv rfl) ?_
    refine Go.Sx.V rfl wu rfl rfl (mv rfl) ?_
    refine Go.Sx.V rfl wu rfl rfl (iad rfl rfl ty29 hsi2 (by omega) (by omega)) ?_
    refine Go.Sx.V rfl wu rfl rfl (ldE rfl na22 hsi2 (by rw [Int.toNat_natCast]; exact hr2)) ?_
    refine C rfl wu rfl rfl Tryz.call175 (rSameInts r r2 _ _ (hri.ext hE) (hri2.ext hE)) ?_
    rintro _ w3 hE3 rfl
    replace hE := hE.trans hE3
    refine Go.Sx.V rfl wu rfl rfl (notB rfl) ?_
    refine wr_nil (post_thenN ?_)
    refine wc_condF rfl (by simp) ?_
    refine wc_skip (post_blockN (post_thenN ?_))
    refine wc_region [0,1,2] rfl ?_
    refine Go.Sx.V rfl wu rfl rfl (mv rfl) ?_
    refine Go.Sx.V rfl wu rfl rfl (addI rfl rfl) ?_
    refine Go.Sx.V rfl wu rfl rfl (asg rfl) ?_
    refine wr_nil ?_
    exact post_loopN (i + 1) ⟨rfl, rfl, rfl, trivial⟩ ⟨by omega, hE⟩ (by omega)
  · intro hc
    refine wc_exit (post_thenE (post_loopE (post_blockX (post_thenN (wc_seq ?_)))))
    refine wc_region [0] rfl ?_
    refine Go.Sx.V rfl wu rfl rfl (asg rfl) ?_
    refine wr_nil (post_thenN (wc_ret ?_))
    refine post_ret1 rfl rfl ?_
    exact ⟨hE, rfl⟩
set_option maxRecDepth 10000 in
theorem rEntries (P : FP) (mo : Value) (md : List Int) (u : Value) (l : List Int) (w : World) (hF : FV w P mo md) (hu : Ints w u l) (hl : AllIn P.q l) :
    Calls Tryz.prog 144 #[fv P mo, u] w (RetX w fun r _ => r = .int .i64 0) := by
  have hle := hu.le
  refine calls2 Tryz.func144 rfl rfl ?_
  refine wc_seq ?_
  refine wc_region [0,1] rfl ?_
  refine BXA rfl wu rfl rfl ?_
  intro fb w1 hE hB hg
  refine Go.Sx.V rfl wu rfl rfl (asg rfl) ?_
  refine wr_nil (post_thenN (wc_seq (wc_seq ?_)))
  refine wc_region [0] rfl ?_
  refine Go.Sx.V rfl wu rfl rfl (asg rfl) ?_
  refine wr_nil (post_thenN (wc_block ?_))
  have hX := Ext.refl w1
  refine wc_loop (fun i : Nat => [(2, .pointer (some ⟨fb, 0, none⟩)), (1, u), (5, .int .i64 i)]) (fun i w' => i ≤ l.length ∧ Ext w w' ∧ Ext w1 w') (fun i => l.length - i) 0 ⟨rfl, rfl, rfl, trivial⟩ ⟨by omega, hE, hX⟩ ?_
  clear hE hX
  rintro i w2 ⟨i1, hE, hX⟩
  have hui := hu.ext hE
  have hB2 := hB.ext hX
  try dsimp only
  refine wc_seq (wc_seq ?_)
  refine wc_region [0,1,2,3] rfl ?_
  refine Go.Sx.V rfl wu rfl rfl (mv rfl) ?_
  refine Go.Sx.V rfl wu rfl rfl (mv rfl) ?_
  refine Go.Sx.V rfl wu rfl rfl (lenI rfl ty22 hui) ?_
  refine Go.Sx.V rfl wu rfl rfl (lssI rfl rfl) ?_
  refine wr_nil (post_thenN ?_)
  refine wc_cond rfl ?_ ?_
  · intro hc
    simp at hc
    refine wc_skip (post_thenN (wc_seq (wc_block (wc_seq ?_))))
    have hin := hl i hc
    refine wc_draw mixed [0,1,2,3,4,5,6] (by kernel_rfl) ?_
    intro w3 hd _
    replace hE := hE.trans hd
    replace hX := hX.trans hd
    replace hB2 := hB2.ext hd
    replace hui := hui.ext hd
    refine Go.Sx.V rfl wu rfl rfl (ldA rfl ag24 hB2) ?_
    refine Go.Sx.V rfl wu rfl rfl (mv rfl) ?_
    refine Go.Sx.V rfl wu rfl rfl (mv rfl) ?_
    refine Go.Sx.V rfl wu rfl rfl (iadI rfl rfl ty22 hui (by omega) (by omega)) ?_
    refine Go.Sx.V rfl wu rfl rfl (ldI rfl na3 hui) ?_
    refine C rfl wu rfl rfl Tryz.call36 (rIs P mo md (gi l i) _ (hF.ext hE)) ?_
    rintro _ w4 hE4 rfl
    replace hE := hE.trans hE4
    replace hX := hX.trans hE4
    refine Go.Sx.V rfl wu rfl rfl (notB rfl) ?_
    refine wr_nil (post_thenN ?_)
    refine wc_condF rfl (by simp [hin]) ?_
    refine wc_skip (post_blockN (post_thenN ?_))
    refine wc_region [0,1,2] rfl ?_
    refine Go.Sx.V rfl wu rfl rfl (mv rfl) ?_
    refine Go.Sx.V rfl wu rfl rfl (addI rfl rfl) ?_
    refine Go.Sx.V rfl wu rfl rfl (asg rfl) ?_
    refine wr_nil ?_
    exact post_loopN (i + 1) ⟨rfl, rfl, rfl, trivial⟩ ⟨by omega, hE, hX⟩ (by omega)
  · intro hc
    refine wc_exit (post_thenE (post_loopE (post_blockX (post_thenN (wc_seq ?_)))))
    refine wc_region [0] rfl ?_
    refine Go.Sx.V rfl wu rfl rfl (asg rfl) ?_
    refine wr_nil (post_thenN (wc_ret ?_))
    refine post_ret1 rfl rfl ?_
    exact ⟨hE, rfl⟩
set_option maxRecDepth 10000 in
theorem r9Check (P : FP) (mo : Value) (md : List Int) (v : Value) (m n : Nat) (M : Nat → Nat → K P) (w : World) (hF : FV w P mo md) (hok : OkF P.p P.M md) (hL : LL w v (matL P m n M)) (hm : m ≤ 256) (hn : n ≤ 256) :
    Calls Tryz.prog 168 #[fv P mo, .agg #[.int .i64 n, v]] w (RetX w fun r _ => r = .int .i64 0) := by
  obtain ⟨rows, hs, hrl, hrr⟩ := hL.row
  have hml := matL_length (P := P) m n M
  rw [hml] at hrl hrr
  refine calls2 Tryz.func168 rfl rfl ?_
  refine wc_seq ?_
  refine wc_region [0,1,2] rfl ?_
  refine BXA rfl wu rfl rfl ?_
  intro fb w1 hE hB hg
  refine BXA rfl wu rfl rfl ?_
  intro ab w2 hE2 hA ha
  replace hE := hE.trans hE2
  replace hB := hB.ext hE2
  refine Go.Sx.V rfl wu rfl rfl (asg rfl) ?_
  refine wr_nil (post_thenN (wc_seq ?_))
  refine wc_region [0,1,2] rfl ?_
  refine Go.Sx.V rfl wu rfl rfl (ldA rfl ag24 hB) ?_
  refine C rfl wu rfl rfl Tryz.call66 (rCheck P.p P.M mo md _ (hF.ints.ext hE)) ?_
  intro cv w3 hE3 hck
  obtain ⟨rfl, _⟩ := hck.resolve_right (fun h => h.2 hok)
  replace hE := hE.trans hE3
  replace hB := hB.ext hE3
  replace hA := hA.ext hE3
  refine Go.Sx.V rfl wu rfl rfl (asg rfl) ?_
  refine wr_nil (post_thenN (wc_seq (wc_seq ?_)))
  refine wc_region [0,1] rfl ?_
  refine Go.Sx.V rfl wu rfl rfl (mv rfl) ?_
  refine Go.Sx.V rfl wu rfl rfl (neqI rfl rfl) ?_
  refine wr_nil (post_thenN ?_)
  refine wc_condF rfl (by simp) ?_
  refine wc_skip (post_thenN (wc_seq (wc_seq ?_)))
  have hs3 := hs.ext hE
  refine wc_region [0,1,2,3,4,5,6,7,8,9,10,11,12,13] rfl ?_
  refine Go.Sx.V rfl wu rfl rfl (fad rfl fa175_0) ?_
  refine Go.Sx.V rfl wu rfl rfl (ldB rfl na3 hA) ?_
  refine Go.Sx.V rfl wu rfl rfl (lssI rfl rfl) ?_
  refine Go.Sx.V rfl wu rfl rfl (mv rfl) ?_
  refine KB 16 false rfl (by first | (simp; done) | (simp; omega)) ?_
  refine Go.Sx.V rfl (wg rfl rfl) rfl rfl (fad rfl fa175_0) ?_
  refine Go.Sx.V rfl (wg rfl rfl) rfl rfl (ldB rfl na3 hA) ?_
  refine Go.Sx.V rfl (wg rfl rfl) rfl rfl (gtrI rfl rfl) ?_
  refine Go.Sx.V rfl wu rfl rfl (pk rfl rfl) ?_
  refine Go.Sx.V rfl wu rfl rfl (mv rfl) ?_
  refine KB 21 false rfl (by first | (simp; done) | (simp; omega)) ?_
  refine Go.Sx.V rfl (wg rfl rfl) rfl rfl (fad rfl fa175_1) ?_
  refine Go.Sx.V rfl (wg rfl rfl) rfl rfl (ldB rfl na29 hA) ?_
  refine Go.Sx.V rfl (wg rfl rfl) rfl rfl (lenS rfl ty29 hs3) ?_
  refine Go.Sx.V rfl (wg rfl rfl) rfl rfl (gtrI rfl rfl) ?_
  refine Go.Sx.V rfl wu rfl rfl (pk rfl rfl) ?_
  refine wr_nil (post_thenN ?_)
  refine wc_condF rfl (by rw [hrl]; simp; omega) ?_
  refine wc_skip (post_thenN (wc_seq (wc_seq ?_)))
  refine wc_region [0] rfl ?_
  refine Go.Sx.V rfl wu rfl rfl (asg rfl) ?_
  refine wr_nil (post_thenN (wc_block ?_))
  have hX := Ext.refl w3
  refine wc_loop (fun i : Nat => [(2, .pointer (some ⟨fb, 0, none⟩)), (3, .pointer (some ⟨ab, 0, none⟩)), (6, .int .i64 i)]) (fun i w' => i ≤ m ∧ Ext w w' ∧ Ext w3 w') (fun i => m - i) 0 ⟨rfl, rfl, rfl, trivial⟩ ⟨by omega, hE, hX⟩ ?_
  clear hE hX hs3
  rintro i w4 ⟨i1, hE, hX⟩
  have hsi := hs.ext hE
  have hA4 := hA.ext hX
  try dsimp only
  refine wc_seq (wc_seq ?_)
  refine wc_region [0,1,2,3,4] rfl ?_
  refine Go.Sx.V rfl wu rfl rfl (mv rfl) ?_
  refine Go.Sx.V rfl wu rfl rfl (fad rfl fa175_1) ?_
  refine Go.Sx.V rfl wu rfl rfl (ldB rfl na29 hA4) ?_
  refine Go.Sx.V rfl wu rfl rfl (lenS rfl ty29 hsi) ?_
  refine Go.Sx.V rfl wu rfl rfl (lssI rfl rfl) ?_
  refine wr_nil (post_thenN ?_)
  rw [hrl]
  refine wc_cond rfl ?_ ?_
  · intro hc
    simp at hc
    obtain ⟨r, hr, hri⟩ := hrr i hc
    rw [matL_row hc] at hri
    have hri4 := hri.ext hE
    have hrn := rowL_length (P := P) n (M i)
    refine wc_skip (post_thenN (wc_seq (wc_block (wc_seq ?_))))
    refine wc_draw mixed [0,1,2,3,4,5,6,7,8] (by kernel_rfl) ?_
    intro w5 hd _
    replace hE := hE.trans hd
    replace hX := hX.trans hd
    replace hA4 := hA4.ext hd
    replace hsi := hsi.ext hd
    replace hri4 := hri4.ext hd
    refine Go.Sx.V rfl wu rfl rfl (fad rfl fa175_1) ?_
    refine Go.Sx.V rfl wu rfl rfl (ldB rfl na29 hA4) ?_
    refine Go.Sx.V rfl wu rfl rfl (mv rfl) ?_
    refine Go.Sx.V rfl wu rfl rfl (iad rfl rfl ty29 hsi (by omega) (by omega)) ?_
    refine Go.Sx.V rfl wu rfl rfl (ldE rfl na22 hsi (by rw [Int.toNat_natCast]; exact hr)) ?_
    refine Go.Sx.V rfl wu rfl rfl (lenI rfl ty22 hri4) ?_
    refine Go.Sx.V rfl wu rfl rfl (fad rfl fa175_0) ?_
    refine Go.Sx.V rfl wu rfl rfl (ldB rfl na3 hA4) ?_
    refine Go.Sx.V rfl wu rfl rfl (neqI rfl rfl) ?_
    refine wr_nil (post_thenN ?_)
    refine wc_condF rfl (by simp [hrn]) ?_
    refine wc_skip (post_blockN (post_thenN ?_))
    refine wc_region [0,1,2] rfl ?_
    refine Go.Sx.V rfl wu rfl rfl (mv rfl) ?_
    refine Go.Sx.V rfl wu rfl rfl (addI rfl rfl) ?_
    refine Go.Sx.V rfl wu rfl rfl (asg rfl) ?_
    refine wr_nil ?_
    exact post_loopN (i + 1) ⟨rfl, rfl, rfl, trivial⟩ ⟨by omega, hE, hX⟩ (by omega)
  · intro hc
    refine wc_exit (post_thenE (post_loopE (post_blockX (post_thenN (wc_seq (wc_seq ?_))))))
    refine wc_region [0] rfl ?_
    refine Go.Sx.V rfl wu rfl rfl (asg rfl) ?_
    refine wr_nil (post_thenN (wc_block ?_))
    have hX3 := hX
    refine wc_loop (fun i : Nat => [(2, .pointer (some ⟨fb, 0, none⟩)), (3, .pointer (some ⟨ab, 0, none⟩)), (7, .int .i64 i)]) (fun i w' => i ≤ m ∧ Ext w w' ∧ Ext w3 w') (fun i => m - i) 0 ⟨rfl, rfl, rfl, trivial⟩ ⟨by omega, hE, hX⟩ ?_
    clear hE hX hX3 hsi hA4 hc i1
    clear i
    rintro i w4 ⟨i1, hE, hX⟩
    have hsi := hs.ext hE
    have hA4 := hA.ext hX
    have hB4 := hB.ext hX
    try dsimp only
    refine wc_seq (wc_seq ?_)
    refine wc_region [0,1,2,3,4] rfl ?_
    refine Go.Sx.V rfl wu rfl rfl (mv rfl) ?_
    refine Go.Sx.V rfl wu rfl rfl (fad rfl fa175_1) ?_
    refine Go.Sx.V rfl wu rfl rfl (ldB rfl na29 hA4) ?_
    refine Go.Sx.V rfl wu rfl rfl (lenS rfl ty29 hsi) ?_
    refine Go.Sx.V rfl wu rfl rfl (lssI rfl rfl) ?_
    refine wr_nil (post_thenN ?_)
    rw [hrl]
    refine wc_cond rfl ?_ ?_
    · intro hc
      simp at hc
      obtain ⟨r, hr, hri⟩ := hrr i hc
      rw [matL_row hc] at hri
      refine wc_skip (post_thenN (wc_seq (wc_block (wc_seq ?_))))
      refine wc_draw mixed [0,1,2,3,4,5,6,7] (by kernel_rfl) ?_
      intro w5 hd _
      replace hE := hE.trans hd
      replace hX := hX.trans hd
      replace hA4 := hA4.ext hd
      replace hB4 := hB4.ext hd
      replace hsi := hsi.ext hd
      refine Go.Sx.V rfl wu rfl rfl (ldA rfl ag24 hB4) ?_
      refine Go.Sx.V rfl wu rfl rfl (fad rfl fa175_1) ?_
      refine Go.Sx.V rfl wu rfl rfl (ldB rfl na29 hA4) ?_
      refine Go.Sx.V rfl wu rfl rfl (mv rfl) ?_
      refine Go.Sx.V rfl wu rfl rfl (iad rfl rfl ty29 hsi (by omega) (by omega)) ?_
      refine Go.Sx.V rfl wu rfl rfl (ldE rfl na22 hsi (by rw [Int.toNat_natCast]; exact hr)) ?_
      refine C rfl wu rfl rfl Tryz.call144 (rEntries P mo md r _ _ (hF.ext hE) (hri.ext hE) (rowL_all n (M i))) ?_
      rintro _ w6 hE6 rfl
      replace hE := hE.trans hE6
      replace hX := hX.trans hE6
      refine Go.Sx.V rfl wu rfl rfl (asg rfl) ?_
      refine wr_nil (post_thenN (wc_seq ?_))
      refine wc_region [0,1] rfl ?_
      refine Go.Sx.V rfl wu rfl rfl (mv rfl) ?_
      refine Go.Sx.V rfl wu rfl rfl (neqI rfl rfl) ?_
      refine wr_nil (post_thenN ?_)
      refine wc_condF rfl (by simp) ?_
      refine wc_skip (post_blockN (post_thenN ?_))
      refine wc_region [0,1,2] rfl ?_
      refine Go.Sx.V rfl wu rfl rfl (mv rfl) ?_
      refine Go.Sx.V rfl wu rfl rfl (addI rfl rfl) ?_
      refine Go.Sx.V rfl wu rfl rfl (asg rfl) ?_
      refine wr_nil ?_
      exact post_loopN (i + 1) ⟨rfl, rfl, rfl, trivial⟩ ⟨by omega, hE, hX⟩ (by omega)
    · intro hc
      refine wc_exit (post_thenE (post_loopE (post_blockX (post_thenN (wc_seq ?_)))))
      refine wc_region [0] rfl ?_
      refine Go.Sx.V rfl wu rfl rfl (asg rfl) ?_
      refine wr_nil (post_thenN (wc_ret ?_))
      refine post_ret1 rfl rfl ?_
      exact ⟨hE, rfl⟩
set_option maxRecDepth 10000 in
theorem r10Check (P : FP) (mo : Value) (md : List Int) (v : Value) (a n : Nat) (G : Nat → Nat → K P) (pv : Nat → Nat) (w : World) (hF : FV w P mo md) (hok : OkF P.p P.M md) (hgen : ∃ g : K P, HasOrder g (n1 P)) (hL : LL w v (matL P a n G)) (hR : Rr a n G pv) (ha : a ≤ 256) (hn : n ≤ 256) :
    Calls Tryz.prog 143 #[fv P mo, .agg #[.int .i64 n, v]] w (RetX w fun r _ => r = .int .i64 0) := by
  refine calls2 Tryz.func143 rfl rfl ?_
  refine wc_seq ?_
  refine wc_region [0,1,2] rfl ?_
  refine BXA rfl wu rfl rfl ?_
  intro fb w1 hE hB hg
  refine BXA rfl wu rfl rfl ?_
  intro ab w2 hE2 hA hga
  replace hE := hE.trans hE2
  replace hB := hB.ext hE2
  refine Go.Sx.V rfl wu rfl rfl (asg rfl) ?_
  refine wr_nil (post_thenN (wc_seq ?_))
  refine wc_region [0,1,2,3] rfl ?_
  refine Go.Sx.V rfl wu rfl rfl (ldA rfl ag24 hB) ?_
  refine Go.Sx.V rfl wu rfl rfl (ldA rfl ag175 hA) ?_
  refine C rfl wu rfl rfl Tryz.call168 (r9Check P mo md v a n G _ (hF.ext hE) hok (hL.ext hE) ha hn) ?_
  rintro _ w3 hE3 rfl
  replace hE := hE.trans hE3
  replace hB := hB.ext hE3
  replace hA := hA.ext hE3
  refine Go.Sx.V rfl wu rfl rfl (asg rfl) ?_
  refine wr_nil (post_thenN (wc_seq (wc_seq ?_)))
  refine wc_region [0,1] rfl ?_
  refine Go.Sx.V rfl wu rfl rfl (mv rfl) ?_
  refine Go.Sx.V rfl wu rfl rfl (neqI rfl rfl) ?_
  refine wr_nil (post_thenN ?_)
  refine wc_condF rfl (by simp) ?_
  refine wc_skip (post_thenN (wc_seq ?_))
  refine wc_region [0,1,2,3,4,5,6,7,8,9,10] rfl ?_
  refine Go.Sx.V rfl wu rfl rfl (ldA rfl ag24 hB) ?_
  refine Go.Sx.V rfl wu rfl rfl (fad rfl fa175_1) ?_
  refine Go.Sx.V rfl wu rfl rfl (ldB rfl na29 hA) ?_
  refine Go.Sx.V rfl wu rfl rfl (fad rfl fa175_0) ?_
  refine Go.Sx.V rfl wu rfl rfl (ldB rfl na3 hA) ?_
  refine C rfl wu rfl rfl Tryz.call108 (rCanon P mo md v a n G _ (hF.ext hE) hgen (hL.ext hE) (by omega) (by omega)) ?_
  rintro _ w4 hE4 ⟨lv, pvv, b, M, qv, rfl, hM, _, hRd⟩
  replace hE := hE.trans hE4
  replace hA := hA.ext hE4
  refine Go.Sx.V rfl wu rfl rfl (mv rfl) ?_
  refine Go.Sx.V rfl wu rfl rfl (ext rfl rfl) ?_
  refine Go.Sx.V rfl wu rfl rfl (ext rfl rfl) ?_
  refine Go.Sx.V rfl wu rfl rfl (asg rfl) ?_
  refine Go.Sx.V rfl wu rfl rfl (asg rfl) ?_
  refine wr_nil (post_thenN (wc_seq (wc_seq ?_)))
  obtain ⟨rfl, e⟩ := Red.same (fun e => k_one_ne' e) hR hRd
  rw [e] at hM
  refine wc_region [0,1,2,3,4] rfl ?_
  refine Go.Sx.V rfl wu rfl rfl (mv rfl) ?_
  refine Go.Sx.V rfl wu rfl rfl (fad rfl fa175_1) ?_
  refine Go.Sx.V rfl wu rfl rfl (ldB rfl na29 hA) ?_
  refine C rfl wu rfl rfl Tryz.call169 (rSameRows lv v _ _ hM.ll (hL.ext hE)) ?_
  rintro _ w5 hE5 rfl
  replace hE := hE.trans hE5
  refine Go.Sx.V rfl wu rfl rfl (notB rfl) ?_
  refine wr_nil (post_thenN ?_)
  refine wc_condF rfl (by simp) ?_
  refine wc_skip (post_thenN (wc_seq ?_))
  refine wc_region [0] rfl ?_
  refine Go.Sx.V rfl wu rfl rfl (asg rfl) ?_
  refine wr_nil (post_thenN (wc_ret ?_))
  refine post_ret1 rfl rfl ?_
  exact ⟨hE, rfl⟩
def cdv (P : FP) (mo : Value) (n : Nat) (lv : Value) : Value := .agg #[.int .i64 P.p, .int .i64 P.M, mo, .int .i64 n, lv]
set_option maxRecDepth 10000 in
theorem r12Check (P : FP) (mo : Value) (md : List Int) (v : Value) (a n : Nat) (G : Nat → Nat → K P) (pv : Nat → Nat) (w : World) (hF : FV w P mo md) (hok : OkF P.p P.M md) (hgen : ∃ g : K P, HasOrder g (n1 P)) (hL : LL w v (matL P a n G)) (hR : Rr a n G pv) (ha : a ≤ 64) (hn1 : 1 ≤ n) (hn : n ≤ 64) :
    Calls Tryz.prog 104 #[cdv P mo n v] w (RetX w fun r _ => r = .int .i64 0) := by
  refine calls1 Tryz.func104 rfl rfl ?_
  refine wc_seq ?_
  refine wc_region [0,1] rfl ?_
  refine BXA rfl wu rfl rfl ?_
  intro cb w1 hE hB hg
  refine Go.Sx.V rfl wu rfl rfl (asg rfl) ?_
  refine wr_nil (post_thenN (wc_seq ?_))
  refine wc_region [0,1,2,3] rfl ?_
  refine Go.Sx.V rfl wu rfl rfl (fad rfl fa81_0) ?_
  refine Go.Sx.V rfl wu rfl rfl (ldA rfl ag24 hB) ?_
  refine C rfl wu rfl rfl Tryz.call66 (rCheck P.p P.M mo md _ (hF.ints.ext hE)) ?_
  intro cv w3 hE3 hck
  obtain ⟨rfl, _⟩ := hck.resolve_right (fun h => h.2 hok)
  replace hE := hE.trans hE3
  replace hB := hB.ext hE3
  refine Go.Sx.V rfl wu rfl rfl (asg rfl) ?_
  refine wr_nil (post_thenN (wc_seq (wc_seq ?_)))
  refine wc_region [0,1] rfl ?_
  refine Go.Sx.V rfl wu rfl rfl (mv rfl) ?_
  refine Go.Sx.V rfl wu rfl rfl (neqI rfl rfl) ?_
  refine wr_nil (post_thenN ?_)
  refine wc_condF rfl (by simp) ?_
  refine wc_skip (post_thenN (wc_seq (wc_seq ?_)))
  refine wc_region [0,1,2,3,4,5,6,7] rfl ?_
  refine Go.Sx.V rfl wu rfl rfl (fad rfl fa81_1) ?_
  refine Go.Sx.V rfl wu rfl rfl (ldB rfl na3 hB) ?_
  refine Go.Sx.V rfl wu rfl rfl (lssI rfl rfl) ?_
  refine Go.Sx.V rfl wu rfl rfl (mv rfl) ?_
  refine KB 13 false rfl (by simp; omega) ?_
  refine Go.Sx.V rfl (wg rfl rfl) rfl rfl (fad rfl fa81_1) ?_
  refine Go.Sx.V rfl (wg rfl rfl) rfl rfl (ldB rfl na3 hB) ?_
  refine Go.Sx.V rfl (wg rfl rfl) rfl rfl (gtrI rfl rfl) ?_
  refine Go.Sx.V rfl wu rfl rfl (pk rfl rfl) ?_
  refine wr_nil (post_thenN ?_)
  refine wc_condF rfl (by simp; omega) ?_
  refine wc_skip (post_thenN (wc_seq ?_))
  have hLi := hL.ext hE
  refine wc_region [0,1,2,3,4,5,6,7,8] rfl ?_
  refine Go.Sx.V rfl wu rfl rfl (fad rfl fa81_0) ?_
  refine Go.Sx.V rfl wu rfl rfl (ldA rfl ag24 hB) ?_
  refine Go.Sx.V rfl wu rfl rfl (fad rfl fa81_1) ?_
  refine Go.Sx.V rfl wu rfl rfl (ldB rfl na3 hB) ?_
  refine Go.Sx.V rfl wu rfl rfl (fad rfl fa81_2) ?_
  refine Go.Sx.V rfl wu rfl rfl (ldB rfl na29 hB) ?_
  refine Go.Sx.V rfl wu rfl rfl (bld (us := [.int .i64 n, v]) (r := [.int .i64 n, v]) rfl (bdMx _ _ (one_cells hLi.one))) ?_
  refine C rfl wu rfl rfl Tryz.call143 (r10Check P mo md v a n G pv _ (hF.ext hE) hok hgen hLi hR (by omega) (by omega)) ?_
  rintro _ w4 hE4 rfl
  replace hE := hE.trans hE4
  refine Go.Sx.V rfl wu rfl rfl (asg rfl) ?_
  refine wr_nil (post_thenN (wc_ret ?_))
  refine post_ret1 rfl rfl ?_
  exact ⟨hE, rfl⟩
set_option maxRecDepth 10000 in
theorem r12List (P : FP) (mo : Value) (md : List Int) (u : Value) (l : List Int) (n : Nat) (w : World) (hF : FV w P mo md) (hu : Ints w u l) (hl : AllIn P.q l) (hn : l.length = n) :
    Calls Tryz.prog 105 #[fv P mo, u, .int .i64 n] w (RetX w fun r _ => r = .int .i64 0) := by
  refine calls3 Tryz.func105 rfl rfl ?_
  refine wc_seq ?_
  refine wc_region [0,1] rfl ?_
  refine BXA rfl wu rfl rfl ?_
  intro fb w1 hE hB hg
  refine Go.Sx.V rfl wu rfl rfl (asg rfl) ?_
  refine wr_nil (post_thenN (wc_seq (wc_seq ?_)))
  have hui := hu.ext hE
  refine wc_region [0,1,2,3] rfl ?_
  refine Go.Sx.V rfl wu rfl rfl (mv rfl) ?_
  refine Go.Sx.V rfl wu rfl rfl (lenI rfl ty22 hui) ?_
  refine Go.Sx.V rfl wu rfl rfl (mv rfl) ?_
  refine Go.Sx.V rfl wu rfl rfl (neqI rfl rfl) ?_
  refine wr_nil (post_thenN ?_)
  refine wc_condF rfl (by rw [hn]; simp) ?_
  refine wc_skip (post_thenN (wc_seq ?_))
  refine wc_region [0,1,2,3] rfl ?_
  refine Go.Sx.V rfl wu rfl rfl (ldA rfl ag24 hB) ?_
  refine Go.Sx.V rfl wu rfl rfl (mv rfl) ?_
  refine C rfl wu rfl rfl Tryz.call144 (rEntries P mo md u l _ (hF.ext hE) hui hl) ?_
  rintro _ w2 hE2 rfl
  replace hE := hE.trans hE2
  refine Go.Sx.V rfl wu rfl rfl (asg rfl) ?_
  refine wr_nil (post_thenN (wc_ret ?_))
  refine post_ret1 rfl rfl ?_
  exact ⟨hE, rfl⟩
set_option maxRecDepth 10000 in
theorem r12Word (P : FP) (mo : Value) (md : List Int) (v u : Value) (l : List Int) (a n : Nat) (G : Nat → Nat → K P) (pv : Nat → Nat) (w : World) (hF : FV w P mo md) (hok : OkF P.p P.M md) (hgen : ∃ g : K P, HasOrder g (n1 P)) (hL : LL w v (matL P a n G)) (hR : Rr a n G pv) (ha : a ≤ 64) (hn1 : 1 ≤ n) (hn : n ≤ 64) (hu : Ints w u l) (hl : AllIn P.q l) (hln : l.length = n) :
    Calls Tryz.prog 75 #[cdv P mo n v, u] w (RetX w fun r _ => r = .int .i64 0) := by
  refine calls2 Tryz.func75 rfl rfl ?_
  refine wc_seq ?_
  refine wc_region [0,1] rfl ?_
  refine BXA rfl wu rfl rfl ?_
  intro cb w1 hE hB hg
  refine Go.Sx.V rfl wu rfl rfl (asg rfl) ?_
  refine wr_nil (post_thenN (wc_seq ?_))
  refine wc_region [0,1,2] rfl ?_
  refine Go.Sx.V rfl wu rfl rfl (ldA rfl ag81 hB) ?_
  refine C rfl wu rfl rfl Tryz.call104 (r12Check P mo md v a n G pv _ (hF.ext hE) hok hgen (hL.ext hE) hR ha hn1 hn) ?_
  rintro _ w2 hE2 rfl
  replace hE := hE.trans hE2
  replace hB := hB.ext hE2
  refine Go.Sx.V rfl wu rfl rfl (asg rfl) ?_
  refine wr_nil (post_thenN (wc_seq (wc_seq ?_)))
  refine wc_region [0,1] rfl ?_
  refine Go.Sx.V rfl wu rfl rfl (mv rfl) ?_
  refine Go.Sx.V rfl wu rfl rfl (eqlI rfl rfl) ?_
  refine wr_nil (post_thenN ?_)
  refine wc_condT rfl (by simp) ?_
  refine wc_region [0,1,2,3,4,5,6] rfl ?_
  refine Go.Sx.V rfl wu rfl rfl (fad rfl fa81_0) ?_
  refine Go.Sx.V rfl wu rfl rfl (ldA rfl ag24 hB) ?_
  refine Go.Sx.V rfl wu rfl rfl (mv rfl) ?_
  refine Go.Sx.V rfl wu rfl rfl (fad rfl fa81_1) ?_
  refine Go.Sx.V rfl wu rfl rfl (ldB rfl na3 hB) ?_
  refine C rfl wu rfl rfl Tryz.call105 (r12List P mo md u l n _ (hF.ext hE) (hu.ext hE) hl hln) ?_
  rintro _ w3 hE3 rfl
  replace hE := hE.trans hE3
  refine Go.Sx.V rfl wu rfl rfl (asg rfl) ?_
  refine wr_nil (post_thenN (wc_seq ?_))
  refine wc_region [0,1] rfl ?_
  refine Go.Sx.V rfl wu rfl rfl (mv rfl) ?_
  refine Go.Sx.V rfl wu rfl rfl (asg rfl) ?_
  refine wr_nil (post_thenN (wc_ret ?_))
  refine post_ret1 rfl rfl ?_
  exact ⟨hE, rfl⟩
set_option maxRecDepth 10000 in
theorem rPivots (P : FP) (v : Value) (a n : Nat) (G : Nat → Nat → K P) (pv : Nat → Nat) (w : World) (hL : LL w v (matL P a n G)) (hR : Rr a n G pv) (ha : a ≤ 64) (hn : n ≤ 64) :
    Calls Tryz.prog 145 #[v] w (RetX w fun r w' => Ints w' r (tab a fun i => ((pv i : Nat) : Int))) := by
  obtain ⟨rows, hs, hrl, hrr⟩ := hL.row
  have hml := matL_length (P := P) a n G
  rw [hml] at hrl hrr
  refine calls1 Tryz.func145 rfl rfl ?_
  refine wc_seq ?_
  refine wc_region [0] rfl ?_
  refine Go.Sx.V rfl wu rfl rfl (asg rfl) ?_
  refine wr_nil (post_thenN (wc_seq ?_))
  refine wc_region [0] rfl ?_
  refine Go.Sx.V rfl wu rfl rfl (asg rfl) ?_
  refine wr_nil (post_thenN (wc_seq (wc_seq ?_)))
  refine wc_region [0] rfl ?_
  refine Go.Sx.V rfl wu rfl rfl (asg rfl) ?_
  refine wr_nil (post_thenN (wc_block ?_))
  refine wc_loop (fun p : Nat × Value => [(0, v), (3, p.2), (4, .int .i64 p.1)]) (fun p w' => p.1 ≤ a ∧ Ext w w' ∧ OwnI w.heap.size w' p.2 3 (tab p.1 fun i => ((pv i : Nat) : Int))) (fun p => a - p.1) (0, .slice none 0 0) ⟨rfl, rfl, rfl, trivial⟩ ⟨by simp, Ext.refl _, Own.nil _ _ _⟩ ?_
  rintro ⟨i, out⟩ w1 ⟨i1, hE, ho⟩
  dsimp only at i1 ho
  have hsi := hs.ext hE
  have htl : (tab i fun i => ((pv i : Nat) : Int)).length = i := tab_length _ _
  try dsimp only
  refine wc_seq (wc_seq ?_)
  refine wc_region [0,1,2,3] rfl ?_
  refine Go.Sx.V rfl wu rfl rfl (mv rfl) ?_
  refine Go.Sx.V rfl wu rfl rfl (mv rfl) ?_
  refine Go.Sx.V rfl wu rfl rfl (lenS rfl ty29 hsi) ?_
  refine Go.Sx.V rfl wu rfl rfl (lssI rfl rfl) ?_
  refine wr_nil (post_thenN ?_)
  rw [hrl]
  refine wc_cond rfl ?_ ?_
  · intro hc
    simp at hc
    obtain ⟨r, hr, hri⟩ := hrr i hc
    rw [matL_row hc] at hri
    have hri1 := hri.ext hE
    have hrn := rowL_length (P := P) n (G i)
    have hlt := hR.lt i hc
    refine wc_skip (post_thenN (wc_seq (wc_block (wc_seq ?_))))
    refine wc_region [0] rfl ?_
    refine Go.Sx.V rfl wu rfl rfl (asg rfl) ?_
    refine wr_nil (post_thenN (wc_seq (wc_block ?_)))
    refine wc_loop (fun c : Nat => [(0, v), (3, out), (4, .int .i64 i), (5, .int .i64 c)]) (fun c w' => c ≤ pv i ∧ w' = w1) (fun c => pv i - c) 0 ⟨rfl, rfl, rfl, rfl, trivial⟩ ⟨by omega, rfl⟩ ?_
    rintro c w1' ⟨c1, rfl⟩
    try dsimp only
    refine wc_seq (wc_seq ?_)
    refine wc_region [0,1,2,3,4,5,6,7,8,9,10,11,12,13,14,15,16] rfl ?_
    refine Go.Sx.V rfl wu rfl rfl (mv rfl) ?_
    refine Go.Sx.V rfl wu rfl rfl (mv rfl) ?_
    refine Go.Sx.V rfl wu rfl rfl (mv rfl) ?_
    refine Go.Sx.V rfl wu rfl rfl (iad rfl rfl ty29 hsi (by omega) (by omega)) ?_
    refine Go.Sx.V rfl wu rfl rfl (ldE rfl na22 hsi (by rw [Int.toNat_natCast]; exact hr)) ?_
    refine Go.Sx.V rfl wu rfl rfl (lenI rfl ty22 hri1) ?_
    refine Go.Sx.V rfl wu rfl rfl (lssI rfl rfl) ?_
    refine Go.Sx.V rfl wu rfl rfl (mv rfl) ?_
    refine KB 19 true rfl (by rw [hrn]; simp; omega) ?_
    refine Go.Sx.V rfl (wg rfl rfl) rfl rfl (mv rfl) ?_
    refine Go.Sx.V rfl (wg rfl rfl) rfl rfl (mv rfl) ?_
    refine Go.Sx.V rfl (wg rfl rfl) rfl rfl (iad rfl rfl ty29 hsi (by omega) (by omega)) ?_
    refine Go.Sx.V rfl (wg rfl rfl) rfl rfl (ldE rfl na22 hsi (by rw [Int.toNat_natCast]; exact hr)) ?_
    refine Go.Sx.V rfl (wg rfl rfl) rfl rfl (mv rfl) ?_
    refine Go.Sx.V rfl (wg rfl rfl) rfl rfl (iadI rfl rfl ty22 hri1 (by omega) (by omega)) ?_
    refine Go.Sx.V rfl (wg rfl rfl) rfl rfl (ldI rfl na3 hri1) ?_
    refine Go.Sx.V rfl (wg rfl rfl) rfl rfl (eqlI rfl rfl) ?_
    refine Go.Sx.V rfl wu rfl rfl (pk rfl rfl) ?_
    refine wr_nil (post_thenN ?_)
    rw [rowL_gi (show c < n by omega)]
    refine wc_cond rfl ?_ ?_
    · intro h1
      simp at h1
      have hne : c ≠ pv i := fun e => by
        rw [e, hR.piv i i hc hc, if_pos rfl, k_one_val] at h1
        omega
      refine wc_skip (post_thenN (wc_block ?_))
      refine wc_region [0,1,2] rfl ?_
      refine Go.Sx.V rfl wu rfl rfl (mv rfl) ?_
      refine Go.Sx.V rfl wu rfl rfl (addI rfl rfl) ?_
      refine Go.Sx.V rfl wu rfl rfl (asg rfl) ?_
      refine wr_nil (post_blockN ?_)
      exact post_loopN (c + 1) ⟨rfl, rfl, rfl, rfl, trivial⟩ ⟨by omega, rfl⟩ (by omega)
    · intro h1
      simp at h1
      have he : c = pv i := Nat.le_antisymm c1 (Nat.le_of_not_lt fun hlt' => h1 (by rw [hR.lead i c hc hlt']; rfl))
      refine wc_exit (post_thenE (post_loopE (post_blockX (post_thenN ?_))))
      refine wc_region [0,1,2,3,4] rfl ?_
      refine Go.Sx.V rfl wu rfl rfl (mv rfl) ?_
      refine Go.Sx.V rfl wu rfl rfl (mv rfl) ?_
      refine BSI (zs := [(c : Int)]) rfl wu rfl rfl rfl rfl ty22 ?_
      intro cv w4 hE4 _ hci _
      replace hE := hE.trans hE4
      replace ho := Own.ext ho hE4
      refine API rfl wu rfl rfl rfl ty22 (by intro h; cases h) ?_ ho (hE.size) hci (Ext.refl _) (by simp; omega)
      intro out2 w5 hg5 hX5 ho5 _ _
      refine Go.Sx.V rfl wu rfl rfl (asg rfl) ?_
      refine wr_nil (post_blockN (post_thenN ?_))
      rw [he, show (tab i fun i => ((pv i : Nat) : Int)) ++ [((pv i : Nat) : Int)] = tab (i + 1) fun i => ((pv i : Nat) : Int) from (tab_succ i fun i => ((pv i : Nat) : Int)).symm] at ho5
      refine wc_region [0,1,2] rfl ?_
      refine Go.Sx.V rfl wu rfl rfl (mv rfl) ?_
      refine Go.Sx.V rfl wu rfl rfl (addI rfl rfl) ?_
      refine Go.Sx.V rfl wu rfl rfl (asg rfl) ?_
      refine wr_nil ?_
      exact post_loopN (i + 1, out2) ⟨rfl, rfl, rfl, trivial⟩ ⟨by (try dsimp only); omega, hX5 w (Nat.le_refl _) hE, ho5⟩ (by (try dsimp only); omega)
  · intro hc
    simp at hc
    obtain rfl : i = a := by omega
    refine wc_exit (post_thenE (post_loopE (post_blockX (post_thenN (wc_seq ?_)))))
    refine wc_region [0,1] rfl ?_
    refine Go.Sx.V rfl wu rfl rfl (mv rfl) ?_
    refine Go.Sx.V rfl wu rfl rfl (asg rfl) ?_
    refine wr_nil (post_thenN (wc_ret ?_))
    refine post_ret1 rfl rfl ?_
    exact ⟨hE, OwnI.ints ho⟩
set_option maxRecDepth 10000 in
theorem rRest (P : FP) (mo : Value) (md : List Int) (v u : Value) (a n : Nat) (G : Nat → Nat → K P) (pv : Nat → Nat) (f : Nat → K P) (w : World) (hF : FV w P mo md) (hL : LL w v (matL P a n G)) (hR : Rr a n G pv) (ha : a ≤ 64) (hn : n ≤ 64) (hu : Ints w u (rowL P n f)) :
    Calls Tryz.prog 107 #[fv P mo, v, u] w (RetX w fun r w' => Ints w' r (rowL P n fun j => f j + sm a fun i => -(f (pv i)) * G i j)) := by
  obtain ⟨rows, hs, hrl, hrr⟩ := hL.row
  have hml := matL_length (P := P) a n G
  rw [hml] at hrl hrr
  have hul := rowL_length (P := P) n f
  refine calls3 Tryz.func107 rfl rfl ?_
  refine wc_seq ?_
  refine wc_region [0,1] rfl ?_
  refine BXA rfl wu rfl rfl ?_
  intro fb w1 hE hB hg
  refine Go.Sx.V rfl wu rfl rfl (asg rfl) ?_
  refine wr_nil (post_thenN (wc_seq ?_))
  refine wc_region [0,1,2] rfl ?_
  refine Go.Sx.V rfl wu rfl rfl (mv rfl) ?_
  refine C rfl wu rfl rfl Tryz.call145 (rPivots P v a n G pv _ (hL.ext hE) hR ha hn) ?_
  intro pvv w2 hE2 hp
  replace hE := hE.trans hE2
  replace hB := hB.ext hE2
  refine Go.Sx.V rfl wu rfl rfl (asg rfl) ?_
  refine wr_nil (post_thenN (wc_seq ?_))
  have hui := hu.ext hE
  have htl : (tab a fun i => ((pv i : Nat) : Int)).length = a := tab_length _ _
  refine wc_region [0,1,2,3] rfl ?_
  refine BS0 rfl wu rfl ty22 ?_
  intro gl w3 hE3 hgl hgl2
  replace hE := hE.trans hE3
  replace hui := hui.ext hE3
  replace hB := hB.ext hE3
  replace hp := hp.ext hE3
  refine Go.Sx.V rfl wu rfl rfl (mv rfl) ?_
  refine AP0 rfl wu rfl rfl rfl ty22 hui (Ext.refl _) (by omega) ?_
  intro c w4 hE4 hci _
  replace hE := hE.trans hE4
  replace hB := hB.ext hE4
  replace hp := hp.ext hE4
  refine Go.Sx.V rfl wu rfl rfl (asg rfl) ?_
  refine wr_nil (post_thenN (wc_seq (wc_seq ?_)))
  refine wc_region [0] rfl ?_
  refine Go.Sx.V rfl wu rfl rfl (asg rfl) ?_
  refine wr_nil (post_thenN (wc_block ?_))
  have hX := Ext.refl w4
  refine wc_loop (fun q : Nat × Value => [(3, .pointer (some ⟨fb, 0, none⟩)), (1, v), (2, u), (7, pvv), (8, q.2), (9, .int .i64 q.1)]) (fun q w' => q.1 ≤ a ∧ Ext w w' ∧ Ext w4 w' ∧ Ints w' q.2 (rowL P n fun j => f j + sm q.1 fun i => -(f (pv i)) * G i j)) (fun q => a - q.1) (0, c) ⟨rfl, rfl, rfl, rfl, rfl, rfl, trivial⟩ ⟨by simp, hE, hX, by show Ints w4 c (rowL P n fun j => f j + (0 : K P)); rw [rowL_congr (f := fun j => f j + (0 : K P)) (g := f) fun j _ => add_zero (f j)]; exact hci⟩ ?_
  clear hE hX hci hui
  rintro ⟨i, out⟩ w5 ⟨i1, hE, hX, ho⟩
  dsimp only at i1 ho
  have hsi := hs.ext hE
  have hB5 := hB.ext hX
  have hp5 := hp.ext hX
  have hui := hu.ext hE
  try dsimp only
  refine wc_seq (wc_seq ?_)
  refine wc_region [0,1,2,3] rfl ?_
  refine Go.Sx.V rfl wu rfl rfl (mv rfl) ?_
  refine Go.Sx.V rfl wu rfl rfl (mv rfl) ?_
  refine Go.Sx.V rfl wu rfl rfl (lenS rfl ty29 hsi) ?_
  refine Go.Sx.V rfl wu rfl rfl (lssI rfl rfl) ?_
  refine wr_nil (post_thenN ?_)
  rw [hrl]
  refine wc_cond rfl ?_ ?_
  · intro hc
    simp at hc
    obtain ⟨r, hr, hri⟩ := hrr i hc
    rw [matL_row hc] at hri
    have hlt := hR.lt i hc
    have hpi : gi (tab a fun i => ((pv i : Nat) : Int)) i = (pv i : Nat) := by rw [gi_tab (by omega) (by omega)]; rfl
    refine wc_skip (post_thenN (wc_seq (wc_block ?_)))
    refine wc_draw mixed [0,1,2,3,4,5,6,7,8,9,11,12,13,14,10,15,16] (by kernel_rfl) ?_
    intro w6 hd _
    replace hE := hE.trans hd
    replace hX := hX.trans hd
    replace hB5 := hB5.ext hd
    replace hp5 := hp5.ext hd
    replace hui := hui.ext hd
    replace hsi := hsi.ext hd
    replace ho := ho.ext hd
    refine Go.Sx.V rfl wu rfl rfl (ldA rfl ag24 hB5) ?_
    refine Go.Sx.V rfl wu rfl rfl (mv rfl) ?_
    refine Go.Sx.V rfl wu rfl rfl (ldA rfl ag24 hB5) ?_
    refine Go.Sx.V rfl wu rfl rfl (mv rfl) ?_
    refine Go.Sx.V rfl wu rfl rfl (mv rfl) ?_
    refine Go.Sx.V rfl wu rfl rfl (mv rfl) ?_
    refine Go.Sx.V rfl wu rfl rfl (iadI rfl rfl ty22 hp5 (by omega) (by omega)) ?_
    refine Go.Sx.V rfl wu rfl rfl (ldI rfl na3 hp5) ?_
    refine Go.Sx.V rfl wu rfl rfl (iadI rfl rfl ty22 hui (by omega) (by omega)) ?_
    refine Go.Sx.V rfl wu rfl rfl (ldI rfl na3 hui) ?_
    refine Go.Sx.V rfl wu rfl rfl (mv rfl) ?_
    refine Go.Sx.V rfl wu rfl rfl (mv rfl) ?_
    refine Go.Sx.V rfl wu rfl rfl (iad rfl rfl ty29 hsi (by omega) (by omega)) ?_
    refine Go.Sx.V rfl wu rfl rfl (ldE rfl na22 hsi (by rw [Int.toNat_natCast]; exact hr)) ?_
    refine C rfl wu rfl rfl Tryz.call147 (rNeg P mo md _ _ (hF.ext hE)) ?_
    rintro _ w7 hE7 rfl
    replace hE := hE.trans hE7
    replace hX := hX.trans hE7
    replace ho := ho.ext hE7
    refine C rfl wu rfl rfl Tryz.call146 (rAddTo P mo md out _ r n _ (G i) _ (hF.ext hE) ho (hri.ext hE) (by omega)) ?_
    intro out2 w8 hE8 hz
    replace hE := hE.trans hE8
    replace hX := hX.trans hE8
    have ho2 := OwnI.ints hz
    refine Go.Sx.V rfl wu rfl rfl (asg rfl) ?_
    refine wr_nil (post_blockN (post_thenN ?_))
    rw [hpi, rowL_in hlt, inK_val] at ho2
    refine wc_region [0,1,2] rfl ?_
    refine Go.Sx.V rfl wu rfl rfl (mv rfl) ?_
    refine Go.Sx.V rfl wu rfl rfl (addI rfl rfl) ?_
    refine Go.Sx.V rfl wu rfl rfl (asg rfl) ?_
    refine wr_nil ?_
    exact post_loopN (i + 1, out2) ⟨rfl, rfl, rfl, rfl, rfl, rfl, trivial⟩ ⟨by (try dsimp only); omega, hE, hX, by
      rw [rowL_congr (g := fun j => f j + sm (i + 1) fun i => -(f (pv i)) * G i j) fun j _ => add_assoc _ _ _] at ho2
      exact ho2⟩ (by (try dsimp only); omega)
  · intro hc
    simp at hc
    obtain rfl : i = a := by omega
    refine wc_exit (post_thenE (post_loopE (post_blockX (post_thenN (wc_seq ?_)))))
    refine wc_region [0,1] rfl ?_
    refine Go.Sx.V rfl wu rfl rfl (mv rfl) ?_
    refine Go.Sx.V rfl wu rfl rfl (asg rfl) ?_
    refine wr_nil (post_thenN (wc_ret ?_))
    refine post_ret1 rfl rfl ?_
    exact ⟨hE, ho⟩
set_option maxRecDepth 10000 in
theorem rZero (P : FP) (u : Value) (n : Nat) (f : Nat → K P) (w : World) (hu : Ints w u (rowL P n f)) (hn : n ≤ 65536) :
    Calls Tryz.prog 106 #[u] w (RetX w fun r _ => ∃ b, r = .bool b ∧ ((∀ j, j < n → f j = 0) → b = true)) := by
  have hul := rowL_length (P := P) n f
  refine calls1 Tryz.func106 rfl rfl ?_
  refine wc_seq ?_
  refine wc_region [0] rfl ?_
  refine Go.Sx.V rfl wu rfl rfl (asg rfl) ?_
  refine wr_nil (post_thenN (wc_seq (wc_seq ?_)))
  refine wc_region [0] rfl ?_
  refine Go.Sx.V rfl wu rfl rfl (asg rfl) ?_
  refine wr_nil (post_thenN (wc_block ?_))
  refine wc_loop (fun i : Nat => [(0, u), (3, .int .i64 i)]) (fun i w' => i ≤ n ∧ Ext w w') (fun i => n - i) 0 ⟨rfl, rfl, trivial⟩ ⟨by omega, Ext.refl _⟩ ?_
  rintro i w1 ⟨i1, hE⟩
  have hui := hu.ext hE
  try dsimp only
  refine wc_seq (wc_seq ?_)
  refine wc_region [0,1,2,3] rfl ?_
  refine Go.Sx.V rfl wu rfl rfl (mv rfl) ?_
  refine Go.Sx.V rfl wu rfl rfl (mv rfl) ?_
  refine Go.Sx.V rfl wu rfl rfl (lenI rfl ty22 hui) ?_
  refine Go.Sx.V rfl wu rfl rfl (lssI rfl rfl) ?_
  refine wr_nil (post_thenN ?_)
  rw [hul]
  refine wc_cond rfl ?_ ?_
  · intro hc
    simp at hc
    refine wc_skip (post_thenN (wc_seq (wc_block (wc_seq ?_))))
    refine wc_region [0,1,2,3,4] rfl ?_
    refine Go.Sx.V rfl wu rfl rfl (mv rfl) ?_
    refine Go.Sx.V rfl wu rfl rfl (mv rfl) ?_
    refine Go.Sx.V rfl wu rfl rfl (iadI rfl rfl ty22 hui (by omega) (by omega)) ?_
    refine Go.Sx.V rfl wu rfl rfl (ldI rfl na3 hui) ?_
    refine Go.Sx.V rfl wu rfl rfl (neqI rfl rfl) ?_
    refine wr_nil (post_thenN ?_)
    rw [rowL_gi hc]
    refine wc_cond rfl ?_ ?_
    · intro h1
      simp at h1
      refine wc_seq ?_
      refine wc_region [0] rfl ?_
      refine Go.Sx.V rfl wu rfl rfl (asg rfl) ?_
      refine wr_nil (post_thenN (wc_ret (post_blockR (post_thenR (post_loopR (post_blockR (post_thenR ?_)))))))
      refine post_ret1 rfl rfl ?_
      exact ⟨hE, false, rfl, fun h => absurd (by rw [h i hc]; rfl) h1⟩
    · intro h1
      refine wc_skip (post_blockN (post_thenN ?_))
      refine wc_region [0,1,2] rfl ?_
      refine Go.Sx.V rfl wu rfl rfl (mv rfl) ?_
      refine Go.Sx.V rfl wu rfl rfl (addI rfl rfl) ?_
      refine Go.Sx.V rfl wu rfl rfl (asg rfl) ?_
      refine wr_nil ?_
      exact post_loopN (i + 1) ⟨rfl, rfl, trivial⟩ ⟨by omega, hE⟩ (by omega)
  · intro hc
    refine wc_exit (post_thenE (post_loopE (post_blockX (post_thenN (wc_seq ?_)))))
    refine wc_region [0] rfl ?_
    refine Go.Sx.V rfl wu rfl rfl (asg rfl) ?_
    refine wr_nil (post_thenN (wc_ret ?_))
    refine post_ret1 rfl rfl ?_
    exact ⟨hE, true, rfl, fun _ => rfl⟩
set_option maxRecDepth 10000 in
theorem rInCode (P : FP) (mo : Value) (md : List Int) (v u : Value) (a n : Nat) (G : Nat → Nat → K P) (pv : Nat → Nat) (f : Nat → K P) (w : World) (hF : FV w P mo md) (hL : LL w v (matL P a n G)) (hR : Rr a n G pv) (ha : a ≤ 64) (hn : n ≤ 64) (hu : Ints w u (rowL P n f)) :
    Calls Tryz.prog 76 #[fv P mo, v, u] w (RetX w fun r _ => ∃ b, r = .bool b ∧ (Sp a n G f → b = true)) := by
  refine calls3 Tryz.func76 rfl rfl ?_
  refine wc_seq ?_
  refine wc_region [0,1] rfl ?_
  refine BXA rfl wu rfl rfl ?_
  intro fb w1 hE hB hg
  refine Go.Sx.V rfl wu rfl rfl (asg rfl) ?_
  refine wr_nil (post_thenN (wc_seq ?_))
  refine wc_region [0,1,2,3,4,5] rfl ?_
  refine Go.Sx.V rfl wu rfl rfl (ldA rfl ag24 hB) ?_
  refine Go.Sx.V rfl wu rfl rfl (mv rfl) ?_
  refine Go.Sx.V rfl wu rfl rfl (mv rfl) ?_
  refine C rfl wu rfl rfl Tryz.call107 (rRest P mo md v u a n G pv f _ (hF.ext hE) (hL.ext hE) hR ha hn (hu.ext hE)) ?_
  intro z w2 hE2 hz
  replace hE := hE.trans hE2
  refine C rfl wu rfl rfl Tryz.call106 (rZero P z n _ _ hz (by omega)) ?_
  rintro _ w3 hE3 ⟨b, rfl, hb⟩
  replace hE := hE.trans hE3
  refine Go.Sx.V rfl wu rfl rfl (asg rfl) ?_
  refine wr_nil (post_thenN (wc_ret ?_))
  refine post_ret1 rfl rfl ?_
  refine ⟨hE, b, rfl, fun hS => hb fun j hj => ?_⟩
  have h1 : sm a (fun i => -(f (pv i)) * G i j) = -(sm a fun i => f (pv i) * G i j) := by
    rw [← sm_neg]
    exact sm_congr fun i _ => neg_mul _ _
  rw [h1, ← hR.comb hS hj, add_neg]
end Go.Proofs.YtmnojknfjbimdaaGreat

