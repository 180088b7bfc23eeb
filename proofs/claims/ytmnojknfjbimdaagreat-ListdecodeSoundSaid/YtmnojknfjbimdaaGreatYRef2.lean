/-
  The reference's trial division and its check of a field, by contract.
-/
import Derived.Test.YtmnojknfjbimdaaGreatYRef1
namespace Go.Proofs.YtmnojknfjbimdaaGreat
open Go Go.Sx Go.Pl Go.RowKit Go.Fd Go.Alg
theorem lo_si {p : Int} {l : List Int} (h : Lo p l) (k z : Int) (h0 : 0 ≤ z) (h1 : z < p) : Lo p (si l k z) := fun u hu => by
  rcases List.mem_or_eq_of_mem_set hu with hu | rfl
  · exact h u hu
  · exact ⟨h0, h1⟩
theorem dvJ_length (p c o : Int) (low r : List Int) : ∀ j, (dvJ p c o low r j).length = r.length
  | 0 => rfl
  | j + 1 => by rw [dvJ, si_length, dvJ_length p c o low r j]
theorem dvJ_lo {p : Int} (hp : 2 ≤ p) (c o : Int) (low : List Int) {r : List Int} (h : Lo p r) : ∀ j, Lo p (dvJ p c o low r j)
  | 0 => h
  | j + 1 => lo_si (dvJ_lo hp c o low h j) _ _ (Int.emod_nonneg _ (by omega)) (Int.emod_lt_of_pos _ (by omega))
theorem dvI_length (p : Int) (low r : List Int) (top : Int) : ∀ k, (dvI p low r top k).length = r.length
  | 0 => rfl
  | k + 1 => by rw [dvI, si_length, dvJ_length, dvI_length p low r top k]
theorem dvI_lo {p : Int} (hp : 2 ≤ p) (low : List Int) {r : List Int} (top : Int) (h : Lo p r) : ∀ k, Lo p (dvI p low r top k)
  | 0 => h
  | k + 1 => lo_si (dvJ_lo hp _ _ low (dvI_lo hp low top h k) _) _ _ (by omega) (by omega)
theorem zeros_iff : ∀ (l : List Int), zeros l = true ↔ ∀ z ∈ l, z = 0
  | [] => by simp [zeros]
  | z :: l => by simp [zeros, zeros_iff l]
set_option maxRecDepth 10000 in
theorem rDivides (a b : Value) (low md : List Int) (p : Int) (w : World) (ha : Ints w a low) (hb : Ints w b md) (hp : 2 ≤ p ∧ p ≤ 256) (hl : Lo p low) (hm : Lo p md) (hlm : low.length ≤ md.length) (hm8 : md.length ≤ 8) :
    Calls Tryz.prog 142 #[a, b, .int .i64 p] w (RetX w fun v _ => v = .bool (dv low md p)) := by
  have hr0 : Lo p (md ++ [1]) := fun z hz => by
    rcases List.mem_append.1 hz with h | h
    · exact hm z h
    · have : z = 1 := by simpa using h
      omega
  have hrl : (md ++ [1]).length = md.length + 1 := by simp
  refine calls3 Tryz.func142 rfl rfl ?_
  refine wc_seq ?_
  refine wc_region [0] rfl ?_
  refine Go.Sx.V rfl wu rfl rfl (asg rfl) ?_
  refine wr_nil (post_thenN (wc_seq ?_))
  refine wc_region [0,1,2] rfl ?_
  refine Go.Sx.V rfl wu rfl rfl (mv rfl) ?_
  refine Go.Sx.V rfl wu rfl rfl (lenI rfl ty22) ?_
  refine Go.Sx.V rfl wu rfl rfl (asg rfl) ?_
  refine wr_nil (post_thenN (wc_seq ?_))
  refine wc_region [0,1,2,3] rfl ?_
  refine BSI (zs := []) rfl wu rfl rfl rfl rfl ty22 ?_
  intro v0 w1 hE ho hi hob
  refine Go.Sx.V rfl wu rfl rfl (mv rfl) ?_
  refine API rfl wu rfl rfl rfl ty22 (by intro h h2; cases h) ?_
  intro r0 w2 hg hX ho2 hi2 hb2
  refine Go.Sx.V rfl wu rfl rfl (asg rfl) ?_
  refine wr_nil (post_thenN (wc_seq ?_))
  replace hE := hX _ (Nat.le_refl _) hE
  rw [List.nil_append] at ho2 hi2
  clear ho hi hob hg hX hb2
  refine wc_region [0,1,2,3] rfl ?_
  refine Go.Sx.V rfl wu rfl rfl (mv rfl) ?_
  refine BSI (zs := [1]) rfl wu rfl rfl rfl rfl ty22 ?_
  intro v1 w3 hE3 ho3 hi3 hob3
  replace ho2 := ho2.ext hE3
  replace hE := hE.trans hE3
  clear ho3 hi2
  refine API rfl wu rfl rfl rfl ty22 (by intro h h2; cases h) ?_
  intro r w4 hg4 hX4 hr hri hb4
  refine Go.Sx.V rfl wu rfl rfl (asg rfl) ?_
  refine wr_nil (post_thenN (wc_seq (wc_seq ?_)))
  replace hE := hX4 _ (Nat.le_refl _) hE
  clear hi3 ho2 hg4 hX4 hb4 hob3
  refine wc_region [0,1,2,3] rfl ?_
  refine Go.Sx.V rfl wu rfl rfl (mv rfl) ?_
  refine Go.Sx.V rfl wu rfl rfl (lenI rfl ty22) ?_
  refine Go.Sx.V rfl wu rfl rfl (subI rfl rfl) ?_
  refine Go.Sx.V rfl wu rfl rfl (asg rfl) ?_
  refine wr_nil (post_thenN (wc_block ?_))
  rw [hrl, show ((md.length + 1 : Nat) : Int) - 1 = md.length by omega]
  refine wc_loop (fun i : Int => [(0, a), (2, .int .i64 p), (7, .int .i64 low.length), (8, r), (9, .int .i64 i)])
    (fun i w' => (low.length : Int) - 1 ≤ i ∧ i ≤ md.length ∧ Ext w w' ∧ OwnI w.heap.size w' r 3 (dvI p low (md ++ [1]) md.length (md.length - i).toNat)) (fun i => (i + 1).toNat) (md.length : Int)
    ⟨rfl, rfl, rfl, rfl, rfl, trivial⟩ ⟨by omega, by omega, hE, by rw [show ((md.length : Int) - md.length).toNat = 0 by omega]; exact hr⟩ ?_
  clear hE hr hri
  rintro i w5 ⟨i0, i1, hE, hr⟩
  obtain ⟨L, hL⟩ : ∃ L, L = dvI p low (md ++ [1]) md.length (md.length - i).toNat := ⟨_, rfl⟩
  rw [← hL] at hr
  have hri := hr.ints
  have hLl : L.length = md.length + 1 := by rw [hL, dvI_length, hrl]
  have hLo : Lo p L := by rw [hL]; exact dvI_lo hp.1 _ _ hr0 _
  try dsimp only
  refine wc_seq (wc_seq ?_)
  refine wc_region [0,1,2] rfl ?_
  refine Go.Sx.V rfl wu rfl rfl (mv rfl) ?_
  refine Go.Sx.V rfl wu rfl rfl (mv rfl) ?_
  refine Go.Sx.V rfl wu rfl rfl (geqI rfl rfl) ?_
  refine wr_nil (post_thenN ?_)
  refine wc_cond rfl ?_ ?_
  · intro hi
    simp at hi
    refine wc_skip (post_thenN (wc_seq (wc_block (wc_seq ?_))))
    have hc := gi_lo hLo (i := i) (by omega) (by omega)
    refine wc_region [0,1,2,3,4] rfl ?_
    refine Go.Sx.V rfl wu rfl rfl (mv rfl) ?_
    refine Go.Sx.V rfl wu rfl rfl (mv rfl) ?_
    refine Go.Sx.V rfl wu rfl rfl (iadI rfl rfl ty22) ?_
    refine Go.Sx.V rfl wu rfl rfl (ldI rfl na3) ?_
    refine Go.Sx.V rfl wu rfl rfl (asg rfl) ?_
    refine wr_nil (post_thenN (wc_seq (wc_seq ?_)))
    refine wc_region [0] rfl ?_
    refine Go.Sx.V rfl wu rfl rfl (asg rfl) ?_
    refine wr_nil (post_thenN (wc_block ?_))
    refine wc_loop (fun j : Int => [(0, a), (2, .int .i64 p), (7, .int .i64 low.length), (8, r), (9, .int .i64 i), (10, .int .i64 (gi L i)), (11, .int .i64 j)])
      (fun j w' => 0 ≤ j ∧ j ≤ low.length ∧ Ext w w' ∧ OwnI w.heap.size w' r 3 (dvJ p (gi L i) (i - low.length) low L j.toNat)) (fun j => (low.length - j).toNat) 0
      ⟨rfl, rfl, rfl, rfl, rfl, rfl, rfl, trivial⟩ ⟨by omega, by omega, hE, hr⟩ ?_
    clear hE hr hri
    rintro j w6 ⟨j0, j1, hE, hr⟩
    have hri := hr.ints
    have hJl := dvJ_length p (gi L i) (i - low.length) low L j.toNat
    have hJo := dvJ_lo hp.1 (gi L i) (i - low.length) low hLo j.toNat
    try dsimp only
    refine wc_seq (wc_seq ?_)
    refine wc_region [0,1,2] rfl ?_
    refine Go.Sx.V rfl wu rfl rfl (mv rfl) ?_
    refine Go.Sx.V rfl wu rfl rfl (mv rfl) ?_
    refine Go.Sx.V rfl wu rfl rfl (lssI rfl rfl) ?_
    refine wr_nil (post_thenN ?_)
    refine wc_cond rfl ?_ ?_
    · intro hj
      simp at hj
      refine wc_skip (post_thenN (wc_seq (wc_block ?_)))
      have g1 := gi_lo hJo (i := i - low.length + j) (by omega) (by omega)
      have g2 := gi_lo hl (i := j) j0 hj
      have m1 := mul_le' (a := p - gi L i) (b := gi low j) (c := 256) (d := 256) (by omega) (by omega) g2.1 (by omega)
      have hstep : si (dvJ p (gi L i) (i - low.length) low L j.toNat) (i - low.length + j) ((gi (dvJ p (gi L i) (i - low.length) low L j.toNat) (i - low.length + j) + (p - gi L i) * gi low j) % p) = dvJ p (gi L i) (i - low.length) low L (j + 1).toNat := by
        rw [show (j + 1).toNat = j.toNat + 1 by omega, dvJ, show ((j.toNat : Nat) : Int) = j by omega]
      refine wc_draw mixed [0,1,2,3,4,5,6,7,8,9,10,11,12,13,14,15,16,17,18,19,20,21,22,23,24,25,26] (by kernel_rfl) ?_
      intro w7 hd _
      replace hE := hE.trans hd
      replace hr := hr.ext hd
      replace hri := hri.ext hd
      refine Go.Sx.V rfl wu rfl rfl (mv rfl) ?_
      refine Go.Sx.V rfl wu rfl rfl (mv rfl) ?_
      refine Go.Sx.V rfl wu rfl rfl (mv rfl) ?_
      refine Go.Sx.V rfl wu rfl rfl (subI rfl rfl) ?_
      refine Go.Sx.V rfl wu rfl rfl (mv rfl) ?_
      refine Go.Sx.V rfl wu rfl rfl (addI rfl rfl) ?_
      refine Go.Sx.V rfl wu rfl rfl (mv rfl) ?_
      refine Go.Sx.V rfl wu rfl rfl (mv rfl) ?_
      refine Go.Sx.V rfl wu rfl rfl (mv rfl) ?_
      refine Go.Sx.V rfl wu rfl rfl (subI rfl rfl) ?_
      refine Go.Sx.V rfl wu rfl rfl (mv rfl) ?_
      refine Go.Sx.V rfl wu rfl rfl (addI rfl rfl) ?_
      refine Go.Sx.V rfl wu rfl rfl (iadI rfl rfl ty22) ?_
      refine Go.Sx.V rfl wu rfl rfl (ldI rfl na3) ?_
      refine Go.Sx.V rfl wu rfl rfl (mv rfl) ?_
      refine Go.Sx.V rfl wu rfl rfl (mv rfl) ?_
      refine Go.Sx.V rfl wu rfl rfl (subI rfl rfl) ?_
      refine Go.Sx.V rfl wu rfl rfl (mv rfl) ?_
      refine Go.Sx.V rfl wu rfl rfl (mv rfl) ?_
      refine Go.Sx.V rfl wu rfl rfl (iadI rfl rfl ty22) ?_
      refine Go.Sx.V rfl wu rfl rfl (ldI rfl na3 ha) ?_
      refine Go.Sx.V rfl wu rfl rfl (mulI rfl rfl) ?_
      refine Go.Sx.V rfl wu rfl rfl (addI rfl rfl) ?_
      refine Go.Sx.V rfl wu rfl rfl (mv rfl) ?_
      refine Go.Sx.V rfl wu rfl rfl (remI rfl rfl) ?_
      refine Go.Sx.V rfl wu rfl rfl (iadI rfl rfl ty22) ?_
      refine STI rfl wu rfl rfl sz3 (by intro h; kernel_rfl) ?_
      intro w8 hg8 hX8 hr8 hri8
      refine wr_nil (post_blockN (post_thenN ?_))
      rw [hstep] at hr8
      refine wc_region [0,1,2] rfl ?_
      refine Go.Sx.V rfl wu rfl rfl (mv rfl) ?_
      refine Go.Sx.V rfl wu rfl rfl (addI rfl rfl) ?_
      refine Go.Sx.V rfl wu rfl rfl (asg rfl) ?_
      refine wr_nil ?_
      exact post_loopN (j + 1) ⟨rfl, rfl, rfl, rfl, rfl, rfl, rfl, trivial⟩ ⟨by omega, by omega, hX8 _ (Nat.le_refl _) hE, hr8⟩ (by omega)
    · intro hj
      simp at hj
      refine wc_exit (post_thenE (post_loopE (post_blockX (post_thenN ?_))))
      have ej : j.toNat = low.length := by omega
      rw [ej] at hr hri hJl
      refine wc_region [0,1,2,3] rfl ?_
      refine Go.Sx.V rfl wu rfl rfl (mv rfl) ?_
      refine Go.Sx.V rfl wu rfl rfl (mv rfl) ?_
      refine Go.Sx.V rfl wu rfl rfl (iadI rfl rfl ty22) ?_
      refine STI rfl wu rfl rfl sz3 (by intro h; cases h) ?_
      intro w8 hg8 hX8 hr8 hri8
      refine wr_nil (post_blockN (post_thenN ?_))
      refine wc_region [0,1,2] rfl ?_
      refine Go.Sx.V rfl wu rfl rfl (mv rfl) ?_
      refine Go.Sx.V rfl wu rfl rfl (subI rfl rfl) ?_
      refine Go.Sx.V rfl wu rfl rfl (asg rfl) ?_
      refine wr_nil ?_
      refine post_loopN (i - 1) ⟨rfl, rfl, rfl, rfl, rfl, trivial⟩ ⟨by omega, by omega, hX8 _ (Nat.le_refl _) hE, ?_⟩ (by omega)
      rw [show ((md.length : Int) - (i - 1)).toNat = (md.length - i).toNat + 1 by omega, dvI, show ((md.length : Int) - ((md.length - i).toNat : Nat)) = i by omega, ← hL]
      exact hr8
  · intro hi
    simp at hi
    refine wc_exit (post_thenE (post_loopE (post_blockX (post_thenN (wc_seq (wc_seq ?_))))))
    have hdv : dv low md p = zeros L := by
      rw [dv, hL, show ((md.length : Int) - i).toNat = md.length + 1 - low.length by omega]
    refine wc_region [0] rfl ?_
    refine Go.Sx.V rfl wu rfl rfl (asg rfl) ?_
    refine wr_nil (post_thenN (wc_block ?_))
    refine wc_loop (fun j : Int => [(8, r), (12, .int .i64 j)])
      (fun j w' => 0 ≤ j ∧ j ≤ L.length ∧ w' = w5 ∧ ∀ k : Int, 0 ≤ k → k < j → gi L k = 0) (fun j => (L.length - j).toNat) 0 ⟨rfl, rfl, trivial⟩ ⟨by omega, by omega, rfl, fun k _ _ => by omega⟩ ?_
    rintro j _ ⟨j0, j1, rfl, hz⟩
    try dsimp only
    refine wc_seq (wc_seq ?_)
    refine wc_region [0,1,2,3] rfl ?_
    refine Go.Sx.V rfl wu rfl rfl (mv rfl) ?_
    refine Go.Sx.V rfl wu rfl rfl (mv rfl) ?_
    refine Go.Sx.V rfl wu rfl rfl (lenI rfl ty22) ?_
    refine Go.Sx.V rfl wu rfl rfl (lssI rfl rfl) ?_
    refine wr_nil (post_thenN ?_)
    refine wc_cond rfl ?_ ?_
    · intro hj
      simp at hj
      refine wc_skip (post_thenN (wc_seq (wc_block (wc_seq ?_))))
      refine wc_region [0,1,2,3,4] rfl ?_
      refine Go.Sx.V rfl wu rfl rfl (mv rfl) ?_
      refine Go.Sx.V rfl wu rfl rfl (mv rfl) ?_
      refine Go.Sx.V rfl wu rfl rfl (iadI rfl rfl ty22) ?_
      refine Go.Sx.V rfl wu rfl rfl (ldI rfl na3) ?_
      refine Go.Sx.V rfl wu rfl rfl (neqI rfl rfl) ?_
      refine wr_nil (post_thenN ?_)
      refine wc_cond rfl ?_ ?_
      · intro hne
        simp at hne
        refine wc_seq ?_
        refine wc_region [0] rfl ?_
        refine Go.Sx.V rfl wu rfl rfl (asg rfl) ?_
        refine wr_nil (post_thenN (wc_ret (post_blockR (post_thenR (post_loopR (post_blockR (post_thenR ?_)))))))
        refine post_ret1 rfl rfl ?_
        refine ⟨hE, ?_⟩
        rw [hdv]
        cases hzz : zeros L
        · rfl
        · exfalso
          have hk : j.toNat < L.length := by omega
          have := (zeros_iff L).1 hzz _ (List.getElem_mem hk)
          apply hne
          simpa [gi, hk] using this
      · intro he
        simp at he
        refine wc_skip (post_blockN (post_thenN ?_))
        refine wc_region [0,1,2] rfl ?_
        refine Go.Sx.V rfl wu rfl rfl (mv rfl) ?_
        refine Go.Sx.V rfl wu rfl rfl (addI rfl rfl) ?_
        refine Go.Sx.V rfl wu rfl rfl (asg rfl) ?_
        refine wr_nil ?_
        exact post_loopN (j + 1) ⟨rfl, rfl, trivial⟩ ⟨by omega, by omega, rfl, fun k hk0 hk1 => (by
          by_cases e : k = j
          · rw [e]; exact he
          · exact hz k hk0 (by omega))⟩ (by omega)
    · intro hj
      simp at hj
      refine wc_exit (post_thenE (post_loopE (post_blockX (post_thenN (wc_seq ?_)))))
      refine wc_region [0] rfl ?_
      refine Go.Sx.V rfl wu rfl rfl (asg rfl) ?_
      refine wr_nil (post_thenN (wc_ret ?_))
      refine post_ret1 rfl rfl ?_
      refine ⟨hE, ?_⟩
      have : zeros L = true := (zeros_iff L).2 fun z hz' => by
        obtain ⟨k, hk, rfl⟩ := List.mem_iff_getElem.1 hz'
        have := hz k (by omega) (by omega)
        simpa [gi, hk] using this
      rw [hdv, this]
end Go.Proofs.YtmnojknfjbimdaaGreat

