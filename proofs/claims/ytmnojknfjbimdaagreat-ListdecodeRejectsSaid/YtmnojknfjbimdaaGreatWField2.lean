/-
  The program's multiplication of residues, by contract: it is that of the ring.
-/
import Derived.Test.YtmnojknfjbimdaaGreatWField1
import Derived.Test.YtmnojknfjbimdaaGreatWMFa
namespace Go.Proofs.YtmnojknfjbimdaaGreat
open Go Go.Sx Go.Pl Go.RowKit Go.Fd Go.Alg
structure FV (w : World) (P : FP) (mo : Value) (md : List Int) : Prop where
  ints : Ints w mo md
  p : P.p ≤ 256
  m : P.M ≤ 8
  q : P.q ≤ 256
  mdf : P.md = fun j => md.getD j 0
  one : P.M = 1 → md = []
  len : P.M ≠ 1 → md.length = P.M
  lo : Lo P.p md
theorem FV.ext {w w' : World} {P : FP} {mo : Value} {md : List Int} (h : FV w P mo md) (hE : Ext w w') : FV w' P mo md := ⟨h.ints.ext hE, h.p, h.m, h.q, h.mdf, h.one, h.len, h.lo⟩
def fv (P : FP) (mo : Value) : Value := .agg #[.int .i64 P.p, .int .i64 P.M, mo]
theorem FV.low {w : World} {P : FP} {mo : Value} {md : List Int} (h : FV w P mo md) (j : Nat) : 0 ≤ P.md j ∧ P.md j < P.p := by
  rw [h.mdf]
  have := P.hp
  by_cases hj : j < md.length
  · have := h.lo _ (List.getElem_mem hj)
    simpa [hj] using this
  · simp [List.getD_eq_getElem?_getD, List.getElem?_eq_none (Nat.le_of_not_lt hj)]
    omega
theorem mul_le' {a b c d : Int} (h0 : 0 ≤ a) (h1 : a ≤ c) (h2 : 0 ≤ b) (h3 : b ≤ d) : 0 ≤ a * b ∧ a * b ≤ c * d := ⟨Int.mul_nonneg h0 h2, Int.mul_le_mul h1 h3 h2 (by omega)⟩
set_option maxRecDepth 10000 in
theorem fMul (P : FP) (mo : Value) (md : List Int) (x y : K P) (w : World) (hF : FV w P mo md) :
    Calls Tryz.prog 118 #[fv P mo, .int .i64 x.1, .int .i64 y.1] w (RetX w fun v _ => v = .int .i64 (x * y).1) := by
  have hp := P.hp
  have hp2 := hF.p
  have hM := P.hM
  have hM2 := hF.m
  have hq := hF.q
  have hx := x.2
  have hy := y.2
  refine calls3 Tryz.func118 rfl rfl ?_
  refine wc_seq ?_
  refine wc_region [0,1] rfl ?_
  refine BXA rfl wu rfl rfl ?_
  intro g w1 hE hB hg
  refine Go.Sx.V rfl wu rfl rfl (asg rfl) ?_
  refine wr_nil (post_thenN (wc_seq ?_))
  refine wc_draw mixed [0,1,2,3,4,6,7,8,9,10,5,11,12,13] (by kernel_rfl) ?_
  intro w2 hd _
  replace hB := hB.ext hd
  replace hE := hE.trans hd
  refine Go.Sx.V rfl wu rfl rfl (mv rfl) ?_
  refine Go.Sx.V rfl wu rfl rfl (fad rfl fa24_0) ?_
  refine Go.Sx.V rfl wu rfl rfl (ldB rfl na3) ?_
  refine Go.Sx.V rfl wu rfl rfl (fad rfl fa24_1) ?_
  refine Go.Sx.V rfl wu rfl rfl (ldB rfl na3) ?_
  refine Go.Sx.V rfl wu rfl rfl (mv rfl) ?_
  refine Go.Sx.V rfl wu rfl rfl (fad rfl fa24_0) ?_
  refine Go.Sx.V rfl wu rfl rfl (ldB rfl na3) ?_
  refine Go.Sx.V rfl wu rfl rfl (fad rfl fa24_1) ?_
  refine Go.Sx.V rfl wu rfl rfl (ldB rfl na3) ?_
  refine C rfl wu rfl rfl Tryz.call154 (fDigits x.1 P.p P.M _ ⟨hx.1, by omega⟩ ⟨hp, hp2⟩ (by omega)) ?_
  rintro a w3 hE3 ⟨ha, _⟩
  refine C rfl wu rfl rfl Tryz.call154 (fDigits y.1 P.p P.M _ ⟨hy.1, by omega⟩ ⟨hp, hp2⟩ (by omega)) ?_
  rintro b w4 hE4 ⟨hb, _⟩
  refine Go.Sx.V rfl wu rfl rfl (asg rfl) ?_
  refine Go.Sx.V rfl wu rfl rfl (asg rfl) ?_
  refine wr_nil (post_thenN (wc_seq ?_))
  have hai := ha.ints.ext hE4
  have hbi := hb.ints
  replace hB := (hB.ext hE3).ext hE4
  replace hE := (hE.trans hE3).trans hE4
  have hmi := hF.ints.ext hE
  have hE0 := hE
  clear ha hb hE3 hE4 hd hE
  have hE := Ext.refl w4
  refine wc_region [0,1,2,3] rfl ?_
  refine Go.Sx.V rfl wu rfl rfl (fad rfl fa24_1) ?_
  refine Go.Sx.V rfl wu rfl rfl (ldB rfl na3) ?_
  refine MKI (n := P.M) rfl wu rfl rfl ty22 ?_
  intro out w5 hE5 ho hi _
  refine Go.Sx.V rfl wu rfl rfl (asg rfl) ?_
  refine wr_nil (post_thenN (wc_seq (wc_seq ?_)))
  rw [← ms_first P x.1 y.1] at ho
  refine wc_region [0,1,2,3] rfl ?_
  refine Go.Sx.V rfl wu rfl rfl (fad rfl fa24_1) ?_
  refine Go.Sx.V rfl wu rfl rfl (ldB rfl na3) ?_
  refine Go.Sx.V rfl wu rfl rfl (subI rfl rfl) ?_
  refine Go.Sx.V rfl wu rfl rfl (asg rfl) ?_
  refine wr_nil (post_thenN (wc_block ?_))
  refine wc_loop (fun i : Int => [(3, .pointer (some ⟨g, 0, none⟩)), (7, a), (8, b), (9, out), (10, .int .i64 i)])
    (fun i w' => -1 ≤ i ∧ i < P.M ∧ Ext w4 w' ∧ OwnI w4.heap.size w' out 3 (ms P x.1 y.1 (i + 1).toNat)) (fun i => (i + 1).toNat) (P.M - 1) ⟨rfl, rfl, rfl, rfl, rfl, trivial⟩
    ⟨by omega, by omega, hE5, by rw [show ((P.M : Int) - 1 + 1).toNat = P.M by omega]; exact ho⟩ ?_
  clear ho hi hE5 hE
  rintro i w6 ⟨h0, h1, hE, ho⟩
  have hi := ho.ints
  have hl := ms_length P x.1 y.1 (i + 1).toNat
  have hla := dig_length P.p P.M x.1
  have hlb := dig_length P.p P.M y.1
  try dsimp only
  refine wc_seq (wc_seq ?_)
  refine wc_region [0,1] rfl ?_
  refine Go.Sx.V rfl wu rfl rfl (mv rfl) ?_
  refine Go.Sx.V rfl wu rfl rfl (geqI rfl rfl) ?_
  refine wr_nil (post_thenN ?_)
  refine wc_cond rfl ?_ ?_
  · intro hc
    simp at hc
    refine wc_skip (post_thenN (wc_seq (wc_block (wc_seq ?_))))
    have hin : (i + 1).toNat = i.toNat + 1 := by omega
    have htop := gi_lo (ms_lo P x.1 y.1 (i + 1).toNat) (i := (P.M : Int) - 1) (by omega) (by omega)
    refine wc_region [0,1,2,3,4,5,6] rfl ?_
    refine Go.Sx.V rfl wu rfl rfl (mv rfl) ?_
    refine Go.Sx.V rfl wu rfl rfl (fad rfl fa24_1) ?_
    refine Go.Sx.V rfl wu rfl rfl (ldB rfl na3) ?_
    refine Go.Sx.V rfl wu rfl rfl (subI rfl rfl) ?_
    refine Go.Sx.V rfl wu rfl rfl (iadI rfl rfl ty22) ?_
    refine Go.Sx.V rfl wu rfl rfl (ldI rfl na3) ?_
    refine Go.Sx.V rfl wu rfl rfl (asg rfl) ?_
    refine wr_nil (post_thenN (wc_seq ?_))
    refine wc_draw mixed [0,1,2,3,4,5,6,7] (by kernel_rfl) ?_
    intro w7 hd _
    replace hE := hE.trans hd
    replace ho := ho.ext hd
    replace hi := hi.ext hd
    refine Go.Sx.V rfl wu rfl rfl (mv rfl) ?_
    refine Go.Sx.V rfl wu rfl rfl (slL rfl rfl ty22 hi (by omega) (by simp; omega)) ?_
    refine Go.Sx.V rfl wu rfl rfl (mv rfl) ?_
    refine Go.Sx.V rfl wu rfl rfl (fad rfl fa24_1) ?_
    refine Go.Sx.V rfl wu rfl rfl (ldB rfl na3) ?_
    refine Go.Sx.V rfl wu rfl rfl (subI rfl rfl) ?_
    refine Go.Sx.V rfl wu rfl rfl (slH rfl rfl ty22 hi (by omega) (by simp; omega)) ?_
    refine CP rfl wu rfl rfl rfl ty22 ho (Sl.slv hi (by omega) (by omega) (by simp; omega)) (Ext.refl _) (by intro u hu; obtain ⟨_, _, rfl⟩ := List.mem_map.1 (List.mem_of_mem_drop (List.mem_of_mem_take hu)); rfl) (by intro h; kernel_rfl) ?_ (by omega) (by simp; omega) (by simp)
    intro w8 hg8 ho8
    rw [shc_eq _ P.M hl hM] at ho8
    have hE8 := hE.grownI hg8 ho (Nat.le_refl _)
    refine wr_nil (post_thenN (wc_seq ?_))
    have hi8 : Ints w8 out (shc (ms P x.1 y.1 (i + 1).toNat)) := OwnI.ints ho8
    have hl8 : (shc (ms P x.1 y.1 (i + 1).toNat)).length = P.M := by rw [shc, tab_length, hl]
    clear ho hi hE
    have ho : OwnI w4.heap.size w8 out 3 (shc (ms P x.1 y.1 (i + 1).toNat)) := ho8
    clear ho8
    refine wc_region [0,1,2] rfl ?_
    refine Go.Sx.V rfl wu rfl rfl (mv rfl) ?_
    refine Go.Sx.V rfl wu rfl rfl (iadI rfl rfl ty22) ?_
    refine STI rfl wu rfl rfl sz3 (by intro h; cases h) ?_
    intro w9 hg9 hX9 ho9 hi9
    refine wr_nil (post_thenN (wc_seq ?_))
    rw [shc_zero, hin, mi_first] at ho9 hi9
    have hE9 := hX9 _ (Nat.le_refl _) hE8
    refine wc_region [0,1,2] rfl ?_
    refine Go.Sx.V rfl wu rfl rfl (mv rfl) ?_
    refine Go.Sx.V rfl wu rfl rfl (lenI rfl ty22) ?_
    refine Go.Sx.V rfl wu rfl rfl (mv rfl) ?_
    refine wr_nil (post_thenN (wc_block ?_))
    rw [mi_length]
    refine wc_loop (fun j : Int => [(3, .pointer (some ⟨g, 0, none⟩)), (7, a), (8, b), (9, out), (10, .int .i64 i), (11, .int .i64 (gi (ms P x.1 y.1 (i.toNat + 1)) (P.M - 1))), (53, .int .i64 P.M), (54, .int .i64 j)])
      (fun j w' => 0 ≤ j ∧ j ≤ P.M ∧ Ext w4 w' ∧ OwnI w4.heap.size w' out 3 (mi P x.1 y.1 i.toNat j)) (fun j => (P.M - j).toNat) 0 ⟨rfl, rfl, rfl, rfl, rfl, by rw [← hin]; rfl, rfl, rfl, trivial⟩
      ⟨by omega, by omega, hE9, ho9⟩ ?_
    clear ho ho9 hi8 hi9 hE8 hE9 hg8 hg9 hX9
    rintro j w10 ⟨j0, j1, hE, ho⟩
    have hi := ho.ints
    have hlm := mi_length P x.1 y.1 i.toNat j
    try dsimp only
    refine wc_seq ?_
    refine wc_region [0] rfl ?_
    refine Go.Sx.V rfl wu rfl rfl (lssI rfl rfl) ?_
    refine wr_nil (post_thenN (wc_seq ?_))
    refine wc_cond rfl ?_ ?_
    · intro hj
      simp at hj
      refine wc_skip (post_thenN (wc_seq (wc_block (wc_seq ?_))))
      refine wc_region [0,1] rfl ?_
      refine Go.Sx.V rfl wu rfl rfl (mv rfl) ?_
      refine Go.Sx.V rfl wu rfl rfl (asg rfl) ?_
      refine wr_nil (post_thenN (wc_seq ?_))
      refine wc_region [0] rfl ?_
      refine Go.Sx.V rfl wu rfl rfl (asg rfl) ?_
      refine wr_nil (post_thenN (wc_seq (wc_seq ?_)))
      have hlow := hF.low j.toNat
      refine wc_region [0,1,2] rfl ?_
      refine Go.Sx.V rfl wu rfl rfl (fad rfl fa24_1) ?_
      refine Go.Sx.V rfl wu rfl rfl (ldB rfl na3) ?_
      refine Go.Sx.V rfl wu rfl rfl (gtrI rfl rfl) ?_
      refine wr_nil (post_thenN ?_)
      refine wc_cut (σ := Unit) (fun _ => [(3, .pointer (some ⟨g, 0, none⟩)), (7, a), (8, b), (9, out), (10, .int .i64 i), (11, .int .i64 (gi (ms P x.1 y.1 (i.toNat + 1)) (P.M - 1))), (12, .int .i64 j), (13, .int .i64 (P.md j.toNat)), (53, .int .i64 P.M), (54, .int .i64 j)])
        (fun _ w' => w' = w10) ?_ ?_
      · skip
        refine wc_cond rfl ?_ ?_
        · intro hM1
          simp at hM1
          have hlen := hF.len (by omega)
          refine wc_region [0,1,2,3,4,5] rfl ?_
          refine Go.Sx.V rfl wu rfl rfl (fad rfl fa24_2) ?_
          refine Go.Sx.V rfl wu rfl rfl (ldB rfl na22) ?_
          refine Go.Sx.V rfl wu rfl rfl (mv rfl) ?_
          refine Go.Sx.V rfl wu rfl rfl (iadI rfl rfl ty22) ?_
          refine Go.Sx.V rfl wu rfl rfl (ldI rfl na3) ?_
          refine Go.Sx.V rfl wu rfl rfl (asg rfl) ?_
          exact wr_nil (post_cutN () ⟨rfl, rfl, rfl, rfl, rfl, rfl, rfl, by show _ = some (Value.int .i64 (P.md j.toNat)); rw [hF.mdf]; rfl, rfl, rfl, trivial⟩ rfl)
        · intro hM1
          simp at hM1
          have hone := hF.one (by omega)
          exact wc_skip (post_cutN () ⟨rfl, rfl, rfl, rfl, rfl, rfl, rfl, by show _ = some (Value.int .i64 (P.md j.toNat)); rw [hF.mdf, hone]; rfl, rfl, rfl, trivial⟩ rfl)
      · rintro _ _ rfl
        have htop' := htop
        rw [hin] at htop'
        have g1 := mi_get P x.1 y.1 i.toNat j0 (by omega)
        have g2 := gi_lo (l := mi P x.1 y.1 i.toNat j) (p := P.p) (by
          intro z hz
          simp only [mi, tab, List.mem_map, List.mem_range] at hz
          obtain ⟨t, ht, rfl⟩ := hz
          split
          · exact gi_lo (ms_lo P x.1 y.1 i.toNat) (by omega) (by rw [ms_length]; omega)
          · rw [sh_get _ (by omega) (by rw [ms_length]; omega)]
            split
            · omega
            · exact gi_lo (ms_lo P x.1 y.1 (i.toNat + 1)) (by omega) (by rw [ms_length]; omega)) j0 (by omega)
        have g3 := dig_get hp P.M y.1 (j := i) (by omega) h1
        have g4 := dig_get hp P.M x.1 (j := j) j0 (by omega)
        have m1 := mul_le' (a := P.p - gi (ms P x.1 y.1 (i.toNat + 1)) (P.M - 1)) (b := P.md j.toNat) (c := 256) (d := 256) (by omega) (by omega) hlow.1 (by omega)
        have m2 := mul_le' (a := gi (dig P.p P.M y.1) i) (b := gi (dig P.p P.M x.1) j) (c := 256) (d := 256) g3.1 (by omega) g4.1 (by omega)
        have hval := mi_val P x.1 y.1 i.toNat (by omega) j0 (by omega)
        rw [← g1, show ((i.toNat : Nat) : Int) = i by omega] at hval
        have hstep := mi_step P x.1 y.1 i.toNat j0 (by omega)
        refine wc_draw mixed [0,1,2,3,4,5,6,7,8,9,10,11,12,13,14,15,16,17,18,19,20,21,22,23,24,25,26,27] (by kernel_rfl) ?_
        intro w11 hd _
        replace hE := hE.trans hd
        replace ho := ho.ext hd
        replace hi := hi.ext hd
        refine Go.Sx.V rfl wu rfl rfl (mv rfl) ?_
        refine Go.Sx.V rfl wu rfl rfl (mv rfl) ?_
        refine Go.Sx.V rfl wu rfl rfl (mv rfl) ?_
        refine Go.Sx.V rfl wu rfl rfl (mv rfl) ?_
        refine Go.Sx.V rfl wu rfl rfl (iadI rfl rfl ty22) ?_
        refine Go.Sx.V rfl wu rfl rfl (ldI rfl na3) ?_
        refine Go.Sx.V rfl wu rfl rfl (fad rfl fa24_0) ?_
        refine Go.Sx.V rfl wu rfl rfl (ldB rfl na3) ?_
        refine Go.Sx.V rfl wu rfl rfl (mv rfl) ?_
        refine Go.Sx.V rfl wu rfl rfl (subI rfl rfl) ?_
        refine Go.Sx.V rfl wu rfl rfl (mv rfl) ?_
        refine Go.Sx.V rfl wu rfl rfl (mulI rfl rfl) ?_
        refine Go.Sx.V rfl wu rfl rfl (addI rfl rfl) ?_
        refine Go.Sx.V rfl wu rfl rfl (mv rfl) ?_
        refine Go.Sx.V rfl wu rfl rfl (mv rfl) ?_
        refine Go.Sx.V rfl wu rfl rfl (iadI rfl rfl ty22) ?_
        refine Go.Sx.V rfl wu rfl rfl (ldI rfl na3) ?_
        refine Go.Sx.V rfl wu rfl rfl (mv rfl) ?_
        refine Go.Sx.V rfl wu rfl rfl (mv rfl) ?_
        refine Go.Sx.V rfl wu rfl rfl (iadI rfl rfl ty22) ?_
        refine Go.Sx.V rfl wu rfl rfl (ldI rfl na3) ?_
        refine Go.Sx.V rfl wu rfl rfl (mulI rfl rfl) ?_
        refine Go.Sx.V rfl wu rfl rfl (addI rfl rfl) ?_
        refine Go.Sx.V rfl wu rfl rfl (fad rfl fa24_0) ?_
        refine Go.Sx.V rfl wu rfl rfl (ldB rfl na3) ?_
        refine Go.Sx.V rfl wu rfl rfl (remI rfl rfl) ?_
        refine Go.Sx.V rfl wu rfl rfl (iadI rfl rfl ty22) ?_
        refine STI rfl wu rfl rfl sz3 (by intro h; kernel_rfl) ?_
        intro w12 hg12 hX12 ho12 hi12
        refine wr_nil (post_blockN (post_thenN ?_))
        rw [hval, hstep] at ho12
        refine wc_region [0,1] rfl ?_
        refine Go.Sx.V rfl wu rfl rfl (addI rfl rfl) ?_
        refine Go.Sx.V rfl wu rfl rfl (mv rfl) ?_
        refine wr_nil ?_
        exact post_loopN (j + 1) ⟨rfl, rfl, rfl, rfl, rfl, rfl, rfl, rfl, trivial⟩ ⟨by omega, by omega, hX12 _ (Nat.le_refl _) hE, ho12⟩ (by omega)
    · intro hj
      simp at hj
      refine wc_exit (post_thenE (post_loopE (post_blockX (post_blockN (post_thenN ?_)))))
      have hjm : j = (P.M : Int) := by omega
      subst hjm
      rw [mi_last] at ho
      refine wc_region [0,1,2] rfl ?_
      refine Go.Sx.V rfl wu rfl rfl (mv rfl) ?_
      refine Go.Sx.V rfl wu rfl rfl (subI rfl rfl) ?_
      refine Go.Sx.V rfl wu rfl rfl (asg rfl) ?_
      refine wr_nil ?_
      exact post_loopN (i - 1) ⟨rfl, rfl, rfl, rfl, rfl, trivial⟩ ⟨by omega, by omega, hE, by rw [show (i - 1 + 1).toNat = i.toNat by omega]; exact ho⟩ (by omega)
  · intro hc
    simp at hc
    refine wc_exit (post_thenE (post_loopE (post_blockX (post_thenN (wc_seq ?_)))))
    rw [show (i + 1).toNat = 0 by omega] at ho hi hl
    refine wc_region [0,1,2,3,4] rfl ?_
    refine Go.Sx.V rfl wu rfl rfl (mv rfl) ?_
    refine Go.Sx.V rfl wu rfl rfl (fad rfl fa24_0) ?_
    refine Go.Sx.V rfl wu rfl rfl (ldB rfl na3) ?_
    refine C rfl wu rfl rfl Tryz.call155 (fValue out _ P.p _ hi ⟨hp, hp2⟩ (ms_lo P _ _ _) (by rw [hl]; have : P.p ^ P.M = P.q := rfl; omega) (by omega)) ?_
    rintro _ w11 hE11 rfl
    refine Go.Sx.V rfl wu rfl rfl (asg rfl) ?_
    refine wr_nil (post_thenN (wc_ret ?_))
    refine post_ret1 rfl rfl ?_
    exact ⟨(hE0.trans hE).trans hE11, by rw [ms_last]⟩
end Go.Proofs.YtmnojknfjbimdaaGreat

