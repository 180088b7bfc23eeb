/-
  Statement WordSteps: for every field and length the law returns true. No condition.
-/
import Derived.Test.YtlcokneidokfnaaOpen11
import Derived.Test.YtlcokneidokfnaaWord1
import Derived.Test.YtlcokneidokfnaaWord3
import Derived.Test.YtlcokneidokfnaaWord4
import Derived.Test.YtlcokneidokfnaaRank
import Derived.Test.YtlcokneidokfnaaRows
namespace Go.Proofs.Ytlcokneidokfnaa
open Go Go.Sx Go.Pl Go.RowKit Go.Fd Go.Alg Go.Fr

theorem open_split {w : World} {p M : Int} {mo : Value} {md : List Int} {v : Value} (h : OpenA w ⟨p, M, mo, md⟩ v) :
    ∃ g d, v = .tuple #[g, .bool d, .bool true] ∧ (d = true ∨ (d = false ∧ ∃ P : FP, P.p = p ∧ (P.M : Int) = M ∧ (∀ w' mo', Ints w' mo' md → FV w' P mo' md) ∧ GFV w P g)) := by
  rcases h with h | ⟨P, h1, _, h3, h4, g, h5, h6⟩
  · exact ⟨_, _, h, .inl rfl⟩
  · exact ⟨_, _, h5, .inr ⟨rfl, P, h3, h4, h1, h6⟩⟩
set_option maxRecDepth 10000 in
theorem law_WordSteps {w : World} (v0 : Value) (r : FRec) (s0 : v0 = r.v ∧ FOf w r) (n : Int) (_ : Fits n) :
    Calls Try.prog 10 #[v0, .int .i64 n] w (RetX w fun v _ => v = .bool true) := by
  obtain ⟨p, M, mo, md⟩ := r
  obtain ⟨rfl, hr⟩ := s0
  refine calls2 Try.func10 rfl rfl ?_
  refine wc_seq ?_
  refine wc_region [0,1] rfl ?_
  refine BXA rfl wu rfl rfl ?_
  intro fb w1 hE hB hg
  refine Go.Sx.V rfl wu rfl rfl (asg rfl) ?_
  refine wr_nil (post_thenN (wc_seq ?_))
  refine wc_region [0,1,2,3,4,5,6,7,8] rfl ?_
  refine Go.Sx.V rfl wu rfl rfl (ldA rfl ag40) ?_
  refine C rfl wu rfl rfl Try.call29 (lOpen ⟨p, M, mo, md⟩ _ (hr.ints.ext hE)) ?_
  rintro ov w2 hE2 hop
  replace hB := hB.ext hE2
  replace hE := hE.trans hE2
  obtain ⟨gv, dn, rfl, hcase⟩ := open_split hop
  refine Go.Sx.V rfl wu rfl rfl (mv rfl) ?_
  refine Go.Sx.V rfl wu rfl rfl (ext rfl rfl) ?_
  refine Go.Sx.V rfl wu rfl rfl (ext rfl rfl) ?_
  refine Go.Sx.V rfl wu rfl rfl (ext rfl rfl) ?_
  refine Go.Sx.V rfl wu rfl rfl (asg rfl) ?_
  refine Go.Sx.V rfl wu rfl rfl (asg rfl) ?_
  refine Go.Sx.V rfl wu rfl rfl (asg rfl) ?_
  refine wr_nil (post_thenN (wc_seq (wc_seq ?_)))
  have hmi := hr.ints.ext hE
  refine wc_region [0] rfl ?_
  refine Go.Sx.V rfl wu rfl rfl (mv rfl) ?_
  refine wr_nil (post_thenN ?_)
  refine wc_cond rfl ?_ ?_
  · intro _
    refine wc_seq ?_
    refine wc_region [0,1] rfl ?_
    refine Go.Sx.V rfl wu rfl rfl (mv rfl) ?_
    refine Go.Sx.V rfl wu rfl rfl (asg rfl) ?_
    refine wr_nil (post_thenN (wc_ret (post_thenR ?_)))
    refine post_ret1 rfl rfl ?_
    exact ⟨hE, rfl⟩
  · intro h
    rcases hcase with hd | ⟨_, P, hp, hM, hFV, hG⟩
    · rw [hd] at h; cases h
    dsimp only at hB
    subst hp hM
    have hF := hFV _ _ hmi
    have hX := Ext.refl w2
    refine wc_skip (post_thenN (wc_seq ?_))
    have hq2 := P.q_two
    have hq11 := hG.q11
    have hord := hF.ord
    refine wc_region [0,1,2,3,4,5,6,7] rfl ?_
    refine Go.Sx.V rfl wu rfl rfl (mv rfl) ?_
    refine Go.Sx.V rfl wu rfl rfl (mv rfl) ?_
    refine C rfl wu rfl rfl Try.call39 (wSteps P gv n _ (hG.ext hX)) ?_
    rintro _ w3 hE3 ⟨s, L, rfl, hs, hL0, hL1⟩
    replace hX := hX.trans hE3
    refine Go.Sx.V rfl wu rfl rfl (mv rfl) ?_
    refine Go.Sx.V rfl wu rfl rfl (ext rfl rfl) ?_
    refine Go.Sx.V rfl wu rfl rfl (ext rfl rfl) ?_
    refine Go.Sx.V rfl wu rfl rfl (asg rfl) ?_
    refine Go.Sx.V rfl wu rfl rfl (asg rfl) ?_
    refine wr_nil (post_thenN (wc_seq ?_))
    refine wc_region [0,1,2,3,4,5,6,7] rfl ?_
    refine Go.Sx.V rfl wu rfl rfl (ldA rfl ag40) ?_
    refine Go.Sx.V rfl wu rfl rfl (mv rfl) ?_
    refine C rfl wu rfl rfl Try.call40 (rCount P mo md n _ (hF.ext hX)) ?_
    rintro _ w4 hE4 rfl
    replace hX := hX.trans hE4
    replace hs := hs.ext hE4
    refine Go.Sx.V rfl wu rfl rfl (mv rfl) ?_
    refine Go.Sx.V rfl wu rfl rfl (ext rfl rfl) ?_
    refine Go.Sx.V rfl wu rfl rfl (ext rfl rfl) ?_
    refine Go.Sx.V rfl wu rfl rfl (asg rfl) ?_
    refine Go.Sx.V rfl wu rfl rfl (asg rfl) ?_
    refine wr_nil (post_thenN (wc_seq (wc_seq ?_)))
    refine wc_region [0,1,2] rfl ?_
    refine Go.Sx.V rfl wu rfl rfl (mv rfl) ?_
    refine Go.Sx.V rfl wu rfl rfl (mv rfl) ?_
    refine Go.Sx.V rfl wu rfl rfl (neqI rfl rfl) ?_
    refine wr_nil (post_thenN ?_)
    refine wc_condF rfl (by simp) ?_
    refine wc_skip (post_thenN (wc_seq (wc_seq ?_)))
    refine wc_region [0,1] rfl ?_
    refine Go.Sx.V rfl wu rfl rfl (mv rfl) ?_
    refine Go.Sx.V rfl wu rfl rfl (neqI rfl rfl) ?_
    refine wr_nil (post_thenN ?_)
    refine wc_cond rfl ?_ ?_
    · intro hx
      simp at hx
      have := hL0 hx
      subst this
      refine wc_seq ?_
      refine wc_region [0,1,2,3] rfl ?_
      refine Go.Sx.V rfl wu rfl rfl (mv rfl) ?_
      refine Go.Sx.V rfl wu rfl rfl (lenR rfl ty51) ?_
      refine Go.Sx.V rfl wu rfl rfl (eqlI rfl rfl) ?_
      refine Go.Sx.V rfl wu rfl rfl (asg rfl) ?_
      refine wr_nil (post_thenN (wc_ret (post_thenR ?_)))
      refine post_ret1 rfl rfl ?_
      exact ⟨hE.trans hX, rfl⟩
    · intro hx
      simp at hx
      obtain ⟨hn0, hn64, hpw, htot⟩ := cnt_len hx
      obtain ⟨hLl, hLs⟩ := hL1 hx
      have hp1 := pw_pos hq2 n.toNat
      obtain ⟨N, rfl⟩ : ∃ N : Nat, n = N := ⟨n.toNat, by omega⟩
      rw [Int.toNat_natCast] at hpw htot hLl hLs hp1
      rw [htot]
      refine wc_skip (post_thenN (wc_seq (wc_seq ?_)))
      refine wc_region [0,1,2,3,4] rfl ?_
      refine Go.Sx.V rfl wu rfl rfl (mv rfl) ?_
      refine Go.Sx.V rfl wu rfl rfl (lenR rfl ty51) ?_
      refine Go.Sx.V rfl wu rfl rfl (mv rfl) ?_
      refine Go.Sx.V rfl wu rfl rfl (subI rfl rfl) ?_
      refine Go.Sx.V rfl wu rfl rfl (neqI rfl rfl) ?_
      refine wr_nil (post_thenN ?_)
      refine wc_condF rfl (by simp <;> omega) ?_
      refine wc_skip (post_thenN (wc_seq ?_))
      refine wc_region [0,1,2] rfl ?_
      refine Go.Sx.V rfl wu rfl rfl (ldA rfl ag40) ?_
      refine C rfl wu rfl rfl Try.call41 (rOrder P.p P.M mo _) ?_
      rintro _ w5 hE5 rfl
      replace hX := hX.trans hE5
      replace hs := hs.ext hE5
      rw [hord]
      refine Go.Sx.V rfl wu rfl rfl (asg rfl) ?_
      refine wr_nil (post_thenN (wc_seq ?_))
      refine wc_region [0,1,2] rfl ?_
      refine Go.Sx.V rfl wu rfl rfl (mv rfl) ?_
      refine MKI (n := N) rfl wu rfl rfl ty26 ?_
      intro wl w6 hE6 ho hoi hob
      refine Go.Sx.V rfl wu rfl rfl (asg rfl) ?_
      refine wr_nil (post_thenN (wc_seq (wc_seq ?_)))
      rw [← refl_zero hq2] at ho
      refine wc_region [0] rfl ?_
      refine Go.Sx.V rfl wu rfl rfl (asg rfl) ?_
      refine wr_nil (post_thenN (wc_block ?_))
      refine wc_loop (fun t : Int => [(1, .int .i64 N), (5, gv), (8, s), (10, .int .i64 (P.q ^ N)), (12, .int .i64 P.q), (13, wl), (14, .int .i64 t)])
        (fun t w' => 1 ≤ t ∧ t ≤ P.q ^ N ∧ Ext w2 w' ∧ Ext w5 w' ∧ OwnI w5.heap.size w' wl 3 (refl P.q N (t - 1))) (fun t => (P.q ^ N - t).toNat) 1 ⟨rfl, rfl, rfl, rfl, rfl, rfl, rfl, trivial⟩
        ⟨by omega, by omega, hX.trans hE6, hE6, by rw [show (1 : Int) - 1 = 0 by omega]; exact ho⟩ ?_
      have hsz := hX.size
      clear hX ho hoi hE6
      rintro t w7 ⟨t0, t1, hX, hX5, ho⟩
      have hsi := hs.ext hX5
      try dsimp only
      refine wc_seq (wc_seq ?_)
      refine wc_region [0,1,2] rfl ?_
      refine Go.Sx.V rfl wu rfl rfl (mv rfl) ?_
      refine Go.Sx.V rfl wu rfl rfl (mv rfl) ?_
      refine Go.Sx.V rfl wu rfl rfl (lssI rfl rfl) ?_
      refine wr_nil (post_thenN ?_)
      refine wc_cond rfl ?_ ?_
      · intro ht
        simp at ht
        obtain ⟨pp, hpp, hrow, hpm, hoth⟩ := hLs (t - 1).toNat (by omega)
        rw [show (((t - 1).toNat : Nat) : Int) = t - 1 by omega, show t - 1 + 1 = t by omega] at hrow hpm hoth
        have hrl := refl_length P.q N (t - 1)
        have hgw : gi (refl P.q N (t - 1)) (pp : Int) = wd P.q N (t - 1) pp := by
          rw [refl, gi_tab (by omega) (by omega), Int.toNat_natCast]
        have hw1 := wd_range hq2 N (t - 1) pp
        have hw2 := wd_range hq2 N t pp
        have hlt := Own.lt ho
        refine wc_skip (post_thenN (wc_seq (wc_block (wc_seq ?_))))
        refine wc_region [0,1,2,3,4,5,6] rfl ?_
        refine Go.Sx.V rfl wu rfl rfl (mv rfl) ?_
        refine Go.Sx.V rfl wu rfl rfl (mv rfl) ?_
        refine Go.Sx.V rfl wu rfl rfl (subI rfl rfl) ?_
        refine Go.Sx.V rfl wu rfl rfl (iadR rfl rfl ty51 hsi) ?_
        refine Go.Sx.V rfl wu rfl rfl (ldR rfl ag57 hsi) ?_
        rw [hrow]
        refine AL rfl wu rfl zv57 ?_
        intro kb w8 hE8 hKb hkb
        refine STB (vs := [.int .i64 pp, .int .i64 (wd P.q N (t - 1) pp), .int .i64 (wd P.q N t pp)]) (cs' := [.int .i64 pp, .int .i64 (wd P.q N (t - 1) pp), .int .i64 (wd P.q N t pp)]) rfl wu rfl rfl rfl sv57 (by intro h; cases h) (by assumption) (by first | (simp [Value.oneCell']; done) | (intro v hv; simp only [List.mem_cons, List.not_mem_nil, or_false] at hv; rcases hv with rfl | rfl | rfl <;> first | rfl | assumption) | (intro v hv; simp only [List.mem_cons, List.not_mem_nil, or_false] at hv; rcases hv with rfl | rfl <;> first | rfl | assumption)) rfl rfl rfl ?_
        intro w9 hg9 hX9 hK9
        refine wr_nil (post_thenN (wc_seq (wc_seq ?_)))
        have h79 := hX9 _ hkb hE8
        replace ho : OwnI w5.heap.size w9 wl 3 _ := Own.ext ho h79
        replace hX := hX.trans h79
        replace hX5 := hX5.trans h79
        have hoi := OwnI.ints ho
        clear hKb hg9 hX9 hE8
        refine wc_draw mixed [0,1,2,3,4,5,6,7,8,9,10,11,12,13,14,15,16,17,18,19,20,21,22,23,24,25,26,27,28,29,30,31,32,33,34] (by kernel_rfl) ?_
        intro w10 hd10 _
        replace hX := hX.trans hd10
        replace hX5 := hX5.trans hd10
        replace hoi := hoi.ext hd10
        replace hK9 := hK9.ext hd10
        refine Go.Sx.V rfl wu rfl rfl (fad rfl fa57_0) ?_
        replace ho : OwnI w5.heap.size w10 wl 3 _ := Own.ext ho hd10
        refine Go.Sx.V rfl wu rfl rfl (ldB rfl na3) ?_
        refine Go.Sx.V rfl wu rfl rfl (lssI rfl rfl) ?_
        refine Go.Sx.V rfl wu rfl rfl (mv rfl) ?_
        refine KB 68 false rfl (by simp) ?_
        refine Go.Sx.V rfl (wg rfl rfl) rfl rfl (fad rfl fa57_0) ?_
        refine Go.Sx.V rfl (wg rfl rfl) rfl rfl (ldB rfl na3) ?_
        refine Go.Sx.V rfl (wg rfl rfl) rfl rfl (mv rfl) ?_
        refine Go.Sx.V rfl (wg rfl rfl) rfl rfl (geqI rfl rfl) ?_
        refine Go.Sx.V rfl wu rfl rfl (pk rfl rfl) ?_
        refine Go.Sx.V rfl wu rfl rfl (mv rfl) ?_
        refine KB 74 false rfl (by simp <;> omega) ?_
        refine Go.Sx.V rfl (wg rfl rfl) rfl rfl (mv rfl) ?_
        refine Go.Sx.V rfl (wg rfl rfl) rfl rfl (fad rfl fa57_0) ?_
        refine Go.Sx.V rfl (wg rfl rfl) rfl rfl (ldB rfl na3) ?_
        refine Go.Sx.V rfl (wg rfl rfl) rfl rfl (iadI rfl rfl ty26) ?_
        refine Go.Sx.V rfl (wg rfl rfl) rfl rfl (ldI rfl na3) ?_
        refine Go.Sx.V rfl (wg rfl rfl) rfl rfl (fad rfl fa57_1) ?_
        refine Go.Sx.V rfl (wg rfl rfl) rfl rfl (ldB rfl na3) ?_
        refine Go.Sx.V rfl (wg rfl rfl) rfl rfl (neqI rfl rfl) ?_
        refine Go.Sx.V rfl wu rfl rfl (pk rfl rfl) ?_
        refine Go.Sx.V rfl wu rfl rfl (mv rfl) ?_
        refine KB 84 false rfl (by simp [hgw]) ?_
        refine Go.Sx.V rfl (wg rfl rfl) rfl rfl (fad rfl fa57_2) ?_
        refine Go.Sx.V rfl (wg rfl rfl) rfl rfl (ldB rfl na3) ?_
        refine Go.Sx.V rfl (wg rfl rfl) rfl rfl (fad rfl fa57_1) ?_
        refine Go.Sx.V rfl (wg rfl rfl) rfl rfl (ldB rfl na3) ?_
        refine Go.Sx.V rfl (wg rfl rfl) rfl rfl (addI rfl rfl) ?_
        refine Go.Sx.V rfl (wg rfl rfl) rfl rfl (neqI rfl rfl) ?_
        refine Go.Sx.V rfl (wg rfl rfl) rfl rfl (mv rfl) ?_
        refine AND (π1 := [27,28,29,30,31,32,33]) (π2 := [34]) (tc := 91) (tp := 98) rfl rfl rfl (by
            intro hg
            simp at hg
            refine Go.Sx.V rfl (wg rfl rfl) rfl rfl (fad rfl fa57_2) ?_
            refine Go.Sx.V rfl (wg rfl rfl) rfl rfl (ldB rfl na3) ?_
            refine Go.Sx.V rfl (wg rfl rfl) rfl rfl (fad rfl fa57_1) ?_
            refine Go.Sx.V rfl (wg rfl rfl) rfl rfl (ldB rfl na3) ?_
            refine Go.Sx.V rfl (wg rfl rfl) rfl rfl (subI rfl rfl) ?_
            refine Go.Sx.V rfl (wg rfl rfl) rfl rfl (neqI rfl rfl) ?_
            refine Go.Sx.V rfl (wg rfl rfl) rfl rfl (pk rfl rfl) ?_
            exact join rfl) (by
            intro _
            refine SK rfl rfl rfl rfl rfl ?_
            refine SK rfl rfl rfl rfl rfl ?_
            refine SK rfl rfl rfl rfl rfl ?_
            refine SK rfl rfl rfl rfl rfl ?_
            refine SK rfl rfl rfl rfl rfl ?_
            refine SK rfl rfl rfl rfl rfl ?_
            refine Go.Sx.V rfl (wg rfl rfl) rfl rfl (pk rfl rfl) ?_
            exact join rfl) ?_
        refine Go.Sx.V rfl wu rfl rfl (pk rfl rfl) ?_
        refine wr_nil (post_thenN ?_)
        refine wc_condF rfl (by simp <;> omega) ?_
        refine wc_skip (post_thenN (wc_seq ?_))
        refine wc_region [0,1,2,3,4,5,6] rfl ?_
        refine Go.Sx.V rfl wu rfl rfl (mv rfl) ?_
        refine Go.Sx.V rfl wu rfl rfl (fad rfl fa57_0) ?_
        refine Go.Sx.V rfl wu rfl rfl (ldB rfl na3) ?_
        refine Go.Sx.V rfl wu rfl rfl (fad rfl fa57_2) ?_
        refine Go.Sx.V rfl wu rfl rfl (ldB rfl na3) ?_
        refine Go.Sx.V rfl wu rfl rfl (iadI rfl rfl ty26) ?_
        refine STI rfl wu rfl rfl sz3 (by intro h; cases h) ?_
        intro w11 hg11 hX11 ho11 hi11
        refine wr_nil (post_thenN (wc_seq ?_))
        have hst : si (refl P.q N (t - 1)) (pp : Int) (wd P.q N t pp) = refl P.q N t := by
          rw [refl, si_tab, Int.toNat_natCast]
          refine tab_congr fun j hj => ?_
          by_cases e : j = pp
          · rw [if_pos e, e]
          · rw [if_neg e, hoth j hj e]
        have ho12 : OwnI w5.heap.size w11 wl 3 (refl P.q N t) := by rw [← hst]; exact ho11
        replace hX := hX11 _ (by omega) hX
        replace hX5 := hX11 _ (Nat.le_refl _) hX5
        refine wc_region [0,1,2,3,4,5,6] rfl ?_
        refine Go.Sx.V rfl wu rfl rfl (mv rfl) ?_
        refine Go.Sx.V rfl wu rfl rfl (mv rfl) ?_
        refine Go.Sx.V rfl wu rfl rfl (mv rfl) ?_
        refine Go.Sx.V rfl wu rfl rfl (mv rfl) ?_
        refine C rfl wu rfl rfl Try.call42 (rRefl P.q N t _ ⟨hq2, hq11⟩ (by omega) (by omega)) ?_
        rintro rv w12 hE12 hrv
        replace ho12 : OwnI w5.heap.size w12 wl 3 _ := Own.ext ho12 hE12
        replace hX := hX.trans hE12
        replace hX5 := hX5.trans hE12
        refine C rfl wu rfl rfl Try.call24 (rSame wl rv _ _ _ (OwnI.ints ho12) (OwnI.ints hrv)) ?_
        rintro _ w13 hE13 rfl
        replace ho12 : OwnI w5.heap.size w13 wl 3 _ := Own.ext ho12 hE13
        replace hX := hX.trans hE13
        replace hX5 := hX5.trans hE13
        refine Go.Sx.V rfl wu rfl rfl (notB rfl) ?_
        refine wr_nil (post_thenN ?_)
        refine wc_condF rfl (by simp) ?_
        refine wc_skip (post_blockN (post_thenN ?_))
        refine wc_region [0,1,2] rfl ?_
        refine Go.Sx.V rfl wu rfl rfl (mv rfl) ?_
        refine Go.Sx.V rfl wu rfl rfl (addI rfl rfl) ?_
        refine Go.Sx.V rfl wu rfl rfl (asg rfl) ?_
        refine wr_nil ?_
        exact post_loopN (t + 1) ⟨rfl, rfl, rfl, rfl, rfl, rfl, rfl, trivial⟩ ⟨by omega, by omega, hX, hX5, by rw [show t + 1 - 1 = t by omega]; exact ho12⟩ (by omega)
      · intro ht
        simp at ht
        have h1 : cntA P.q 1 = (P.q, 0) := by
          rw [cntA, if_neg (by omega), show (1 : Int).toNat = 1 from rfl, Int.pow_succ, Int.pow_zero, Int.one_mul, if_pos (by omega)]
        refine wc_exit (post_thenE (post_loopE (post_blockX (post_thenN (wc_seq ?_)))))
        refine wc_region [0,1,2,3,4,5,6] rfl ?_
        refine Go.Sx.V rfl wu rfl rfl (mv rfl) ?_
        refine C rfl wu rfl rfl Try.call39 (wSteps P gv 1 _ (hG.ext hX)) ?_
        rintro _ w14 hE14 ⟨s1, L1, rfl, hs1, _, hL2⟩
        replace hX := hX.trans hE14
        refine Go.Sx.V rfl wu rfl rfl (mv rfl) ?_
        refine Go.Sx.V rfl wu rfl rfl (ext rfl rfl) ?_
        refine Go.Sx.V rfl wu rfl rfl (ext rfl rfl) ?_
        refine Go.Sx.V rfl wu rfl rfl (asg rfl) ?_
        refine Go.Sx.V rfl wu rfl rfl (asg rfl) ?_
        refine wr_nil (post_thenN (wc_seq ?_))
        have hL3 := (hL2 (by rw [h1])).1
        rw [show (1 : Int).toNat = 1 from rfl, Int.pow_succ, Int.pow_zero, Int.one_mul] at hL3
        rw [h1]
        refine wc_region [0,1,2,3,4,5,6,7,8,9] rfl ?_
        refine Go.Sx.V rfl wu rfl rfl (mv rfl) ?_
        refine Go.Sx.V rfl wu rfl rfl (eqlI rfl rfl) ?_
        refine Go.Sx.V rfl wu rfl rfl (mv rfl) ?_
        refine KB 120 true rfl (by simp) ?_
        refine Go.Sx.V rfl (wg rfl rfl) rfl rfl (mv rfl) ?_
        refine Go.Sx.V rfl (wg rfl rfl) rfl rfl (lenR rfl ty51 hs1) ?_
        refine Go.Sx.V rfl (wg rfl rfl) rfl rfl (mv rfl) ?_
        refine Go.Sx.V rfl (wg rfl rfl) rfl rfl (subI rfl rfl) ?_
        refine Go.Sx.V rfl (wg rfl rfl) rfl rfl (eqlI rfl rfl) ?_
        refine Go.Sx.V rfl wu rfl rfl (pk rfl rfl) ?_
        refine Go.Sx.V rfl wu rfl rfl (asg rfl) ?_
        refine wr_nil (post_thenN (wc_ret ?_))
        refine post_ret1 rfl rfl ?_
        exact ⟨hE.trans hX, by simp; omega⟩
namespace FWordSteps
open Go.ChangeShapes Go.WideShapes Go.ChangeAt Go.RowKit Go.Fr
theorem own : ownKnob Try.prog.godebug = none := by kernel_rfl
theorem laidOut : laidOutB Try.prog = true := by kernel_rfl
set_option maxRecDepth 100000 in
theorem lifted (os : Os) (started : os.Started) (H : Type) (enc : TypeId × Value → H) :
    ReturnsInHanded {} Try.checked os 10 .any (Rows.wordStepsSpec.pre6 enc Try.prog Try.f10 Rows.wordStepsRow.domain false) (Rows.wordStepsSpec.post enc Try.prog Try.f10 false true false false) := by
  refine returnsInHanded_of_change_sized (C := Try.checked) own started (by kernel_rfl) Try.func10
    (ChangeSpec.witness6 (enc := enc) (C := Try.checked) false ⟨#[], #[.agg #[.int .i64 0, .int .i64 0, .slice none 0 0], .int .i64 0], []⟩ 8 (by kernel_rfl) (by kernel_rfl) (by kernel_rfl) (by kernel_rfl)) ?_
  intro W base args ds gs before hval0 hW _ hsz0 _
  have hval : ∀ (j : Nat) t v, Try.f10.params[j]? = some t → args[j]? = some v → Value.okWide Try.prog W .any base t v := hval0
  have hW' := hW
  obtain ⟨p, q, hA0, hV, rfl, hfz, hnd⟩ := hW
  have hA : DataW.TrodAll enc Try.prog W 0 (fun _ => true) true Try.f10.params.toList args.toList ds p := hA0
  have hsz : (DataW.weightsEach Try.prog (Try.f10.params.toList ++ Rows.wordStepsSpec.plain.varTypes Try.prog) (ds ++ gs)).all (· ≤ reachBytes) = true := hsz0
  rw [Try.params10] at hA hval hsz
  obtain ⟨v0, vs0, d0, ds0, p0, q0, hargs, rfl, rfl, h0, r0⟩ := trodAll_cons hA
  obtain ⟨v1, vs1, d1, ds1, p1, q1, rfl, rfl, rfl, h1, r1⟩ := trodAll_cons r0
  obtain ⟨rfl, rfl, rfl⟩ := trodAll_nil r1
  obtain rfl : args = #[v0, v1] := by cases args; simp_all
  obtain ⟨rfl, rfl⟩ := trodVars_none hV
  have k0 := h0
  have lt0 : ∀ x ∈ p0, x.block < W.heap.size := by obtain ⟨m, hm⟩ := k0; exact DataW.trod_lt m _ _ _ hm
  have w0 : WOK Try.prog 40 d0 := wok_arg hsz (j := 0) rfl rfl
  obtain ⟨x0, s0⟩ := op_field (hval 0 40 v0 rfl rfl) h0 w0
  have k1 := h1
  have lt1 : ∀ x ∈ p1, x.block < W.heap.size := by obtain ⟨m, hm⟩ := k1; exact DataW.trod_lt m _ _ _ hm
  have w1 : WOK Try.prog 3 d1 := wok_arg hsz (j := 1) rfl rfl
  obtain ⟨n1, rfl, b1⟩ := op_int Try.underlying3 (hval 1 3 v1 rfl rfl) h1
  refine (law_WordSteps (w := W) v0 x0 s0 n1 b1).mono fun e W' he => ?_
  cases e with
  | panicked c => exact he.elim
  | outgrown => exact he.elim
  | returned v =>
    obtain ⟨bel, rfl⟩ := he
    exact ⟨_, rfl, _, _, _, [], _, [], hW', trodAll_mk1 (shut_bool Try.underlying4 _), (trodAll_cons_mk (Below.trod laidOut (by kernel_rfl) (of_decide_eq_true (by kernel_rfl)) k0 bel lt0) (trodAll_cons_mk (Below.trod laidOut (by kernel_rfl) (of_decide_eq_true (by kernel_rfl)) k1 bel lt1) trodAll_mk0)), rfl, bel.frame _, fun h => by cases h⟩
theorem over : Rows.wordStepsRow.holds Try.pinned (OpenSpec.ofChange Rows.wordStepsSpec) :=
  OpenClaim.holds_of_wide 10 Try.f10 rfl rfl rfl rfl rfl rfl rfl ⟨rfl, rfl, rfl, rfl, rfl⟩ rfl rfl rfl rfl rfl (by kernel_rfl) Try.func10 (by kernel_rfl)
    (of_decide_eq_true (by kernel_rfl)) (by unfold Func.isWrapper; first | (rw [if_pos (by decide +kernel)]; kernel_rfl) | (rw [if_neg (by decide +kernel)]; exact ⟨rfl, rfl⟩))
    (fun os started H enc _ => lifted os started H enc)
end FWordSteps
/-- The statement. -/
theorem wordSteps_holds : Rows.WordStepsSaid := FWordSteps.over
end Go.Proofs.Ytlcokneidokfnaa
