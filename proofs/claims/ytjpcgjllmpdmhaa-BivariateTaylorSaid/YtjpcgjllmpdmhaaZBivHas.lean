/-
  Statements BivariateHasse and BivariateTaylor: for every description of a field and all arguments the laws return true. No condition.
-/
import Derived.Test.YtjpcgjllmpdmhaaZOpen40
import Derived.Test.YtjpcgjllmpdmhaaZRHas
import Derived.Test.YtjpcgjllmpdmhaaZBHas
import Derived.Test.YtjpcgjllmpdmhaaZMPa
import Derived.Test.YtjpcgjllmpdmhaaZRef7
import Derived.Test.YtjpcgjllmpdmhaaZGF2
import Derived.Test.YtjpcgjllmpdmhaaRows
namespace Go.Proofs.Ytjpcgjllmpdmhaa
open Go Go.Sx Go.Pl Go.RowKit Go.Fd Go.Alg Go.Fr

set_option maxRecDepth 10000 in
theorem law_BivariateHasse {w : World} (v0 : Value) (r : FRec) (s0 : v0 = r.v ∧ FOf w r) (u : Value) (A : List (List Int)) (s1 : LL w u A ∧ LLFit A) (v2 : Value) (x2 : Int × Int) (s2 : v2 = .agg #[.int .i64 x2.1, .int .i64 x2.2]) :
    Calls Try.prog 11 #[v0, u, v2] w (RetX w fun v _ => v = .bool true) := by
  obtain ⟨p, M, mo, md⟩ := r
  obtain ⟨rfl, hr⟩ := s0
  obtain ⟨hu, _⟩ := s1
  obtain ⟨a, b⟩ := x2
  subst s2
  refine calls3 Try.func11 rfl rfl ?_
  refine wc_seq ?_
  refine wc_region [0,1,2] rfl ?_
  refine BXA rfl wu rfl rfl ?_
  intro fb w1 hE hB hg
  refine BXA rfl wu rfl rfl ?_
  intro cb w3 hE3 hB3 hg3
  replace hB := hB.ext hE3
  replace hE := hE.trans hE3
  refine Go.Sx.V rfl wu rfl rfl (asg rfl) ?_
  refine wr_nil (post_thenN (wc_seq (wc_seq ?_)))
  refine wc_region [0,1] rfl ?_
  refine C rfl wu rfl rfl Try.call16 (lAlive _) ?_
  rintro _ w4 hE4 rfl
  replace hB := hB.ext hE4
  replace hB3 := hB3.ext hE4
  replace hE := hE.trans hE4
  refine Go.Sx.V rfl wu rfl rfl (notB rfl) ?_
  refine wr_nil (post_thenN ?_)
  refine wc_condF rfl (by simp) ?_
  refine wc_skip (post_thenN (wc_seq ?_))
  have hmi := hr.ints.ext hE
  dsimp only at hmi hB
  refine wc_region [0,1,2] rfl ?_
  refine Go.Sx.V rfl wu rfl rfl (ldA rfl ag24) ?_
  refine C rfl wu rfl rfl Try.call17 (lMade p M mo md _ hmi) ?_
  rintro g w5 hE5 hm
  replace hB := hB.ext hE5
  replace hB3 := hB3.ext hE5
  replace hE := hE.trans hE5
  refine Go.Sx.V rfl wu rfl rfl (asg rfl) ?_
  refine wr_nil (post_thenN (wc_seq ?_))
  replace hmi := hmi.ext hE5
  replace hu := hu.ext hE
  have hX := Ext.refl w5
  refine wc_draw mixed [0,1,2,3,4,5] (by kernel_rfl) ?_
  intro w6 hd _
  replace hX := hX.trans hd
  refine Go.Sx.V rfl wu rfl rfl (iadA rfl rfl ar43) ?_
  refine Go.Sx.V rfl wu rfl rfl (ldB rfl na3) ?_
  refine Go.Sx.V rfl wu rfl rfl (iadA rfl rfl ar43) ?_
  refine Go.Sx.V rfl wu rfl rfl (ldB rfl na3) ?_
  refine Go.Sx.V rfl wu rfl rfl (asg rfl) ?_
  refine Go.Sx.V rfl wu rfl rfl (asg rfl) ?_
  refine wr_nil (post_thenN (wc_seq (wc_seq ?_)))
  rcases made_split hm hmi with rfl | ⟨P, hp, hM, hF, hG⟩
  · skip
    refine wc_region [0,1,2,3,4,5,6,7] rfl ?_
    refine Go.Sx.V rfl wu rfl rfl (mv rfl) ?_
    refine Go.Sx.V rfl wu rfl rfl (eqlPn rfl rfl Try.underlying28) ?_
    refine Go.Sx.V rfl wu rfl rfl (mv rfl) ?_
    refine KB 22 true rfl (by rfl) ?_
    refine SK rfl rfl rfl rfl rfl ?_
    refine SK rfl rfl rfl rfl rfl ?_
    refine SK rfl rfl rfl rfl rfl ?_
    refine SK rfl rfl rfl rfl rfl ?_
    refine Go.Sx.V rfl wu rfl rfl (pk rfl rfl) ?_
    refine wr_nil (post_thenN ?_)
    refine wc_condT rfl (by simp) ?_
    refine wc_seq ?_
    refine wc_region [0] rfl ?_
    refine Go.Sx.V rfl wu rfl rfl (asg rfl) ?_
    refine wr_nil (post_thenN (wc_ret (post_thenR ?_)))
    refine post_ret1 rfl rfl ?_
    exact ⟨hE.trans hX, rfl⟩
  · subst hp hM
    obtain ⟨ga, hga⟩ := hG.ptr
    refine wc_region [0,1,2,3,4,5,6,7] rfl ?_
    refine Go.Sx.V rfl wu rfl rfl (mv rfl) ?_
    rw [hga]
    refine Go.Sx.V rfl wu rfl rfl (eqlPn rfl rfl Try.underlying28) ?_
    rw [← hga]
    refine Go.Sx.V rfl wu rfl rfl (mv rfl) ?_
    refine KB 22 false rfl (by rfl) ?_
    refine Go.Sx.V rfl (wg rfl rfl) rfl rfl (mv rfl) ?_
    refine BS (us := [u]) rfl (wg rfl rfl) rfl rfl rfl rfl ty86 (by intro q hq; obtain rfl : q = u := (by simpa using hq); exact hu.one) ?_
    intro sv w7 hE7 hsv _
    replace hX := hX.trans hE7
    refine C rfl (wg rfl rfl) rfl rfl Try.call18 (lSmall sv _ [A] _ hsv.sl (bis1 (hu.ext hX))) ?_
    rintro _ w8 hE8 rfl
    replace hX := hX.trans hE8
    refine Go.Sx.V rfl (wg rfl rfl) rfl rfl (notB rfl) ?_
    refine Go.Sx.V rfl wu rfl rfl (pk rfl rfl) ?_
    refine wr_nil (post_thenN ?_)
    refine wc_cond rfl ?_ ?_
    · intro h
      refine wc_seq ?_
      refine wc_region [0] rfl ?_
      refine Go.Sx.V rfl wu rfl rfl (asg rfl) ?_
      refine wr_nil (post_thenN (wc_ret (post_thenR ?_)))
      refine post_ret1 rfl rfl ?_
      exact ⟨hE.trans hX, rfl⟩
    · intro h
      simp at h
      obtain ⟨hA1, hA2⟩ := smallB_iff.1 h
      refine wc_skip (post_thenN (wc_seq ?_))
      by_cases hab : (0 ≤ a ∧ a ≤ 256) ∧ 0 ≤ b ∧ b ≤ 256
      · have ea : ((a.toNat : Nat) : Int) = a := by omega
        have eb : ((b.toNat : Nat) : Int) = b := by omega
        refine wc_region [0,1,2,3,4,5,6,7,8,9] rfl ?_
        refine Go.Sx.V rfl wu rfl rfl (mv rfl) ?_
        refine Go.Sx.V rfl wu rfl rfl (mv rfl) ?_
        refine Go.Sx.V rfl wu rfl rfl (mv rfl) ?_
        refine Go.Sx.V rfl wu rfl rfl (mv rfl) ?_
        refine C rfl wu rfl rfl Try.call44 (bHasse P g u A a b 12 _ (hG.ext hX) (hu.ext hX) hA2 (by omega) (by omega)) ?_
        rintro dv w9 hE9 hd
        replace hX := hX.trans hE9
        obtain ⟨d, rfl, hdd⟩ : ∃ d, dv = .tuple #[d, .int .i64 0] ∧ LO _ w9 d 22 (bcl (hs2 a.toNat b.toNat (bz P A))) := hd.elim (fun h => absurd hab h.1) (·.2)
        refine Go.Sx.V rfl wu rfl rfl (mv rfl) ?_
        refine Go.Sx.V rfl wu rfl rfl (ext rfl rfl) ?_
        refine Go.Sx.V rfl wu rfl rfl (ext rfl rfl) ?_
        refine Go.Sx.V rfl wu rfl rfl (asg rfl) ?_
        refine Go.Sx.V rfl wu rfl rfl (asg rfl) ?_
        refine wr_nil (post_thenN (wc_seq (wc_seq ?_)))
        refine wc_region [0,1,2,3,4,5,6,7,8,9,10,11,12,13] rfl ?_
        refine Go.Sx.V rfl wu rfl rfl (mv rfl) ?_
        refine Go.Sx.V rfl wu rfl rfl (lssI rfl rfl) ?_
        refine Go.Sx.V rfl wu rfl rfl (mv rfl) ?_
        refine OR (π1 := [3,4,5]) (π2 := [6,7,8,9,10,11,12,13]) (tc := 38) (tp := 41) rfl rfl rfl (by
            intro _
            refine SK rfl rfl rfl rfl rfl ?_
            refine SK rfl rfl rfl rfl rfl ?_
            refine Go.Sx.V rfl wu rfl rfl (pk rfl rfl) ?_
            exact join rfl) (by
            intro hg
            simp at hg
            refine Go.Sx.V rfl (wg rfl rfl) rfl rfl (mv rfl) ?_
            refine Go.Sx.V rfl (wg rfl rfl) rfl rfl (gtrI rfl rfl) ?_
            refine Go.Sx.V rfl wu rfl rfl (pk rfl rfl) ?_
            exact join rfl) ?_
        refine Go.Sx.V rfl wu rfl rfl (mv rfl) ?_
        refine OR (π1 := [7,8,9]) (π2 := [10,11,12,13]) (tc := 42) (tp := 45) rfl rfl rfl (by
            intro _
            refine SK rfl rfl rfl rfl rfl ?_
            refine SK rfl rfl rfl rfl rfl ?_
            refine Go.Sx.V rfl wu rfl rfl (pk rfl rfl) ?_
            exact join rfl) (by
            intro hg
            simp at hg
            refine Go.Sx.V rfl (wg rfl rfl) rfl rfl (mv rfl) ?_
            refine Go.Sx.V rfl (wg rfl rfl) rfl rfl (lssI rfl rfl) ?_
            refine Go.Sx.V rfl wu rfl rfl (pk rfl rfl) ?_
            exact join rfl) ?_
        refine Go.Sx.V rfl wu rfl rfl (mv rfl) ?_
        refine OR (π1 := [11,12,13]) (π2 := []) (tc := 46) (tp := 49) rfl rfl rfl (by
            intro _
            refine SK rfl rfl rfl rfl rfl ?_
            refine SK rfl rfl rfl rfl rfl ?_
            refine Go.Sx.V rfl wu rfl rfl (pk rfl rfl) ?_
            exact join rfl) (by
            intro hg
            simp at hg
            refine Go.Sx.V rfl (wg rfl rfl) rfl rfl (mv rfl) ?_
            refine Go.Sx.V rfl (wg rfl rfl) rfl rfl (gtrI rfl rfl) ?_
            refine Go.Sx.V rfl wu rfl rfl (pk rfl rfl) ?_
            exact join rfl) ?_
        refine wr_nil (post_thenN ?_)
        refine wc_condF rfl (by simp; omega) ?_
        refine wc_skip (post_thenN (wc_seq ?_))
        refine wc_region [0,1,2,3,4,5,6,7,8,9,10,11] rfl ?_
        refine Go.Sx.V rfl wu rfl rfl (mv rfl) ?_
        refine Go.Sx.V rfl wu rfl rfl (eqlI rfl rfl) ?_
        refine Go.Sx.V rfl wu rfl rfl (mv rfl) ?_
        refine KB 59 true rfl (by rfl) ?_
        refine Go.Sx.V rfl (wg rfl rfl) rfl rfl (mv rfl) ?_
        refine Go.Sx.V rfl (wg rfl rfl) rfl rfl (ldA rfl ag24) ?_
        refine Go.Sx.V rfl (wg rfl rfl) rfl rfl (mv rfl) ?_
        refine Go.Sx.V rfl (wg rfl rfl) rfl rfl (mv rfl) ?_
        refine Go.Sx.V rfl (wg rfl rfl) rfl rfl (mv rfl) ?_
        rw [← ea, ← eb]
        refine C rfl (wg rfl rfl) rfl rfl Try.call45 (rHasse P mo md u A a.toNat b.toNat 12 _ (hF.ext hX) (hu.ext hX) hA2 (by omega) (by omega) (by omega) (by omega)) ?_
        intro d2 w10 hE10 hd2
        replace hX := hX.trans hE10
        refine C rfl (wg rfl rfl) rfl rfl Try.call19 (rBSame d d2 _ _ _ (hdd.ll.ext hE10) hd2.ll) ?_
        rintro _ w11 hE11 rfl
        replace hX := hX.trans hE11
        refine Go.Sx.V rfl wu rfl rfl (pk rfl rfl) ?_
        refine Go.Sx.V rfl wu rfl rfl (asg rfl) ?_
        refine wr_nil (post_thenN (wc_ret ?_))
        refine post_ret1 rfl rfl ?_
        exact ⟨hE.trans hX, by simp⟩
      · skip
        refine wc_region [0,1,2,3,4,5,6,7,8,9] rfl ?_
        refine Go.Sx.V rfl wu rfl rfl (mv rfl) ?_
        refine Go.Sx.V rfl wu rfl rfl (mv rfl) ?_
        refine Go.Sx.V rfl wu rfl rfl (mv rfl) ?_
        refine Go.Sx.V rfl wu rfl rfl (mv rfl) ?_
        refine C rfl wu rfl rfl Try.call44 (bHasse P g u A a b 12 _ (hG.ext hX) (hu.ext hX) hA2 (by omega) (by omega)) ?_
        rintro dv w9 hE9 hd
        replace hX := hX.trans hE9
        obtain rfl : dv = .tuple #[.slice none 0 0, .int .i64 6] := hd.elim (·.2) (fun h => absurd h.1 hab)
        refine Go.Sx.V rfl wu rfl rfl (mv rfl) ?_
        refine Go.Sx.V rfl wu rfl rfl (ext rfl rfl) ?_
        refine Go.Sx.V rfl wu rfl rfl (ext rfl rfl) ?_
        refine Go.Sx.V rfl wu rfl rfl (asg rfl) ?_
        refine Go.Sx.V rfl wu rfl rfl (asg rfl) ?_
        refine wr_nil (post_thenN (wc_seq (wc_seq ?_)))
        refine wc_region [0,1,2,3,4,5,6,7,8,9,10,11,12,13] rfl ?_
        refine Go.Sx.V rfl wu rfl rfl (mv rfl) ?_
        refine Go.Sx.V rfl wu rfl rfl (lssI rfl rfl) ?_
        refine Go.Sx.V rfl wu rfl rfl (mv rfl) ?_
        refine OR (π1 := [3,4,5]) (π2 := [6,7,8,9,10,11,12,13]) (tc := 38) (tp := 41) rfl rfl rfl (by
            intro _
            refine SK rfl rfl rfl rfl rfl ?_
            refine SK rfl rfl rfl rfl rfl ?_
            refine Go.Sx.V rfl wu rfl rfl (pk rfl rfl) ?_
            exact join rfl) (by
            intro hg
            simp at hg
            refine Go.Sx.V rfl (wg rfl rfl) rfl rfl (mv rfl) ?_
            refine Go.Sx.V rfl (wg rfl rfl) rfl rfl (gtrI rfl rfl) ?_
            refine Go.Sx.V rfl wu rfl rfl (pk rfl rfl) ?_
            exact join rfl) ?_
        refine Go.Sx.V rfl wu rfl rfl (mv rfl) ?_
        refine OR (π1 := [7,8,9]) (π2 := [10,11,12,13]) (tc := 42) (tp := 45) rfl rfl rfl (by
            intro _
            refine SK rfl rfl rfl rfl rfl ?_
            refine SK rfl rfl rfl rfl rfl ?_
            refine Go.Sx.V rfl wu rfl rfl (pk rfl rfl) ?_
            exact join rfl) (by
            intro hg
            simp at hg
            refine Go.Sx.V rfl (wg rfl rfl) rfl rfl (mv rfl) ?_
            refine Go.Sx.V rfl (wg rfl rfl) rfl rfl (lssI rfl rfl) ?_
            refine Go.Sx.V rfl wu rfl rfl (pk rfl rfl) ?_
            exact join rfl) ?_
        refine Go.Sx.V rfl wu rfl rfl (mv rfl) ?_
        refine OR (π1 := [11,12,13]) (π2 := []) (tc := 46) (tp := 49) rfl rfl rfl (by
            intro _
            refine SK rfl rfl rfl rfl rfl ?_
            refine SK rfl rfl rfl rfl rfl ?_
            refine Go.Sx.V rfl wu rfl rfl (pk rfl rfl) ?_
            exact join rfl) (by
            intro hg
            simp at hg
            refine Go.Sx.V rfl (wg rfl rfl) rfl rfl (mv rfl) ?_
            refine Go.Sx.V rfl (wg rfl rfl) rfl rfl (gtrI rfl rfl) ?_
            refine Go.Sx.V rfl wu rfl rfl (pk rfl rfl) ?_
            exact join rfl) ?_
        refine wr_nil (post_thenN ?_)
        refine wc_condT rfl (by simp; omega) ?_
        refine wc_seq ?_
        refine wc_region [0,1,2,3,4,5,6,7] rfl ?_
        refine Go.Sx.V rfl wu rfl rfl (mv rfl) ?_
        refine Go.Sx.V rfl wu rfl rfl (eqlI rfl rfl) ?_
        refine Go.Sx.V rfl wu rfl rfl (mv rfl) ?_
        refine KB 52 true rfl (by rfl) ?_
        refine Go.Sx.V rfl (wg rfl rfl) rfl rfl (mv rfl) ?_
        refine Go.Sx.V rfl (wg rfl rfl) rfl rfl (lenS rfl ty26 (Sl.nil w9)) ?_
        refine Go.Sx.V rfl (wg rfl rfl) rfl rfl (eqlI rfl rfl) ?_
        refine Go.Sx.V rfl wu rfl rfl (pk rfl rfl) ?_
        refine Go.Sx.V rfl wu rfl rfl (asg rfl) ?_
        refine wr_nil (post_thenN (wc_ret (post_thenR ?_)))
        refine post_ret1 rfl rfl ?_
        exact ⟨hE.trans hX, by simp⟩

set_option maxRecDepth 10000 in
theorem law_BivariateTaylor {w : World} (v0 : Value) (r : FRec) (s0 : v0 = r.v ∧ FOf w r) (u : Value) (A : List (List Int)) (s1 : LL w u A ∧ LLFit A) (v2 : Value) (x2 : (Int × Int) × (Int × Int)) (s2 : v2 = .agg #[.int .i64 x2.1.1, .int .i64 x2.1.2, .int .i64 x2.2.1, .int .i64 x2.2.2]) :
    Calls Try.prog 12 #[v0, u, v2] w (RetX w fun v _ => v = .bool true) := by
  obtain ⟨p, M, mo, md⟩ := r
  obtain ⟨rfl, hr⟩ := s0
  obtain ⟨hu, _⟩ := s1
  obtain ⟨⟨x0, y0⟩, ⟨x, y⟩⟩ := x2
  subst s2
  refine calls3 Try.func12 rfl rfl ?_
  refine wc_seq ?_
  refine wc_region [0,1,2] rfl ?_
  refine BXA rfl wu rfl rfl ?_
  intro fb w1 hE hB hg
  refine BXA rfl wu rfl rfl ?_
  intro cb w3 hE3 hB3 hg3
  replace hB := hB.ext hE3
  replace hE := hE.trans hE3
  refine Go.Sx.V rfl wu rfl rfl (asg rfl) ?_
  refine wr_nil (post_thenN (wc_seq (wc_seq ?_)))
  refine wc_region [0,1] rfl ?_
  refine C rfl wu rfl rfl Try.call16 (lAlive _) ?_
  rintro _ w4 hE4 rfl
  replace hB := hB.ext hE4
  replace hB3 := hB3.ext hE4
  replace hE := hE.trans hE4
  refine Go.Sx.V rfl wu rfl rfl (notB rfl) ?_
  refine wr_nil (post_thenN ?_)
  refine wc_condF rfl (by simp) ?_
  refine wc_skip (post_thenN (wc_seq ?_))
  have hmi := hr.ints.ext hE
  dsimp only at hmi hB
  refine wc_region [0,1,2] rfl ?_
  refine Go.Sx.V rfl wu rfl rfl (ldA rfl ag24) ?_
  refine C rfl wu rfl rfl Try.call17 (lMade p M mo md _ hmi) ?_
  rintro g w5 hE5 hm
  replace hB := hB.ext hE5
  replace hB3 := hB3.ext hE5
  replace hE := hE.trans hE5
  refine Go.Sx.V rfl wu rfl rfl (asg rfl) ?_
  refine wr_nil (post_thenN (wc_seq (wc_seq ?_)))
  replace hmi := hmi.ext hE5
  replace hu := hu.ext hE
  have hX := Ext.refl w5
  rcases made_split hm hmi with rfl | ⟨P, hp, hM, hF, hG⟩
  · skip
    refine wc_region [0,1,2,3,4,5,6,7] rfl ?_
    refine Go.Sx.V rfl wu rfl rfl (mv rfl) ?_
    refine Go.Sx.V rfl wu rfl rfl (eqlPn rfl rfl Try.underlying28) ?_
    refine Go.Sx.V rfl wu rfl rfl (mv rfl) ?_
    refine KB 25 true rfl (by rfl) ?_
    refine SK rfl rfl rfl rfl rfl ?_
    refine SK rfl rfl rfl rfl rfl ?_
    refine SK rfl rfl rfl rfl rfl ?_
    refine SK rfl rfl rfl rfl rfl ?_
    refine Go.Sx.V rfl wu rfl rfl (pk rfl rfl) ?_
    refine wr_nil (post_thenN ?_)
    refine wc_condT rfl (by simp) ?_
    refine wc_seq ?_
    refine wc_region [0] rfl ?_
    refine Go.Sx.V rfl wu rfl rfl (asg rfl) ?_
    refine wr_nil (post_thenN (wc_ret (post_thenR ?_)))
    refine post_ret1 rfl rfl ?_
    exact ⟨hE.trans hX, rfl⟩
  · subst hp hM
    obtain ⟨ga, hga⟩ := hG.ptr
    obtain ⟨gx, hgx⟩ := hG.gen
    refine wc_region [0,1,2,3,4,5,6,7] rfl ?_
    refine Go.Sx.V rfl wu rfl rfl (mv rfl) ?_
    rw [hga]
    refine Go.Sx.V rfl wu rfl rfl (eqlPn rfl rfl Try.underlying28) ?_
    rw [← hga]
    refine Go.Sx.V rfl wu rfl rfl (mv rfl) ?_
    refine KB 25 false rfl (by rfl) ?_
    refine Go.Sx.V rfl (wg rfl rfl) rfl rfl (mv rfl) ?_
    refine BS (us := [u]) rfl (wg rfl rfl) rfl rfl rfl rfl ty86 (by intro q hq; obtain rfl : q = u := (by simpa using hq); exact hu.one) ?_
    intro sv w7 hE7 hsv _
    replace hX := hX.trans hE7
    refine C rfl (wg rfl rfl) rfl rfl Try.call18 (lSmall sv _ [A] _ hsv.sl (bis1 (hu.ext hX))) ?_
    rintro _ w8 hE8 rfl
    replace hX := hX.trans hE8
    refine Go.Sx.V rfl (wg rfl rfl) rfl rfl (notB rfl) ?_
    refine Go.Sx.V rfl wu rfl rfl (pk rfl rfl) ?_
    refine wr_nil (post_thenN ?_)
    refine wc_cond rfl ?_ ?_
    · intro h
      refine wc_seq ?_
      refine wc_region [0] rfl ?_
      refine Go.Sx.V rfl wu rfl rfl (asg rfl) ?_
      refine wr_nil (post_thenN (wc_ret (post_thenR ?_)))
      refine post_ret1 rfl rfl ?_
      exact ⟨hE.trans hX, rfl⟩
    · intro h
      simp at h
      obtain ⟨hA1, hA2⟩ := smallB_iff.1 h
      obtain ⟨F, hFF⟩ : ∃ F, F = bz P A := ⟨_, rfl⟩
      have hyb : YB 6 F := by rw [hFF]; exact (YB.bz A).mono (by omega)
      have hxb : XB 12 F := by rw [hFF]; exact hA2.xb
      refine wc_skip (post_thenN (wc_seq ?_))
      refine wc_draw mixed [0,1,2,3,4,6,7,8,9,10,5,11,12,13] (by kernel_rfl) ?_
      intro w9 hd9 _
      replace hX := hX.trans hd9
      refine Go.Sx.V rfl wu rfl rfl (ldA rfl ag24 (hB.ext hX)) ?_
      refine Go.Sx.V rfl wu rfl rfl (iadA rfl rfl ar69) ?_
      refine Go.Sx.V rfl wu rfl rfl (ldB rfl na3) ?_
      refine Go.Sx.V rfl wu rfl rfl (iadA rfl rfl ar69) ?_
      refine Go.Sx.V rfl wu rfl rfl (ldB rfl na3) ?_
      refine Go.Sx.V rfl wu rfl rfl (ldA rfl ag24 (hB.ext hX)) ?_
      refine Go.Sx.V rfl wu rfl rfl (iadA rfl rfl ar69) ?_
      refine Go.Sx.V rfl wu rfl rfl (ldB rfl na3) ?_
      refine Go.Sx.V rfl wu rfl rfl (iadA rfl rfl ar69) ?_
      refine Go.Sx.V rfl wu rfl rfl (ldB rfl na3) ?_
      refine C rfl wu rfl rfl Try.call46 (rSub P mo md _ _ _ (hF.ext hX)) ?_
      rintro _ w10 hE10 rfl
      replace hX := hX.trans hE10
      refine C rfl wu rfl rfl Try.call46 (rSub P mo md _ _ _ (hF.ext hX)) ?_
      rintro _ w11 hE11 rfl
      replace hX := hX.trans hE11
      refine Go.Sx.V rfl wu rfl rfl (asg rfl) ?_
      refine Go.Sx.V rfl wu rfl rfl (asg rfl) ?_
      refine wr_nil (post_thenN (wc_seq ?_))
      obtain ⟨dx, hdx⟩ : ∃ dx, dx = inK P x + -inK P x0 := ⟨_, rfl⟩
      obtain ⟨dy, hdy⟩ : ∃ dy, dy = inK P y + -inK P y0 := ⟨_, rfl⟩
      rw [← hdx, ← hdy]
      obtain ⟨X0, hX0⟩ : ∃ z, z = inK P x0 := ⟨_, rfl⟩
      obtain ⟨Y0, hY0⟩ : ∃ z, z = inK P y0 := ⟨_, rfl⟩
      refine wc_region [0] rfl ?_
      refine Go.Sx.V rfl wu rfl rfl (asg rfl) ?_
      refine wr_nil (post_thenN (wc_seq (wc_seq ?_)))
      refine wc_region [0] rfl ?_
      refine Go.Sx.V rfl wu rfl rfl (mv rfl) ?_
      refine wr_nil (post_thenN (wc_block ?_))
      clear hE3 hE4 hE5
      refine wc_loop (fun b : Nat => [(1, u), (3, .pointer (some ⟨fb, 0, none⟩)), (5, .pointer (some ⟨cb, 0, none⟩)), (7, g), (8, .int .i64 dx.1), (9, .int .i64 dy.1), (10, .int .i64 (tay F X0 Y0 dx dy 12 b 0).1), (43, .int .i64 b)])
        (fun b w' => b ≤ 6 ∧ Ext w5 w') (fun b => 6 - b) 0 ⟨rfl, rfl, rfl, rfl, rfl, rfl, by show _ = some (Value.int .i64 (tay F X0 Y0 dx dy 12 0 0).1); rw [tay0]; rfl, rfl, trivial⟩ ⟨by omega, hX⟩ ?_
      clear hX
      rintro b w12 ⟨b1, hX⟩
      try dsimp only
      refine wc_seq ?_
      refine wc_region [0] rfl ?_
      refine Go.Sx.V rfl wu rfl rfl (lssI rfl rfl) ?_
      refine wr_nil (post_thenN (wc_seq ?_))
      refine wc_cond rfl ?_ ?_
      · intro hc
        simp at hc
        refine wc_skip (post_thenN (wc_seq (wc_block (wc_seq ?_))))
        refine wc_region [0,1] rfl ?_
        refine Go.Sx.V rfl wu rfl rfl (mv rfl) ?_
        refine Go.Sx.V rfl wu rfl rfl (asg rfl) ?_
        refine wr_nil (post_thenN (wc_seq ?_))
        refine wc_region [0] rfl ?_
        refine Go.Sx.V rfl wu rfl rfl (mv rfl) ?_
        refine wr_nil (post_thenN (wc_block ?_))
        refine wc_loop (fun a : Nat => [(1, u), (3, .pointer (some ⟨fb, 0, none⟩)), (5, .pointer (some ⟨cb, 0, none⟩)), (7, g), (8, .int .i64 dx.1), (9, .int .i64 dy.1), (10, .int .i64 (tay F X0 Y0 dx dy 12 b a).1), (11, .int .i64 b), (43, .int .i64 b), (46, .int .i64 a)])
          (fun a w' => a ≤ 12 ∧ Ext w5 w') (fun a => 12 - a) 0 ⟨rfl, rfl, rfl, rfl, rfl, rfl, rfl, rfl, rfl, rfl, trivial⟩ ⟨by omega, hX⟩ ?_
        clear hX
        rintro a w13 ⟨a1, hX⟩
        try dsimp only
        refine wc_seq ?_
        refine wc_region [0] rfl ?_
        refine Go.Sx.V rfl wu rfl rfl (lssI rfl rfl) ?_
        refine wr_nil (post_thenN (wc_seq ?_))
        refine wc_cond rfl ?_ ?_
        · intro hc2
          simp at hc2
          have hab : (0 ≤ (a : Int) ∧ (a : Int) ≤ 256) ∧ 0 ≤ (b : Int) ∧ (b : Int) ≤ 256 := by omega
          obtain ⟨k1, k2⟩ := hs2_bounds a b hyb hxb
          have hsy : (bcl (hs2 a b F)).length ≤ 6 := bcl_len (fun j hj => k1 j (by omega))
          have hsx : RB 12 (bcl (hs2 a b F)) := XB.rb (k2.mono (by omega))
          have hsm : smallB (bcl (hs2 a b F)) = true := smallB_iff.2 ⟨hsy, hsx⟩
          refine wc_skip (post_thenN (wc_seq (wc_block (wc_seq ?_))))
          refine wc_region [0,1] rfl ?_
          refine Go.Sx.V rfl wu rfl rfl (mv rfl) ?_
          refine Go.Sx.V rfl wu rfl rfl (asg rfl) ?_
          refine wr_nil (post_thenN (wc_seq ?_))
          refine wc_region [0,1,2,3,4,5,6,7,8,9] rfl ?_
          refine Go.Sx.V rfl wu rfl rfl (mv rfl) ?_
          refine Go.Sx.V rfl wu rfl rfl (mv rfl) ?_
          refine Go.Sx.V rfl wu rfl rfl (mv rfl) ?_
          refine Go.Sx.V rfl wu rfl rfl (mv rfl) ?_
          refine C rfl wu rfl rfl Try.call44 (bHasse P g u A a b 12 _ (hG.ext hX) (hu.ext hX) hA2 (by omega) (by omega)) ?_
          rintro dv w14 hE14 hd
          replace hX := hX.trans hE14
          obtain ⟨d, rfl, hdd⟩ : ∃ d, dv = .tuple #[d, .int .i64 0] ∧ LO _ w14 d 22 (bcl (hs2 (a : Int).toNat (b : Int).toNat (bz P A))) := hd.elim (fun h => absurd hab h.1) (·.2)
          rw [Int.toNat_natCast, Int.toNat_natCast, ← hFF] at hdd
          have hdl := hdd.ll
          refine Go.Sx.V rfl wu rfl rfl (mv rfl) ?_
          refine Go.Sx.V rfl wu rfl rfl (ext rfl rfl) ?_
          refine Go.Sx.V rfl wu rfl rfl (ext rfl rfl) ?_
          refine Go.Sx.V rfl wu rfl rfl (asg rfl) ?_
          refine Go.Sx.V rfl wu rfl rfl (asg rfl) ?_
          refine wr_nil (post_thenN (wc_seq (wc_seq ?_)))
          refine wc_region [0,1,2,3,4,5,6,7] rfl ?_
          refine Go.Sx.V rfl wu rfl rfl (mv rfl) ?_
          refine Go.Sx.V rfl wu rfl rfl (neqI rfl rfl) ?_
          refine Go.Sx.V rfl wu rfl rfl (mv rfl) ?_
          refine KB 59 false rfl (by rfl) ?_
          refine Go.Sx.V rfl (wg rfl rfl) rfl rfl (mv rfl) ?_
          refine BS (us := [d]) rfl (wg rfl rfl) rfl rfl rfl rfl ty86 (by intro q hq; obtain rfl : q = d := (by simpa using hq); exact hdl.one) ?_
          intro sv2 w15 hE15 hsv2 _
          replace hX := hX.trans hE15
          replace hdl := hdl.ext hE15
          refine C rfl (wg rfl rfl) rfl rfl Try.call18 (lSmall sv2 _ [bcl (hs2 a b F)] _ hsv2.sl (bis1 hdl)) ?_
          rintro _ w16 hE16 rfl
          replace hX := hX.trans hE16
          replace hdl := hdl.ext hE16
          refine Go.Sx.V rfl (wg rfl rfl) rfl rfl (notB rfl) ?_
          refine Go.Sx.V rfl wu rfl rfl (pk rfl rfl) ?_
          refine wr_nil (post_thenN ?_)
          refine wc_condF rfl (by simp [hsm]) ?_
          refine wc_skip (post_thenN (wc_seq ?_))
          refine wc_region [0,1,2,3,4,5,6,7,8] rfl ?_
          refine Go.Sx.V rfl wu rfl rfl (ldA rfl ag24 (hB.ext hX)) ?_
          refine Go.Sx.V rfl wu rfl rfl (mv rfl) ?_
          refine Go.Sx.V rfl wu rfl rfl (mv rfl) ?_
          refine C rfl wu rfl rfl Try.call47 (rPow P mo md _ _ _ (hF.ext hX)) ?_
          rintro _ w17 hE17 rfl
          replace hX := hX.trans hE17
          replace hdl := hdl.ext hE17
          refine Go.Sx.V rfl wu rfl rfl (mv rfl) ?_
          refine Go.Sx.V rfl wu rfl rfl (ext rfl rfl) ?_
          refine Go.Sx.V rfl wu rfl rfl (ext rfl rfl) ?_
          refine Go.Sx.V rfl wu rfl rfl (asg rfl) ?_
          refine Go.Sx.V rfl wu rfl rfl (asg rfl) ?_
          refine wr_nil (post_thenN (wc_seq ?_))
          refine wc_region [0,1,2,3,4,5,6,7,8] rfl ?_
          refine Go.Sx.V rfl wu rfl rfl (ldA rfl ag24 (hB.ext hX)) ?_
          refine Go.Sx.V rfl wu rfl rfl (mv rfl) ?_
          refine Go.Sx.V rfl wu rfl rfl (mv rfl) ?_
          refine C rfl wu rfl rfl Try.call47 (rPow P mo md _ _ _ (hF.ext hX)) ?_
          rintro _ w18 hE18 rfl
          replace hX := hX.trans hE18
          replace hdl := hdl.ext hE18
          refine Go.Sx.V rfl wu rfl rfl (mv rfl) ?_
          refine Go.Sx.V rfl wu rfl rfl (ext rfl rfl) ?_
          refine Go.Sx.V rfl wu rfl rfl (ext rfl rfl) ?_
          refine Go.Sx.V rfl wu rfl rfl (asg rfl) ?_
          refine Go.Sx.V rfl wu rfl rfl (asg rfl) ?_
          refine wr_nil (post_thenN ?_)
          rw [inK_val, inK_val, powA_ge hgx, powA_ge hgx]
          refine wc_draw mixed [0,1,2,3,4,5,6,7,8,10,11,12,9,13,14,15,16] (by kernel_rfl) ?_
          intro w19 hd19 _
          replace hX := hX.trans hd19
          replace hdl := hdl.ext hd19
          refine Go.Sx.V rfl wu rfl rfl (ldA rfl ag24 (hB.ext hX)) ?_
          refine Go.Sx.V rfl wu rfl rfl (mv rfl) ?_
          refine Go.Sx.V rfl wu rfl rfl (ldA rfl ag24 (hB.ext hX)) ?_
          refine Go.Sx.V rfl wu rfl rfl (ldA rfl ag24 (hB.ext hX)) ?_
          refine Go.Sx.V rfl wu rfl rfl (mv rfl) ?_
          refine Go.Sx.V rfl wu rfl rfl (iadA rfl rfl ar69) ?_
          refine Go.Sx.V rfl wu rfl rfl (ldB rfl na3) ?_
          refine Go.Sx.V rfl wu rfl rfl (iadA rfl rfl ar69) ?_
          refine Go.Sx.V rfl wu rfl rfl (ldB rfl na3) ?_
          refine Go.Sx.V rfl wu rfl rfl (ldA rfl ag24 (hB.ext hX)) ?_
          refine Go.Sx.V rfl wu rfl rfl (mv rfl) ?_
          refine Go.Sx.V rfl wu rfl rfl (mv rfl) ?_
          refine C rfl wu rfl rfl Try.call39 (rBEval P mo md d _ _ _ _ (hF.ext hX) hdl) ?_
          rintro _ w20 hE20 rfl
          replace hX := hX.trans hE20
          refine C rfl wu rfl rfl Try.call41 (rMul P mo md _ _ _ (hF.ext hX)) ?_
          rintro _ w21 hE21 rfl
          replace hX := hX.trans hE21
          refine C rfl wu rfl rfl Try.call41 (rMul P mo md _ _ _ (hF.ext hX)) ?_
          rintro _ w22 hE22 rfl
          replace hX := hX.trans hE22
          refine C rfl wu rfl rfl Try.call40 (rAdd P mo md _ _ _ (hF.ext hX)) ?_
          rintro _ w23 hE23 rfl
          replace hX := hX.trans hE23
          refine Go.Sx.V rfl wu rfl rfl (asg rfl) ?_
          refine wr_nil (post_blockN (post_thenN ?_))
          refine wc_region [0,1] rfl ?_
          refine Go.Sx.V rfl wu rfl rfl (addI rfl rfl) ?_
          refine Go.Sx.V rfl wu rfl rfl (mv rfl) ?_
          refine wr_nil ?_
          exact post_loopN (a + 1) ⟨rfl, rfl, rfl, rfl, rfl, rfl, by rw [tay_step, tt, bz_bcl, hX0, hY0]; simp only [inK_val]; rfl, rfl, rfl, rfl, trivial⟩ ⟨by omega, hX⟩ (by omega)
        · intro hc2
          simp at hc2
          obtain rfl : a = 12 := by omega
          refine wc_exit (post_thenE (post_loopE (post_blockX (post_blockN (post_thenN ?_)))))
          refine wc_region [0,1] rfl ?_
          refine Go.Sx.V rfl wu rfl rfl (addI rfl rfl) ?_
          refine Go.Sx.V rfl wu rfl rfl (mv rfl) ?_
          refine wr_nil ?_
          exact post_loopN (b + 1) ⟨rfl, rfl, rfl, rfl, rfl, rfl, by rw [← tay_row]; rfl, rfl, trivial⟩ ⟨by omega, hX⟩ (by omega)
      · intro hc
        simp at hc
        obtain rfl : b = 6 := by omega
        have hfin := tay_all hyb hxb X0 Y0 (inK P x) (inK P y)
        rw [hX0, hY0, ← hdx, ← hdy, ← hX0, ← hY0] at hfin
        rw [hfin, hFF]
        refine wc_exit (post_thenE (post_loopE (post_blockX (post_thenN (wc_seq ?_)))))
        refine wc_region [0,1,2,3,4,5,6,7,8,9] rfl ?_
        refine Go.Sx.V rfl wu rfl rfl (mv rfl) ?_
        refine Go.Sx.V rfl wu rfl rfl (mv rfl) ?_
        refine Go.Sx.V rfl wu rfl rfl (mv rfl) ?_
        refine Go.Sx.V rfl wu rfl rfl (iadA rfl rfl ar69) ?_
        refine Go.Sx.V rfl wu rfl rfl (ldB rfl na3) ?_
        refine Go.Sx.V rfl wu rfl rfl (iadA rfl rfl ar69) ?_
        refine Go.Sx.V rfl wu rfl rfl (ldB rfl na3) ?_
        refine C rfl wu rfl rfl Try.call38 (bEval P g u A _ _ _ (hG.ext hX) (hu.ext hX) (hA2.mono (by omega))) ?_
        rintro _ w24 hE24 rfl
        replace hX := hX.trans hE24
        refine Go.Sx.V rfl wu rfl rfl (eqlI rfl rfl) ?_
        refine Go.Sx.V rfl wu rfl rfl (asg rfl) ?_
        refine wr_nil (post_thenN (wc_ret ?_))
        refine post_ret1 rfl rfl ?_
        exact ⟨hE.trans hX, by simp⟩
namespace FBivariateHasse
open Go.ChangeShapes Go.WideShapes Go.ChangeAt Go.RowKit Go.Fr
theorem own : ownKnob Try.prog.godebug = none := by kernel_rfl
theorem laidOut : laidOutB Try.prog = true := by kernel_rfl
set_option maxRecDepth 100000 in
theorem lifted (os : Os) (started : os.Started) (H : Type) (enc : TypeId × Value → H) :
    ReturnsInHanded {} Try.checked os 11 .any (Rows.bivariateHasseSpec.pre6 enc Try.prog Try.f11 Rows.bivariateHasseRow.domain false) (Rows.bivariateHasseSpec.post enc Try.prog Try.f11 false true false false) := by
  refine returnsInHanded_of_change_sized (C := Try.checked) own started (by kernel_rfl) Try.func11
    (ChangeSpec.witness6 (enc := enc) (C := Try.checked) false ⟨#[], #[.agg #[.int .i64 0, .int .i64 0, .slice none 0 0], .slice none 0 0, .agg #[.int .i64 0, .int .i64 0]], []⟩ 8 (by kernel_rfl) (by kernel_rfl) (by kernel_rfl) (by kernel_rfl)) ?_
  intro W base args ds gs before hval0 hW _ hsz0 _
  have hval : ∀ (j : Nat) t v, Try.f11.params[j]? = some t → args[j]? = some v → Value.okWide Try.prog W .any base t v := hval0
  have hW' := hW
  obtain ⟨p, q, hA0, hV, rfl, hfz, hnd⟩ := hW
  have hA : DataW.TrodAll enc Try.prog W 0 (fun _ => true) true Try.f11.params.toList args.toList ds p := hA0
  have hsz : (DataW.weightsEach Try.prog (Try.f11.params.toList ++ Rows.bivariateHasseSpec.plain.varTypes Try.prog) (ds ++ gs)).all (· ≤ reachBytes) = true := hsz0
  rw [Try.params11] at hA hval hsz
  obtain ⟨v0, vs0, d0, ds0, p0, q0, hargs, rfl, rfl, h0, r0⟩ := trodAll_cons hA
  obtain ⟨v1, vs1, d1, ds1, p1, q1, rfl, rfl, rfl, h1, r1⟩ := trodAll_cons r0
  obtain ⟨v2, vs2, d2, ds2, p2, q2, rfl, rfl, rfl, h2, r2⟩ := trodAll_cons r1
  obtain ⟨rfl, rfl, rfl⟩ := trodAll_nil r2
  obtain rfl : args = #[v0, v1, v2] := by cases args; simp_all
  obtain ⟨rfl, rfl⟩ := trodVars_none hV
  have k0 := h0
  have lt0 : ∀ x ∈ p0, x.block < W.heap.size := by obtain ⟨m, hm⟩ := k0; exact DataW.trod_lt m _ _ _ hm
  have w0 : WOK Try.prog 24 d0 := wok_arg hsz (j := 0) rfl rfl
  obtain ⟨x0, s0⟩ := op_field (hval 0 24 v0 rfl rfl) h0 w0
  have k1 := h1
  have lt1 : ∀ x ∈ p1, x.block < W.heap.size := by obtain ⟨m, hm⟩ := k1; exact DataW.trod_lt m _ _ _ hm
  have w1 : WOK Try.prog 26 d1 := wok_arg hsz (j := 1) rfl rfl
  obtain ⟨x1, s1⟩ := op_bi (hval 1 26 v1 rfl rfl) h1 w1
  have k2 := h2
  have lt2 : ∀ x ∈ p2, x.block < W.heap.size := by obtain ⟨m, hm⟩ := k2; exact DataW.trod_lt m _ _ _ hm
  have w2 : WOK Try.prog 43 d2 := wok_arg hsz (j := 2) rfl rfl
  obtain ⟨x2, s2⟩ := op_int2 (hval 2 43 v2 rfl rfl) h2 w2
  refine (law_BivariateHasse (w := W) v0 x0 s0 v1 x1 s1 v2 x2 s2).mono fun e W' he => ?_
  cases e with
  | panicked c => exact he.elim
  | outgrown => exact he.elim
  | returned v =>
    obtain ⟨bel, rfl⟩ := he
    exact ⟨_, rfl, _, _, _, [], _, [], hW', trodAll_mk1 (shut_bool Try.underlying4 _), (trodAll_cons_mk (Below.trod laidOut (by kernel_rfl) (of_decide_eq_true (by kernel_rfl)) k0 bel lt0) (trodAll_cons_mk (Below.trod laidOut (by kernel_rfl) (of_decide_eq_true (by kernel_rfl)) k1 bel lt1) (trodAll_cons_mk (Below.trod laidOut (by kernel_rfl) (of_decide_eq_true (by kernel_rfl)) k2 bel lt2) trodAll_mk0))), rfl, bel.frame _, fun h => by cases h⟩
theorem over : Rows.bivariateHasseRow.holds Try.pinned (OpenSpec.ofChange Rows.bivariateHasseSpec) :=
  OpenClaim.holds_of_wide 11 Try.f11 rfl rfl rfl rfl rfl rfl rfl ⟨rfl, rfl, rfl, rfl, rfl⟩ rfl rfl rfl rfl rfl (by kernel_rfl) Try.func11 (by kernel_rfl)
    (of_decide_eq_true (by kernel_rfl)) (by unfold Func.isWrapper; first | (rw [if_pos (by decide +kernel)]; kernel_rfl) | (rw [if_neg (by decide +kernel)]; exact ⟨rfl, rfl⟩))
    (fun os started H enc _ => lifted os started H enc)
end FBivariateHasse
/-- The statement. -/
theorem bivariateHasse_holds : Rows.BivariateHasseSaid := FBivariateHasse.over
namespace FBivariateTaylor
open Go.ChangeShapes Go.WideShapes Go.ChangeAt Go.RowKit Go.Fr
theorem own : ownKnob Try.prog.godebug = none := by kernel_rfl
theorem laidOut : laidOutB Try.prog = true := by kernel_rfl
set_option maxRecDepth 100000 in
theorem lifted (os : Os) (started : os.Started) (H : Type) (enc : TypeId × Value → H) :
    ReturnsInHanded {} Try.checked os 12 .any (Rows.bivariateTaylorSpec.pre6 enc Try.prog Try.f12 Rows.bivariateTaylorRow.domain false) (Rows.bivariateTaylorSpec.post enc Try.prog Try.f12 false true false false) := by
  refine returnsInHanded_of_change_sized (C := Try.checked) own started (by kernel_rfl) Try.func12
    (ChangeSpec.witness6 (enc := enc) (C := Try.checked) false ⟨#[], #[.agg #[.int .i64 0, .int .i64 0, .slice none 0 0], .slice none 0 0, .agg #[.int .i64 0, .int .i64 0, .int .i64 0, .int .i64 0]], []⟩ 8 (by kernel_rfl) (by kernel_rfl) (by kernel_rfl) (by kernel_rfl)) ?_
  intro W base args ds gs before hval0 hW _ hsz0 _
  have hval : ∀ (j : Nat) t v, Try.f12.params[j]? = some t → args[j]? = some v → Value.okWide Try.prog W .any base t v := hval0
  have hW' := hW
  obtain ⟨p, q, hA0, hV, rfl, hfz, hnd⟩ := hW
  have hA : DataW.TrodAll enc Try.prog W 0 (fun _ => true) true Try.f12.params.toList args.toList ds p := hA0
  have hsz : (DataW.weightsEach Try.prog (Try.f12.params.toList ++ Rows.bivariateTaylorSpec.plain.varTypes Try.prog) (ds ++ gs)).all (· ≤ reachBytes) = true := hsz0
  rw [Try.params12] at hA hval hsz
  obtain ⟨v0, vs0, d0, ds0, p0, q0, hargs, rfl, rfl, h0, r0⟩ := trodAll_cons hA
  obtain ⟨v1, vs1, d1, ds1, p1, q1, rfl, rfl, rfl, h1, r1⟩ := trodAll_cons r0
  obtain ⟨v2, vs2, d2, ds2, p2, q2, rfl, rfl, rfl, h2, r2⟩ := trodAll_cons r1
  obtain ⟨rfl, rfl, rfl⟩ := trodAll_nil r2
  obtain rfl : args = #[v0, v1, v2] := by cases args; simp_all
  obtain ⟨rfl, rfl⟩ := trodVars_none hV
  have k0 := h0
  have lt0 : ∀ x ∈ p0, x.block < W.heap.size := by obtain ⟨m, hm⟩ := k0; exact DataW.trod_lt m _ _ _ hm
  have w0 : WOK Try.prog 24 d0 := wok_arg hsz (j := 0) rfl rfl
  obtain ⟨x0, s0⟩ := op_field (hval 0 24 v0 rfl rfl) h0 w0
  have k1 := h1
  have lt1 : ∀ x ∈ p1, x.block < W.heap.size := by obtain ⟨m, hm⟩ := k1; exact DataW.trod_lt m _ _ _ hm
  have w1 : WOK Try.prog 26 d1 := wok_arg hsz (j := 1) rfl rfl
  obtain ⟨x1, s1⟩ := op_bi (hval 1 26 v1 rfl rfl) h1 w1
  have k2 := h2
  have lt2 : ∀ x ∈ p2, x.block < W.heap.size := by obtain ⟨m, hm⟩ := k2; exact DataW.trod_lt m _ _ _ hm
  have w2 : WOK Try.prog 69 d2 := wok_arg hsz (j := 2) rfl rfl
  obtain ⟨x2, s2⟩ := op_int4 (hval 2 69 v2 rfl rfl) h2 w2
  refine (law_BivariateTaylor (w := W) v0 x0 s0 v1 x1 s1 v2 x2 s2).mono fun e W' he => ?_
  cases e with
  | panicked c => exact he.elim
  | outgrown => exact he.elim
  | returned v =>
    obtain ⟨bel, rfl⟩ := he
    exact ⟨_, rfl, _, _, _, [], _, [], hW', trodAll_mk1 (shut_bool Try.underlying4 _), (trodAll_cons_mk (Below.trod laidOut (by kernel_rfl) (of_decide_eq_true (by kernel_rfl)) k0 bel lt0) (trodAll_cons_mk (Below.trod laidOut (by kernel_rfl) (of_decide_eq_true (by kernel_rfl)) k1 bel lt1) (trodAll_cons_mk (Below.trod laidOut (by kernel_rfl) (of_decide_eq_true (by kernel_rfl)) k2 bel lt2) trodAll_mk0))), rfl, bel.frame _, fun h => by cases h⟩
theorem over : Rows.bivariateTaylorRow.holds Try.pinned (OpenSpec.ofChange Rows.bivariateTaylorSpec) :=
  OpenClaim.holds_of_wide 12 Try.f12 rfl rfl rfl rfl rfl rfl rfl ⟨rfl, rfl, rfl, rfl, rfl⟩ rfl rfl rfl rfl rfl (by kernel_rfl) Try.func12 (by kernel_rfl)
    (of_decide_eq_true (by kernel_rfl)) (by unfold Func.isWrapper; first | (rw [if_pos (by decide +kernel)]; kernel_rfl) | (rw [if_neg (by decide +kernel)]; exact ⟨rfl, rfl⟩))
    (fun os started H enc _ => lifted os started H enc)
end FBivariateTaylor
/-- The statement. -/
theorem bivariateTaylor_holds : Rows.BivariateTaylorSaid := FBivariateTaylor.over
end Go.Proofs.Ytjpcgjllmpdmhaa
