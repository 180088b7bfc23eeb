/-
  The reference's functions of a field's elements, by contract: Is, In, Digits, Value, Add, Neg, Sub, Mul, Dot. They answer as the ring of residues does.
-/
import Derived.Test.YtmnojknfjbimdaaGreatWMRfa
import Derived.Test.YtmnojknfjbimdaaGreatWMGa
namespace Go.Proofs.YtmnojknfjbimdaaGreat
open Go Go.Sx Go.Pl Go.RowKit Go.Fd Go.Alg
theorem FV.ord {w : World} {P : FP} {mo : Value} {md : List Int} (h : FV w P mo md) : ordZ P.p P.M = P.q := by
  have h1 := P.hp
  have h2 := P.hM
  have h3 := h.p
  have h4 := h.m
  have h5 : P.p ^ P.M ≤ 256 := h.q
  rw [ordZ, show ((P.M : Int)).toNat = P.M by omega, if_neg (by omega)]
  rfl
theorem rIs (P : FP) (mo : Value) (md : List Int) (x : Int) (w : World) (hF : FV w P mo md) :
    Calls Tryz.prog 36 #[fv P mo, .int .i64 x] w (RetX w fun v _ => v = .bool (decide (0 ≤ x) && decide (x < P.q))) := by
  refine calls2 Tryz.func36 rfl rfl ?_
  refine wc_seq ?_
  refine wc_region [0,1] rfl ?_
  refine BXA rfl wu rfl rfl ?_
  intro g w1 hE hB hg
  refine Go.Sx.V rfl wu rfl rfl (asg rfl) ?_
  refine wr_nil (post_thenN (wc_seq ?_))
  refine wc_region [0,1,2,3,4,5,6,7,8] rfl ?_
  refine Go.Sx.V rfl wu rfl rfl (mv rfl) ?_
  refine Go.Sx.V rfl wu rfl rfl (geqI rfl rfl) ?_
  refine Go.Sx.V rfl wu rfl rfl (mv rfl) ?_
  refine ANDX (π1 := [3,4,5,6,7]) (π2 := [8]) (tc := 7) (tp := 12) rfl rfl rfl (by
      intro hg
      simp at hg
      refine Go.Sx.V rfl (wg rfl rfl) rfl rfl (mv rfl) ?_
      refine Go.Sx.V rfl (wg rfl rfl) rfl rfl (ldA rfl ag24) ?_
      refine C rfl (wg rfl rfl) rfl rfl Tryz.call67 (rOrder P.p P.M mo _) ?_
      rintro _ w2 hE2 rfl
      refine Go.Sx.V rfl (wg rfl rfl) rfl rfl (lssI rfl rfl) ?_
      refine Go.Sx.V rfl wu rfl rfl (pk rfl rfl) ?_
      exact joinX rfl) (by
      intro _
      refine SK rfl rfl rfl rfl rfl ?_
      refine SK rfl rfl rfl rfl rfl ?_
      refine SK rfl rfl rfl rfl rfl ?_
      refine SK rfl rfl rfl rfl rfl ?_
      refine Go.Sx.V rfl wu rfl rfl (pk rfl rfl) ?_
      exact joinX rfl) ?_
  intro w2 hE2
  refine Go.Sx.V rfl wu rfl rfl (asg rfl) ?_
  refine wr_nil (post_thenN (wc_ret ?_))
  refine post_ret1 rfl rfl ?_
  exact ⟨hE.trans hE2, by rw [hF.ord]⟩
theorem rIn (P : FP) (mo : Value) (md : List Int) (x : Int) (w : World) (hF : FV w P mo md) :
    Calls Tryz.prog 71 #[fv P mo, .int .i64 x] w (RetX w fun v _ => v = .int .i64 (inK P x).1) := by
  refine calls2 Tryz.func71 rfl rfl ?_
  refine wc_seq ?_
  refine wc_region [0,1] rfl ?_
  refine BXA rfl wu rfl rfl ?_
  intro g w1 hE hB hg
  refine Go.Sx.V rfl wu rfl rfl (asg rfl) ?_
  refine wr_nil (post_thenN (wc_seq (wc_seq ?_)))
  refine wc_region [0,1,2] rfl ?_
  refine Go.Sx.V rfl wu rfl rfl (ldA rfl ag24) ?_
  refine Go.Sx.V rfl wu rfl rfl (mv rfl) ?_
  refine C rfl wu rfl rfl Tryz.call36 (rIs P mo md x _ (hF.ext hE)) ?_
  rintro _ w2 hE2 rfl
  refine wr_nil (post_thenN ?_)
  refine wc_cond rfl ?_ ?_
  · intro h
    simp at h
    refine wc_seq ?_
    refine wc_region [0,1] rfl ?_
    refine Go.Sx.V rfl wu rfl rfl (mv rfl) ?_
    refine Go.Sx.V rfl wu rfl rfl (asg rfl) ?_
    refine wr_nil (post_thenN (wc_ret (post_thenR ?_)))
    refine post_ret1 rfl rfl ?_
    exact ⟨hE.trans hE2, by rw [inK_in h]⟩
  · intro h
    simp at h
    refine wc_skip (post_thenN (wc_seq ?_))
    refine wc_region [0] rfl ?_
    refine Go.Sx.V rfl wu rfl rfl (asg rfl) ?_
    refine wr_nil (post_thenN (wc_ret ?_))
    refine post_ret1 rfl rfl ?_
    exact ⟨hE.trans hE2, by rw [inK_out (by omega)]; rfl⟩
theorem rDigs (P : FP) (mo : Value) (md : List Int) (x : Int) (w : World) (hF : FV w P mo md) :
    Calls Tryz.prog 68 #[fv P mo, .int .i64 x] w (RetX w fun v w' => OwnI w.heap.size w' v 3 (dig P.p P.M (inK P x).1) ∧ ∃ k, v.ownBlock = some k) := by
  have hp := P.hp
  have hp2 := hF.p
  have hm := hF.m
  have hq := hF.q
  have hX := (inK P x).2
  refine calls2 Tryz.func68 rfl rfl ?_
  refine wc_seq ?_
  refine wc_region [0,1] rfl ?_
  refine BXA rfl wu rfl rfl ?_
  intro g w1 hE hB hg
  refine Go.Sx.V rfl wu rfl rfl (asg rfl) ?_
  refine wr_nil (post_thenN (wc_seq ?_))
  refine wc_draw mixed [0,1,3,4,5,6,2,7,8] (by kernel_rfl) ?_
  intro w2 hd _
  replace hE := hE.trans hd
  replace hB := hB.ext hd
  refine Go.Sx.V rfl wu rfl rfl (ldA rfl ag24) ?_
  refine Go.Sx.V rfl wu rfl rfl (mv rfl) ?_
  refine Go.Sx.V rfl wu rfl rfl (fad rfl fa24_0) ?_
  refine Go.Sx.V rfl wu rfl rfl (ldB rfl na3) ?_
  refine Go.Sx.V rfl wu rfl rfl (fad rfl fa24_1) ?_
  refine Go.Sx.V rfl wu rfl rfl (ldB rfl na3) ?_
  refine C rfl wu rfl rfl Tryz.call71 (rIn P mo md x _ (hF.ext hE)) ?_
  rintro _ w3 hE3 rfl
  replace hE := hE.trans hE3
  refine C rfl wu rfl rfl Tryz.call101 (rDigits (inK P x).1 P.p P.M _ ⟨hX.1, by omega⟩ ⟨hp, hp2⟩ (by omega)) ?_
  rintro v w4 hE4 ⟨hv, hb⟩
  refine Go.Sx.V rfl wu rfl rfl (asg rfl) ?_
  refine wr_nil (post_thenN (wc_ret ?_))
  refine post_ret1 rfl rfl ?_
  exact ⟨hE.trans hE4, Own.mono hv hE.size, _, hb⟩
theorem own_ne {B B' : Nat} {w w' : World} {u v : Value} {E E' : TypeId} {xs ys : List Value} (ha : Own B w v E xs) (hb : Own B' w' u E' ys) (hs : w.heap.size ≤ B') (hu : ∃ k, u.ownBlock = some k) : u.ownBlock ≠ v.ownBlock := fun e => by
  obtain ⟨k, hk⟩ := hu
  have h1 := hb.lt k hk
  have h2 := ha.lt k (by rw [← e]; exact hk)
  omega
theorem rVal (P : FP) (mo : Value) (d : Value) (l : List Int) (w : World) (hd : Ints w d l) (hp : 2 ≤ P.p ∧ P.p ≤ 256) (hl : Lo P.p l) (hq : P.p ^ l.length ≤ 65536) (hlen : l.length ≤ 64) :
    Calls Tryz.prog 69 #[fv P mo, d] w (RetX w fun v _ => v = .int .i64 (val P.p l)) := by
  refine calls2 Tryz.func69 rfl rfl ?_
  refine wc_seq ?_
  refine wc_region [0,1] rfl ?_
  refine BXA rfl wu rfl rfl ?_
  intro g w1 hE hB hg
  refine Go.Sx.V rfl wu rfl rfl (asg rfl) ?_
  refine wr_nil (post_thenN (wc_seq ?_))
  have hdi := hd.ext hE
  refine wc_region [0] rfl ?_
  refine Go.Sx.V rfl wu rfl rfl (asg rfl) ?_
  refine wr_nil (post_thenN (wc_seq (wc_seq ?_)))
  refine wc_region [0,1,2,3] rfl ?_
  refine Go.Sx.V rfl wu rfl rfl (mv rfl) ?_
  refine Go.Sx.V rfl wu rfl rfl (lenI rfl ty22) ?_
  refine Go.Sx.V rfl wu rfl rfl (subI rfl rfl) ?_
  refine Go.Sx.V rfl wu rfl rfl (asg rfl) ?_
  refine wr_nil (post_thenN (wc_block ?_))
  refine wc_loop (fun i : Int => [(1, d), (2, .pointer (some ⟨g, 0, none⟩)), (5, .int .i64 (val P.p (l.drop (i + 1).toNat))), (6, .int .i64 i)])
    (fun i w' => -1 ≤ i ∧ i < l.length ∧ Ext w1 w') (fun i => (i + 1).toNat) (l.length - 1) ⟨rfl, rfl, by
      show _ = some (Value.int .i64 (val P.p (l.drop ((l.length : Int) - 1 + 1).toNat)))
      rw [show ((l.length : Int) - 1 + 1).toNat = l.length by omega, List.drop_length]; rfl, rfl, trivial⟩ ⟨by omega, by omega, Ext.refl _⟩ ?_
  rintro i w' ⟨h0, h1, hE1⟩
  have hv := val_le hp.1 hl hq (i + 1).toNat
  try dsimp only
  refine wc_seq (wc_seq ?_)
  refine wc_region [0,1] rfl ?_
  refine Go.Sx.V rfl wu rfl rfl (mv rfl) ?_
  refine Go.Sx.V rfl wu rfl rfl (geqI rfl rfl) ?_
  refine wr_nil (post_thenN ?_)
  refine wc_cond rfl ?_ ?_
  · intro hi
    simp at hi
    refine wc_skip (post_thenN (wc_seq (wc_block ?_)))
    have hg := gi_lo hl hi h1
    have hm : 0 ≤ val P.p (l.drop (i + 1).toNat) * P.p ∧ val P.p (l.drop (i + 1).toNat) * P.p ≤ 65536 * 256 := ⟨Int.mul_nonneg hv.1 (by omega), Int.mul_le_mul (by omega) hp.2 (by omega) (by omega)⟩
    refine wc_draw mixed [0,1,2,3,4,5,6,7,8,9] (by kernel_rfl) ?_
    intro w2 hd2 _
    replace hE1 := hE1.trans hd2
    refine Go.Sx.V rfl wu rfl rfl (mv rfl) ?_
    refine Go.Sx.V rfl wu rfl rfl (fad rfl fa24_0) ?_
    refine Go.Sx.V rfl wu rfl rfl (ldB rfl na3) ?_
    refine Go.Sx.V rfl wu rfl rfl (mulI rfl rfl) ?_
    refine Go.Sx.V rfl wu rfl rfl (mv rfl) ?_
    refine Go.Sx.V rfl wu rfl rfl (mv rfl) ?_
    refine Go.Sx.V rfl wu rfl rfl (iadI rfl rfl ty22) ?_
    refine Go.Sx.V rfl wu rfl rfl (ldI rfl na3) ?_
    refine Go.Sx.V rfl wu rfl rfl (addI rfl rfl) ?_
    refine Go.Sx.V rfl wu rfl rfl (asg rfl) ?_
    refine wr_nil (post_blockN (post_thenN ?_))
    rw [val_step hi h1]
    refine wc_region [0,1,2] rfl ?_
    refine Go.Sx.V rfl wu rfl rfl (mv rfl) ?_
    refine Go.Sx.V rfl wu rfl rfl (subI rfl rfl) ?_
    refine Go.Sx.V rfl wu rfl rfl (asg rfl) ?_
    refine wr_nil ?_
    exact post_loopN (i - 1) ⟨rfl, rfl, by show _ = some (Value.int .i64 (val P.p (l.drop (i - 1 + 1).toNat))); rw [show i - 1 + 1 = i by omega]; rfl, rfl, trivial⟩ ⟨by omega, by omega, hE1⟩ (by omega)
  · intro hi
    simp at hi
    refine wc_exit (post_thenE (post_loopE (post_blockX (post_thenN (wc_seq ?_)))))
    refine wc_region [0,1] rfl ?_
    refine Go.Sx.V rfl wu rfl rfl (mv rfl) ?_
    refine Go.Sx.V rfl wu rfl rfl (asg rfl) ?_
    refine wr_nil (post_thenN (wc_ret ?_))
    refine post_ret1 rfl rfl ?_
    refine ⟨hE.trans hE1, ?_⟩
    rw [show (i + 1).toNat = 0 by omega, List.drop_zero]
theorem dig_upd (P : FP) (x : K P) (f : Nat → Int) : dig P.p P.M x.1 = upd P.M f x.v 0 := by
  have h := upd_zero (dig P.p P.M x.1) f
  rw [dig_length] at h
  exact h.symm
set_option maxRecDepth 10000 in
theorem rAdd (P : FP) (mo : Value) (md : List Int) (x y : Int) (w : World) (hF : FV w P mo md) :
    Calls Tryz.prog 70 #[fv P mo, .int .i64 x, .int .i64 y] w (RetX w fun v _ => v = .int .i64 (inK P x + inK P y).1) := by
  have hp := P.hp
  have hp2 := hF.p
  have hm := hF.m
  have hq : P.p ^ P.M ≤ 256 := hF.q
  refine calls3 Tryz.func70 rfl rfl ?_
  refine wc_seq ?_
  refine wc_region [0,1] rfl ?_
  refine BXA rfl wu rfl rfl ?_
  intro g w1 hE hB hg
  refine Go.Sx.V rfl wu rfl rfl (asg rfl) ?_
  refine wr_nil (post_thenN (wc_seq ?_))
  refine wc_region [0,1,2,3] rfl ?_
  refine Go.Sx.V rfl wu rfl rfl (ldA rfl ag24) ?_
  refine Go.Sx.V rfl wu rfl rfl (mv rfl) ?_
  refine C rfl wu rfl rfl Tryz.call68 (rDigs P mo md x _ (hF.ext hE)) ?_
  rintro a w2 hE2 ⟨ha, hab⟩
  refine Go.Sx.V rfl wu rfl rfl (asg rfl) ?_
  refine wr_nil (post_thenN (wc_seq ?_))
  refine wc_region [0,1,2,3] rfl ?_
  refine Go.Sx.V rfl wu rfl rfl (ldA rfl ag24) ?_
  refine Go.Sx.V rfl wu rfl rfl (mv rfl) ?_
  refine C rfl wu rfl rfl Tryz.call68 (rDigs P mo md y _ (hF.ext (hE.trans hE2))) ?_
  rintro b w3 hE3 ⟨hb, hbb⟩
  refine Go.Sx.V rfl wu rfl rfl (asg rfl) ?_
  refine wr_nil (post_thenN (wc_seq (wc_seq ?_)))
  have hne := own_ne ha hb (Nat.le_refl _) hbb
  have ha := Own.ext ha hE3
  have hbi := OwnI.ints hb
  have hE1 := hE2.trans hE3
  clear hE2 hE3 hb
  generalize inK P x = X at ha ⊢
  generalize inK P y = Y at hbi ⊢
  have hlb := dig_length P.p P.M Y.1
  have ha : OwnI w1.heap.size w3 a 3 (upd P.M (fun t => (X.v t + Y.v t) % P.p) X.v 0) := by
    rw [← dig_upd]
    exact ha
  refine wc_region [0] rfl ?_
  refine Go.Sx.V rfl wu rfl rfl (asg rfl) ?_
  refine wr_nil (post_thenN (wc_block ?_))
  refine wc_loop (fun i : Int => [(3, .pointer (some ⟨g, 0, none⟩)), (7, a), (8, b), (9, .int .i64 i)])
    (fun i w' => 0 ≤ i ∧ i ≤ P.M ∧ Ext w1 w' ∧ Ints w' b (dig P.p P.M Y.1) ∧ OwnI w1.heap.size w' a 3 (upd P.M (fun t => (X.v t + Y.v t) % P.p) X.v i)) (fun i => (P.M - i).toNat) 0 ⟨rfl, rfl, rfl, rfl, trivial⟩ ⟨by omega, by omega, hE1, hbi, ha⟩ ?_
  clear ha hE1 hbi
  rintro i w4 ⟨i0, i1, hE1, hbi, ha⟩
  have hai := OwnI.ints ha
  have hl := upd_length P.M (fun t => (X.v t + Y.v t) % P.p) X.v i
  try dsimp only
  refine wc_seq (wc_seq ?_)
  refine wc_region [0,1,2,3] rfl ?_
  refine Go.Sx.V rfl wu rfl rfl (mv rfl) ?_
  refine Go.Sx.V rfl wu rfl rfl (mv rfl) ?_
  refine Go.Sx.V rfl wu rfl rfl (lenI rfl ty22) ?_
  refine Go.Sx.V rfl wu rfl rfl (lssI rfl rfl) ?_
  refine wr_nil (post_thenN ?_)
  rw [hl]
  refine wc_cond rfl ?_ ?_
  · intro hc
    simp at hc
    refine wc_skip (post_thenN (wc_seq (wc_block ?_)))
    have g1 := upd_get (m := P.M) (f := fun t => (X.v t + Y.v t) % P.p) (g := X.v) i0 hc
    have g2 := gi_v Y (j := i)
    have l1 := v_lo X i.toNat (by omega)
    have l2 := v_lo Y i.toNat (by omega)
    refine wc_draw mixed [0,1,2,3,4,5,6,7,8,9,10,11,12,13,14,15] (by kernel_rfl) ?_
    intro w5 hd _
    replace hE1 := hE1.trans hd
    replace hbi := hbi.ext hd
    replace hai := hai.ext hd
    replace ha := ha.ext hd
    refine Go.Sx.V rfl wu rfl rfl (mv rfl) ?_
    refine Go.Sx.V rfl wu rfl rfl (mv rfl) ?_
    refine Go.Sx.V rfl wu rfl rfl (mv rfl) ?_
    refine Go.Sx.V rfl wu rfl rfl (mv rfl) ?_
    refine Go.Sx.V rfl wu rfl rfl (iadI rfl rfl ty22) ?_
    refine Go.Sx.V rfl wu rfl rfl (ldI rfl na3) ?_
    refine Go.Sx.V rfl wu rfl rfl (mv rfl) ?_
    refine Go.Sx.V rfl wu rfl rfl (mv rfl) ?_
    refine Go.Sx.V rfl wu rfl rfl (iadI rfl rfl ty22) ?_
    refine Go.Sx.V rfl wu rfl rfl (ldI rfl na3) ?_
    refine Go.Sx.V rfl wu rfl rfl (addI rfl rfl) ?_
    refine Go.Sx.V rfl wu rfl rfl (fad rfl fa24_0) ?_
    refine Go.Sx.V rfl wu rfl rfl (ldB rfl na3) ?_
    refine Go.Sx.V rfl wu rfl rfl (remI rfl rfl) ?_
    refine Go.Sx.V rfl wu rfl rfl (iadI rfl rfl ty22) ?_
    refine STI rfl wu rfl rfl sz3 (by intro h; kernel_rfl) ?_
    intro w6 hg6 hX6 ha6 hai6
    refine wr_nil (post_blockN (post_thenN ?_))
    rw [g1, g2, upd_step i0] at ha6
    refine wc_region [0,1,2] rfl ?_
    refine Go.Sx.V rfl wu rfl rfl (mv rfl) ?_
    refine Go.Sx.V rfl wu rfl rfl (addI rfl rfl) ?_
    refine Go.Sx.V rfl wu rfl rfl (asg rfl) ?_
    refine wr_nil ?_
    exact post_loopN (i + 1) ⟨rfl, rfl, rfl, rfl, trivial⟩ ⟨by omega, by omega, hX6 _ (Nat.le_refl _) hE1, hbi.kept hg6 hne, ha6⟩ (by omega)
  · intro hc
    simp at hc
    refine wc_exit (post_thenE (post_loopE (post_blockX (post_thenN (wc_seq ?_)))))
    rw [upd_last _ _ _ (by omega)] at hai
    refine wc_region [0,1,2,3] rfl ?_
    refine Go.Sx.V rfl wu rfl rfl (ldA rfl ag24) ?_
    refine Go.Sx.V rfl wu rfl rfl (mv rfl) ?_
    refine C rfl wu rfl rfl Tryz.call69 (rVal P mo a _ _ hai ⟨hp, hp2⟩ (red_lo P (vadd X.v Y.v)) (by rw [tab_length]; omega) (by rw [tab_length]; omega)) ?_
    rintro _ w5 hE5 rfl
    refine Go.Sx.V rfl wu rfl rfl (asg rfl) ?_
    refine wr_nil (post_thenN (wc_ret ?_))
    refine post_ret1 rfl rfl ?_
    exact ⟨(hE.trans hE1).trans hE5, rfl⟩
set_option maxRecDepth 10000 in
theorem rNeg (P : FP) (mo : Value) (md : List Int) (x : Int) (w : World) (hF : FV w P mo md) :
    Calls Tryz.prog 147 #[fv P mo, .int .i64 x] w (RetX w fun v _ => v = .int .i64 (-inK P x).1) := by
  have hp := P.hp
  have hp2 := hF.p
  have hm := hF.m
  have hq : P.p ^ P.M ≤ 256 := hF.q
  refine calls2 Tryz.func147 rfl rfl ?_
  refine wc_seq ?_
  refine wc_region [0,1] rfl ?_
  refine BXA rfl wu rfl rfl ?_
  intro g w1 hE hB hg
  refine Go.Sx.V rfl wu rfl rfl (asg rfl) ?_
  refine wr_nil (post_thenN (wc_seq ?_))
  refine wc_region [0,1,2,3] rfl ?_
  refine Go.Sx.V rfl wu rfl rfl (ldA rfl ag24) ?_
  refine Go.Sx.V rfl wu rfl rfl (mv rfl) ?_
  refine C rfl wu rfl rfl Tryz.call68 (rDigs P mo md x _ (hF.ext hE)) ?_
  rintro a w2 hE2 ⟨ha, hab⟩
  refine Go.Sx.V rfl wu rfl rfl (asg rfl) ?_
  refine wr_nil (post_thenN (wc_seq (wc_seq ?_)))
  generalize inK P x = X at ha ⊢
  have ha : OwnI w1.heap.size w2 a 3 (upd P.M (fun t => (P.p - X.v t) % P.p) X.v 0) := by
    rw [← dig_upd]
    exact ha
  refine wc_region [0] rfl ?_
  refine Go.Sx.V rfl wu rfl rfl (asg rfl) ?_
  refine wr_nil (post_thenN (wc_block ?_))
  refine wc_loop (fun i : Int => [(2, .pointer (some ⟨g, 0, none⟩)), (5, a), (6, .int .i64 i)])
    (fun i w' => 0 ≤ i ∧ i ≤ P.M ∧ Ext w1 w' ∧ OwnI w1.heap.size w' a 3 (upd P.M (fun t => (P.p - X.v t) % P.p) X.v i)) (fun i => (P.M - i).toNat) 0 ⟨rfl, rfl, rfl, trivial⟩ ⟨by omega, by omega, hE2, ha⟩ ?_
  clear ha hE2
  rintro i w4 ⟨i0, i1, hE1, ha⟩
  have hai := OwnI.ints ha
  have hl := upd_length P.M (fun t => (P.p - X.v t) % P.p) X.v i
  try dsimp only
  refine wc_seq (wc_seq ?_)
  refine wc_region [0,1,2,3] rfl ?_
  refine Go.Sx.V rfl wu rfl rfl (mv rfl) ?_
  refine Go.Sx.V rfl wu rfl rfl (mv rfl) ?_
  refine Go.Sx.V rfl wu rfl rfl (lenI rfl ty22) ?_
  refine Go.Sx.V rfl wu rfl rfl (lssI rfl rfl) ?_
  refine wr_nil (post_thenN ?_)
  rw [hl]
  refine wc_cond rfl ?_ ?_
  · intro hc
    simp at hc
    refine wc_skip (post_thenN (wc_seq (wc_block ?_)))
    have g1 := upd_get (m := P.M) (f := fun t => (P.p - X.v t) % P.p) (g := X.v) i0 hc
    have l1 := v_lo X i.toNat (by omega)
    refine wc_draw mixed [0,1,2,3,4,5,6,7,8,9,10,11,12,13] (by kernel_rfl) ?_
    intro w5 hd _
    replace hE1 := hE1.trans hd
    replace hai := hai.ext hd
    replace ha := ha.ext hd
    refine Go.Sx.V rfl wu rfl rfl (mv rfl) ?_
    refine Go.Sx.V rfl wu rfl rfl (mv rfl) ?_
    refine Go.Sx.V rfl wu rfl rfl (fad rfl fa24_0) ?_
    refine Go.Sx.V rfl wu rfl rfl (ldB rfl na3) ?_
    refine Go.Sx.V rfl wu rfl rfl (mv rfl) ?_
    refine Go.Sx.V rfl wu rfl rfl (mv rfl) ?_
    refine Go.Sx.V rfl wu rfl rfl (iadI rfl rfl ty22) ?_
    refine Go.Sx.V rfl wu rfl rfl (ldI rfl na3) ?_
    refine Go.Sx.V rfl wu rfl rfl (subI rfl rfl) ?_
    refine Go.Sx.V rfl wu rfl rfl (fad rfl fa24_0) ?_
    refine Go.Sx.V rfl wu rfl rfl (ldB rfl na3) ?_
    refine Go.Sx.V rfl wu rfl rfl (remI rfl rfl) ?_
    refine Go.Sx.V rfl wu rfl rfl (iadI rfl rfl ty22) ?_
    refine STI rfl wu rfl rfl sz3 (by intro h; kernel_rfl) ?_
    intro w6 hg6 hX6 ha6 hai6
    refine wr_nil (post_blockN (post_thenN ?_))
    rw [g1, upd_step i0] at ha6
    refine wc_region [0,1,2] rfl ?_
    refine Go.Sx.V rfl wu rfl rfl (mv rfl) ?_
    refine Go.Sx.V rfl wu rfl rfl (addI rfl rfl) ?_
    refine Go.Sx.V rfl wu rfl rfl (asg rfl) ?_
    refine wr_nil ?_
    exact post_loopN (i + 1) ⟨rfl, rfl, rfl, trivial⟩ ⟨by omega, by omega, hX6 _ (Nat.le_refl _) hE1, ha6⟩ (by omega)
  · intro hc
    simp at hc
    refine wc_exit (post_thenE (post_loopE (post_blockX (post_thenN (wc_seq ?_)))))
    have e : tab P.M (fun t => (P.p - X.v t) % P.p) = tab P.M fun t => vneg X.v t % P.p := tab_congr fun t _ => by
      show (P.p - X.v t) % P.p = (-X.v t) % P.p
      rw [show P.p - X.v t = -X.v t + P.p * 1 by omega, Int.add_mul_emod_self_left]
    rw [upd_last _ _ _ (by omega), e] at hai
    refine wc_region [0,1,2,3] rfl ?_
    refine Go.Sx.V rfl wu rfl rfl (ldA rfl ag24) ?_
    refine Go.Sx.V rfl wu rfl rfl (mv rfl) ?_
    refine C rfl wu rfl rfl Tryz.call69 (rVal P mo a _ _ hai ⟨hp, hp2⟩ (red_lo P (vneg X.v)) (by rw [tab_length]; omega) (by rw [tab_length]; omega)) ?_
    rintro _ w5 hE5 rfl
    refine Go.Sx.V rfl wu rfl rfl (asg rfl) ?_
    refine wr_nil (post_thenN (wc_ret ?_))
    refine post_ret1 rfl rfl ?_
    exact ⟨(hE.trans hE1).trans hE5, rfl⟩
end Go.Proofs.YtmnojknfjbimdaaGreat

