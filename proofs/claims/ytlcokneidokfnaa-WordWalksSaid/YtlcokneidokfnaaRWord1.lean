/-
  The reference's words over a field, by contract: Clean, Support, Add, Sub, Inner, Distance.
-/
import Derived.Test.YtlcokneidokfnaaRef6
import Derived.Test.YtlcokneidokfnaaWordP
namespace Go.Proofs.Ytlcokneidokfnaa
open Go Go.Sx Go.Pl Go.RowKit Go.Fd Go.Alg

set_option maxRecDepth 10000 in
theorem rClean (P : FP) (mo : Value) (md : List Int) (u : Value) (l : List Int) (w : World) (hF : FV w P mo md) (hu : Ints w u l) (hn : l.length ≤ 17592186044416) :
    Calls Try.prog 31 #[fv P mo, u] w (RetX w fun v w' => Ints w' v (clean P l)) := by
  have hord := hF.ord
  refine calls2 Try.func31 rfl rfl ?_
  refine wc_seq ?_
  refine wc_region [0,1] rfl ?_
  refine BXA rfl wu rfl rfl ?_
  intro fb w1 hE hB hg
  refine Go.Sx.V rfl wu rfl rfl (asg rfl) ?_
  refine wr_nil (post_thenN (wc_seq ?_))
  refine wc_region [0,1,2] rfl ?_
  refine Go.Sx.V rfl wu rfl rfl (ldA rfl ag40) ?_
  refine C rfl wu rfl rfl Try.call41 (rOrder P.p P.M mo _) ?_
  rintro _ w2 hE2 rfl
  replace hE := hE.trans hE2
  rw [hord]
  refine Go.Sx.V rfl wu rfl rfl (asg rfl) ?_
  refine wr_nil (post_thenN (wc_seq ?_))
  have hui := hu.ext hE
  refine wc_region [0,1,2,3] rfl ?_
  refine Go.Sx.V rfl wu rfl rfl (mv rfl) ?_
  refine Go.Sx.V rfl wu rfl rfl (lenI rfl ty26) ?_
  refine MKI (n := l.length) rfl wu rfl rfl ty26 ?_
  intro out w3 hE3 ho hi hob
  refine Go.Sx.V rfl wu rfl rfl (asg rfl) ?_
  refine wr_nil (post_thenN (wc_seq (wc_seq ?_)))
  refine wc_region [0] rfl ?_
  refine Go.Sx.V rfl wu rfl rfl (asg rfl) ?_
  refine wr_nil (post_thenN (wc_block ?_))
  rw [← upd_zero' l.length (fun t => (kt P l t).1) (fun _ => 0)] at ho
  refine wc_loop (fun i : Int => [(1, u), (5, .int .i64 P.q), (6, out), (7, .int .i64 i)])
    (fun i w' => 0 ≤ i ∧ i ≤ l.length ∧ Ext w w' ∧ Ext w2 w' ∧ OwnI w2.heap.size w' out 3 (upd l.length (fun t => (kt P l t).1) (fun _ => 0) i)) (fun i => (l.length - i).toNat) 0 ⟨rfl, rfl, rfl, rfl, trivial⟩ ⟨by omega, by omega, hE.trans hE3, hE3, ho⟩ ?_
  have hsz := hE.size
  clear hE ho hi hE3 hB hui
  rintro i w4 ⟨i0, i1, hE, hE2, ho⟩
  have hul := upd_length l.length (fun t => (kt P l t).1) (fun _ => 0) i
  have hui := hu.ext hE
  have hoi := OwnI.ints ho
  try dsimp only
  refine wc_seq (wc_seq ?_)
  refine wc_region [0,1,2,3] rfl ?_
  refine Go.Sx.V rfl wu rfl rfl (mv rfl) ?_
  refine Go.Sx.V rfl wu rfl rfl (mv rfl) ?_
  refine Go.Sx.V rfl wu rfl rfl (lenI rfl ty26) ?_
  refine Go.Sx.V rfl wu rfl rfl (lssI rfl rfl) ?_
  refine wr_nil (post_thenN ?_)
  refine wc_cond rfl ?_ ?_
  · intro hc
    simp at hc
    refine wc_skip (post_thenN (wc_seq (wc_block (wc_seq ?_))))
    refine wc_region [0,1,2,3,4,5,6,7,8,9,10,11,12] rfl ?_
    refine Go.Sx.V rfl wu rfl rfl (mv rfl) ?_
    refine Go.Sx.V rfl wu rfl rfl (mv rfl) ?_
    refine Go.Sx.V rfl wu rfl rfl (iadI rfl rfl ty26) ?_
    refine Go.Sx.V rfl wu rfl rfl (ldI rfl na3) ?_
    refine Go.Sx.V rfl wu rfl rfl (geqI rfl rfl) ?_
    refine Go.Sx.V rfl wu rfl rfl (mv rfl) ?_
    refine AND (π1 := [6,7,8,9,10,11,12]) (π2 := []) (tc := 24) (tp := 31) rfl rfl rfl (by
        intro hg
        simp at hg
        refine Go.Sx.V rfl (wg rfl rfl) rfl rfl (mv rfl) ?_
        refine Go.Sx.V rfl (wg rfl rfl) rfl rfl (mv rfl) ?_
        refine Go.Sx.V rfl (wg rfl rfl) rfl rfl (iadI rfl rfl ty26) ?_
        refine Go.Sx.V rfl (wg rfl rfl) rfl rfl (ldI rfl na3) ?_
        refine Go.Sx.V rfl (wg rfl rfl) rfl rfl (mv rfl) ?_
        refine Go.Sx.V rfl (wg rfl rfl) rfl rfl (lssI rfl rfl) ?_
        refine Go.Sx.V rfl wu rfl rfl (pk rfl rfl) ?_
        exact join rfl) (by
        intro _
        refine SK rfl rfl rfl rfl rfl ?_
        refine SK rfl rfl rfl rfl rfl ?_
        refine SK rfl rfl rfl rfl rfl ?_
        refine SK rfl rfl rfl rfl rfl ?_
        refine SK rfl rfl rfl rfl rfl ?_
        refine SK rfl rfl rfl rfl rfl ?_
        refine Go.Sx.V rfl wu rfl rfl (pk rfl rfl) ?_
        exact join rfl) ?_
    refine wr_nil (post_thenN ?_)
    refine wc_cond rfl ?_ ?_
    · intro hs
      simp at hs
      have e : gi l i = (kt P l i.toNat).1 := by rw [← kt_gi, inK_in hs]
      refine wc_region [0,1,2,3,4,5,6,7] rfl ?_
      refine Go.Sx.V rfl wu rfl rfl (mv rfl) ?_
      refine Go.Sx.V rfl wu rfl rfl (mv rfl) ?_
      refine Go.Sx.V rfl wu rfl rfl (mv rfl) ?_
      refine Go.Sx.V rfl wu rfl rfl (mv rfl) ?_
      refine Go.Sx.V rfl wu rfl rfl (iadI rfl rfl ty26) ?_
      refine Go.Sx.V rfl wu rfl rfl (ldI rfl na3) ?_
      refine Go.Sx.V rfl wu rfl rfl (iadI rfl rfl ty26) ?_
      refine STI rfl wu rfl rfl sz3 (by intro h; cases h) ?_
      intro w5 hg5 hX5 ho5 hi5
      refine wr_nil (post_blockN (post_thenN ?_))
      rw [e, upd_step (f := fun t => (kt P l t).1) i0] at ho5
      refine wc_region [0,1,2] rfl ?_
      refine Go.Sx.V rfl wu rfl rfl (mv rfl) ?_
      refine Go.Sx.V rfl wu rfl rfl (addI rfl rfl) ?_
      refine Go.Sx.V rfl wu rfl rfl (asg rfl) ?_
      refine wr_nil ?_
      exact post_loopN (i + 1) ⟨rfl, rfl, rfl, rfl, trivial⟩ ⟨by omega, by omega, hX5 _ hsz hE, hX5 _ (Nat.le_refl _) hE2, ho5⟩ (by omega)
    · intro hs
      simp at hs
      refine wc_skip (post_blockN (post_thenN ?_))
      have e : (kt P l i.toNat).1 = 0 := by rw [← kt_gi, inK_out (by omega)]; rfl
      rw [upd_skip i0 e] at ho
      refine wc_region [0,1,2] rfl ?_
      refine Go.Sx.V rfl wu rfl rfl (mv rfl) ?_
      refine Go.Sx.V rfl wu rfl rfl (addI rfl rfl) ?_
      refine Go.Sx.V rfl wu rfl rfl (asg rfl) ?_
      refine wr_nil ?_
      exact post_loopN (i + 1) ⟨rfl, rfl, rfl, rfl, trivial⟩ ⟨by omega, by omega, hE, hE2, ho⟩ (by omega)
  · intro hc
    simp at hc
    refine wc_exit (post_thenE (post_loopE (post_blockX (post_thenN (wc_seq ?_)))))
    refine wc_region [0,1] rfl ?_
    refine Go.Sx.V rfl wu rfl rfl (mv rfl) ?_
    refine Go.Sx.V rfl wu rfl rfl (asg rfl) ?_
    refine wr_nil (post_thenN (wc_ret ?_))
    refine post_ret1 rfl rfl ?_
    rw [upd_last _ _ _ (by omega)] at ho
    exact ⟨hE, OwnI.ints ho⟩

set_option maxRecDepth 10000 in
theorem rSupport (P : FP) (mo : Value) (md : List Int) (u : Value) (l : List Int) (w : World) (hF : FV w P mo md) (hu : Ints w u l) (hn : l.length ≤ 17592186044416) :
    Calls Try.prog 33 #[fv P mo, u] w (RetX w fun v w' => Ints w' v (sup P l)) := by
  refine calls2 Try.func33 rfl rfl ?_
  refine wc_seq ?_
  refine wc_region [0,1] rfl ?_
  refine BXA rfl wu rfl rfl ?_
  intro fb w1 hE hB hg
  refine Go.Sx.V rfl wu rfl rfl (asg rfl) ?_
  refine wr_nil (post_thenN (wc_seq ?_))
  refine wc_region [0,1,2,3] rfl ?_
  refine Go.Sx.V rfl wu rfl rfl (ldA rfl ag40) ?_
  refine Go.Sx.V rfl wu rfl rfl (mv rfl) ?_
  refine C rfl wu rfl rfl Try.call31 (rClean P mo md u l _ (hF.ext hE) (hu.ext hE) hn) ?_
  rintro c w2 hE2 hc
  replace hE := hE.trans hE2
  refine Go.Sx.V rfl wu rfl rfl (asg rfl) ?_
  refine wr_nil (post_thenN (wc_seq ?_))
  have hcl := clean_length (P := P) l
  refine wc_region [0,1] rfl ?_
  refine BSI (zs := []) rfl wu rfl rfl rfl rfl ty26 ?_
  intro v0 w3 hE3 ho hi hob
  refine Go.Sx.V rfl wu rfl rfl (asg rfl) ?_
  refine wr_nil (post_thenN (wc_seq (wc_seq ?_)))
  refine wc_region [0] rfl ?_
  refine Go.Sx.V rfl wu rfl rfl (asg rfl) ?_
  refine wr_nil (post_thenN (wc_block ?_))
  have hsz := hE.size
  refine wc_loop (fun q : Int × Value => [(5, c), (6, q.2), (7, .int .i64 q.1)])
    (fun q w' => 0 ≤ q.1 ∧ q.1 ≤ l.length ∧ Ext w w' ∧ Ext w2 w' ∧ OwnI w2.heap.size w' q.2 3 (supN (clean P l) q.1.toNat)) (fun q => (l.length - q.1).toNat) (0, v0) ⟨rfl, rfl, rfl, trivial⟩ ⟨Int.le_refl _, by show (0 : Int) ≤ l.length; omega, hE.trans hE3, hE3, ho⟩ ?_
  clear hE hE3 ho hi
  rintro ⟨i, out⟩ w4 ⟨i0, i1, hE, hE1, ho⟩
  dsimp only at i0 i1 hE hE1 ho
  have hci := hc.ext hE1
  have hsl : (supN (clean P l) i.toNat).length ≤ i.toNat := by rw [supN_length]; exact cnt_le _ _
  try dsimp only
  refine wc_seq (wc_seq ?_)
  refine wc_region [0,1,2,3] rfl ?_
  refine Go.Sx.V rfl wu rfl rfl (mv rfl) ?_
  refine Go.Sx.V rfl wu rfl rfl (mv rfl) ?_
  refine Go.Sx.V rfl wu rfl rfl (lenI rfl ty26) ?_
  refine Go.Sx.V rfl wu rfl rfl (lssI rfl rfl) ?_
  refine wr_nil (post_thenN ?_)
  refine wc_cond rfl ?_ ?_
  · intro hc'
    simp at hc'
    refine wc_skip (post_thenN (wc_seq (wc_block (wc_seq ?_))))
    refine wc_region [0,1,2,3,4] rfl ?_
    refine Go.Sx.V rfl wu rfl rfl (mv rfl) ?_
    refine Go.Sx.V rfl wu rfl rfl (mv rfl) ?_
    refine Go.Sx.V rfl wu rfl rfl (iadI rfl rfl ty26) ?_
    refine Go.Sx.V rfl wu rfl rfl (ldI rfl na3) ?_
    refine Go.Sx.V rfl wu rfl rfl (neqI rfl rfl) ?_
    refine wr_nil (post_thenN ?_)
    refine wc_cond rfl ?_ ?_
    · intro hs
      simp at hs
      refine wc_region [0,1,2,3,4] rfl ?_
      refine Go.Sx.V rfl wu rfl rfl (mv rfl) ?_
      refine Go.Sx.V rfl wu rfl rfl (mv rfl) ?_
      refine BSI (zs := [i]) rfl wu rfl rfl rfl rfl ty26 ?_
      intro v1 w5 hE5 ho5 hi5 hb5
      replace ho := Own.ext ho hE5
      replace hE := hE.trans hE5
      replace hE1 := hE1.trans hE5
      clear ho5
      refine API rfl wu rfl rfl rfl ty26 (by intro h h2; cases h) ?_ (ho := ho)
      intro out' w6 hg6 hX6 ho6 hi6 hb6
      refine Go.Sx.V rfl wu rfl rfl (asg rfl) ?_
      refine wr_nil (post_blockN (post_thenN ?_))
      refine wc_region [0,1,2] rfl ?_
      refine Go.Sx.V rfl wu rfl rfl (mv rfl) ?_
      refine Go.Sx.V rfl wu rfl rfl (addI rfl rfl) ?_
      refine Go.Sx.V rfl wu rfl rfl (asg rfl) ?_
      refine wr_nil ?_
      refine post_loopN (i + 1, out') ⟨rfl, rfl, rfl, trivial⟩ ⟨by show 0 ≤ i + 1; omega, by show i + 1 ≤ _; omega, hX6 _ hsz hE, hX6 _ (Nat.le_refl _) hE1, ?_⟩ (by show (l.length - (i + 1)).toNat < (l.length - i).toNat; omega)
      show OwnI _ _ _ _ (supN _ (i + 1).toNat)
      rw [supN_succ _ i0, if_neg hs]
      exact ho6
    · intro hs
      simp at hs
      refine wc_skip (post_blockN (post_thenN ?_))
      refine wc_region [0,1,2] rfl ?_
      refine Go.Sx.V rfl wu rfl rfl (mv rfl) ?_
      refine Go.Sx.V rfl wu rfl rfl (addI rfl rfl) ?_
      refine Go.Sx.V rfl wu rfl rfl (asg rfl) ?_
      refine wr_nil ?_
      refine post_loopN (i + 1, out) ⟨rfl, rfl, rfl, trivial⟩ ⟨by show 0 ≤ i + 1; omega, by show i + 1 ≤ _; omega, hE, hE1, ?_⟩ (by show (l.length - (i + 1)).toNat < (l.length - i).toNat; omega)
      show OwnI _ _ _ _ (supN _ (i + 1).toNat)
      rw [supN_succ _ i0, if_pos hs]
      exact ho
  · intro hc'
    simp at hc'
    refine wc_exit (post_thenE (post_loopE (post_blockX (post_thenN (wc_seq ?_)))))
    refine wc_region [0,1] rfl ?_
    refine Go.Sx.V rfl wu rfl rfl (mv rfl) ?_
    refine Go.Sx.V rfl wu rfl rfl (asg rfl) ?_
    refine wr_nil (post_thenN (wc_ret ?_))
    refine post_ret1 rfl rfl ?_
    rw [show i.toNat = l.length by omega] at ho
    exact ⟨hE, OwnI.ints ho⟩

set_option maxRecDepth 10000 in
theorem r11Add (P : FP) (mo : Value) (md : List Int) (u v : Value) (a b : List Int) (w : World) (hF : FV w P mo md) (hu : Ints w u a) (hv : Ints w v b) (hn : a.length ≤ 17592186044416) :
    Calls Try.prog 36 #[fv P mo, u, v] w (RetX w fun r w' => ∃ s, r = .tuple #[s, .int .i64 (pwA P (fun x y => x + y) a b).2] ∧ Ints w' s (pwA P (fun x y => x + y) a b).1) := by
  have hla := hu.le
  have hlb := hv.le
  refine calls3 Try.func36 rfl rfl ?_
  refine wc_seq ?_
  refine wc_region [0,1,2] rfl ?_
  refine BXA rfl wu rfl rfl ?_
  intro fb w1 hE hB hg
  refine Go.Sx.V rfl wu rfl rfl (asg rfl) ?_
  refine Go.Sx.V rfl wu rfl rfl (asg rfl) ?_
  refine wr_nil (post_thenN (wc_seq (wc_seq ?_)))
  refine wc_region [0,1,2,3,4] rfl ?_
  refine Go.Sx.V rfl wu rfl rfl (mv rfl) ?_
  refine Go.Sx.V rfl wu rfl rfl (lenI rfl ty26) ?_
  refine Go.Sx.V rfl wu rfl rfl (mv rfl) ?_
  refine Go.Sx.V rfl wu rfl rfl (lenI rfl ty26) ?_
  refine Go.Sx.V rfl wu rfl rfl (neqI rfl rfl) ?_
  refine wr_nil (post_thenN ?_)
  refine wc_cond rfl ?_ ?_
  · intro h
    simp at h
    have h' : ¬ a.length = b.length := by omega
    refine wc_seq ?_
    refine wc_region [0,1] rfl ?_
    refine Go.Sx.V rfl wu rfl rfl (asg rfl) ?_
    refine Go.Sx.V rfl wu rfl rfl (asg rfl) ?_
    refine wr_nil (post_thenN (wc_ret (post_thenR ?_)))
    refine post_ret2 rfl rfl rfl ?_
    exact ⟨hE, _, by rw [pwA, if_neg h'], by rw [pwA, if_neg h']; exact Ints.nil _⟩
  · intro h
    simp at h
    have h' : a.length = b.length := by omega
    refine wc_skip (post_thenN (wc_seq ?_))
    refine wc_region [0,1,2,3] rfl ?_
    refine Go.Sx.V rfl wu rfl rfl (mv rfl) ?_
    refine Go.Sx.V rfl wu rfl rfl (lenI rfl ty26) ?_
    refine MKI (n := a.length) rfl wu rfl rfl ty26 ?_
    intro out w2 hE2 ho hi hob
    refine Go.Sx.V rfl wu rfl rfl (asg rfl) ?_
    refine wr_nil (post_thenN (wc_seq (wc_seq ?_)))
    refine wc_region [0] rfl ?_
    refine Go.Sx.V rfl wu rfl rfl (asg rfl) ?_
    refine wr_nil (post_thenN (wc_block ?_))
    rw [← upd_zero' a.length (fun t => ((fun x y => x + y) (kt P a t) (kt P b t)).1) (fun _ => 0)] at ho
    have hsz := hE.size
    refine wc_loop (fun i : Int => [(1, u), (2, v), (3, .pointer (some ⟨fb, 0, none⟩)), (8, out), (9, .int .i64 i)])
      (fun i w' => 0 ≤ i ∧ i ≤ a.length ∧ Ext w w' ∧ Ext w1 w' ∧ OwnI w1.heap.size w' out 3 (upd a.length (fun t => ((fun x y => x + y) (kt P a t) (kt P b t)).1) (fun _ => 0) i)) (fun i => (a.length - i).toNat) 0 ⟨rfl, rfl, rfl, rfl, rfl, trivial⟩ ⟨by omega, by omega, hE.trans hE2, hE2, ho⟩ ?_
    clear hE hE2 ho hi
    rintro i w3 ⟨i0, i1, hE, hE1, ho⟩
    have hui := hu.ext hE
    have hvi := hv.ext hE
    have hBi := hB.ext hE1
    have hul := upd_length a.length (fun t => ((fun x y => x + y) (kt P a t) (kt P b t)).1) (fun _ => 0) i
    try dsimp only
    refine wc_seq (wc_seq ?_)
    refine wc_region [0,1,2,3] rfl ?_
    refine Go.Sx.V rfl wu rfl rfl (mv rfl) ?_
    refine Go.Sx.V rfl wu rfl rfl (mv rfl) ?_
    refine Go.Sx.V rfl wu rfl rfl (lenI rfl ty26) ?_
    refine Go.Sx.V rfl wu rfl rfl (lssI rfl rfl) ?_
    refine wr_nil (post_thenN ?_)
    refine wc_cond rfl ?_ ?_
    · intro hi
      simp at hi
      refine wc_skip (post_thenN (wc_seq (wc_block ?_)))
      refine wc_draw mixed [0,1,2,3,4,5,6,7,8,9,10,11,12,13] (by kernel_rfl) ?_
      intro w4 hd4 _
      replace hE := hE.trans hd4
      replace hE1 := hE1.trans hd4
      replace ho := ho.ext hd4
      replace hui := hui.ext hd4
      replace hvi := hvi.ext hd4
      replace hBi := hBi.ext hd4
      refine Go.Sx.V rfl wu rfl rfl (mv rfl) ?_
      refine Go.Sx.V rfl wu rfl rfl (mv rfl) ?_
      refine Go.Sx.V rfl wu rfl rfl (ldA rfl ag40) ?_
      refine Go.Sx.V rfl wu rfl rfl (mv rfl) ?_
      refine Go.Sx.V rfl wu rfl rfl (mv rfl) ?_
      refine Go.Sx.V rfl wu rfl rfl (iadI rfl rfl ty26) ?_
      refine Go.Sx.V rfl wu rfl rfl (ldI rfl na3) ?_
      refine Go.Sx.V rfl wu rfl rfl (mv rfl) ?_
      refine Go.Sx.V rfl wu rfl rfl (mv rfl) ?_
      refine Go.Sx.V rfl wu rfl rfl (iadI rfl rfl ty26) ?_
      refine Go.Sx.V rfl wu rfl rfl (ldI rfl na3) ?_
      refine C rfl wu rfl rfl Try.call45 (rAdd P mo md _ _ _ (hF.ext hE)) ?_
      rintro _ w5 hE5 rfl
      replace hE := hE.trans hE5
      replace hE1 := hE1.trans hE5
      replace ho := Own.ext ho hE5
      have hoi := OwnI.ints ho
      refine Go.Sx.V rfl wu rfl rfl (iadI rfl rfl ty26) ?_
      refine STI rfl wu rfl rfl sz3 (by intro h; kernel_rfl) ?_
      intro w6 hg6 hX6 ho6 hi6
      refine wr_nil (post_blockN (post_thenN ?_))
      have hst := upd_step (m := a.length) (f := fun t => ((fun x y => x + y) (kt P a t) (kt P b t)).1) (g := fun _ => 0) (i := i) i0
      have ho7 : OwnI w1.heap.size w6 out 3 (upd a.length (fun t => ((fun x y => x + y) (kt P a t) (kt P b t)).1) (fun _ => 0) (i + 1)) := by rw [← hst]; exact ho6
      refine wc_region [0,1,2] rfl ?_
      refine Go.Sx.V rfl wu rfl rfl (mv rfl) ?_
      refine Go.Sx.V rfl wu rfl rfl (addI rfl rfl) ?_
      refine Go.Sx.V rfl wu rfl rfl (asg rfl) ?_
      refine wr_nil ?_
      exact post_loopN (i + 1) ⟨rfl, rfl, rfl, rfl, rfl, trivial⟩ ⟨by omega, by omega, hX6 _ hsz hE, hX6 _ (Nat.le_refl _) hE1, ho7⟩ (by omega)
    · intro hi
      simp at hi
      refine wc_exit (post_thenE (post_loopE (post_blockX (post_thenN (wc_seq ?_)))))
      rw [upd_last _ _ _ (by omega)] at ho
      refine wc_region [0,1,2] rfl ?_
      refine Go.Sx.V rfl wu rfl rfl (mv rfl) ?_
      refine Go.Sx.V rfl wu rfl rfl (asg rfl) ?_
      refine Go.Sx.V rfl wu rfl rfl (asg rfl) ?_
      refine wr_nil (post_thenN (wc_ret ?_))
      refine post_ret2 rfl rfl rfl ?_
      refine ⟨hE, _, by rw [pwA, if_pos h'], ?_⟩
      rw [pwA, if_pos h']
      exact OwnI.ints ho

set_option maxRecDepth 10000 in
theorem r11Sub (P : FP) (mo : Value) (md : List Int) (u v : Value) (a b : List Int) (w : World) (hF : FV w P mo md) (hu : Ints w u a) (hv : Ints w v b) (hn : a.length ≤ 17592186044416) :
    Calls Try.prog 38 #[fv P mo, u, v] w (RetX w fun r w' => ∃ s, r = .tuple #[s, .int .i64 (pwA P (fun x y => x + -y) a b).2] ∧ Ints w' s (pwA P (fun x y => x + -y) a b).1) := by
  have hla := hu.le
  have hlb := hv.le
  refine calls3 Try.func38 rfl rfl ?_
  refine wc_seq ?_
  refine wc_region [0,1,2] rfl ?_
  refine BXA rfl wu rfl rfl ?_
  intro fb w1 hE hB hg
  refine Go.Sx.V rfl wu rfl rfl (asg rfl) ?_
  refine Go.Sx.V rfl wu rfl rfl (asg rfl) ?_
  refine wr_nil (post_thenN (wc_seq (wc_seq ?_)))
  refine wc_region [0,1,2,3,4] rfl ?_
  refine Go.Sx.V rfl wu rfl rfl (mv rfl) ?_
  refine Go.Sx.V rfl wu rfl rfl (lenI rfl ty26) ?_
  refine Go.Sx.V rfl wu rfl rfl (mv rfl) ?_
  refine Go.Sx.V rfl wu rfl rfl (lenI rfl ty26) ?_
  refine Go.Sx.V rfl wu rfl rfl (neqI rfl rfl) ?_
  refine wr_nil (post_thenN ?_)
  refine wc_cond rfl ?_ ?_
  · intro h
    simp at h
    have h' : ¬ a.length = b.length := by omega
    refine wc_seq ?_
    refine wc_region [0,1] rfl ?_
    refine Go.Sx.V rfl wu rfl rfl (asg rfl) ?_
    refine Go.Sx.V rfl wu rfl rfl (asg rfl) ?_
    refine wr_nil (post_thenN (wc_ret (post_thenR ?_)))
    refine post_ret2 rfl rfl rfl ?_
    exact ⟨hE, _, by rw [pwA, if_neg h'], by rw [pwA, if_neg h']; exact Ints.nil _⟩
  · intro h
    simp at h
    have h' : a.length = b.length := by omega
    refine wc_skip (post_thenN (wc_seq ?_))
    refine wc_region [0,1,2,3] rfl ?_
    refine Go.Sx.V rfl wu rfl rfl (mv rfl) ?_
    refine Go.Sx.V rfl wu rfl rfl (lenI rfl ty26) ?_
    refine MKI (n := a.length) rfl wu rfl rfl ty26 ?_
    intro out w2 hE2 ho hi hob
    refine Go.Sx.V rfl wu rfl rfl (asg rfl) ?_
    refine wr_nil (post_thenN (wc_seq (wc_seq ?_)))
    refine wc_region [0] rfl ?_
    refine Go.Sx.V rfl wu rfl rfl (asg rfl) ?_
    refine wr_nil (post_thenN (wc_block ?_))
    rw [← upd_zero' a.length (fun t => ((fun x y => x + -y) (kt P a t) (kt P b t)).1) (fun _ => 0)] at ho
    have hsz := hE.size
    refine wc_loop (fun i : Int => [(1, u), (2, v), (3, .pointer (some ⟨fb, 0, none⟩)), (8, out), (9, .int .i64 i)])
      (fun i w' => 0 ≤ i ∧ i ≤ a.length ∧ Ext w w' ∧ Ext w1 w' ∧ OwnI w1.heap.size w' out 3 (upd a.length (fun t => ((fun x y => x + -y) (kt P a t) (kt P b t)).1) (fun _ => 0) i)) (fun i => (a.length - i).toNat) 0 ⟨rfl, rfl, rfl, rfl, rfl, trivial⟩ ⟨by omega, by omega, hE.trans hE2, hE2, ho⟩ ?_
    clear hE hE2 ho hi
    rintro i w3 ⟨i0, i1, hE, hE1, ho⟩
    have hui := hu.ext hE
    have hvi := hv.ext hE
    have hBi := hB.ext hE1
    have hul := upd_length a.length (fun t => ((fun x y => x + -y) (kt P a t) (kt P b t)).1) (fun _ => 0) i
    try dsimp only
    refine wc_seq (wc_seq ?_)
    refine wc_region [0,1,2,3] rfl ?_
    refine Go.Sx.V rfl wu rfl rfl (mv rfl) ?_
    refine Go.Sx.V rfl wu rfl rfl (mv rfl) ?_
    refine Go.Sx.V rfl wu rfl rfl (lenI rfl ty26) ?_
    refine Go.Sx.V rfl wu rfl rfl (lssI rfl rfl) ?_
    refine wr_nil (post_thenN ?_)
    refine wc_cond rfl ?_ ?_
    · intro hi
      simp at hi
      refine wc_skip (post_thenN (wc_seq (wc_block ?_)))
      refine wc_draw mixed [0,1,2,3,4,5,6,7,8,9,10,11,12,13] (by kernel_rfl) ?_
      intro w4 hd4 _
      replace hE := hE.trans hd4
      replace hE1 := hE1.trans hd4
      replace ho := ho.ext hd4
      replace hui := hui.ext hd4
      replace hvi := hvi.ext hd4
      replace hBi := hBi.ext hd4
      refine Go.Sx.V rfl wu rfl rfl (mv rfl) ?_
      refine Go.Sx.V rfl wu rfl rfl (mv rfl) ?_
      refine Go.Sx.V rfl wu rfl rfl (ldA rfl ag40) ?_
      refine Go.Sx.V rfl wu rfl rfl (mv rfl) ?_
      refine Go.Sx.V rfl wu rfl rfl (mv rfl) ?_
      refine Go.Sx.V rfl wu rfl rfl (iadI rfl rfl ty26) ?_
      refine Go.Sx.V rfl wu rfl rfl (ldI rfl na3) ?_
      refine Go.Sx.V rfl wu rfl rfl (mv rfl) ?_
      refine Go.Sx.V rfl wu rfl rfl (mv rfl) ?_
      refine Go.Sx.V rfl wu rfl rfl (iadI rfl rfl ty26) ?_
      refine Go.Sx.V rfl wu rfl rfl (ldI rfl na3) ?_
      refine C rfl wu rfl rfl Try.call64 (rSub P mo md _ _ _ (hF.ext hE)) ?_
      rintro _ w5 hE5 rfl
      replace hE := hE.trans hE5
      replace hE1 := hE1.trans hE5
      replace ho := Own.ext ho hE5
      have hoi := OwnI.ints ho
      refine Go.Sx.V rfl wu rfl rfl (iadI rfl rfl ty26) ?_
      refine STI rfl wu rfl rfl sz3 (by intro h; kernel_rfl) ?_
      intro w6 hg6 hX6 ho6 hi6
      refine wr_nil (post_blockN (post_thenN ?_))
      have hst := upd_step (m := a.length) (f := fun t => ((fun x y => x + -y) (kt P a t) (kt P b t)).1) (g := fun _ => 0) (i := i) i0
      have ho7 : OwnI w1.heap.size w6 out 3 (upd a.length (fun t => ((fun x y => x + -y) (kt P a t) (kt P b t)).1) (fun _ => 0) (i + 1)) := by rw [← hst]; exact ho6
      refine wc_region [0,1,2] rfl ?_
      refine Go.Sx.V rfl wu rfl rfl (mv rfl) ?_
      refine Go.Sx.V rfl wu rfl rfl (addI rfl rfl) ?_
      refine Go.Sx.V rfl wu rfl rfl (asg rfl) ?_
      refine wr_nil ?_
      exact post_loopN (i + 1) ⟨rfl, rfl, rfl, rfl, rfl, trivial⟩ ⟨by omega, by omega, hX6 _ hsz hE, hX6 _ (Nat.le_refl _) hE1, ho7⟩ (by omega)
    · intro hi
      simp at hi
      refine wc_exit (post_thenE (post_loopE (post_blockX (post_thenN (wc_seq ?_)))))
      rw [upd_last _ _ _ (by omega)] at ho
      refine wc_region [0,1,2] rfl ?_
      refine Go.Sx.V rfl wu rfl rfl (mv rfl) ?_
      refine Go.Sx.V rfl wu rfl rfl (asg rfl) ?_
      refine Go.Sx.V rfl wu rfl rfl (asg rfl) ?_
      refine wr_nil (post_thenN (wc_ret ?_))
      refine post_ret2 rfl rfl rfl ?_
      refine ⟨hE, _, by rw [pwA, if_pos h'], ?_⟩
      rw [pwA, if_pos h']
      exact OwnI.ints ho

def innA (P : FP) (a b : List Int) : Int × Int := if a.length = b.length then ((dotK P a b).1, 0) else (0, 4)
theorem r11Inner (P : FP) (mo : Value) (md : List Int) (u v : Value) (a b : List Int) (w : World) (hF : FV w P mo md) (hu : Ints w u a) (hv : Ints w v b) :
    Calls Try.prog 44 #[fv P mo, u, v] w (RetX w fun r _ => r = .tuple #[.int .i64 (innA P a b).1, .int .i64 (innA P a b).2]) := by
  have hla := hu.le
  have hlb := hv.le
  refine calls3 Try.func44 rfl rfl ?_
  refine wc_seq ?_
  refine wc_region [0,1,2] rfl ?_
  refine BXA rfl wu rfl rfl ?_
  intro fb w1 hE hB hg
  refine Go.Sx.V rfl wu rfl rfl (asg rfl) ?_
  refine Go.Sx.V rfl wu rfl rfl (asg rfl) ?_
  refine wr_nil (post_thenN (wc_seq (wc_seq ?_)))
  refine wc_region [0,1,2,3,4] rfl ?_
  refine Go.Sx.V rfl wu rfl rfl (mv rfl) ?_
  refine Go.Sx.V rfl wu rfl rfl (lenI rfl ty26) ?_
  refine Go.Sx.V rfl wu rfl rfl (mv rfl) ?_
  refine Go.Sx.V rfl wu rfl rfl (lenI rfl ty26) ?_
  refine Go.Sx.V rfl wu rfl rfl (neqI rfl rfl) ?_
  refine wr_nil (post_thenN ?_)
  refine wc_cond rfl ?_ ?_
  · intro h
    simp at h
    refine wc_seq ?_
    refine wc_region [0,1] rfl ?_
    refine Go.Sx.V rfl wu rfl rfl (asg rfl) ?_
    refine Go.Sx.V rfl wu rfl rfl (asg rfl) ?_
    refine wr_nil (post_thenN (wc_ret (post_thenR ?_)))
    refine post_ret2 rfl rfl rfl ?_
    exact ⟨hE, by rw [innA, if_neg (by omega)]⟩
  · intro h
    simp at h
    refine wc_skip (post_thenN (wc_seq ?_))
    refine wc_region [0,1,2,3,4,5] rfl ?_
    refine Go.Sx.V rfl wu rfl rfl (ldA rfl ag40) ?_
    refine Go.Sx.V rfl wu rfl rfl (mv rfl) ?_
    refine Go.Sx.V rfl wu rfl rfl (mv rfl) ?_
    refine C rfl wu rfl rfl Try.call69 (rDot P mo md u v a b _ (hF.ext hE) (hu.ext hE) (hv.ext hE)) ?_
    rintro _ w2 hE2 rfl
    refine Go.Sx.V rfl wu rfl rfl (asg rfl) ?_
    refine Go.Sx.V rfl wu rfl rfl (asg rfl) ?_
    refine wr_nil (post_thenN (wc_ret ?_))
    refine post_ret2 rfl rfl rfl ?_
    exact ⟨hE.trans hE2, by rw [innA, if_pos (by omega)]⟩

def dstA (P : FP) (a b : List Int) : Int × Int := if a.length = b.length then (dst P a b, 0) else (0, 4)
theorem dst_clean {P : FP} {a b : List Int} {t : Nat} (ha : t < a.length) (hb : t < b.length) : decide (gi (clean P a) t ≠ gi (clean P b) t) = decide (kt P a t ≠ kt P b t) := by
  rw [clean_get (i := t) (by omega) (by omega), clean_get (i := t) (by omega) (by omega), decide_eq_decide]
  exact not_congr ⟨fun h => Subtype.ext h, fun h => by rw [Int.toNat_natCast, h]⟩
set_option maxRecDepth 10000 in
theorem r11Distance (P : FP) (mo : Value) (md : List Int) (u v : Value) (a b : List Int) (w : World) (hF : FV w P mo md) (hu : Ints w u a) (hv : Ints w v b) (hn : a.length ≤ 17592186044416) :
    Calls Try.prog 51 #[fv P mo, u, v] w (RetX w fun r _ => r = .tuple #[.int .i64 (dstA P a b).1, .int .i64 (dstA P a b).2]) := by
  have hla := hu.le
  have hlb := hv.le
  refine calls3 Try.func51 rfl rfl ?_
  refine wc_seq ?_
  refine wc_region [0,1,2] rfl ?_
  refine BXA rfl wu rfl rfl ?_
  intro fb w1 hE hB hg
  refine Go.Sx.V rfl wu rfl rfl (asg rfl) ?_
  refine Go.Sx.V rfl wu rfl rfl (asg rfl) ?_
  refine wr_nil (post_thenN (wc_seq (wc_seq ?_)))
  refine wc_region [0,1,2,3,4] rfl ?_
  refine Go.Sx.V rfl wu rfl rfl (mv rfl) ?_
  refine Go.Sx.V rfl wu rfl rfl (lenI rfl ty26) ?_
  refine Go.Sx.V rfl wu rfl rfl (mv rfl) ?_
  refine Go.Sx.V rfl wu rfl rfl (lenI rfl ty26) ?_
  refine Go.Sx.V rfl wu rfl rfl (neqI rfl rfl) ?_
  refine wr_nil (post_thenN ?_)
  refine wc_cond rfl ?_ ?_
  · intro h
    simp at h
    refine wc_seq ?_
    refine wc_region [0,1] rfl ?_
    refine Go.Sx.V rfl wu rfl rfl (asg rfl) ?_
    refine Go.Sx.V rfl wu rfl rfl (asg rfl) ?_
    refine wr_nil (post_thenN (wc_ret (post_thenR ?_)))
    refine post_ret2 rfl rfl rfl ?_
    exact ⟨hE, by rw [dstA, if_neg (by omega)]⟩
  · intro h
    simp at h
    refine wc_skip (post_thenN (wc_seq ?_))
    refine wc_region [0,1,2,3] rfl ?_
    refine Go.Sx.V rfl wu rfl rfl (ldA rfl ag40) ?_
    refine Go.Sx.V rfl wu rfl rfl (mv rfl) ?_
    refine C rfl wu rfl rfl Try.call31 (rClean P mo md u a _ (hF.ext hE) (hu.ext hE) hn) ?_
    rintro c w2 hE2 hc
    replace hE := hE.trans hE2
    replace hB := hB.ext hE2
    refine Go.Sx.V rfl wu rfl rfl (asg rfl) ?_
    refine wr_nil (post_thenN (wc_seq ?_))
    refine wc_region [0,1,2,3] rfl ?_
    refine Go.Sx.V rfl wu rfl rfl (ldA rfl ag40) ?_
    refine Go.Sx.V rfl wu rfl rfl (mv rfl) ?_
    refine C rfl wu rfl rfl Try.call31 (rClean P mo md v b _ (hF.ext hE) (hv.ext hE) (by omega)) ?_
    rintro d w3 hE3 hd
    replace hE := hE.trans hE3
    replace hc := hc.ext hE3
    refine Go.Sx.V rfl wu rfl rfl (asg rfl) ?_
    refine wr_nil (post_thenN (wc_seq ?_))
    refine wc_region [0] rfl ?_
    refine Go.Sx.V rfl wu rfl rfl (asg rfl) ?_
    refine wr_nil (post_thenN (wc_seq (wc_seq ?_)))
    refine wc_region [0] rfl ?_
    refine Go.Sx.V rfl wu rfl rfl (asg rfl) ?_
    refine wr_nil (post_thenN (wc_block ?_))
    have hcl := clean_length (P := P) a
    have hdl := clean_length (P := P) b
    refine wc_loop (fun i : Int => [(8, c), (9, d), (10, .int .i64 (cnt (fun t => decide (kt P a t ≠ kt P b t)) i.toNat)), (11, .int .i64 i)])
      (fun i w' => 0 ≤ i ∧ i ≤ a.length ∧ Ext w3 w') (fun i => (a.length - i).toNat) 0 ⟨rfl, rfl, rfl, rfl, trivial⟩ ⟨by omega, by omega, Ext.refl _⟩ ?_
    rintro i w4 ⟨i0, i1, hE4⟩
    have hci := hc.ext hE4
    have hdi := hd.ext hE4
    have hcn := cnt_le (fun t => decide (kt P a t ≠ kt P b t)) i.toNat
    try dsimp only
    refine wc_seq (wc_seq ?_)
    refine wc_region [0,1,2,3] rfl ?_
    refine Go.Sx.V rfl wu rfl rfl (mv rfl) ?_
    refine Go.Sx.V rfl wu rfl rfl (mv rfl) ?_
    refine Go.Sx.V rfl wu rfl rfl (lenI rfl ty26) ?_
    refine Go.Sx.V rfl wu rfl rfl (lssI rfl rfl) ?_
    refine wr_nil (post_thenN ?_)
    refine wc_cond rfl ?_ ?_
    · intro hi
      simp at hi
      have hcs : cnt (fun t => decide (kt P a t ≠ kt P b t)) (i + 1).toNat = cnt (fun t => decide (kt P a t ≠ kt P b t)) i.toNat + if decide (kt P a i.toNat ≠ kt P b i.toNat) then 1 else 0 := by rw [show (i + 1).toNat = i.toNat + 1 by omega]; rfl
      have hdc := dst_clean (P := P) (a := a) (b := b) (t := i.toNat) (by omega) (by omega)
      rw [show ((i.toNat : Nat) : Int) = i by omega] at hdc
      refine wc_skip (post_thenN (wc_seq (wc_block (wc_seq ?_))))
      refine wc_draw mixed [0,1,2,3,4,5,6,7,8] (by kernel_rfl) ?_
      intro w5 hd5 _
      replace hE4 := hE4.trans hd5
      replace hci := hci.ext hd5
      replace hdi := hdi.ext hd5
      refine Go.Sx.V rfl wu rfl rfl (mv rfl) ?_
      refine Go.Sx.V rfl wu rfl rfl (mv rfl) ?_
      refine Go.Sx.V rfl wu rfl rfl (iadI rfl rfl ty26) ?_
      refine Go.Sx.V rfl wu rfl rfl (ldI rfl na3) ?_
      refine Go.Sx.V rfl wu rfl rfl (mv rfl) ?_
      refine Go.Sx.V rfl wu rfl rfl (mv rfl) ?_
      refine Go.Sx.V rfl wu rfl rfl (iadI rfl rfl ty26) ?_
      refine Go.Sx.V rfl wu rfl rfl (ldI rfl na3) ?_
      refine Go.Sx.V rfl wu rfl rfl (neqI rfl rfl) ?_
      refine wr_nil (post_thenN ?_)
      rw [hdc]
      refine wc_cond rfl ?_ ?_
      · intro hp
        rw [hp, if_pos rfl] at hcs
        refine wc_region [0,1,2] rfl ?_
        refine Go.Sx.V rfl wu rfl rfl (mv rfl) ?_
        refine Go.Sx.V rfl wu rfl rfl (addI rfl rfl) ?_
        refine Go.Sx.V rfl wu rfl rfl (asg rfl) ?_
        refine wr_nil (post_blockN (post_thenN ?_))
        refine wc_region [0,1,2] rfl ?_
        refine Go.Sx.V rfl wu rfl rfl (mv rfl) ?_
        refine Go.Sx.V rfl wu rfl rfl (addI rfl rfl) ?_
        refine Go.Sx.V rfl wu rfl rfl (asg rfl) ?_
        refine wr_nil ?_
        exact post_loopN (i + 1) ⟨rfl, rfl, by rw [hcs]; rfl, rfl, trivial⟩ ⟨by omega, by omega, hE4⟩ (by omega)
      · intro hp
        rw [hp, if_neg (by simp)] at hcs
        refine wc_skip (post_blockN (post_thenN ?_))
        refine wc_region [0,1,2] rfl ?_
        refine Go.Sx.V rfl wu rfl rfl (mv rfl) ?_
        refine Go.Sx.V rfl wu rfl rfl (addI rfl rfl) ?_
        refine Go.Sx.V rfl wu rfl rfl (asg rfl) ?_
        refine wr_nil ?_
        exact post_loopN (i + 1) ⟨rfl, rfl, by rw [hcs]; rfl, rfl, trivial⟩ ⟨by omega, by omega, hE4⟩ (by omega)
    · intro hi
      simp at hi
      refine wc_exit (post_thenE (post_loopE (post_blockX (post_thenN (wc_seq ?_)))))
      refine wc_region [0,1,2] rfl ?_
      refine Go.Sx.V rfl wu rfl rfl (mv rfl) ?_
      refine Go.Sx.V rfl wu rfl rfl (asg rfl) ?_
      refine Go.Sx.V rfl wu rfl rfl (asg rfl) ?_
      refine wr_nil (post_thenN (wc_ret ?_))
      refine post_ret2 rfl rfl rfl ?_
      exact ⟨hE.trans hE4, by rw [dstA, if_pos (by omega), show i.toNat = a.length by omega]; rfl⟩
end Go.Proofs.Ytlcokneidokfnaa
