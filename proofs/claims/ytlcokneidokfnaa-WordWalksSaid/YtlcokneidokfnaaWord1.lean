/-
  The program's words over a field, by contract: Clean, Support, Weight, pairwise, Add, Sub, Inner, Distance.
-/
import Derived.Test.YtlcokneidokfnaaGF1
import Derived.Test.YtlcokneidokfnaaWordP
namespace Go.Proofs.Ytlcokneidokfnaa
open Go Go.Sx Go.Pl Go.RowKit Go.Fd Go.Alg

theorem own_ne' {B B' : Nat} {w w' : World} {u v : Value} {E E' : TypeId} {xs ys : List Value} (ha : Own B w v E xs) (hb : Own B' w' u E' ys) (hs : w.heap.size ≤ B') (hu : ∃ k, u.ownBlock = some k) : u.ownBlock ≠ v.ownBlock := fun e => by
  obtain ⟨k, hk⟩ := hu
  have h1 := hb.lt k hk
  have h2 := ha.lt k (by rw [← e]; exact hk)
  omega

set_option maxRecDepth 10000 in
theorem wClean (P : FP) (g u : Value) (l : List Int) (w : World) (hG : GFV w P g) (hu : Ints w u l) (hn : l.length ≤ 17592186044416) :
    Calls Try.prog 30 #[g, u] w (RetX w fun v w' => OwnI w.heap.size w' v 3 (clean P l) ∧ v.ownBlock = some w.heap.size) := by
  have hle := hu.le
  refine calls2 Try.func30 rfl rfl ?_
  refine wc_seq ?_
  refine wc_region [0] rfl ?_
  refine Go.Sx.V rfl wu rfl rfl (asg rfl) ?_
  refine wr_nil (post_thenN (wc_seq ?_))
  refine wc_region [0,1,2,3] rfl ?_
  refine Go.Sx.V rfl wu rfl rfl (mv rfl) ?_
  refine Go.Sx.V rfl wu rfl rfl (lenI rfl ty26) ?_
  refine MKI (n := l.length) rfl wu rfl rfl ty26 ?_
  intro out w1 hE ho hi hob
  refine Go.Sx.V rfl wu rfl rfl (asg rfl) ?_
  refine wr_nil (post_thenN (wc_seq (wc_seq ?_)))
  refine wc_region [0,1,2] rfl ?_
  refine Go.Sx.V rfl wu rfl rfl (mv rfl) ?_
  refine Go.Sx.V rfl wu rfl rfl (lenI rfl ty26) ?_
  refine Go.Sx.V rfl wu rfl rfl (mv rfl) ?_
  refine wr_nil (post_thenN (wc_block ?_))
  rw [← upd_zero' l.length (fun t => (kt P l t).1) (fun _ => 0)] at ho
  refine wc_loop (fun i : Int => [(0, g), (5, out), (11, u), (12, .int .i64 l.length), (13, .int .i64 i)])
    (fun i w' => 0 ≤ i ∧ i ≤ l.length ∧ Ext w w' ∧ OwnI w.heap.size w' out 3 (upd l.length (fun t => (kt P l t).1) (fun _ => 0) i)) (fun i => (l.length - i).toNat) 0 ⟨rfl, rfl, rfl, rfl, rfl, trivial⟩ ⟨by omega, by omega, hE, ho⟩ ?_
  clear hE ho hi
  rintro i w1 ⟨i0, i1, hE, ho⟩
  have hul := upd_length l.length (fun t => (kt P l t).1) (fun _ => 0) i
  have hul' := hu.ext hE
  have hoi := OwnI.ints ho
  try dsimp only
  refine wc_seq ?_
  refine wc_region [0] rfl ?_
  refine Go.Sx.V rfl wu rfl rfl (lssI rfl rfl) ?_
  refine wr_nil (post_thenN (wc_seq ?_))
  refine wc_cond rfl ?_ ?_
  · intro hc
    simp at hc
    refine wc_skip (post_thenN (wc_seq (wc_block (wc_seq ?_))))
    refine wc_region [0,1,2,3,4] rfl ?_
    refine Go.Sx.V rfl wu rfl rfl (mv rfl) ?_
    refine Go.Sx.V rfl wu rfl rfl (iadI rfl rfl ty26) ?_
    refine Go.Sx.V rfl wu rfl rfl (ldI rfl na3) ?_
    refine Go.Sx.V rfl wu rfl rfl (asg rfl) ?_
    refine Go.Sx.V rfl wu rfl rfl (asg rfl) ?_
    refine wr_nil (post_thenN (wc_seq ?_))
    refine wc_region [0,1,2] rfl ?_
    refine Go.Sx.V rfl wu rfl rfl (mv rfl) ?_
    refine Go.Sx.V rfl wu rfl rfl (mv rfl) ?_
    refine C rfl wu rfl rfl Try.call60 (gIs P g (gi l i) _ (hG.ext hE)) ?_
    rintro _ w2 hE2 rfl
    replace hE := hE.trans hE2
    replace ho := Own.ext ho hE2
    refine wr_nil (post_thenN ?_)
    refine wc_cond rfl ?_ ?_
    · intro hs
      simp at hs
      have e : gi l i = (kt P l i.toNat).1 := by rw [← kt_gi, inK_in hs]
      refine wc_region [0,1,2,3,4] rfl ?_
      refine Go.Sx.V rfl wu rfl rfl (mv rfl) ?_
      refine Go.Sx.V rfl wu rfl rfl (mv rfl) ?_
      refine Go.Sx.V rfl wu rfl rfl (mv rfl) ?_
      refine Go.Sx.V rfl wu rfl rfl (iadI rfl rfl ty26) ?_
      refine STI rfl wu rfl rfl sz3 (by intro h; cases h) ?_
      intro w3 hg3 hX3 ho3 hi3
      refine wr_nil (post_blockN (post_thenN ?_))
      rw [e, upd_step (f := fun t => (kt P l t).1) i0] at ho3
      refine wc_region [0,1] rfl ?_
      refine Go.Sx.V rfl wu rfl rfl (addI rfl rfl) ?_
      refine Go.Sx.V rfl wu rfl rfl (mv rfl) ?_
      refine wr_nil ?_
      exact post_loopN (i + 1) ⟨rfl, rfl, rfl, rfl, rfl, trivial⟩ ⟨by omega, by omega, hX3 _ (Nat.le_refl _) hE, ho3⟩ (by omega)
    · intro hs
      simp at hs
      refine wc_skip (post_blockN (post_thenN ?_))
      have e : (kt P l i.toNat).1 = 0 := by rw [← kt_gi, inK_out (by omega)]; rfl
      rw [upd_skip i0 e] at ho
      refine wc_region [0,1] rfl ?_
      refine Go.Sx.V rfl wu rfl rfl (addI rfl rfl) ?_
      refine Go.Sx.V rfl wu rfl rfl (mv rfl) ?_
      refine wr_nil ?_
      exact post_loopN (i + 1) ⟨rfl, rfl, rfl, rfl, rfl, trivial⟩ ⟨by omega, by omega, hE, ho⟩ (by omega)
  · intro hc
    simp at hc
    refine wc_exit (post_thenE (post_loopE (post_blockX (post_thenN (wc_seq ?_)))))
    refine wc_region [0,1] rfl ?_
    refine Go.Sx.V rfl wu rfl rfl (mv rfl) ?_
    refine Go.Sx.V rfl wu rfl rfl (asg rfl) ?_
    refine wr_nil (post_thenN (wc_ret ?_))
    refine post_ret1 rfl rfl ?_
    rw [upd_last _ _ _ (by omega)] at ho
    exact ⟨hE, ho, hob⟩

set_option maxRecDepth 10000 in
theorem wSupport (P : FP) (g u : Value) (l : List Int) (w : World) (hG : GFV w P g) (hu : Ints w u l) (hn : l.length ≤ 17592186044416) :
    Calls Try.prog 32 #[g, u] w (RetX w fun v w' => Ints w' v (sup P l)) := by
  have hle := hu.le
  refine calls2 Try.func32 rfl rfl ?_
  refine wc_seq ?_
  refine wc_region [0] rfl ?_
  refine Go.Sx.V rfl wu rfl rfl (asg rfl) ?_
  refine wr_nil (post_thenN (wc_seq ?_))
  refine wc_region [0] rfl ?_
  refine Go.Sx.V rfl wu rfl rfl (asg rfl) ?_
  refine wr_nil (post_thenN (wc_seq (wc_seq ?_)))
  refine wc_region [0,1,2,3,4] rfl ?_
  refine Go.Sx.V rfl wu rfl rfl (mv rfl) ?_
  refine Go.Sx.V rfl wu rfl rfl (mv rfl) ?_
  refine C rfl wu rfl rfl Try.call30 (wClean P g u l _ hG hu hn) ?_
  rintro c w1 hE ⟨hc, hcb⟩
  have hci := OwnI.ints hc
  refine Go.Sx.V rfl wu rfl rfl (lenI rfl ty26) ?_
  refine Go.Sx.V rfl wu rfl rfl (mv rfl) ?_
  refine wr_nil (post_thenN (wc_block ?_))
  rw [clean_length]
  have hcl := clean_length (P := P) l
  have hsz := hE.size
  refine wc_loop (fun q : Int × Value => [(0, g), (5, q.2), (10, c), (11, .int .i64 l.length), (12, .int .i64 q.1)])
    (fun q w' => 0 ≤ q.1 ∧ q.1 ≤ l.length ∧ Ext w w' ∧ Ext w1 w' ∧ OwnI w1.heap.size w' q.2 3 (supN (clean P l) q.1.toNat)) (fun q => (l.length - q.1).toNat) (0, .slice none 0 0) ⟨rfl, rfl, rfl, rfl, rfl, trivial⟩ ⟨Int.le_refl _, by show (0 : Int) ≤ l.length; omega, hE, Ext.refl _, Own.nil _ _ _⟩ ?_
  clear hE hc
  rintro ⟨i, out⟩ w2 ⟨i0, i1, hE, hE1, ho⟩
  dsimp only at i0 i1 hE hE1 ho
  have hci2 := hci.ext hE1
  have hsl : (supN (clean P l) i.toNat).length ≤ i.toNat := by rw [supN_length]; exact cnt_le _ _
  try dsimp only
  refine wc_seq ?_
  refine wc_region [0] rfl ?_
  refine Go.Sx.V rfl wu rfl rfl (lssI rfl rfl) ?_
  refine wr_nil (post_thenN (wc_seq ?_))
  refine wc_cond rfl ?_ ?_
  · intro hc
    simp at hc
    refine wc_skip (post_thenN (wc_seq (wc_block (wc_seq ?_))))
    refine wc_region [0,1,2,3,4] rfl ?_
    refine Go.Sx.V rfl wu rfl rfl (mv rfl) ?_
    refine Go.Sx.V rfl wu rfl rfl (iadI rfl rfl ty26) ?_
    refine Go.Sx.V rfl wu rfl rfl (ldI rfl na3) ?_
    refine Go.Sx.V rfl wu rfl rfl (asg rfl) ?_
    refine Go.Sx.V rfl wu rfl rfl (asg rfl) ?_
    refine wr_nil (post_thenN (wc_seq ?_))
    refine wc_region [0,1] rfl ?_
    refine Go.Sx.V rfl wu rfl rfl (mv rfl) ?_
    refine Go.Sx.V rfl wu rfl rfl (neqI rfl rfl) ?_
    refine wr_nil (post_thenN ?_)
    refine wc_cond rfl ?_ ?_
    · intro hs
      simp at hs
      refine wc_region [0,1,2,3,4] rfl ?_
      refine Go.Sx.V rfl wu rfl rfl (mv rfl) ?_
      refine Go.Sx.V rfl wu rfl rfl (mv rfl) ?_
      refine BSI (zs := [i]) rfl wu rfl rfl rfl rfl ty26 ?_
      intro v1 w3 hE3 ho3 hi3 hb3
      replace ho := Own.ext ho hE3
      replace hE := hE.trans hE3
      replace hE1 := hE1.trans hE3
      clear ho3
      refine API rfl wu rfl rfl rfl ty26 (by intro h h2; cases h) ?_ (ho := ho)
      intro out' w4 hg4 hX4 ho4 hi4 hb4
      refine Go.Sx.V rfl wu rfl rfl (asg rfl) ?_
      refine wr_nil (post_blockN (post_thenN ?_))
      refine wc_region [0,1] rfl ?_
      refine Go.Sx.V rfl wu rfl rfl (addI rfl rfl) ?_
      refine Go.Sx.V rfl wu rfl rfl (mv rfl) ?_
      refine wr_nil ?_
      refine post_loopN (i + 1, out') ⟨rfl, rfl, rfl, rfl, rfl, trivial⟩ ⟨by show 0 ≤ i + 1; omega, by show i + 1 ≤ _; omega, hX4 _ hsz hE, hX4 _ (Nat.le_refl _) hE1, ?_⟩ (by show (l.length - (i + 1)).toNat < (l.length - i).toNat; omega)
      show OwnI _ _ _ _ (supN _ (i + 1).toNat)
      rw [supN_succ _ i0, if_neg hs]
      exact ho4
    · intro hs
      simp at hs
      refine wc_skip (post_blockN (post_thenN ?_))
      refine wc_region [0,1] rfl ?_
      refine Go.Sx.V rfl wu rfl rfl (addI rfl rfl) ?_
      refine Go.Sx.V rfl wu rfl rfl (mv rfl) ?_
      refine wr_nil ?_
      refine post_loopN (i + 1, out) ⟨rfl, rfl, rfl, rfl, rfl, trivial⟩ ⟨by show 0 ≤ i + 1; omega, by show i + 1 ≤ _; omega, hE, hE1, ?_⟩ (by show (l.length - (i + 1)).toNat < (l.length - i).toNat; omega)
      show OwnI _ _ _ _ (supN _ (i + 1).toNat)
      rw [supN_succ _ i0, if_pos hs]
      exact ho
  · intro hc
    simp at hc
    refine wc_exit (post_thenE (post_loopE (post_blockX (post_thenN (wc_seq ?_)))))
    refine wc_region [0,1] rfl ?_
    refine Go.Sx.V rfl wu rfl rfl (mv rfl) ?_
    refine Go.Sx.V rfl wu rfl rfl (asg rfl) ?_
    refine wr_nil (post_thenN (wc_ret ?_))
    refine post_ret1 rfl rfl ?_
    rw [show i.toNat = l.length by omega] at ho
    exact ⟨hE, OwnI.ints ho⟩

theorem wWeight (P : FP) (g u : Value) (l : List Int) (w : World) (hG : GFV w P g) (hu : Ints w u l) (hn : l.length ≤ 17592186044416) :
    Calls Try.prog 34 #[g, u] w (RetX w fun v _ => v = .int .i64 (wgt P l)) := by
  refine calls2 Try.func34 rfl rfl ?_
  refine wc_seq ?_
  refine wc_region [0] rfl ?_
  refine Go.Sx.V rfl wu rfl rfl (asg rfl) ?_
  refine wr_nil (post_thenN (wc_seq ?_))
  refine wc_region [0,1,2,3,4] rfl ?_
  refine Go.Sx.V rfl wu rfl rfl (mv rfl) ?_
  refine Go.Sx.V rfl wu rfl rfl (mv rfl) ?_
  refine C rfl wu rfl rfl Try.call32 (wSupport P g u l _ hG hu hn) ?_
  rintro c w1 hE hc
  refine Go.Sx.V rfl wu rfl rfl (lenI rfl ty26) ?_
  refine Go.Sx.V rfl wu rfl rfl (asg rfl) ?_
  refine wr_nil (post_thenN (wc_ret ?_))
  refine post_ret1 rfl rfl ?_
  exact ⟨hE, by rw [sup_length]⟩

set_option maxRecDepth 10000 in
theorem wPair (P : FP) (g u v : Value) (a b : List Int) (F : FuncId) (f : K P → K P → K P) (w : World) (hG : GFV w P g) (hu : Ints w u a) (hv : Ints w v b) (hn : a.length ≤ 17592186044416)
    (hcall : ∀ args w, (callFunc F args).run Try.prog w = .ok (.enter F args) w)
    (hf : ∀ x y w', GFV w' P g → Calls Try.prog F #[g, .int .i64 x, .int .i64 y] w' (RetX w' fun v _ => v = .int .i64 (f (inK P x) (inK P y)).1)) :
    Calls Try.prog 61 #[g, u, v, .func (.func F) #[g] #[]] w (RetX w fun r w' => ∃ s, r = .tuple #[s, .int .i64 (pwA P f a b).2] ∧ Ints w' s (pwA P f a b).1) := by
  have hla := hu.le
  have hlb := hv.le
  refine calls4 Try.func61 rfl rfl ?_
  refine wc_seq ?_
  refine wc_region [0,1] rfl ?_
  refine Go.Sx.V rfl wu rfl rfl (asg rfl) ?_
  refine Go.Sx.V rfl wu rfl rfl (asg rfl) ?_
  refine wr_nil (post_thenN (wc_seq (wc_seq ?_)))
  refine wc_region [0,1,2,3,4] rfl ?_
  refine Go.Sx.V rfl wu rfl rfl (mv rfl) ?_
  refine Go.Sx.V rfl wu rfl rfl (lenI rfl ty26) ?_
  refine Go.Sx.V rfl wu rfl rfl (mv rfl) ?_
  refine Go.Sx.V rfl wu rfl rfl (lenI rfl ty26) ?_
  refine Go.Sx.V rfl wu rfl rfl (neqI rfl rfl) ?_
  refine wr_nil (post_thenN ?_)
  refine wc_cond rfl ?_ ?_
  · intro h
    simp at h
    have h' : ¬ a.length = b.length := by omega
    refine wc_seq ?_
    refine wc_region [0,1] rfl ?_
    refine Go.Sx.V rfl wu rfl rfl (asg rfl) ?_
    refine Go.Sx.V rfl wu rfl rfl (asg rfl) ?_
    refine wr_nil (post_thenN (wc_ret (post_thenR ?_)))
    refine post_ret2 rfl rfl rfl ?_
    exact ⟨Ext.refl _, _, by rw [pwA, if_neg h'], by rw [pwA, if_neg h']; exact Ints.nil _⟩
  · intro h
    simp at h
    have h' : a.length = b.length := by omega
    refine wc_skip (post_thenN (wc_seq ?_))
    refine wc_region [0,1,2,3,4,5,6,7] rfl ?_
    refine Go.Sx.V rfl wu rfl rfl (mv rfl) ?_
    refine Go.Sx.V rfl wu rfl rfl (mv rfl) ?_
    refine C rfl wu rfl rfl Try.call30 (wClean P g u a _ hG hu hn) ?_
    rintro c w1 hE ⟨hc, hcb⟩
    refine Go.Sx.V rfl wu rfl rfl (mv rfl) ?_
    refine Go.Sx.V rfl wu rfl rfl (mv rfl) ?_
    refine C rfl wu rfl rfl Try.call30 (wClean P g v b _ (hG.ext hE) (hv.ext hE) (by omega)) ?_
    rintro d w2 hE2 ⟨hd, hdb⟩
    refine Go.Sx.V rfl wu rfl rfl (asg rfl) ?_
    refine Go.Sx.V rfl wu rfl rfl (asg rfl) ?_
    refine wr_nil (post_thenN (wc_seq (wc_seq ?_)))
    have hne := own_ne' hc hd (Nat.le_refl _) ⟨_, hdb⟩
    replace hc := Own.ext hc hE2
    replace hE := hE.trans hE2
    have hdi := OwnI.ints hd
    have hci := OwnI.ints hc
    refine wc_region [0,1,2] rfl ?_
    refine Go.Sx.V rfl wu rfl rfl (mv rfl) ?_
    refine Go.Sx.V rfl wu rfl rfl (lenI rfl ty26) ?_
    refine Go.Sx.V rfl wu rfl rfl (mv rfl) ?_
    refine wr_nil (post_thenN (wc_block ?_))
    have hcl := clean_length (P := P) a
    have hdl := clean_length (P := P) b
    rw [hcl]
    have hc : OwnI w.heap.size w2 c 3 (upd a.length (fun t => (f (kt P a t) (kt P b t)).1) (fun t => (kt P a t).1) 0) := by
      rw [upd_zero']
      exact hc
    refine wc_loop (fun i : Int => [(3, .func (.func F) #[g] #[]), (10, c), (11, d), (25, .int .i64 a.length), (26, .int .i64 i)])
      (fun i w' => 0 ≤ i ∧ i ≤ a.length ∧ Ext w w' ∧ Ints w' d (clean P b) ∧ OwnI w.heap.size w' c 3 (upd a.length (fun t => (f (kt P a t) (kt P b t)).1) (fun t => (kt P a t).1) i)) (fun i => (a.length - i).toNat) 0 ⟨rfl, rfl, rfl, rfl, rfl, trivial⟩ ⟨by omega, by omega, hE, hdi, hc⟩ ?_
    clear hE hE2 hc hd hdi hci
    rintro i w3 ⟨i0, i1, hE, hdi, hc⟩
    have hci := OwnI.ints hc
    have hul := upd_length a.length (fun t => (f (kt P a t) (kt P b t)).1) (fun t => (kt P a t).1) i
    try dsimp only
    refine wc_seq ?_
    refine wc_region [0] rfl ?_
    refine Go.Sx.V rfl wu rfl rfl (lssI rfl rfl) ?_
    refine wr_nil (post_thenN (wc_seq ?_))
    refine wc_cond rfl ?_ ?_
    · intro hi
      simp at hi
      refine wc_skip (post_thenN (wc_seq (wc_block (wc_seq ?_))))
      have g1 := upd_get (m := a.length) (f := fun t => (f (kt P a t) (kt P b t)).1) (g := fun t => (kt P a t).1) i0 hi
      have g2 := clean_get (P := P) (l := b) i0 (by omega)
      refine wc_region [0,1] rfl ?_
      refine Go.Sx.V rfl wu rfl rfl (mv rfl) ?_
      refine Go.Sx.V rfl wu rfl rfl (asg rfl) ?_
      refine wr_nil (post_thenN ?_)
      refine wc_draw mixed [0,1,2,3,4,5,6,7,8,9,10,11,12,13] (by kernel_rfl) ?_
      intro w4 hd4 _
      replace hE := hE.trans hd4
      replace hc := hc.ext hd4
      replace hci := hci.ext hd4
      replace hdi := hdi.ext hd4
      refine Go.Sx.V rfl wu rfl rfl (mv rfl) ?_
      refine Go.Sx.V rfl wu rfl rfl (mv rfl) ?_
      refine Go.Sx.V rfl wu rfl rfl (mv rfl) ?_
      refine Go.Sx.V rfl wu rfl rfl (mv rfl) ?_
      refine Go.Sx.V rfl wu rfl rfl (mv rfl) ?_
      refine Go.Sx.V rfl wu rfl rfl (iadI rfl rfl ty26) ?_
      refine Go.Sx.V rfl wu rfl rfl (ldI rfl na3) ?_
      refine Go.Sx.V rfl wu rfl rfl (mv rfl) ?_
      refine Go.Sx.V rfl wu rfl rfl (mv rfl) ?_
      refine Go.Sx.V rfl wu rfl rfl (iadI rfl rfl ty26) ?_
      refine Go.Sx.V rfl wu rfl rfl (ldI rfl na3) ?_
      refine CV (fs := [g]) (cs := []) rfl wu rfl rfl rfl hcall (hf _ _ _ (hG.ext hE)) ?_
      rintro _ w5 hE5 rfl
      replace hE := hE.trans hE5
      replace hc := Own.ext hc hE5
      replace hdi := hdi.ext hE5
      refine Go.Sx.V rfl wu rfl rfl (iadI rfl rfl ty26) ?_
      refine STI rfl wu rfl rfl sz3 (by intro h; kernel_rfl) ?_
      intro w6 hg6 hX6 hc6 hci6
      refine wr_nil (post_blockN (post_thenN ?_))
      rw [g1, g2, inK_val, inK_val, upd_step (f := fun t => (f (kt P a t) (kt P b t)).1) i0] at hc6
      refine wc_region [0,1] rfl ?_
      refine Go.Sx.V rfl wu rfl rfl (addI rfl rfl) ?_
      refine Go.Sx.V rfl wu rfl rfl (mv rfl) ?_
      refine wr_nil ?_
      exact post_loopN (i + 1) ⟨rfl, rfl, rfl, rfl, rfl, trivial⟩ ⟨by omega, by omega, hX6 _ (Nat.le_refl _) hE, hdi.kept hg6 hne, hc6⟩ (by omega)
    · intro hi
      simp at hi
      refine wc_exit (post_thenE (post_loopE (post_blockX (post_thenN (wc_seq ?_)))))
      rw [upd_last _ _ _ (by omega)] at hci
      refine wc_region [0,1,2] rfl ?_
      refine Go.Sx.V rfl wu rfl rfl (mv rfl) ?_
      refine Go.Sx.V rfl wu rfl rfl (asg rfl) ?_
      refine Go.Sx.V rfl wu rfl rfl (asg rfl) ?_
      refine wr_nil (post_thenN (wc_ret ?_))
      refine post_ret2 rfl rfl rfl ?_
      refine ⟨hE, _, by rw [pwA, if_pos h'], ?_⟩
      rw [pwA, if_pos h']
      exact hci

theorem wAdd (P : FP) (g u v : Value) (a b : List Int) (w : World) (hG : GFV w P g) (hu : Ints w u a) (hv : Ints w v b) (hn : a.length ≤ 17592186044416) :
    Calls Try.prog 35 #[g, u, v] w (RetX w fun r w' => ∃ s, r = .tuple #[s, .int .i64 (pwA P (fun x y => x + y) a b).2] ∧ Ints w' s (pwA P (fun x y => x + y) a b).1) := by
  refine calls3 Try.func35 rfl rfl ?_
  refine wc_seq ?_
  refine wc_region [0,1] rfl ?_
  refine Go.Sx.V rfl wu rfl rfl (asg rfl) ?_
  refine Go.Sx.V rfl wu rfl rfl (asg rfl) ?_
  refine wr_nil (post_thenN (wc_seq ?_))
  refine wc_region [0,1,2,3,4,5,6,7,8,9] rfl ?_
  refine Go.Sx.V rfl wu rfl rfl (mv rfl) ?_
  refine Go.Sx.V rfl wu rfl rfl (mv rfl) ?_
  refine Go.Sx.V rfl wu rfl rfl (mv rfl) ?_
  refine Go.Sx.V rfl wu rfl rfl (mv rfl) ?_
  refine Go.Sx.V rfl wu rfl rfl (mkf rfl rfl) ?_
  refine C rfl wu rfl rfl Try.call61 (wPair P g u v a b _ (fun x y => x + y) _ hG hu hv hn Try.call62 (fun x y w' hG' => gAdd P g x y w' hG')) ?_
  rintro _ w1 hE ⟨s, rfl, hs⟩
  refine Go.Sx.V rfl wu rfl rfl (ext rfl rfl) ?_
  refine Go.Sx.V rfl wu rfl rfl (ext rfl rfl) ?_
  refine Go.Sx.V rfl wu rfl rfl (asg rfl) ?_
  refine Go.Sx.V rfl wu rfl rfl (asg rfl) ?_
  refine wr_nil (post_thenN (wc_ret ?_))
  refine post_ret2 rfl rfl rfl ?_
  exact ⟨hE, _, rfl, hs⟩

theorem wSub (P : FP) (g u v : Value) (a b : List Int) (w : World) (hG : GFV w P g) (hu : Ints w u a) (hv : Ints w v b) (hn : a.length ≤ 17592186044416) :
    Calls Try.prog 37 #[g, u, v] w (RetX w fun r w' => ∃ s, r = .tuple #[s, .int .i64 (pwA P (fun x y => x + -y) a b).2] ∧ Ints w' s (pwA P (fun x y => x + -y) a b).1) := by
  refine calls3 Try.func37 rfl rfl ?_
  refine wc_seq ?_
  refine wc_region [0,1] rfl ?_
  refine Go.Sx.V rfl wu rfl rfl (asg rfl) ?_
  refine Go.Sx.V rfl wu rfl rfl (asg rfl) ?_
  refine wr_nil (post_thenN (wc_seq ?_))
  refine wc_region [0,1,2,3,4,5,6,7,8,9] rfl ?_
  refine Go.Sx.V rfl wu rfl rfl (mv rfl) ?_
  refine Go.Sx.V rfl wu rfl rfl (mv rfl) ?_
  refine Go.Sx.V rfl wu rfl rfl (mv rfl) ?_
  refine Go.Sx.V rfl wu rfl rfl (mv rfl) ?_
  refine Go.Sx.V rfl wu rfl rfl (mkf rfl rfl) ?_
  refine C rfl wu rfl rfl Try.call61 (wPair P g u v a b _ (fun x y => x + -y) _ hG hu hv hn Try.call63 (fun x y w' hG' => gSub P g x y w' hG')) ?_
  rintro _ w1 hE ⟨s, rfl, hs⟩
  refine Go.Sx.V rfl wu rfl rfl (ext rfl rfl) ?_
  refine Go.Sx.V rfl wu rfl rfl (ext rfl rfl) ?_
  refine Go.Sx.V rfl wu rfl rfl (asg rfl) ?_
  refine Go.Sx.V rfl wu rfl rfl (asg rfl) ?_
  refine wr_nil (post_thenN (wc_ret ?_))
  refine post_ret2 rfl rfl rfl ?_
  exact ⟨hE, _, rfl, hs⟩

theorem wInner (P : FP) (g u v : Value) (a b : List Int) (w : World) (hG : GFV w P g) (hu : Ints w u a) (hv : Ints w v b) (hn : a.length ≤ 17592186044416) :
    Calls Try.prog 43 #[g, u, v] w (RetX w fun r _ => r = .tuple #[.int .i64 (sumK P (pwA P (fun x y => x * y) a b).1).1, .int .i64 (pwA P (fun x y => x * y) a b).2]) := by
  refine calls3 Try.func43 rfl rfl ?_
  refine wc_seq ?_
  refine wc_region [0,1] rfl ?_
  refine Go.Sx.V rfl wu rfl rfl (asg rfl) ?_
  refine Go.Sx.V rfl wu rfl rfl (asg rfl) ?_
  refine wr_nil (post_thenN (wc_seq ?_))
  refine wc_region [0,1,2,3,4,5,6,7,8,9,10] rfl ?_
  refine Go.Sx.V rfl wu rfl rfl (mv rfl) ?_
  refine Go.Sx.V rfl wu rfl rfl (mv rfl) ?_
  refine Go.Sx.V rfl wu rfl rfl (mv rfl) ?_
  refine Go.Sx.V rfl wu rfl rfl (mv rfl) ?_
  refine Go.Sx.V rfl wu rfl rfl (mkf rfl rfl) ?_
  refine C rfl wu rfl rfl Try.call61 (wPair P g u v a b _ (fun x y => x * y) _ hG hu hv hn Try.call67 (fun x y w' hG' => gMul P g x y w' hG')) ?_
  rintro _ w1 hE ⟨s, rfl, hs⟩
  refine Go.Sx.V rfl wu rfl rfl (mv rfl) ?_
  refine Go.Sx.V rfl wu rfl rfl (ext rfl rfl) ?_
  refine Go.Sx.V rfl wu rfl rfl (ext rfl rfl) ?_
  refine Go.Sx.V rfl wu rfl rfl (asg rfl) ?_
  refine Go.Sx.V rfl wu rfl rfl (asg rfl) ?_
  refine wr_nil (post_thenN (wc_seq ?_))
  refine wc_region [0,1,2,3,4,5] rfl ?_
  refine Go.Sx.V rfl wu rfl rfl (mv rfl) ?_
  refine Go.Sx.V rfl wu rfl rfl (mv rfl) ?_
  refine C rfl wu rfl rfl Try.call68 (gSum P g s _ _ (hG.ext hE) hs) ?_
  rintro _ w2 hE2 rfl
  refine Go.Sx.V rfl wu rfl rfl (mv rfl) ?_
  refine Go.Sx.V rfl wu rfl rfl (asg rfl) ?_
  refine Go.Sx.V rfl wu rfl rfl (asg rfl) ?_
  refine wr_nil (post_thenN (wc_ret ?_))
  refine post_ret2 rfl rfl rfl ?_
  exact ⟨hE.trans hE2, rfl⟩

theorem wDistance (P : FP) (g u v : Value) (a b : List Int) (w : World) (hG : GFV w P g) (hu : Ints w u a) (hv : Ints w v b) (hn : a.length ≤ 17592186044416) :
    Calls Try.prog 50 #[g, u, v] w (RetX w fun r _ => r = .tuple #[.int .i64 (wgt P (pwA P (fun x y => x + -y) a b).1), .int .i64 (pwA P (fun x y => x + -y) a b).2]) := by
  refine calls3 Try.func50 rfl rfl ?_
  refine wc_seq ?_
  refine wc_region [0,1] rfl ?_
  refine Go.Sx.V rfl wu rfl rfl (asg rfl) ?_
  refine Go.Sx.V rfl wu rfl rfl (asg rfl) ?_
  refine wr_nil (post_thenN (wc_seq ?_))
  refine wc_region [0,1,2,3,4,5,6,7,8,9,10] rfl ?_
  refine Go.Sx.V rfl wu rfl rfl (mv rfl) ?_
  refine Go.Sx.V rfl wu rfl rfl (mv rfl) ?_
  refine Go.Sx.V rfl wu rfl rfl (mv rfl) ?_
  refine Go.Sx.V rfl wu rfl rfl (mv rfl) ?_
  refine Go.Sx.V rfl wu rfl rfl (mkf rfl rfl) ?_
  refine C rfl wu rfl rfl Try.call61 (wPair P g u v a b _ (fun x y => x + -y) _ hG hu hv hn Try.call63 (fun x y w' hG' => gSub P g x y w' hG')) ?_
  rintro _ w1 hE ⟨s, rfl, hs⟩
  refine Go.Sx.V rfl wu rfl rfl (mv rfl) ?_
  refine Go.Sx.V rfl wu rfl rfl (ext rfl rfl) ?_
  refine Go.Sx.V rfl wu rfl rfl (ext rfl rfl) ?_
  refine Go.Sx.V rfl wu rfl rfl (asg rfl) ?_
  refine Go.Sx.V rfl wu rfl rfl (asg rfl) ?_
  refine wr_nil (post_thenN (wc_seq ?_))
  have hl : (pwA P (fun x y => x + -y) a b).1.length ≤ 17592186044416 := by
    rw [pwA]
    split
    · rw [pw_length]; exact hn
    · simp
  refine wc_region [0,1,2,3,4,5] rfl ?_
  refine Go.Sx.V rfl wu rfl rfl (mv rfl) ?_
  refine Go.Sx.V rfl wu rfl rfl (mv rfl) ?_
  refine C rfl wu rfl rfl Try.call34 (wWeight P g s _ _ (hG.ext hE) hs hl) ?_
  rintro _ w2 hE2 rfl
  refine Go.Sx.V rfl wu rfl rfl (mv rfl) ?_
  refine Go.Sx.V rfl wu rfl rfl (asg rfl) ?_
  refine Go.Sx.V rfl wu rfl rfl (asg rfl) ?_
  refine wr_nil (post_thenN (wc_ret ?_))
  refine post_ret2 rfl rfl rfl ?_
  exact ⟨hE.trans hE2, rfl⟩
end Go.Proofs.Ytlcokneidokfnaa
