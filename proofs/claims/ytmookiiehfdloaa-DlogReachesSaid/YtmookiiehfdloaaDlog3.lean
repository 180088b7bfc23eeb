/-
  Tables of logarithms made, and the reference's logarithms, by contract; chapter 8's 'table'.
-/
import Derived.Test.YtmookiiehfdloaaDlog2
import Derived.Test.YtmookiiehfdloaaOpen08
namespace Go.Proofs.Ytmookiiehfdloaa
open Go Go.Sx Go.Pl Go.RowKit Go.Fd Go.Alg Go.Nm Go.Fr

/-- What New answers. -/
def NewA (w : World) (P : FP) (b : Int) (v : Value) : Prop :=
  (inK P b = 0 ∧ v = .tuple #[.pointer none, .int .i64 7]) ∨ (inK P b ≠ 0 ∧ ¬ HasOrder (inK P b) (n1 P) ∧ v = .tuple #[.pointer none, .int .i64 5]) ∨
  ∃ tv, v = .tuple #[tv, .int .i64 0] ∧ TBV w P tv b ∧ ∃ k, tv = .pointer (some ⟨k, 0, none⟩)
def exps (P : FP) (X : K P) (i : Int) : List Int := upd (n1 P) (fun t => (npow X t).1) (fun _ => 0) i

set_option maxRecDepth 10000 in
theorem dNew (P : FP) (g : Value) (b : Int) (w : World) (hG : GFV w P g) :
    Calls Try.prog 51 #[g, .int .i64 b] w (RetX w fun v w' => NewA w' P b v) := by
  have hq := hG.q
  have hn1 := n1_eq (P := P)
  have h1p := n1_pos (P := P)
  have hgc : g.cells = #[g] := by
    obtain ⟨gb, _, _, _, _, _, _, rfl, _⟩ := hG.ex
    rfl
  refine calls2 Try.func51 rfl rfl ?_
  refine wc_seq ?_
  refine wc_region [0,1] rfl ?_
  refine Go.Sx.V rfl wu rfl rfl (asg rfl) ?_
  refine Go.Sx.V rfl wu rfl rfl (asg rfl) ?_
  refine wr_nil (post_thenN (wc_seq (wc_seq ?_)))
  refine wc_region [0,1,2,3,4,5,6,7] rfl ?_
  refine Go.Sx.V rfl wu rfl rfl (mv rfl) ?_
  refine Go.Sx.V rfl wu rfl rfl (mv rfl) ?_
  refine C rfl wu rfl rfl Try.call40 (gIs P g b _ hG) ?_
  rintro _ w1 hE rfl
  refine Go.Sx.V rfl wu rfl rfl (notB rfl) ?_
  refine Go.Sx.V rfl wu rfl rfl (mv rfl) ?_
  refine OR (π1 := [5,6,7]) (π2 := []) (tc := 14) (tp := 17) rfl rfl rfl (by
      intro _
      refine SK rfl rfl rfl rfl rfl ?_
      refine SK rfl rfl rfl rfl rfl ?_
      refine Go.Sx.V rfl wu rfl rfl (pk rfl rfl) ?_
      exact join rfl) (by
      intro hg
      simp at hg
      refine Go.Sx.V rfl (wg rfl rfl) rfl rfl (mv rfl) ?_
      refine Go.Sx.V rfl (wg rfl rfl) rfl rfl (eqlI rfl rfl) ?_
      refine Go.Sx.V rfl wu rfl rfl (pk rfl rfl) ?_
      exact join rfl) ?_
  refine wr_nil (post_thenN ?_)
  refine wc_cond rfl ?_ ?_
  · intro h
    rw [isz] at h
    refine wc_seq ?_
    refine wc_region [0,1] rfl ?_
    refine Go.Sx.V rfl wu rfl rfl (asg rfl) ?_
    refine Go.Sx.V rfl wu rfl rfl (asg rfl) ?_
    refine wr_nil (post_thenN (wc_ret (post_thenR ?_)))
    refine post_ret2 rfl rfl rfl ?_
    exact ⟨hE, .inl ⟨h, rfl⟩⟩
  · intro h
    obtain ⟨h0, hx⟩ := isz_f h
    refine wc_skip (post_thenN (wc_seq (wc_seq ?_)))
    refine wc_region [0,1,2,3] rfl ?_
    refine Go.Sx.V rfl wu rfl rfl (mv rfl) ?_
    refine Go.Sx.V rfl wu rfl rfl (mv rfl) ?_
    refine C rfl wu rfl rfl Try.call19 (dIsPrim P g b _ (hG.ext hE)) ?_
    rintro _ w2 hE2 ⟨pr, rfl, hpr⟩
    replace hE := hE.trans hE2
    refine Go.Sx.V rfl wu rfl rfl (notB rfl) ?_
    refine wr_nil (post_thenN ?_)
    refine wc_cond rfl ?_ ?_
    · intro hp
      simp at hp
      refine wc_seq ?_
      refine wc_region [0,1] rfl ?_
      refine Go.Sx.V rfl wu rfl rfl (asg rfl) ?_
      refine Go.Sx.V rfl wu rfl rfl (asg rfl) ?_
      refine wr_nil (post_thenN (wc_ret (post_thenR ?_)))
      refine post_ret2 rfl rfl rfl ?_
      exact ⟨hE, .inr (.inl ⟨h0, fun hc => (by rw [hpr.2 hc] at hp; cases hp), rfl⟩)⟩
    · intro hp
      simp at hp
      have hX := hpr.1 hp
      refine wc_skip (post_thenN (wc_seq ?_))
      refine wc_region [0,1,2] rfl ?_
      refine Go.Sx.V rfl wu rfl rfl (mv rfl) ?_
      refine C rfl wu rfl rfl Try.call41 (gOrder P g _ (hG.ext hE)) ?_
      rintro _ w3 hE3 rfl
      replace hE := hE.trans hE3
      refine Go.Sx.V rfl wu rfl rfl (asg rfl) ?_
      refine wr_nil (post_thenN (wc_seq ?_))
      have hE0 := hE
      clear hE
      have hE := Ext.refl w3
      refine wc_cut (σ := Value × Value × Nat) (fun s => [(0, g), (1, .int .i64 b), (7, .pointer (some ⟨s.2.2, 0, none⟩))])
        (fun s w' => Ext w3 w' ∧ Blk w' s.2.2 78 #[g, .int .i64 b, s.1, s.2.1] ∧ OwnI w3.heap.size w' s.1 3 (tab (n1 P) fun _ => 0) ∧ OwnI w3.heap.size w' s.2.1 3 (tab P.q.toNat fun _ => 0) ∧ s.1.ownBlock ≠ s.2.1.ownBlock ∧ s.1.ownBlock ≠ some s.2.2 ∧ s.2.1.ownBlock ≠ some s.2.2) ?_ ?_
      · skip
        refine wc_drawT mixed (.br [0,1,2,3,5] (.leaf [4,6,7,8,9]) (.leaf [6,4,7,8,9])) (by kernel_rfl) ?_
        intro w4 hd _
        replace hE := hE.trans hd
        refine wt_br ?_
        refine Go.Sx.V rfl wu rfl rfl (mv rfl) ?_
        refine Go.Sx.V rfl wu rfl rfl (mv rfl) ?_
        refine Go.Sx.V rfl wu rfl rfl (mv rfl) ?_
        refine Go.Sx.V rfl wu rfl rfl (subI rfl rfl) ?_
        refine Go.Sx.V rfl wu rfl rfl (mv rfl) ?_
        refine wr_br ?_ ?_
        · skip
          refine wt_leaf ?_
          refine MKI (n := (n1 P)) rfl wu rfl rfl ty22 ?_
          intro ex w5 hE5 hex hexi hexb
          have z5 := hE5.size
          have y5 := (Own.lt hex _ hexb).2
          replace hex := Own.mono hex (B' := w3.heap.size) hE.size
          replace hE := hE.trans hE5
          try replace hlo := Own.ext hlo hE5
          refine MKI (n := P.q.toNat) rfl wu rfl rfl ty22 ?_
          intro lo w6 hE6 hlo hloi hlob
          have z6 := hE6.size
          have y6 := (Own.lt hlo _ hlob).2
          replace hlo := Own.mono hlo (B' := w3.heap.size) hE.size
          replace hE := hE.trans hE6
          try replace hex := Own.ext hex hE6
          refine Go.Sx.V rfl wu rfl rfl (bld (us := [g, .int .i64 b, ex, lo]) (r := [g, .int .i64 b, ex, lo]) rfl (bdTb _ _ _ _ hgc (cells_ints (OwnI.ints hex)) (cells_ints (OwnI.ints hlo)))) ?_
          refine BXA rfl wu rfl rfl ?_
          intro tb w7 hE7 hB7 hb7
          refine Go.Sx.V rfl wu rfl rfl (asg rfl) ?_
          refine wr_nil ?_
          refine post_cutN (ex, lo, tb) ⟨rfl, rfl, rfl, trivial⟩ ⟨hE.trans hE7, hB7, Own.ext hex hE7, Own.ext hlo hE7, ?_, ?_, ?_⟩
          · show ex.ownBlock ≠ lo.ownBlock; rw [hexb, hlob]; intro e; have := Option.some.inj e; omega
          · show ex.ownBlock ≠ some tb; rw [hexb]; intro e; have := Option.some.inj e; omega
          · show lo.ownBlock ≠ some tb; rw [hlob]; intro e; have := Option.some.inj e; omega
        · skip
          refine wt_leaf ?_
          refine MKI (n := P.q.toNat) rfl wu rfl rfl ty22 ?_
          intro lo w6 hE6 hlo hloi hlob
          have z6 := hE6.size
          have y6 := (Own.lt hlo _ hlob).2
          replace hlo := Own.mono hlo (B' := w3.heap.size) hE.size
          replace hE := hE.trans hE6
          try replace hex := Own.ext hex hE6
          refine MKI (n := (n1 P)) rfl wu rfl rfl ty22 ?_
          intro ex w5 hE5 hex hexi hexb
          have z5 := hE5.size
          have y5 := (Own.lt hex _ hexb).2
          replace hex := Own.mono hex (B' := w3.heap.size) hE.size
          replace hE := hE.trans hE5
          try replace hlo := Own.ext hlo hE5
          refine Go.Sx.V rfl wu rfl rfl (bld (us := [g, .int .i64 b, ex, lo]) (r := [g, .int .i64 b, ex, lo]) rfl (bdTb _ _ _ _ hgc (cells_ints (OwnI.ints hex)) (cells_ints (OwnI.ints hlo)))) ?_
          refine BXA rfl wu rfl rfl ?_
          intro tb w7 hE7 hB7 hb7
          refine Go.Sx.V rfl wu rfl rfl (asg rfl) ?_
          refine wr_nil ?_
          refine post_cutN (ex, lo, tb) ⟨rfl, rfl, rfl, trivial⟩ ⟨hE.trans hE7, hB7, Own.ext hex hE7, Own.ext hlo hE7, ?_, ?_, ?_⟩
          · show ex.ownBlock ≠ lo.ownBlock; rw [hexb, hlob]; intro e; have := Option.some.inj e; omega
          · show ex.ownBlock ≠ some tb; rw [hexb]; intro e; have := Option.some.inj e; omega
          · show lo.ownBlock ≠ some tb; rw [hlob]; intro e; have := Option.some.inj e; omega
      · rintro ⟨ex, lo, tb⟩ w4 ⟨hE, hB, hex, hlo, hne, hne1, hne2⟩
        dsimp only at hE hB hex hlo hne hne1 hne2
        have hexi := OwnI.ints hex
        refine wc_seq ?_
        refine wc_region [0] rfl ?_
        refine Go.Sx.V rfl wu rfl rfl (asg rfl) ?_
        refine wr_nil (post_thenN (wc_seq (wc_seq ?_)))
        refine wc_region [0,1,2,3,4,5] rfl ?_
        refine Go.Sx.V rfl wu rfl rfl (mv rfl) ?_
        refine Go.Sx.V rfl wu rfl rfl (nchk rfl) ?_
        refine Go.Sx.V rfl wu rfl rfl (fad rfl fa78_2) ?_
        refine Go.Sx.V rfl wu rfl rfl (ldB rfl na22 hB) ?_
        refine Go.Sx.V rfl wu rfl rfl (lenI rfl ty22 hexi) ?_
        refine Go.Sx.V rfl wu rfl rfl (mv rfl) ?_
        refine wr_nil (post_thenN (wc_block ?_))
        rw [tab_length]
        rw [← upd_zero' (n1 P) (fun t => (npow (inK P b) t).1) (fun _ => 0)] at hex
        refine wc_loop (fun s : Int × List Int => [(0, g), (1, .int .i64 b), (7, .pointer (some ⟨tb, 0, none⟩)), (8, .int .i64 (npow (inK P b) s.1.toNat).1), (37, .int .i64 (n1 P)), (38, .int .i64 s.1)])
          (fun s w' => 0 ≤ s.1 ∧ s.1 ≤ n1 P ∧ Ext w3 w' ∧ Blk w' tb 78 #[g, .int .i64 b, ex, lo] ∧ OwnI w3.heap.size w' ex 3 (exps P (inK P b) s.1) ∧ OwnI w3.heap.size w' lo 3 s.2 ∧ LogOk (inK P b) s.1.toNat s.2) (fun s => (n1 P - s.1).toNat) (0, tab P.q.toNat fun _ => 0)
          ⟨rfl, rfl, rfl, rfl, rfl, rfl, trivial⟩ ⟨Int.le_refl _, by show (0 : Int) ≤ n1 P; omega, hE, hB, hex, hlo, by show ((tab P.q.toNat fun _ => (0 : Int)).length : Int) = P.q; rw [tab_length]; omega, fun i hi => absurd hi (by simp)⟩ ?_
        clear hE hB hex hlo hexi
        rintro ⟨i, lg⟩ w5 ⟨i0, i1, hE, hB, hex, hlo, hL⟩
        dsimp only at i0 i1 hE hB hex hlo hL
        have hlgl := hL.1
        have hel : (exps P (inK P b) i).length = n1 P := upd_length _ _ _ _
        have hexi := OwnI.ints hex
        have hloi := OwnI.ints hlo
        try dsimp only
        refine wc_seq ?_
        refine wc_region [0] rfl ?_
        refine Go.Sx.V rfl wu rfl rfl (lssI rfl rfl) ?_
        refine wr_nil (post_thenN (wc_seq ?_))
        refine wc_cond rfl ?_ ?_
        · intro hi
          simp at hi
          have hpb := (npow (inK P b) i.toNat).2
          have hst := upd_step (m := n1 P) (f := fun t => (npow (inK P b) t).1) (g := fun _ => 0) (i := i) i0
          have hL' := hL.step hX (by omega)
          rw [show ((i.toNat : Nat) : Int) = i by omega] at hL'
          refine wc_skip (post_thenN (wc_seq (wc_block (wc_seq ?_))))
          refine wc_region [0,1] rfl ?_
          refine Go.Sx.V rfl wu rfl rfl (mv rfl) ?_
          refine Go.Sx.V rfl wu rfl rfl (asg rfl) ?_
          refine wr_nil (post_thenN (wc_seq ?_))
          refine wc_region [0,1,2,3,4,5,6,7] rfl ?_
          refine Go.Sx.V rfl wu rfl rfl (mv rfl) ?_
          refine Go.Sx.V rfl wu rfl rfl (nchk rfl) ?_
          refine Go.Sx.V rfl wu rfl rfl (fad rfl fa78_2) ?_
          refine Go.Sx.V rfl wu rfl rfl (ldB rfl na22 hB) ?_
          refine Go.Sx.V rfl wu rfl rfl (mv rfl) ?_
          refine Go.Sx.V rfl wu rfl rfl (mv rfl) ?_
          refine Go.Sx.V rfl wu rfl rfl (iadI rfl rfl ty22) ?_
          refine STI rfl wu rfl rfl sz3 (by intro h; cases h) ?_
          intro w6 hg6 hX6 hex6 hexi6
          refine wr_nil (post_thenN (wc_seq ?_))
          replace hex6 : OwnI w3.heap.size w6 ex 3 (exps P (inK P b) (i + 1)) := by rw [exps, ← hst]; exact hex6
          have hlo6 : OwnI w3.heap.size w6 lo 3 lg := Own.kept (v2 := ex) hlo hg6 (.inl hne.symm)
          have hB6 := hB.grown hg6 hne1
          have hE6 := hX6 _ (Nat.le_refl _) hE
          have hloi6 := OwnI.ints hlo6
          refine wc_region [0,1,2,3,4,5,6,7] rfl ?_
          refine Go.Sx.V rfl wu rfl rfl (mv rfl) ?_
          refine Go.Sx.V rfl wu rfl rfl (nchk rfl) ?_
          refine Go.Sx.V rfl wu rfl rfl (fad rfl fa78_3) ?_
          refine Go.Sx.V rfl wu rfl rfl (ldB rfl na22 hB6) ?_
          refine Go.Sx.V rfl wu rfl rfl (mv rfl) ?_
          refine Go.Sx.V rfl wu rfl rfl (mv rfl) ?_
          refine Go.Sx.V rfl wu rfl rfl (iadI rfl rfl ty22) ?_
          refine STI rfl wu rfl rfl sz3 (by intro h; cases h) ?_
          intro w7 hg7 hX7 hlo7 hloi7
          refine wr_nil (post_thenN ?_)
          have hex7 : OwnI w3.heap.size w7 ex 3 (exps P (inK P b) (i + 1)) := Own.kept (v2 := lo) hex6 hg7 (.inl hne)
          have hB7 := hB6.grown hg7 hne2
          have hE7 := hX7 _ (Nat.le_refl _) hE6
          refine wc_region [0,1,2,3,4] rfl ?_
          refine Go.Sx.V rfl wu rfl rfl (mv rfl) ?_
          refine Go.Sx.V rfl wu rfl rfl (mv rfl) ?_
          refine Go.Sx.V rfl wu rfl rfl (mv rfl) ?_
          refine C rfl wu rfl rfl Try.call48 (gMul P g _ b _ (hG.ext (hE0.trans hE7))) ?_
          rintro _ w8 hE8 rfl
          rw [inK_val]
          refine Go.Sx.V rfl wu rfl rfl (asg rfl) ?_
          refine wr_nil (post_blockN (post_thenN ?_))
          refine wc_region [0,1] rfl ?_
          refine Go.Sx.V rfl wu rfl rfl (addI rfl rfl) ?_
          refine Go.Sx.V rfl wu rfl rfl (mv rfl) ?_
          refine wr_nil ?_
          exact post_loopN (i + 1, si lg (npow (inK P b) i.toNat).1 i) ⟨rfl, rfl, rfl, by show _ = some (Value.int .i64 (npow (inK P b) (i + 1).toNat).1); rw [show (i + 1).toNat = i.toNat + 1 by omega]; rfl, rfl, rfl, trivial⟩ ⟨by show 0 ≤ i + 1; omega, by show i + 1 ≤ _; omega, hE7.trans hE8, hB7.ext hE8, Own.ext hex7 hE8, Own.ext hlo7 hE8, by show LogOk _ (i + 1).toNat _; rw [show (i + 1).toNat = i.toNat + 1 by omega]; exact hL'⟩ (by show (n1 P - (i + 1)).toNat < (n1 P - i).toNat; omega)
        · intro hi
          simp at hi
          refine wc_exit (post_thenE (post_loopE (post_blockX (post_thenN (wc_seq ?_)))))
          refine wc_region [0,1,2] rfl ?_
          refine Go.Sx.V rfl wu rfl rfl (mv rfl) ?_
          refine Go.Sx.V rfl wu rfl rfl (asg rfl) ?_
          refine Go.Sx.V rfl wu rfl rfl (asg rfl) ?_
          refine wr_nil (post_thenN (wc_ret ?_))
          refine post_ret2 rfl rfl rfl ?_
          have hn : i.toNat = n1 P := by omega
          rw [hn] at hL
          have he : exps P (inK P b) i = pows (inK P b) (n1 P) := upd_last _ _ _ (by omega)
          rw [he] at hexi
          exact ⟨hE0.trans hE, .inr (.inr ⟨_, rfl, ⟨⟨tb, g, ex, lo, lg, rfl, hB, hG.ext (hE0.trans hE), hexi, hloi, hL⟩, h0, hX⟩, tb, rfl⟩)⟩
theorem NewA.split {w : World} {P : FP} {b : Int} {v : Value} (h : NewA w P b v) : ∃ tv e, v = .tuple #[tv, .int .i64 e] ∧ ((inK P b = 0 ∧ e = 7) ∨ (inK P b ≠ 0 ∧ ¬ HasOrder (inK P b) (n1 P) ∧ e = 5) ∨ (e = 0 ∧ TBV w P tv b ∧ ∃ k, tv = .pointer (some ⟨k, 0, none⟩))) := by
  rcases h with ⟨h1, h2⟩ | ⟨h1, h2, h3⟩ | ⟨tv, h1, h2, h3⟩
  · exact ⟨_, _, h2, .inl ⟨h1, rfl⟩⟩
  · exact ⟨_, _, h3, .inr (.inl ⟨h1, h2, rfl⟩)⟩
  · exact ⟨_, _, h1, .inr (.inr ⟨rfl, h2, h3⟩)⟩

theorem rBase (P : FP) (mo : Value) (md : List Int) (b : Int) (w : World) (hF : FV w P mo md) (hgen : ∃ g : K P, HasOrder g (n1 P)) :
    Calls Try.prog 52 #[fv P mo, .int .i64 b] w (RetX w fun v _ => ∃ e : Int, v = .int .i64 e ∧ ((inK P b = 0 ∧ e = 7) ∨ (inK P b ≠ 0 ∧ ¬ HasOrder (inK P b) (n1 P) ∧ e = 5) ∨ (e = 0 ∧ inK P b ≠ 0 ∧ HasOrder (inK P b) (n1 P)))) := by
  refine calls2 Try.func52 rfl rfl ?_
  refine wc_seq ?_
  refine wc_region [0,1] rfl ?_
  refine BXA rfl wu rfl rfl ?_
  intro fb w1 hE hB hg
  refine Go.Sx.V rfl wu rfl rfl (asg rfl) ?_
  refine wr_nil (post_thenN (wc_seq (wc_seq ?_)))
  refine wc_region [0,1,2,3] rfl ?_
  refine Go.Sx.V rfl wu rfl rfl (ldA rfl ag24) ?_
  refine Go.Sx.V rfl wu rfl rfl (mv rfl) ?_
  refine C rfl wu rfl rfl Try.call26 (rIn P mo md b _ (hF.ext hE)) ?_
  rintro _ w2 hE2 rfl
  replace hE := hE.trans hE2
  replace hB := hB.ext hE2
  refine Go.Sx.V rfl wu rfl rfl (eqlI rfl rfl) ?_
  refine wr_nil (post_thenN ?_)
  refine wc_cond rfl ?_ ?_
  · intro h
    simp at h
    refine wc_seq ?_
    refine wc_region [0] rfl ?_
    refine Go.Sx.V rfl wu rfl rfl (asg rfl) ?_
    refine wr_nil (post_thenN (wc_ret (post_thenR ?_)))
    refine post_ret1 rfl rfl ?_
    exact ⟨hE, _, rfl, .inl ⟨Subtype.ext h, rfl⟩⟩
  · intro h
    simp at h
    have h0 : inK P b ≠ 0 := fun e => h (by rw [e]; rfl)
    refine wc_skip (post_thenN (wc_seq (wc_seq ?_)))
    refine wc_region [0,1,2,3] rfl ?_
    refine Go.Sx.V rfl wu rfl rfl (ldA rfl ag24) ?_
    refine Go.Sx.V rfl wu rfl rfl (mv rfl) ?_
    refine C rfl wu rfl rfl Try.call20 (rIsPrim P mo md b _ (hF.ext hE) hgen) ?_
    rintro _ w3 hE3 ⟨pr, rfl, hpr⟩
    replace hE := hE.trans hE3
    refine Go.Sx.V rfl wu rfl rfl (notB rfl) ?_
    refine wr_nil (post_thenN ?_)
    refine wc_cond rfl ?_ ?_
    · intro hp
      simp at hp
      refine wc_seq ?_
      refine wc_region [0] rfl ?_
      refine Go.Sx.V rfl wu rfl rfl (asg rfl) ?_
      refine wr_nil (post_thenN (wc_ret (post_thenR ?_)))
      refine post_ret1 rfl rfl ?_
      exact ⟨hE, _, rfl, .inr (.inl ⟨h0, fun hc => (by rw [hpr.2 hc] at hp; cases hp), rfl⟩)⟩
    · intro hp
      simp at hp
      refine wc_skip (post_thenN (wc_seq ?_))
      refine wc_region [0] rfl ?_
      refine Go.Sx.V rfl wu rfl rfl (asg rfl) ?_
      refine wr_nil (post_thenN (wc_ret ?_))
      refine post_ret1 rfl rfl ?_
      exact ⟨hE, _, rfl, .inr (.inr ⟨rfl, h0, hpr.1 hp⟩)⟩

/-- The least exponent with which b gives x, and the error. -/
def SolA (P : FP) (B X : K P) (v : Value) : Prop :=
  ((B = 0 ∨ X = 0) ∧ v = .tuple #[.int .i64 0, .int .i64 7]) ∨ (B ≠ 0 ∧ X ≠ 0 ∧ ((∃ n : Nat, npow B n = X ∧ (∀ m, m < n → npow B m ≠ X) ∧ v = .tuple #[.int .i64 n, .int .i64 0]) ∨ ((∀ n, npow B n ≠ X) ∧ v = .tuple #[.int .i64 0, .int .i64 11])))
theorem SolA.split {P : FP} {B X : K P} {v : Value} (h : SolA P B X v) : ∃ (n : Nat) (e : Int), v = .tuple #[.int .i64 n, .int .i64 e] ∧ (((B = 0 ∨ X = 0) ∧ n = 0 ∧ e = 7) ∨ (B ≠ 0 ∧ X ≠ 0 ∧ ((npow B n = X ∧ (∀ m, m < n → npow B m ≠ X) ∧ e = 0) ∨ ((∀ n, npow B n ≠ X) ∧ n = 0 ∧ e = 11)))) := by
  rcases h with ⟨h1, h2⟩ | ⟨h1, h2, ⟨n, h3, h4, h5⟩ | ⟨h3, h4⟩⟩
  · exact ⟨0, 7, h2, .inl ⟨h1, rfl, rfl⟩⟩
  · exact ⟨n, 0, h5, .inr ⟨h1, h2, .inl ⟨h3, h4, rfl⟩⟩⟩
  · exact ⟨0, 11, h4, .inr ⟨h1, h2, .inr ⟨h3, rfl, rfl⟩⟩⟩

set_option maxRecDepth 10000 in
theorem rSolve (P : FP) (mo : Value) (md : List Int) (b x : Int) (w : World) (hF : FV w P mo md) (hgen : ∃ g : K P, HasOrder g (n1 P)) :
    Calls Try.prog 25 #[fv P mo, .int .i64 b, .int .i64 x] w (RetX w fun v _ => SolA P (inK P b) (inK P x) v) := by
  have hq := hF.q
  have hq2 := P.q_two
  have hord := hF.ord
  have hn1 := n1_eq (P := P)
  obtain ⟨g0, hg0⟩ := hgen
  refine calls3 Try.func25 rfl rfl ?_
  refine wc_seq ?_
  refine wc_region [0,1,2] rfl ?_
  refine BXA rfl wu rfl rfl ?_
  intro fb w1 hE hB hg
  refine Go.Sx.V rfl wu rfl rfl (asg rfl) ?_
  refine Go.Sx.V rfl wu rfl rfl (asg rfl) ?_
  refine wr_nil (post_thenN (wc_seq ?_))
  refine wc_region [0,1,2,3] rfl ?_
  refine Go.Sx.V rfl wu rfl rfl (ldA rfl ag24) ?_
  refine Go.Sx.V rfl wu rfl rfl (mv rfl) ?_
  refine C rfl wu rfl rfl Try.call26 (rIn P mo md b _ (hF.ext hE)) ?_
  rintro _ w2 hE2 rfl
  replace hE := hE.trans hE2
  replace hB := hB.ext hE2
  refine Go.Sx.V rfl wu rfl rfl (asg rfl) ?_
  refine wr_nil (post_thenN (wc_seq ?_))
  refine wc_region [0,1,2,3] rfl ?_
  refine Go.Sx.V rfl wu rfl rfl (ldA rfl ag24) ?_
  refine Go.Sx.V rfl wu rfl rfl (mv rfl) ?_
  refine C rfl wu rfl rfl Try.call26 (rIn P mo md x _ (hF.ext hE)) ?_
  rintro _ w3 hE3 rfl
  replace hE := hE.trans hE3
  replace hB := hB.ext hE3
  refine Go.Sx.V rfl wu rfl rfl (asg rfl) ?_
  refine wr_nil (post_thenN (wc_seq (wc_seq ?_)))
  generalize inK P b = B
  generalize inK P x = X
  refine wc_region [0,1,2,3,4,5] rfl ?_
  refine Go.Sx.V rfl wu rfl rfl (mv rfl) ?_
  refine Go.Sx.V rfl wu rfl rfl (eqlI rfl rfl) ?_
  refine Go.Sx.V rfl wu rfl rfl (mv rfl) ?_
  refine OR (π1 := [3,4,5]) (π2 := []) (tc := 18) (tp := 21) rfl rfl rfl (by
      intro _
      refine SK rfl rfl rfl rfl rfl ?_
      refine SK rfl rfl rfl rfl rfl ?_
      refine Go.Sx.V rfl wu rfl rfl (pk rfl rfl) ?_
      exact join rfl) (by
      intro hg
      simp at hg
      refine Go.Sx.V rfl (wg rfl rfl) rfl rfl (mv rfl) ?_
      refine Go.Sx.V rfl (wg rfl rfl) rfl rfl (eqlI rfl rfl) ?_
      refine Go.Sx.V rfl wu rfl rfl (pk rfl rfl) ?_
      exact join rfl) ?_
  refine wr_nil (post_thenN ?_)
  refine wc_cond rfl ?_ ?_
  · intro h
    simp at h
    refine wc_seq ?_
    refine wc_region [0,1] rfl ?_
    refine Go.Sx.V rfl wu rfl rfl (asg rfl) ?_
    refine Go.Sx.V rfl wu rfl rfl (asg rfl) ?_
    refine wr_nil (post_thenN (wc_ret (post_thenR ?_)))
    refine post_ret2 rfl rfl rfl ?_
    exact ⟨hE, .inl ⟨h.elim (fun e => .inl (Subtype.ext e)) (fun e => .inr (Subtype.ext e)), rfl⟩⟩
  · intro h
    simp at h
    have hB0 : B ≠ 0 := fun e => h.1 (by rw [e]; rfl)
    have hX0 : X ≠ 0 := fun e => h.2 (by rw [e]; rfl)
    obtain ⟨m, hm, hmd⟩ := ex_order hg0 hB0
    have hml := ord_le hmd
    refine wc_skip (post_thenN (wc_seq ?_))
    refine wc_region [0] rfl ?_
    refine Go.Sx.V rfl wu rfl rfl (asg rfl) ?_
    refine wr_nil (post_thenN (wc_seq (wc_seq ?_)))
    refine wc_region [0] rfl ?_
    refine Go.Sx.V rfl wu rfl rfl (asg rfl) ?_
    refine wr_nil (post_thenN (wc_block ?_))
    refine wc_loop (fun n : Nat => [(1, .int .i64 B.1), (2, .int .i64 X.1), (3, .pointer (some ⟨fb, 0, none⟩)), (8, .int .i64 (npow B n).1), (9, .int .i64 n)])
      (fun n w' => (n : Int) ≤ P.q ∧ Ext w w' ∧ Ext w3 w' ∧ ∀ k, k < n → npow B k ≠ X) (fun n => (P.q - n).toNat) 0 ⟨rfl, rfl, rfl, rfl, rfl, trivial⟩ ⟨by omega, hE, Ext.refl _, fun k hk => absurd hk (by omega)⟩ ?_
    clear hE
    rintro n w4 ⟨n1', hE, hE3, hno⟩
    have hBi := hB.ext hE3
    try dsimp only
    refine wc_seq (wc_seq ?_)
    refine wc_region [0,1,2,3] rfl ?_
    refine Go.Sx.V rfl wu rfl rfl (mv rfl) ?_
    refine Go.Sx.V rfl wu rfl rfl (ldA rfl ag24 hBi) ?_
    refine C rfl wu rfl rfl Try.call33 (rOrder P.p P.M mo _) ?_
    rintro _ w5 hE5 rfl
    rw [hord]
    replace hE := hE.trans hE5
    replace hE3 := hE3.trans hE5
    replace hBi := hBi.ext hE5
    refine Go.Sx.V rfl wu rfl rfl (lssI rfl rfl) ?_
    refine wr_nil (post_thenN ?_)
    refine wc_cond rfl ?_ ?_
    · intro hn
      simp at hn
      refine wc_skip (post_thenN (wc_seq (wc_block (wc_seq (wc_seq ?_)))))
      refine wc_region [0,1,2] rfl ?_
      refine Go.Sx.V rfl wu rfl rfl (mv rfl) ?_
      refine Go.Sx.V rfl wu rfl rfl (mv rfl) ?_
      refine Go.Sx.V rfl wu rfl rfl (eqlI rfl rfl) ?_
      refine wr_nil (post_thenN ?_)
      refine wc_cond rfl ?_ ?_
      · intro he
        simp at he
        refine wc_seq ?_
        refine wc_region [0,1,2] rfl ?_
        refine Go.Sx.V rfl wu rfl rfl (mv rfl) ?_
        refine Go.Sx.V rfl wu rfl rfl (asg rfl) ?_
        refine Go.Sx.V rfl wu rfl rfl (asg rfl) ?_
        refine wr_nil (post_thenN (wc_ret (post_thenR (post_blockR (post_thenR (post_loopR (post_blockR (post_thenR ?_))))))))
        refine post_ret2 rfl rfl rfl ?_
        exact ⟨hE, .inr ⟨hB0, hX0, .inl ⟨n, Subtype.ext he, hno, rfl⟩⟩⟩
      · intro he
        simp at he
        refine wc_skip (post_thenN ?_)
        refine wc_region [0,1,2,3,4] rfl ?_
        refine Go.Sx.V rfl wu rfl rfl (ldA rfl ag24 hBi) ?_
        refine Go.Sx.V rfl wu rfl rfl (mv rfl) ?_
        refine Go.Sx.V rfl wu rfl rfl (mv rfl) ?_
        refine C rfl wu rfl rfl Try.call32 (rMul P mo md (npow B n).1 B.1 _ (hF.ext hE)) ?_
        rintro _ w6 hE6 rfl
        rw [inK_val, inK_val]
        refine Go.Sx.V rfl wu rfl rfl (asg rfl) ?_
        refine wr_nil (post_blockN (post_thenN ?_))
        refine wc_region [0,1,2] rfl ?_
        refine Go.Sx.V rfl wu rfl rfl (mv rfl) ?_
        refine Go.Sx.V rfl wu rfl rfl (addI rfl rfl) ?_
        refine Go.Sx.V rfl wu rfl rfl (asg rfl) ?_
        refine wr_nil ?_
        exact post_loopN (n + 1) ⟨rfl, rfl, rfl, rfl, rfl, trivial⟩ ⟨by omega, hE.trans hE6, hE3.trans hE6, fun k hk => (by
          by_cases e : k = n
          · subst e; intro e2; exact he (by rw [e2])
          · exact hno k (by omega))⟩ (by omega)
    · intro hn
      simp at hn
      refine wc_exit (post_thenE (post_loopE (post_blockX (post_thenN (wc_seq ?_)))))
      refine wc_region [0,1] rfl ?_
      refine Go.Sx.V rfl wu rfl rfl (asg rfl) ?_
      refine Go.Sx.V rfl wu rfl rfl (asg rfl) ?_
      refine wr_nil (post_thenN (wc_ret ?_))
      refine post_ret2 rfl rfl rfl ?_
      refine ⟨hE, .inr ⟨hB0, hX0, .inr ⟨fun k e => ?_, rfl⟩⟩⟩
      rw [npow_mod hm.2.1 k] at e
      have := Nat.mod_lt k hm.1
      exact hno (k % m) (by omega) e

theorem rZech (P : FP) (mo : Value) (md : List Int) (b n : Int) (w : World) (hF : FV w P mo md) (hgen : ∃ g : K P, HasOrder g (n1 P)) (h0 : inK P b ≠ 0) :
    Calls Try.prog 35 #[fv P mo, .int .i64 b, .int .i64 n] w (RetX w fun v _ => SolA P (inK P b) (1 + npow (inK P b) (n % n1 P).toNat) v) := by
  have h1 : inK P 1 = 1 := inK_in (by have := P.q_two; omega)
  have hp : (powA P (inK P b) n).1 = npow (inK P b) (n % n1 P).toNat := by
    rw [powA]
    by_cases e : n = 0
    · subst e; rfl
    · rw [if_neg e, if_neg h0]
  refine calls3 Try.func35 rfl rfl ?_
  refine wc_seq ?_
  refine wc_region [0,1,2] rfl ?_
  refine BXA rfl wu rfl rfl ?_
  intro fb w1 hE hB hg
  refine Go.Sx.V rfl wu rfl rfl (asg rfl) ?_
  refine Go.Sx.V rfl wu rfl rfl (asg rfl) ?_
  refine wr_nil (post_thenN (wc_seq ?_))
  refine wc_region [0,1,2,3,4,5,6,7,8] rfl ?_
  refine Go.Sx.V rfl wu rfl rfl (ldA rfl ag24) ?_
  refine Go.Sx.V rfl wu rfl rfl (mv rfl) ?_
  refine Go.Sx.V rfl wu rfl rfl (mv rfl) ?_
  refine C rfl wu rfl rfl Try.call30 (rPow P mo md b n _ (hF.ext hE)) ?_
  rintro _ w2 hE2 rfl
  replace hE := hE.trans hE2
  replace hB := hB.ext hE2
  rw [hp]
  refine Go.Sx.V rfl wu rfl rfl (mv rfl) ?_
  refine Go.Sx.V rfl wu rfl rfl (ext rfl rfl) ?_
  refine Go.Sx.V rfl wu rfl rfl (ext rfl rfl) ?_
  refine Go.Sx.V rfl wu rfl rfl (asg rfl) ?_
  refine Go.Sx.V rfl wu rfl rfl (asg rfl) ?_
  refine wr_nil (post_thenN (wc_seq ?_))
  refine wc_draw mixed [0,1,2,3,4,5,6,7,8,9] (by kernel_rfl) ?_
  intro w3 hd _
  replace hE := hE.trans hd
  replace hB := hB.ext hd
  refine Go.Sx.V rfl wu rfl rfl (ldA rfl ag24) ?_
  refine Go.Sx.V rfl wu rfl rfl (mv rfl) ?_
  refine Go.Sx.V rfl wu rfl rfl (ldA rfl ag24) ?_
  refine Go.Sx.V rfl wu rfl rfl (mv rfl) ?_
  refine C rfl wu rfl rfl Try.call37 (rAdd P mo md 1 _ _ (hF.ext hE)) ?_
  rintro _ w4 hE4 rfl
  replace hE := hE.trans hE4
  replace hB := hB.ext hE4
  rw [h1, inK_val]
  refine C rfl wu rfl rfl Try.call25 (rSolve P mo md b _ _ (hF.ext hE) hgen) ?_
  rintro r w5 hE5 hr0
  replace hE := hE.trans hE5
  rw [inK_val] at hr0
  obtain ⟨i, e, hre, hr⟩ := hr0.split
  subst hre
  refine Go.Sx.V rfl wu rfl rfl (ext rfl rfl) ?_
  refine Go.Sx.V rfl wu rfl rfl (ext rfl rfl) ?_
  refine Go.Sx.V rfl wu rfl rfl (asg rfl) ?_
  refine Go.Sx.V rfl wu rfl rfl (asg rfl) ?_
  refine wr_nil (post_thenN (wc_ret ?_))
  refine post_ret2 rfl rfl rfl ?_
  exact ⟨hE, hr0⟩

/-- What table answers, for a description of a field and a base. -/
def TabA (w : World) (r : FRec) (b : Int) (v : Value) : Prop :=
  (v = .tuple #[.pointer none, .bool true, .bool true]) ∨ ∃ P : FP, P.p = r.p ∧ (P.M : Int) = r.M ∧ (∀ w' mo', Ints w' mo' r.md → FV w' P mo' r.md) ∧ ∃ tv, v = .tuple #[tv, .bool false, .bool true] ∧ TBV w P tv b

set_option maxRecDepth 10000 in
theorem lTable (r : FRec) (b : Int) (w : World) (hr : Ints w r.mo r.md) :
    Calls Try.prog 27 #[r.v, .int .i64 b] w (RetX w fun v w' => TabA w' r b v) := by
  obtain ⟨p, M, mo, md⟩ := r
  dsimp only at hr
  refine calls2 Try.func27 rfl rfl ?_
  refine wc_seq ?_
  refine wc_region [0,1,2,3] rfl ?_
  refine BXA rfl wu rfl rfl ?_
  intro fb w1 hE hB hg
  refine Go.Sx.V rfl wu rfl rfl (asg rfl) ?_
  refine Go.Sx.V rfl wu rfl rfl (asg rfl) ?_
  refine Go.Sx.V rfl wu rfl rfl (asg rfl) ?_
  refine wr_nil (post_thenN (wc_seq ?_))
  refine wc_region [0,1,2,3,4,5,6,7,8] rfl ?_
  refine Go.Sx.V rfl wu rfl rfl (ldA rfl ag24) ?_
  refine C rfl wu rfl rfl Try.call13 (lOpen ⟨p, M, mo, md⟩ _ (hr.ext hE)) ?_
  rintro ov w2 hE2 hop
  replace hB := hB.ext hE2
  replace hE := hE.trans hE2
  obtain ⟨gv, dn, rfl, hcase⟩ := open_split hop
  refine Go.Sx.V rfl wu rfl rfl (mv rfl) ?_
  refine Go.Sx.V rfl wu rfl rfl (ext rfl rfl) ?_
  refine Go.Sx.V rfl wu rfl rfl (ext rfl rfl) ?_
  refine Go.Sx.V rfl wu rfl rfl (ext rfl rfl) ?_
  refine Go.Sx.V rfl wu rfl rfl (asg rfl) ?_
  refine Go.Sx.V rfl wu rfl rfl (asg rfl) ?_
  refine Go.Sx.V rfl wu rfl rfl (asg rfl) ?_
  refine wr_nil (post_thenN (wc_seq (wc_seq ?_)))
  have hmi := hr.ext hE
  refine wc_region [0] rfl ?_
  refine Go.Sx.V rfl wu rfl rfl (mv rfl) ?_
  refine wr_nil (post_thenN ?_)
  refine wc_cond rfl ?_ ?_
  · intro h
    refine wc_seq ?_
    refine wc_region [0,1,2,3,4] rfl ?_
    refine Go.Sx.V rfl wu rfl rfl (mv rfl) ?_
    refine Go.Sx.V rfl wu rfl rfl (mv rfl) ?_
    refine Go.Sx.V rfl wu rfl rfl (asg rfl) ?_
    refine Go.Sx.V rfl wu rfl rfl (asg rfl) ?_
    refine Go.Sx.V rfl wu rfl rfl (asg rfl) ?_
    refine wr_nil (post_thenN (wc_ret (post_thenR ?_)))
    refine post_ret3 rfl rfl rfl rfl ?_
    exact ⟨hE, .inl (by rw [h]; rfl)⟩
  · intro h
    rcases hcase with hd | ⟨_, P, hp, hM, hFV, hG⟩
    · rw [hd] at h; cases h
    dsimp only at hB
    subst hp hM
    have hF := hFV _ _ hmi
    have hgen := hG.gen
    have hord := hF.ord
    have hn1 := n1_eq (P := P)
    have hX := Ext.refl w2
    refine wc_skip (post_thenN (wc_seq ?_))
    refine wc_region [0,1,2,3,4,5,6,7] rfl ?_
    refine Go.Sx.V rfl wu rfl rfl (mv rfl) ?_
    refine Go.Sx.V rfl wu rfl rfl (mv rfl) ?_
    refine C rfl wu rfl rfl Try.call51 (dNew P gv b _ (hG.ext hX)) ?_
    rintro nv w3 hE3 hn0
    obtain ⟨tv, e, hne, hnew⟩ := hn0.split
    subst hne
    replace hX := hX.trans hE3
    refine Go.Sx.V rfl wu rfl rfl (mv rfl) ?_
    refine Go.Sx.V rfl wu rfl rfl (ext rfl rfl) ?_
    refine Go.Sx.V rfl wu rfl rfl (ext rfl rfl) ?_
    refine Go.Sx.V rfl wu rfl rfl (asg rfl) ?_
    refine Go.Sx.V rfl wu rfl rfl (asg rfl) ?_
    refine wr_nil (post_thenN (wc_seq ?_))
    refine wc_region [0,1,2,3] rfl ?_
    refine Go.Sx.V rfl wu rfl rfl (ldA rfl ag24 hB) ?_
    refine Go.Sx.V rfl wu rfl rfl (mv rfl) ?_
    refine C rfl wu rfl rfl Try.call52 (rBase P mo md b _ (hF.ext hX) hgen) ?_
    rintro _ w4 hE4 ⟨x, rfl, hx⟩
    replace hX := hX.trans hE4
    refine Go.Sx.V rfl wu rfl rfl (asg rfl) ?_
    refine wr_nil (post_thenN (wc_seq (wc_seq ?_)))
    have hex : e = x := by
      rcases hnew with ⟨h1, h2⟩ | ⟨h1, h2, h3⟩ | ⟨h1, h2, _⟩ <;> rcases hx with ⟨k1, k2⟩ | ⟨k1, k2, k3⟩ | ⟨k1, k2, k3⟩ <;> first | omega | exact absurd h1 k1 | exact absurd k1 h1 | exact absurd h1 k2 | exact absurd k3 h2 | exact absurd h2.prim k2 | exact absurd k1 h2.nz
    subst hex
    refine wc_region [0,1] rfl ?_
    refine Go.Sx.V rfl wu rfl rfl (mv rfl) ?_
    refine Go.Sx.V rfl wu rfl rfl (neqI rfl rfl) ?_
    refine wr_nil (post_thenN ?_)
    refine wc_cond rfl ?_ ?_
    · intro he
      simp at he
      refine wc_seq ?_
      refine wc_draw mixed [0,1,2,3,4,6,5,7,8,9,10,11,12,13] (by kernel_rfl) ?_
      intro w5 hd5 _
      replace hX := hX.trans hd5
      refine Go.Sx.V rfl wu rfl rfl (mv rfl) ?_
      refine Go.Sx.V rfl wu rfl rfl (mv rfl) ?_
      refine Go.Sx.V rfl wu rfl rfl (eqlI rfl rfl) ?_
      refine Go.Sx.V rfl wu rfl rfl (mv rfl) ?_
      refine KB 33 true rfl (by simp) ?_
      refine Go.Sx.V rfl (wg rfl rfl) rfl rfl (mv rfl) ?_
      refine Go.Sx.V rfl (wg rfl rfl) rfl rfl (ldA rfl ag24 hB) ?_
      refine C rfl (wg rfl rfl) rfl rfl Try.call19 (dIsPrim P gv 1 _ (hG.ext hX)) ?_
      rintro _ w6 hE6 ⟨pr, rfl, hpr⟩
      replace hX := hX.trans hE6
      refine C rfl (wg rfl rfl) rfl rfl Try.call33 (rOrder P.p P.M mo _) ?_
      rintro _ w7 hE7 rfl
      rw [hord]
      replace hX := hX.trans hE7
      refine Go.Sx.V rfl (wg rfl rfl) rfl rfl (eqlI rfl rfl) ?_
      refine Go.Sx.V rfl (wg rfl rfl) rfl rfl (eqlB rfl rfl und4) ?_
      refine Go.Sx.V rfl wu rfl rfl (pk rfl rfl) ?_
      refine Go.Sx.V rfl wu rfl rfl (asg rfl) ?_
      refine Go.Sx.V rfl wu rfl rfl (asg rfl) ?_
      refine Go.Sx.V rfl wu rfl rfl (asg rfl) ?_
      refine wr_nil (post_thenN (wc_ret (post_thenR ?_)))
      refine post_ret3 rfl rfl rfl rfl ?_
      refine ⟨hE.trans hX, .inl ?_⟩
      have h1 : inK P 1 = 1 := inK_in (by have := P.q_two; omega)
      have : pr = decide (P.q = 2) := by
        rw [h1] at hpr
        have h2 : HasOrder (1 : K P) (n1 P) ↔ P.q = 2 := by
          constructor
          · intro h
            have := HasOrder.unique h order_one
            omega
          · intro h
            rw [show n1 P = 1 by omega]
            exact order_one
        rw [h2] at hpr
        cases pr
        · have : ¬ P.q = 2 := fun h => by have := hpr.2 h; cases this
          simp [this]
        · simp [hpr.1 rfl]
      simp [this]
    · intro he
      simp at he
      subst he
      rcases hnew with ⟨_, h2⟩ | ⟨_, _, h3⟩ | ⟨_, hT, k, rfl⟩
      · omega
      · omega
      refine wc_skip (post_thenN (wc_seq (wc_seq ?_)))
      refine wc_region [0,1,2,3,4,5,6,7,8,9,10,11] rfl ?_
      refine Go.Sx.V rfl wu rfl rfl (mv rfl) ?_
      refine Go.Sx.V rfl wu rfl rfl (neqI rfl rfl) ?_
      refine Go.Sx.V rfl wu rfl rfl (mv rfl) ?_
      refine KB 43 false rfl (by simp) ?_
      refine Go.Sx.V rfl (wg rfl rfl) rfl rfl (mv rfl) ?_
      refine Go.Sx.V rfl (wg rfl rfl) rfl rfl (eqlP rfl rfl Try.underlying52) ?_
      refine Go.Sx.V rfl wu rfl rfl (pk rfl rfl) ?_
      refine Go.Sx.V rfl wu rfl rfl (mv rfl) ?_
      refine KB 47 false rfl (by simp) ?_
      refine Go.Sx.V rfl (wg rfl rfl) rfl rfl (mv rfl) ?_
      refine C rfl (wg rfl rfl) rfl rfl Try.call53 (tBase P _ b _ (hT.ext hE4)) ?_
      rintro _ w5 hE5 rfl
      replace hX := hX.trans hE5
      refine Go.Sx.V rfl (wg rfl rfl) rfl rfl (mv rfl) ?_
      refine Go.Sx.V rfl (wg rfl rfl) rfl rfl (neqI rfl rfl) ?_
      refine Go.Sx.V rfl wu rfl rfl (pk rfl rfl) ?_
      refine wr_nil (post_thenN ?_)
      refine wc_condF rfl (by simp) ?_
      refine wc_skip (post_thenN (wc_seq ?_))
      refine wc_region [0,1,2,3] rfl ?_
      refine Go.Sx.V rfl wu rfl rfl (mv rfl) ?_
      refine Go.Sx.V rfl wu rfl rfl (asg rfl) ?_
      refine Go.Sx.V rfl wu rfl rfl (asg rfl) ?_
      refine Go.Sx.V rfl wu rfl rfl (asg rfl) ?_
      refine wr_nil (post_thenN (wc_ret ?_))
      refine post_ret3 rfl rfl rfl rfl ?_
      exact ⟨hE.trans hX, .inr ⟨P, rfl, rfl, hFV, _, rfl, (hT.ext hE4).ext hE5⟩⟩
end Go.Proofs.Ytmookiiehfdloaa
