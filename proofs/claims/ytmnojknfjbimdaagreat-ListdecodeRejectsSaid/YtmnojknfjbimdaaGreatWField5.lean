/-
  field.New, by contract: nil and the error, or a field with the powers of a residue of the greatest order and their exponents.
-/
import Derived.Test.YtmnojknfjbimdaaGreatWField4
import Derived.Test.YtmnojknfjbimdaaGreatWMSxa
namespace Go.Proofs.YtmnojknfjbimdaaGreat
open Go Go.Sx Go.Pl Go.RowKit Go.Fd Go.Alg
def LogOk {P : FP} (x : K P) (n : Nat) (l : List Int) : Prop := (l.length : Int) = P.q ∧ ∀ i : Nat, i < n → gi l (npow x i).1 = i
structure GFV (w : World) (P : FP) (v : Value) : Prop where
  ex : ∃ (b : Nat) (mc exp log : Value) (md lg : List Int) (x : K P), v = .pointer (some ⟨b, 0, none⟩) ∧ Blk w b 120 #[.int .i64 P.p, .int .i64 P.M, mc, .int .i64 P.q, exp, log] ∧ FV w P mc md ∧
    HasOrder x (n1 P) ∧ Ints w exp (pows x (n1 P)) ∧ Ints w log lg ∧ LogOk x (n1 P) lg
theorem GFV.ext {w w' : World} {P : FP} {v : Value} (h : GFV w P v) (hE : Ext w w') : GFV w' P v := by
  obtain ⟨b, mc, exp, log, md, lg, x, h1, h2, h3, h4, h5, h6, h7⟩ := h
  exact ⟨b, mc, exp, log, md, lg, x, h1, h2.ext hE, h3.ext hE, h4, h5.ext hE, h6.ext hE, h7⟩
theorem LogOk.step {P : FP} {x : K P} (hx : HasOrder x (n1 P)) {n : Nat} {l : List Int} (h : LogOk x n l) (hn : n < n1 P) : LogOk x (n + 1) (si l (npow x n).1 n) := by
  have hlen := h.1
  refine ⟨by rw [si_length]; exact hlen, fun i hi => ?_⟩
  have b1 := (npow x n).2
  have b2 := (npow x i).2
  have hn' : (npow x n).1.toNat < l.length := by omega
  by_cases e : i = n
  · subst e
    simp [gi, si, hn']
  · have hne : (npow x n).1.toNat ≠ (npow x i).1.toNat := fun he => by
      have : npow x n = npow x i := Subtype.ext (by omega)
      exact e (pow_inj hx (i := i) (j := n) (by omega) hn this.symm)
    have := h.2 i (by omega)
    simpa [gi, si, List.getElem?_set_ne hne] using this
set_option maxRecDepth 10000 in
theorem fNew (p M : Int) (mo : Value) (md : List Int) (w : World) (hmd : Ints w mo md) :
    Calls Tryz.prog 48 #[fv0 p M mo] w (RetX w fun v w' => (v = .tuple #[.pointer none, .int .i64 1] ∧ ¬ OkF p M md) ∨
      (∃ h : OkF p M md, ∃ g, v = .tuple #[g, .int .i64 0] ∧ GFV w' (fpOf p M md h.1.1 h.1.2.1) g)) := by
  refine calls1 Tryz.func48 rfl rfl ?_
  refine wc_seq ?_
  refine wc_region [0,1,2] rfl ?_
  refine BXA rfl wu rfl rfl ?_
  intro g w1 hE hB hg
  refine Go.Sx.V rfl wu rfl rfl (asg rfl) ?_
  refine Go.Sx.V rfl wu rfl rfl (asg rfl) ?_
  refine wr_nil (post_thenN (wc_seq (wc_seq ?_)))
  have hmi := hmd.ext hE
  refine wc_region [0,1,2] rfl ?_
  refine Go.Sx.V rfl wu rfl rfl (ldA rfl ag24) ?_
  refine C rfl wu rfl rfl Tryz.call81 (fShape p M mo md _ hmi) ?_
  rintro _ w2 hE2 ⟨b, rfl, hb⟩
  replace hB := hB.ext hE2
  replace hE := hE.trans hE2
  replace hmi := hmi.ext hE2
  refine Go.Sx.V rfl wu rfl rfl (notB rfl) ?_
  refine wr_nil (post_thenN ?_)
  refine wc_cond rfl ?_ ?_
  · intro h
    simp at h
    refine wc_seq ?_
    refine wc_region [0,1] rfl ?_
    refine Go.Sx.V rfl wu rfl rfl (asg rfl) ?_
    refine Go.Sx.V rfl wu rfl rfl (asg rfl) ?_
    refine wr_nil (post_thenN (wc_ret (post_thenR ?_)))
    refine post_ret2 rfl rfl rfl ?_
    exact ⟨hE, .inl ⟨rfl, fun ho => by rw [hb.2 ho.1] at h; cases h⟩⟩
  · intro h
    simp at h
    have hS := hb.1 h
    obtain ⟨eo, eo0, hp⟩ := ordZ_eq hS.1 hS.2.1 hS.2.2.1 hS.2.2.2.1
    obtain ⟨P, hP⟩ : ∃ P, P = fpOf p M md hS.1 hS.2.1 := ⟨_, rfl⟩
    have hPp : P.p = p := by rw [hP]; rfl
    have hPM : (P.M : Int) = M := by rw [hP]; show (M.toNat : Int) = M; have := hS.2.1; omega
    have hPq : P.q = ordZ p M := by rw [eo, hP]; rfl
    have hPmd : P.md = fun j => md.getD j 0 := by rw [hP]; rfl
    have hFV : ∀ w' mc, Ints w' mc md → FV w' P mc md := fun w' mc hi => ⟨hi, by omega, by have := hS.2.2.1; omega, by rw [hPq, eo]; exact hS.2.2.2.1, hPmd, fun h1 => hS.2.2.2.2.2.1 (by omega), fun h1 => by have := (hS.2.2.2.2.2.2 (by omega)).1; omega, (by
      rw [hPp]
      by_cases h1 : M = 1
      · rw [hS.2.2.2.2.2.1 h1]; intro z hz; cases hz
      · exact (hS.2.2.2.2.2.2 h1).2)⟩
    have hq2 := P.q_two
    have hn1 := n1_eq (P := P)
    have hq := (hFV _ _ hmi).q
    have hml := hmi.le
    have hfv : fv P mo = fv0 p M mo := by rw [fv, fv0, hPp, hPM]
    refine wc_skip (post_thenN (wc_seq ?_))
    refine wc_region [0,1,2,3,4,5] rfl ?_
    refine Go.Sx.V rfl wu rfl rfl (fad rfl fa24_0) ?_
    refine Go.Sx.V rfl wu rfl rfl (ldB rfl na3) ?_
    refine Go.Sx.V rfl wu rfl rfl (fad rfl fa24_1) ?_
    refine Go.Sx.V rfl wu rfl rfl (ldB rfl na3) ?_
    refine C rfl wu rfl rfl Tryz.call82 (fOrder p M _) ?_
    rintro _ w3 hE3 rfl
    replace hB := hB.ext hE3
    replace hE := hE.trans hE3
    replace hmi := hmi.ext hE3
    rw [← hPq]
    refine Go.Sx.V rfl wu rfl rfl (asg rfl) ?_
    refine wr_nil (post_thenN (wc_seq ?_))
    refine wc_region [0,1,2,3] rfl ?_
    refine Go.Sx.V rfl wu rfl rfl (ldA rfl ag24) ?_
    refine Go.Sx.V rfl wu rfl rfl (mv rfl) ?_
    have hcall := fGenerator P mo md _ (hFV _ _ hmi)
    rw [hfv] at hcall
    refine C rfl wu rfl rfl Tryz.call83 hcall ?_
    rintro e w4 hE4 hgen
    replace hB := hB.ext hE4
    replace hE := hE.trans hE4
    replace hmi := hmi.ext hE4
    refine Go.Sx.V rfl wu rfl rfl (asg rfl) ?_
    refine wr_nil (post_thenN (wc_seq (wc_seq ?_)))
    have hesl : ∃ a n c, e = .slice a n c := by
      rcases hgen with ⟨rfl, _⟩ | ⟨x, _, hi, _⟩
      · exact ⟨_, _, _, rfl⟩
      · obtain ⟨⟨a, c, he, _⟩, _⟩ := hi
        exact ⟨_, _, _, he⟩
    refine wc_region [0,1] rfl ?_
    refine Go.Sx.V rfl wu rfl rfl (mv rfl) ?_
    refine Go.Sx.V rfl wu rfl rfl (eqlN rfl rfl Tryz.underlying22 hesl) ?_
    refine wr_nil (post_thenN ?_)
    rcases hgen with ⟨rfl, hno⟩ | ⟨x, hx, hei, ge, hge⟩
    · skip
      refine wc_condT rfl (rfl) ?_
      refine wc_seq ?_
      refine wc_region [0,1] rfl ?_
      refine Go.Sx.V rfl wu rfl rfl (asg rfl) ?_
      refine Go.Sx.V rfl wu rfl rfl (asg rfl) ?_
      refine wr_nil (post_thenN (wc_ret (post_thenR ?_)))
      refine post_ret2 rfl rfl rfl ?_
      refine ⟨hE, .inl ⟨rfl, fun ho => ?_⟩⟩
      obtain ⟨x, hx⟩ := ho.gen
      subst hP
      exact hno x hx
    · skip
      refine wc_condF rfl (by simp [hge]) ?_
      refine wc_skip (post_thenN (wc_seq ?_))
      have hO : OkF p M md := by subst hP; exact OkF.of_gen hS hx
      have hgoal : ∀ (w' : World) (v : Value), GFV w' P v → ∃ h : OkF p M md, ∃ g, Value.tuple #[v, .int .i64 0] = .tuple #[g, .int .i64 0] ∧ GFV w' (fpOf p M md h.1.1 h.1.2.1) g := fun w' v hv => by
        subst hP
        exact ⟨hO, v, rfl, hv⟩
      have hE0 := hE
      clear hE
      have hE := Ext.refl w4
      refine wc_cut (σ := Value × Value × Nat) (fun q => [(4, .int .i64 P.q), (5, e), (6, .pointer (some ⟨q.2.2, 0, none⟩))])
        (fun q w' => Ext w4 w' ∧ Blk w' q.2.2 120 #[.int .i64 p, .int .i64 M, q.1, .int .i64 P.q, e, q.2.1] ∧ Ints w' q.1 md ∧ OwnI w4.heap.size w' q.2.1 3 (tab P.q.toNat fun _ => 0) ∧ q.1.ownBlock ≠ q.2.1.ownBlock ∧ q.2.1.ownBlock ≠ some q.2.2) ?_ ?_
      · skip
        have hmd8 : md.length ≤ 8 := by
          by_cases h1 : M = 1
          · rw [hS.2.2.2.2.2.1 h1]; simp
          · have := (hS.2.2.2.2.2.2 h1).1
            have := hS.2.2.1
            omega
        refine wc_drawT mixed (.br [0,1,2,3,5,6,9,10,11] (.br [4] (.leaf [7,8,12,13,14,15]) (.leaf [12,7,8,13,14,15])) (.leaf [12,4,7,8,13,14,15])) (by kernel_rfl) ?_
        intro w5 hd _
        replace hE := hE.trans hd
        refine wt_br ?_
        refine Go.Sx.V rfl wu rfl rfl (fad rfl fa24_0) ?_
        refine Go.Sx.V rfl wu rfl rfl (ldB rfl na3) ?_
        refine Go.Sx.V rfl wu rfl rfl (fad rfl fa24_1) ?_
        refine Go.Sx.V rfl wu rfl rfl (ldB rfl na3) ?_
        refine Go.Sx.V rfl wu rfl rfl (fad rfl fa24_2) ?_
        refine Go.Sx.V rfl wu rfl rfl (ldB rfl na22) ?_
        refine Go.Sx.V rfl wu rfl rfl (mv rfl) ?_
        refine Go.Sx.V rfl wu rfl rfl (mv rfl) ?_
        refine Go.Sx.V rfl wu rfl rfl (mv rfl) ?_
        refine wr_br ?_ ?_
        · skip
          refine wt_br ?_
          refine BS0 rfl wu rfl ty22 ?_
          intro gl w6 hE6 hgl hgl2
          have hz6 := hE6.size
          replace hE := hE.trans hE6
          try replace hlog := OwnI.ext hlog hE6
          refine wr_br ?_ ?_
          · skip
            refine wt_leaf ?_
            refine AP0 rfl wu rfl rfl rfl ty22 hmi hE (by omega) ?_
            intro mc w8 hE8 hmc hmcb
            have hz8 := hE8.size
            replace hE := hE.trans hE8
            try replace hlog := OwnI.ext hlog hE8
            refine Go.Sx.V rfl wu rfl rfl (bld (us := [.int .i64 p, .int .i64 M, mc]) (r := [.int .i64 p, .int .i64 M, mc]) rfl (bdF _ _ _ (cells_ints hmc))) ?_
            refine MKI (n := P.q.toNat) rfl wu rfl rfl ty22 ?_
            intro log w7 hE7 hlog hlogi hlogb
            have hz7 := hE7.size
            have hl7 := (Own.lt hlog _ hlogb).2
            replace hlog := Own.mono hlog (B' := w4.heap.size) hE.size
            replace hE := hE.trans hE7
            try replace hmc := hmc.ext hE7
            refine Go.Sx.V rfl wu rfl rfl (bld (us := [.agg #[.int .i64 p, .int .i64 M, mc], .int .i64 P.q, e, log]) (r := [.int .i64 p, .int .i64 M, mc, .int .i64 P.q, e, log]) rfl (bdG _ _ _ _ _ _ (cells_ints hei) (cells_ints (OwnI.ints hlog)))) ?_
            refine BXA rfl wu rfl rfl ?_
            intro g2 w9 hE9 hB9 hg9
            refine Go.Sx.V rfl wu rfl rfl (asg rfl) ?_
            refine wr_nil ?_
            refine post_cutN (mc, log, g2) ⟨rfl, rfl, rfl, trivial⟩ ⟨hE.trans hE9, hB9, hmc.ext hE9, OwnI.ext hlog hE9, ?_, ?_⟩
            · show mc.ownBlock ≠ log.ownBlock; rcases hmcb with e1 | ⟨e1, e2⟩ <;> (rw [e1, hlogb]; intro e'; have e' := Option.some.inj e'; omega)
            · show log.ownBlock ≠ some g2; have hlt := (Own.lt hlog _ hlogb).2; rw [hlogb]; intro e'; have e' := Option.some.inj e'; omega
          · skip
            refine wt_leaf ?_
            refine MKI (n := P.q.toNat) rfl wu rfl rfl ty22 ?_
            intro log w7 hE7 hlog hlogi hlogb
            have hz7 := hE7.size
            have hl7 := (Own.lt hlog _ hlogb).2
            replace hlog := Own.mono hlog (B' := w4.heap.size) hE.size
            replace hE := hE.trans hE7
            try replace hmc := hmc.ext hE7
            refine AP0 rfl wu rfl rfl rfl ty22 hmi hE (by omega) ?_
            intro mc w8 hE8 hmc hmcb
            have hz8 := hE8.size
            replace hE := hE.trans hE8
            try replace hlog := OwnI.ext hlog hE8
            refine Go.Sx.V rfl wu rfl rfl (bld (us := [.int .i64 p, .int .i64 M, mc]) (r := [.int .i64 p, .int .i64 M, mc]) rfl (bdF _ _ _ (cells_ints hmc))) ?_
            refine Go.Sx.V rfl wu rfl rfl (bld (us := [.agg #[.int .i64 p, .int .i64 M, mc], .int .i64 P.q, e, log]) (r := [.int .i64 p, .int .i64 M, mc, .int .i64 P.q, e, log]) rfl (bdG _ _ _ _ _ _ (cells_ints hei) (cells_ints (OwnI.ints hlog)))) ?_
            refine BXA rfl wu rfl rfl ?_
            intro g2 w9 hE9 hB9 hg9
            refine Go.Sx.V rfl wu rfl rfl (asg rfl) ?_
            refine wr_nil ?_
            refine post_cutN (mc, log, g2) ⟨rfl, rfl, rfl, trivial⟩ ⟨hE.trans hE9, hB9, hmc.ext hE9, OwnI.ext hlog hE9, ?_, ?_⟩
            · show mc.ownBlock ≠ log.ownBlock; rcases hmcb with e1 | ⟨e1, e2⟩ <;> (rw [e1, hlogb]; intro e'; have e' := Option.some.inj e'; omega)
            · show log.ownBlock ≠ some g2; have hlt := (Own.lt hlog _ hlogb).2; rw [hlogb]; intro e'; have e' := Option.some.inj e'; omega
        · skip
          refine wt_leaf ?_
          refine MKI (n := P.q.toNat) rfl wu rfl rfl ty22 ?_
          intro log w7 hE7 hlog hlogi hlogb
          have hz7 := hE7.size
          have hl7 := (Own.lt hlog _ hlogb).2
          replace hlog := Own.mono hlog (B' := w4.heap.size) hE.size
          replace hE := hE.trans hE7
          try replace hmc := hmc.ext hE7
          refine BS0 rfl wu rfl ty22 ?_
          intro gl w6 hE6 hgl hgl2
          have hz6 := hE6.size
          replace hE := hE.trans hE6
          try replace hlog := OwnI.ext hlog hE6
          refine AP0 rfl wu rfl rfl rfl ty22 hmi hE (by omega) ?_
          intro mc w8 hE8 hmc hmcb
          have hz8 := hE8.size
          replace hE := hE.trans hE8
          try replace hlog := OwnI.ext hlog hE8
          refine Go.Sx.V rfl wu rfl rfl (bld (us := [.int .i64 p, .int .i64 M, mc]) (r := [.int .i64 p, .int .i64 M, mc]) rfl (bdF _ _ _ (cells_ints hmc))) ?_
          refine Go.Sx.V rfl wu rfl rfl (bld (us := [.agg #[.int .i64 p, .int .i64 M, mc], .int .i64 P.q, e, log]) (r := [.int .i64 p, .int .i64 M, mc, .int .i64 P.q, e, log]) rfl (bdG _ _ _ _ _ _ (cells_ints hei) (cells_ints (OwnI.ints hlog)))) ?_
          refine BXA rfl wu rfl rfl ?_
          intro g2 w9 hE9 hB9 hg9
          refine Go.Sx.V rfl wu rfl rfl (asg rfl) ?_
          refine wr_nil ?_
          refine post_cutN (mc, log, g2) ⟨rfl, rfl, rfl, trivial⟩ ⟨hE.trans hE9, hB9, hmc.ext hE9, OwnI.ext hlog hE9, ?_, ?_⟩
          · show mc.ownBlock ≠ log.ownBlock; rcases hmcb with e1 | ⟨e1, e2⟩ <;> (rw [e1, hlogb]; intro e'; have e' := Option.some.inj e'; omega)
          · show log.ownBlock ≠ some g2; have hlt := (Own.lt hlog _ hlogb).2; rw [hlogb]; intro e'; have e' := Option.some.inj e'; omega
      · rintro ⟨mc, log, g2⟩ w6 ⟨hE, hB2, hmc, hlog, hne1, hne2⟩
        dsimp only at hE hB2 hmc hlog hne1 hne2
        have hpl := pows_length x (n1 P)
        refine wc_seq (wc_seq ?_)
        refine wc_region [0,1,2] rfl ?_
        refine Go.Sx.V rfl wu rfl rfl (mv rfl) ?_
        refine Go.Sx.V rfl wu rfl rfl (lenI rfl ty22 hei) ?_
        refine Go.Sx.V rfl wu rfl rfl (mv rfl) ?_
        refine wr_nil (post_thenN (wc_block ?_))
        rw [hpl]
        refine wc_loop (fun q : Int × List Int => [(6, .pointer (some ⟨g2, 0, none⟩)), (37, e), (38, .int .i64 (n1 P : Int)), (39, .int .i64 q.1)])
          (fun q w' => 0 ≤ q.1 ∧ q.1 ≤ n1 P ∧ Ext w4 w' ∧ Blk w' g2 120 #[.int .i64 p, .int .i64 M, mc, .int .i64 P.q, e, log] ∧ Ints w' mc md ∧ OwnI w4.heap.size w' log 3 q.2 ∧ LogOk x q.1.toNat q.2) (fun q => (n1 P - q.1).toNat) (0, tab P.q.toNat fun _ => 0)
          ⟨rfl, rfl, rfl, rfl, trivial⟩ ⟨Int.le_refl _, by show (0 : Int) ≤ n1 P; omega, hE, hB2, hmc, hlog, by show ((tab P.q.toNat fun _ => (0 : Int)).length : Int) = P.q; rw [tab_length]; omega, fun i hi => absurd hi (by simp)⟩ ?_
        clear hE hB2 hmc hlog
        rintro ⟨i, lg⟩ w7 ⟨h0, h1, hE, hB2, hmc, hlog, hL⟩
        dsimp only at h0 h1 hE hB2 hmc hlog hL
        have hlogi := OwnI.ints hlog
        have hlgl := hL.1
        try dsimp only
        refine wc_seq ?_
        refine wc_region [0] rfl ?_
        refine Go.Sx.V rfl wu rfl rfl (lssI rfl rfl) ?_
        refine wr_nil (post_thenN (wc_seq ?_))
        refine wc_cond rfl ?_ ?_
        · intro hi
          simp at hi
          refine wc_skip (post_thenN (wc_seq (wc_block (wc_seq ?_))))
          have hpb := (npow x i.toNat).2
          refine wc_region [0,1,2,3,4] rfl ?_
          refine Go.Sx.V rfl wu rfl rfl (mv rfl) ?_
          refine Go.Sx.V rfl wu rfl rfl (iadI rfl rfl ty22 hei) ?_
          refine Go.Sx.V rfl wu rfl rfl (ldI rfl na3 hei) ?_
          refine Go.Sx.V rfl wu rfl rfl (asg rfl) ?_
          refine Go.Sx.V rfl wu rfl rfl (asg rfl) ?_
          refine wr_nil (post_thenN ?_)
          rw [pows_get x h0 hi]
          refine wc_region [0,1,2,3,4,5,6,7] rfl ?_
          refine Go.Sx.V rfl wu rfl rfl (mv rfl) ?_
          refine Go.Sx.V rfl wu rfl rfl (nchk rfl) ?_
          refine Go.Sx.V rfl wu rfl rfl (fad rfl fa120_3) ?_
          refine Go.Sx.V rfl wu rfl rfl (ldB rfl na22 hB2) ?_
          refine Go.Sx.V rfl wu rfl rfl (mv rfl) ?_
          refine Go.Sx.V rfl wu rfl rfl (mv rfl) ?_
          refine Go.Sx.V rfl wu rfl rfl (iadI rfl rfl ty22) ?_
          refine STI rfl wu rfl rfl sz3 (by intro h; cases h) ?_
          intro w8 hg8 hX8 hlog8 hlogi8
          refine wr_nil (post_blockN (post_thenN ?_))
          have hL8 := hL.step hx (by omega)
          rw [show ((i.toNat : Nat) : Int) = i by omega] at hL8
          refine wc_region [0,1] rfl ?_
          refine Go.Sx.V rfl wu rfl rfl (addI rfl rfl) ?_
          refine Go.Sx.V rfl wu rfl rfl (mv rfl) ?_
          refine wr_nil ?_
          exact post_loopN (i + 1, si lg (npow x i.toNat).1 i) ⟨rfl, rfl, rfl, rfl, trivial⟩ ⟨by show 0 ≤ i + 1; omega, by show i + 1 ≤ _; omega, hX8 _ (Nat.le_refl _) hE, hB2.grown hg8 hne2, hmc.kept hg8 hne1, hlog8, by show LogOk x (i + 1).toNat _; rw [show (i + 1).toNat = i.toNat + 1 by omega]; exact hL8⟩ (by show (n1 P - (i + 1)).toNat < (n1 P - i).toNat; omega)
        · intro hi
          simp at hi
          refine wc_exit (post_thenE (post_loopE (post_blockX (post_thenN (wc_seq ?_)))))
          refine wc_region [0,1,2] rfl ?_
          refine Go.Sx.V rfl wu rfl rfl (mv rfl) ?_
          refine Go.Sx.V rfl wu rfl rfl (asg rfl) ?_
          refine Go.Sx.V rfl wu rfl rfl (asg rfl) ?_
          refine wr_nil (post_thenN (wc_ret ?_))
          refine post_ret2 rfl rfl rfl ?_
          have hn : i.toNat = n1 P := by omega
          rw [hn] at hL
          refine ⟨hE0.trans hE, .inr (hgoal _ _ ⟨g2, mc, e, log, md, lg, x, rfl, ?_, hFV _ _ hmc, hx, hei.ext hE, hlogi, hL⟩)⟩
          rw [hPp, hPM]
          exact hB2
end Go.Proofs.YtmnojknfjbimdaaGreat

