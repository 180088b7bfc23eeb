/-
  The references of Reed-Solomon codes and of the list decoder, by contract.
-/
import Derived.Test.YtmnojknfjbimdaaGreatULd1
import Derived.Test.YtmnojknfjbimdaaGreatURPoly
import Derived.Test.YtmnojknfjbimdaaGreatURHas
namespace Go.Proofs.YtmnojknfjbimdaaGreat
open Go Go.Sx Go.Pl Go.RowKit Go.Fd Go.Alg Go.Ld
theorem chk2_split {v : Value} {A : Prop} (h : (v = .int .i64 0 ∧ A) ∨ (v = .int .i64 1 ∧ ¬ A)) : ∃ c, v = .int .i64 c ∧ ((c = 0 ∧ A) ∨ (c = 1 ∧ ¬ A)) := by
  rcases h with ⟨h1, h2⟩ | ⟨h1, h2⟩
  · exact ⟨_, h1, .inl ⟨rfl, h2⟩⟩
  · exact ⟨_, h1, .inr ⟨rfl, h2⟩⟩
theorem okf_fv41 {p M : Int} {md : List Int} (h : OkF p M md) {w : World} {mo : Value} (hi : Ints w mo md) : FV w (fpOf p M md h.1.1 h.1.2.1) mo md := by
  have hS := h.1
  obtain ⟨eo, eo0, hp⟩ := ordZ_eq hS.1 hS.2.1 hS.2.2.1 hS.2.2.2.1
  refine ⟨hi, hp, by have := hS.2.2.1; show M.toNat ≤ 8; omega, hS.2.2.2.1, rfl, fun h1 => hS.2.2.2.2.2.1 (by have : M.toNat = 1 := h1; omega), fun h1 => ?_, ?_⟩
  · have h1' : ¬ M.toNat = 1 := h1
    have := (hS.2.2.2.2.2.2 (by omega)).1
    show md.length = M.toNat
    omega
  · show Lo p md
    by_cases h1 : M = 1
    · rw [hS.2.2.2.2.2.1 h1]; intro z hz; cases hz
    · exact (hS.2.2.2.2.2.2 h1).2
theorem fv_of {p M : Int} {md : List Int} (h : OkF p M md) (mo : Value) : fv (fpOf p M md h.1.1 h.1.2.1) mo = .agg #[.int .i64 p, .int .i64 M, mo] := by
  have : (((M.toNat : Nat) : Int)) = M := by have := h.1.2.1; omega
  show Value.agg #[.int .i64 p, .int .i64 ((M.toNat : Nat) : Int), mo] = _
  rw [this]
set_option maxRecDepth 10000 in
theorem rGCheck (p M K : Int) (mo pu mu : Value) (md xs ms : List Int) (w : World) (hmd : Ints w mo md) (hx : Ints w pu xs) (hm : Ints w mu ms) :
    Calls Tryz.prog 35 #[gval p M mo K pu mu] w (RetX w fun v _ => v = .int .i64 (gsT p M md xs ms K)) := by
  have hxle := hx.le
  have hmle := hm.le
  refine calls1 Tryz.func35 rfl rfl ?_
  refine wc_seq ?_
  refine wc_region [0,1] rfl ?_
  refine BXA rfl wu rfl rfl ?_
  intro sb w1 hE hB hsb
  refine Go.Sx.V rfl wu rfl rfl (asg rfl) ?_
  refine wr_nil (post_thenN (wc_seq ?_))
  have hxi := hx.ext hE
  refine wc_region [0,1,2,3] rfl ?_
  refine Go.Sx.V rfl wu rfl rfl (fad rfl fa26_2) ?_
  refine Go.Sx.V rfl wu rfl rfl (ldB rfl na22 hB) ?_
  refine Go.Sx.V rfl wu rfl rfl (lenI rfl ty22 hxi) ?_
  refine Go.Sx.V rfl wu rfl rfl (asg rfl) ?_
  refine wr_nil (post_thenN (wc_seq (wc_block (wc_seq ?_))))
  refine wc_region [0,1,2,3,4] rfl ?_
  refine Go.Sx.V rfl wu rfl rfl (fad rfl fa26_0) ?_
  refine Go.Sx.V rfl wu rfl rfl (ldA rfl ag24 hB) ?_
  refine C rfl wu rfl rfl Tryz.call66 (rCheck p M mo md _ (hmd.ext hE)) ?_
  rintro cv w2 hE2 hck
  replace hB := hB.ext hE2
  replace hE := hE.trans hE2
  obtain ⟨cc, rfl, hcase⟩ := chk2_split hck
  refine Go.Sx.V rfl wu rfl rfl (neqI rfl rfl) ?_
  refine Go.Sx.V rfl wu rfl rfl (asg rfl) ?_
  refine wr_nil (post_thenN ?_)
  clear hck hxi
  rcases hcase with ⟨rfl, hok⟩ | ⟨rfl, hno⟩
  · have hgt : gsT p M md xs ms K = grsE (fpOf p M md hok.1.1 hok.1.2.1).q xs ms K := by rw [gsT, dif_pos hok]
    have hFv := fv_of hok mo
    have hFF : ∀ w', Ext w w' → FV w' (fpOf p M md hok.1.1 hok.1.2.1) mo md := fun w' h => okf_fv41 hok (hmd.ext h)
    rw [hgt]
    generalize fpOf p M md hok.1.1 hok.1.2.1 = P at hFv hFF ⊢
    refine wc_condF rfl (by simp) ?_
    refine wc_seq ?_
    refine wc_region [0,1,2,3,4,5,6] rfl ?_
    refine Go.Sx.V rfl wu rfl rfl (mv rfl) ?_
    refine Go.Sx.V rfl wu rfl rfl (lssI rfl rfl) ?_
    refine Go.Sx.V rfl wu rfl rfl (mv rfl) ?_
    refine OR (π1 := [3,4,5]) (π2 := [6]) (tc := 19) (tp := 22) rfl rfl rfl (by
        intro _
        refine SK rfl rfl rfl rfl rfl ?_
        refine SK rfl rfl rfl rfl rfl ?_
        refine Go.Sx.V rfl wu rfl rfl (pk rfl rfl) ?_
        exact join rfl) (by
        intro hg
        simp at hg
        refine Go.Sx.V rfl (wg rfl rfl) rfl rfl (mv rfl) ?_
        refine Go.Sx.V rfl (wg rfl rfl) rfl rfl (gtrI rfl rfl) ?_
        refine Go.Sx.V rfl wu rfl rfl (pk rfl rfl) ?_
        exact join rfl) ?_
    refine Go.Sx.V rfl wu rfl rfl (asg rfl) ?_
    refine wr_nil (post_thenN ?_)
    refine wc_cond rfl ?_ ?_
    · intro h
      simp at h
      refine wc_seq ?_
      refine wc_region [0] rfl ?_
      refine Go.Sx.V rfl wu rfl rfl (asg rfl) ?_
      refine wr_nil (post_thenN (wc_ret (post_blockR (post_thenR ?_))))
      refine post_ret1 rfl rfl ?_
      exact ⟨hE, by rw [grsE, if_pos (by omega)]⟩
    · intro h
      simp at h
      have e1 : ¬ ((xs.length : Int) < 1 ∨ 64 < (xs.length : Int)) := by omega
      have hmi := hm.ext hE
      refine wc_seq ?_
      refine wc_region [0,1,2,3,4,5] rfl ?_
      refine Go.Sx.V rfl wu rfl rfl (fad rfl fa26_3) ?_
      refine Go.Sx.V rfl wu rfl rfl (ldB rfl na22 hB) ?_
      refine Go.Sx.V rfl wu rfl rfl (lenI rfl ty22 hmi) ?_
      refine Go.Sx.V rfl wu rfl rfl (mv rfl) ?_
      refine Go.Sx.V rfl wu rfl rfl (neqI rfl rfl) ?_
      refine Go.Sx.V rfl wu rfl rfl (asg rfl) ?_
      refine wr_nil (post_thenN ?_)
      refine wc_cond rfl ?_ ?_
      · intro h2
        simp at h2
        refine wc_seq ?_
        refine wc_region [0] rfl ?_
        refine Go.Sx.V rfl wu rfl rfl (asg rfl) ?_
        refine wr_nil (post_thenN (wc_ret (post_blockR (post_thenR ?_))))
        refine post_ret1 rfl rfl ?_
        exact ⟨hE, by rw [grsE, if_neg e1, if_pos (by omega)]⟩
      · intro h2
        simp at h2
        have e2 : ¬ (ms.length ≠ xs.length) := by omega
        refine wc_skip (post_blockN (post_thenN (wc_seq (wc_seq ?_))))
        refine wc_region [0] rfl ?_
        refine Go.Sx.V rfl wu rfl rfl (asg rfl) ?_
        refine wr_nil (post_thenN (wc_block ?_))
        refine wc_loop (fun i : Nat => [(1, .pointer (some ⟨sb, 0, none⟩)), (3, .int .i64 xs.length), (4, .int .i64 i)])
          (fun i w' => i ≤ xs.length ∧ Ext w w' ∧ Blk w' sb 26 #[.int .i64 p, .int .i64 M, mo, .int .i64 K, pu, mu] ∧ (∀ j : Nat, j < i → 0 ≤ gi xs j ∧ gi xs j < P.q) ∧ ∀ j : Nat, j < i → 0 ≤ gi ms j ∧ gi ms j < P.q) (fun i => xs.length - i) 0 ⟨rfl, rfl, rfl, trivial⟩ ⟨by omega, hE, hB, fun j hj => by omega, fun j hj => by omega⟩ ?_
        clear hE hB hmi
        rintro i w3 ⟨i1, hE, hB, ha, hb⟩
        have hxi := hx.ext hE
        have hmi := hm.ext hE
        try dsimp only
        refine wc_seq (wc_seq ?_)
        refine wc_region [0,1,2] rfl ?_
        refine Go.Sx.V rfl wu rfl rfl (mv rfl) ?_
        refine Go.Sx.V rfl wu rfl rfl (mv rfl) ?_
        refine Go.Sx.V rfl wu rfl rfl (lssI rfl rfl) ?_
        refine wr_nil (post_thenN ?_)
        refine wc_cond rfl ?_ ?_
        · intro hc
          simp at hc
          refine wc_skip (post_thenN (wc_seq (wc_block (wc_seq ?_))))
          by_cases hin : 0 ≤ gi xs i ∧ gi xs i < P.q
          · skip
            refine wc_draw mixed [0,1,2,3,4,5,6,7,8,9,10,11,12,13,14,15,16,17,18,19] (by kernel_rfl) ?_
            intro w4 hd _
            replace hE := hE.trans hd
            replace hB := hB.ext hd
            replace hxi := hxi.ext hd
            replace hmi := hmi.ext hd
            refine Go.Sx.V rfl wu rfl rfl (fad rfl fa26_0) ?_
            refine Go.Sx.V rfl wu rfl rfl (ldA rfl ag24 hB) ?_
            refine Go.Sx.V rfl wu rfl rfl (fad rfl fa26_2) ?_
            refine Go.Sx.V rfl wu rfl rfl (ldB rfl na22 hB) ?_
            refine Go.Sx.V rfl wu rfl rfl (mv rfl) ?_
            refine Go.Sx.V rfl wu rfl rfl (iadI rfl rfl ty22 hxi (by omega) (by omega)) ?_
            refine Go.Sx.V rfl wu rfl rfl (ldI rfl na3 hxi) ?_
            have hcall := rIs P mo md (gi xs i) _ (hFF _ hE)
            rw [hFv] at hcall
            refine C rfl wu rfl rfl Tryz.call36 hcall ?_
            clear hcall
            rintro _ w5 hE5 rfl
            replace hE := hE.trans hE5
            replace hB := hB.ext hE5
            replace hmi := hmi.ext hE5
            refine Go.Sx.V rfl wu rfl rfl (notB rfl) ?_
            refine Go.Sx.V rfl wu rfl rfl (mv rfl) ?_
            refine KB 43 false rfl (by simp [hin]) ?_
            refine Go.Sx.V rfl (wg rfl rfl) rfl rfl (fad rfl fa26_0) ?_
            refine Go.Sx.V rfl (wg rfl rfl) rfl rfl (ldA rfl ag24 hB) ?_
            refine Go.Sx.V rfl (wg rfl rfl) rfl rfl (fad rfl fa26_3) ?_
            refine Go.Sx.V rfl (wg rfl rfl) rfl rfl (ldB rfl na22 hB) ?_
            refine Go.Sx.V rfl (wg rfl rfl) rfl rfl (mv rfl) ?_
            refine Go.Sx.V rfl (wg rfl rfl) rfl rfl (iadI rfl rfl ty22 hmi (by omega) (by omega)) ?_
            refine Go.Sx.V rfl (wg rfl rfl) rfl rfl (ldI rfl na3 hmi) ?_
            have hcall := rIs P mo md (gi ms i) _ (hFF _ hE)
            rw [hFv] at hcall
            refine C rfl (wg rfl rfl) rfl rfl Tryz.call36 hcall ?_
            clear hcall
            rintro _ w6 hE6 rfl
            replace hE := hE.trans hE6
            replace hB := hB.ext hE6
            refine Go.Sx.V rfl (wg rfl rfl) rfl rfl (notB rfl) ?_
            refine Go.Sx.V rfl wu rfl rfl (pk rfl rfl) ?_
            refine wr_nil (post_thenN ?_)
            refine wc_cond rfl ?_ ?_
            · intro h4
              simp at h4
              refine wc_seq ?_
              refine wc_region [0] rfl ?_
              refine Go.Sx.V rfl wu rfl rfl (asg rfl) ?_
              refine wr_nil (post_thenN (wc_ret (post_blockR (post_thenR (post_loopR (post_blockR (post_thenR ?_)))))))
              refine post_ret1 rfl rfl ?_
              have hno : ¬ AllIn P.q ms := fun hA => by
                have := hA i (by omega)
                omega
              exact ⟨hE, by rw [grsE, if_neg e1, if_neg e2, if_pos (.inr hno)]⟩
            · intro h4
              simp at h4
              refine wc_skip (post_blockN (post_thenN ?_))
              refine wc_region [0,1,2] rfl ?_
              refine Go.Sx.V rfl wu rfl rfl (mv rfl) ?_
              refine Go.Sx.V rfl wu rfl rfl (addI rfl rfl) ?_
              refine Go.Sx.V rfl wu rfl rfl (asg rfl) ?_
              refine wr_nil ?_
              exact post_loopN (i + 1) ⟨rfl, rfl, rfl, trivial⟩ ⟨by omega, hE, hB, allIn_step ha hin, allIn_step hb h4⟩ (by omega)
          · skip
            refine wc_draw mixed [0,1,2,3,4,5,6,7,8,9,10,11,12,13,14,15,16,17,18,19] (by kernel_rfl) ?_
            intro w4 hd _
            replace hE := hE.trans hd
            replace hB := hB.ext hd
            replace hxi := hxi.ext hd
            replace hmi := hmi.ext hd
            refine Go.Sx.V rfl wu rfl rfl (fad rfl fa26_0) ?_
            refine Go.Sx.V rfl wu rfl rfl (ldA rfl ag24 hB) ?_
            refine Go.Sx.V rfl wu rfl rfl (fad rfl fa26_2) ?_
            refine Go.Sx.V rfl wu rfl rfl (ldB rfl na22 hB) ?_
            refine Go.Sx.V rfl wu rfl rfl (mv rfl) ?_
            refine Go.Sx.V rfl wu rfl rfl (iadI rfl rfl ty22 hxi (by omega) (by omega)) ?_
            refine Go.Sx.V rfl wu rfl rfl (ldI rfl na3 hxi) ?_
            have hcall := rIs P mo md (gi xs i) _ (hFF _ hE)
            rw [hFv] at hcall
            refine C rfl wu rfl rfl Tryz.call36 hcall ?_
            clear hcall
            rintro _ w5 hE5 rfl
            replace hE := hE.trans hE5
            replace hB := hB.ext hE5
            refine Go.Sx.V rfl wu rfl rfl (notB rfl) ?_
            refine Go.Sx.V rfl wu rfl rfl (mv rfl) ?_
            refine KB 43 true rfl (by simp; omega) ?_
            refine SK rfl rfl rfl rfl rfl ?_
            refine SK rfl rfl rfl rfl rfl ?_
            refine SK rfl rfl rfl rfl rfl ?_
            refine SK rfl rfl rfl rfl rfl ?_
            refine SK rfl rfl rfl rfl rfl ?_
            refine SK rfl rfl rfl rfl rfl ?_
            refine SK rfl rfl rfl rfl rfl ?_
            refine SK rfl rfl rfl rfl rfl ?_
            refine SK rfl rfl rfl rfl rfl ?_
            refine Go.Sx.V rfl wu rfl rfl (pk rfl rfl) ?_
            refine wr_nil (post_thenN ?_)
            refine wc_condT rfl (by rfl) ?_
            refine wc_seq ?_
            refine wc_region [0] rfl ?_
            refine Go.Sx.V rfl wu rfl rfl (asg rfl) ?_
            refine wr_nil (post_thenN (wc_ret (post_blockR (post_thenR (post_loopR (post_blockR (post_thenR ?_)))))))
            refine post_ret1 rfl rfl ?_
            exact ⟨hE, by rw [grsE, if_neg e1, if_neg e2, if_pos (.inl fun hA => hin (hA i hc))]⟩
        · intro hc
          simp at hc
          have e3 : ¬ (¬ AllIn P.q xs ∨ ¬ AllIn P.q ms) := by
            rintro (h | h)
            · exact h fun j hj => ha j (by omega)
            · exact h fun j hj => hb j (by omega)
          refine wc_exit (post_thenE (post_loopE (post_blockX (post_thenN (wc_seq (wc_seq ?_))))))
          refine wc_region [0] rfl ?_
          refine Go.Sx.V rfl wu rfl rfl (asg rfl) ?_
          refine wr_nil (post_thenN (wc_block ?_))
          have hX3 := Ext.refl w3
          refine wc_loop (fun i : Nat => [(1, .pointer (some ⟨sb, 0, none⟩)), (3, .int .i64 xs.length), (5, .int .i64 i)])
            (fun i w' => i ≤ xs.length ∧ Ext w w' ∧ Blk w' sb 26 #[.int .i64 p, .int .i64 M, mo, .int .i64 K, pu, mu] ∧ ∀ a : Nat, a < i → ∀ b : Nat, b < a → gi xs a ≠ gi xs b) (fun i => xs.length - i) 0 ⟨rfl, rfl, rfl, trivial⟩ ⟨by omega, hE, hB, fun a ha => by omega⟩ ?_
          clear hE hB hxi hmi hX3 ha hb hc i1
          clear i
          rintro i w4 ⟨i1, hE, hB, ha⟩
          try dsimp only
          refine wc_seq (wc_seq ?_)
          refine wc_region [0,1,2] rfl ?_
          refine Go.Sx.V rfl wu rfl rfl (mv rfl) ?_
          refine Go.Sx.V rfl wu rfl rfl (mv rfl) ?_
          refine Go.Sx.V rfl wu rfl rfl (lssI rfl rfl) ?_
          refine wr_nil (post_thenN ?_)
          refine wc_cond rfl ?_ ?_
          · intro hc
            simp at hc
            refine wc_skip (post_thenN (wc_seq (wc_block (wc_seq ?_))))
            refine wc_region [0] rfl ?_
            refine Go.Sx.V rfl wu rfl rfl (asg rfl) ?_
            refine wr_nil (post_thenN (wc_block ?_))
            refine wc_loop (fun j : Nat => [(1, .pointer (some ⟨sb, 0, none⟩)), (3, .int .i64 xs.length), (5, .int .i64 i), (6, .int .i64 j)])
              (fun j w' => j ≤ i ∧ Ext w w' ∧ Blk w' sb 26 #[.int .i64 p, .int .i64 M, mo, .int .i64 K, pu, mu] ∧ ∀ b : Nat, b < j → gi xs i ≠ gi xs b) (fun j => i - j) 0 ⟨rfl, rfl, rfl, rfl, trivial⟩ ⟨by omega, hE, hB, fun b hb => by omega⟩ ?_
            clear hE hB
            rintro j w5 ⟨j1, hE, hB, hb⟩
            have hxi := hx.ext hE
            try dsimp only
            refine wc_seq (wc_seq ?_)
            refine wc_region [0,1,2] rfl ?_
            refine Go.Sx.V rfl wu rfl rfl (mv rfl) ?_
            refine Go.Sx.V rfl wu rfl rfl (mv rfl) ?_
            refine Go.Sx.V rfl wu rfl rfl (lssI rfl rfl) ?_
            refine wr_nil (post_thenN ?_)
            refine wc_cond rfl ?_ ?_
            · intro hc6
              simp at hc6
              refine wc_skip (post_thenN (wc_seq (wc_block (wc_seq ?_))))
              refine wc_draw mixed [0,1,2,3,4,5,6,7,8,9,10] (by kernel_rfl) ?_
              intro w6 hd _
              replace hE := hE.trans hd
              replace hB := hB.ext hd
              replace hxi := hxi.ext hd
              refine Go.Sx.V rfl wu rfl rfl (fad rfl fa26_2) ?_
              refine Go.Sx.V rfl wu rfl rfl (ldB rfl na22 hB) ?_
              refine Go.Sx.V rfl wu rfl rfl (mv rfl) ?_
              refine Go.Sx.V rfl wu rfl rfl (iadI rfl rfl ty22 hxi (by omega) (by omega)) ?_
              refine Go.Sx.V rfl wu rfl rfl (ldI rfl na3 hxi) ?_
              refine Go.Sx.V rfl wu rfl rfl (fad rfl fa26_2) ?_
              refine Go.Sx.V rfl wu rfl rfl (ldB rfl na22 hB) ?_
              refine Go.Sx.V rfl wu rfl rfl (mv rfl) ?_
              refine Go.Sx.V rfl wu rfl rfl (iadI rfl rfl ty22 hxi (by omega) (by omega)) ?_
              refine Go.Sx.V rfl wu rfl rfl (ldI rfl na3 hxi) ?_
              refine Go.Sx.V rfl wu rfl rfl (eqlI rfl rfl) ?_
              refine wr_nil (post_thenN ?_)
              refine wc_cond rfl ?_ ?_
              · intro h7
                simp at h7
                refine wc_seq ?_
                refine wc_region [0] rfl ?_
                refine Go.Sx.V rfl wu rfl rfl (asg rfl) ?_
                refine wr_nil (post_thenN (wc_ret (post_blockR (post_thenR (post_loopR (post_blockR (post_blockR (post_thenR (post_loopR (post_blockR (post_thenR ?_)))))))))))
                refine post_ret1 rfl rfl ?_
                exact ⟨hE, by rw [grsE, if_neg e1, if_neg e2, if_neg e3, if_pos fun hd => hd i hc j hc6 h7]⟩
              · intro h7
                simp at h7
                refine wc_skip (post_blockN (post_thenN ?_))
                refine wc_region [0,1,2] rfl ?_
                refine Go.Sx.V rfl wu rfl rfl (mv rfl) ?_
                refine Go.Sx.V rfl wu rfl rfl (addI rfl rfl) ?_
                refine Go.Sx.V rfl wu rfl rfl (asg rfl) ?_
                refine wr_nil ?_
                exact post_loopN (j + 1) ⟨rfl, rfl, rfl, rfl, trivial⟩ ⟨by omega, hE, hB, fun b hb' => by
                  by_cases e : b = j
                  · rw [e]; exact h7
                  · exact hb b (by omega)⟩ (by omega)
            · intro hc6
              simp at hc6
              refine wc_exit (post_thenE (post_loopE (post_blockX (post_blockN (post_thenN ?_)))))
              refine wc_region [0,1,2] rfl ?_
              refine Go.Sx.V rfl wu rfl rfl (mv rfl) ?_
              refine Go.Sx.V rfl wu rfl rfl (addI rfl rfl) ?_
              refine Go.Sx.V rfl wu rfl rfl (asg rfl) ?_
              refine wr_nil ?_
              exact post_loopN (i + 1) ⟨rfl, rfl, rfl, trivial⟩ ⟨by omega, hE, hB, fun a ha' b hb' => by
                by_cases e : a = i
                · rw [e]; exact hb b (by omega)
                · exact ha a (by omega) b hb'⟩ (by omega)
          · intro hc
            simp at hc
            have e4 : ¬ ¬ DifI xs := fun hn => hn fun a ha' b hb' => ha a (by omega) b hb'
            refine wc_exit (post_thenE (post_loopE (post_blockX (post_thenN (wc_seq (wc_seq ?_))))))
            refine wc_region [0] rfl ?_
            refine Go.Sx.V rfl wu rfl rfl (asg rfl) ?_
            refine wr_nil (post_thenN (wc_block ?_))
            refine wc_loop (fun i : Nat => [(1, .pointer (some ⟨sb, 0, none⟩)), (3, .int .i64 xs.length), (7, .int .i64 i)])
              (fun i w' => i ≤ xs.length ∧ Ext w w' ∧ Blk w' sb 26 #[.int .i64 p, .int .i64 M, mo, .int .i64 K, pu, mu] ∧ ∀ a : Nat, a < i → gi ms a ≠ 0) (fun i => xs.length - i) 0 ⟨rfl, rfl, rfl, trivial⟩ ⟨by omega, hE, hB, fun a ha => by omega⟩ ?_
            clear hE hB ha hc i1
            clear i
            rintro i w5 ⟨i1, hE, hB, ha⟩
            have hmi := hm.ext hE
            try dsimp only
            refine wc_seq (wc_seq ?_)
            refine wc_region [0,1,2] rfl ?_
            refine Go.Sx.V rfl wu rfl rfl (mv rfl) ?_
            refine Go.Sx.V rfl wu rfl rfl (mv rfl) ?_
            refine Go.Sx.V rfl wu rfl rfl (lssI rfl rfl) ?_
            refine wr_nil (post_thenN ?_)
            refine wc_cond rfl ?_ ?_
            · intro hc
              simp at hc
              refine wc_skip (post_thenN (wc_seq (wc_block (wc_seq ?_))))
              refine wc_region [0,1,2,3,4,5] rfl ?_
              refine Go.Sx.V rfl wu rfl rfl (fad rfl fa26_3) ?_
              refine Go.Sx.V rfl wu rfl rfl (ldB rfl na22 hB) ?_
              refine Go.Sx.V rfl wu rfl rfl (mv rfl) ?_
              refine Go.Sx.V rfl wu rfl rfl (iadI rfl rfl ty22 hmi (by omega) (by omega)) ?_
              refine Go.Sx.V rfl wu rfl rfl (ldI rfl na3 hmi) ?_
              refine Go.Sx.V rfl wu rfl rfl (eqlI rfl rfl) ?_
              refine wr_nil (post_thenN ?_)
              refine wc_cond rfl ?_ ?_
              · intro h9
                simp at h9
                refine wc_seq ?_
                refine wc_region [0] rfl ?_
                refine Go.Sx.V rfl wu rfl rfl (asg rfl) ?_
                refine wr_nil (post_thenN (wc_ret (post_blockR (post_thenR (post_loopR (post_blockR (post_thenR ?_)))))))
                refine post_ret1 rfl rfl ?_
                exact ⟨hE, by rw [grsE, if_neg e1, if_neg e2, if_neg e3, if_neg e4, if_pos fun hz => hz i (by omega) h9]⟩
              · intro h9
                simp at h9
                refine wc_skip (post_blockN (post_thenN ?_))
                refine wc_region [0,1,2] rfl ?_
                refine Go.Sx.V rfl wu rfl rfl (mv rfl) ?_
                refine Go.Sx.V rfl wu rfl rfl (addI rfl rfl) ?_
                refine Go.Sx.V rfl wu rfl rfl (asg rfl) ?_
                refine wr_nil ?_
                exact post_loopN (i + 1) ⟨rfl, rfl, rfl, trivial⟩ ⟨by omega, hE, hB, fun a ha' => by
                  by_cases e : a = i
                  · rw [e]; exact h9
                  · exact ha a (by omega)⟩ (by omega)
            · intro hc
              simp at hc
              have e5 : ¬ ¬ NoZ ms := fun hn => hn fun a ha' => ha a (by omega)
              refine wc_exit (post_thenE (post_loopE (post_blockX (post_thenN (wc_seq (wc_seq ?_))))))
              refine wc_region [0,1,2,3,4,5,6,7,8] rfl ?_
              refine Go.Sx.V rfl wu rfl rfl (fad rfl fa26_1) ?_
              refine Go.Sx.V rfl wu rfl rfl (ldB rfl na3 hB) ?_
              refine Go.Sx.V rfl wu rfl rfl (lssI rfl rfl) ?_
              refine Go.Sx.V rfl wu rfl rfl (mv rfl) ?_
              refine OR (π1 := [4,5,6,7,8]) (π2 := []) (tc := 89) (tp := 94) rfl rfl rfl (by
                  intro _
                  refine SK rfl rfl rfl rfl rfl ?_
                  refine SK rfl rfl rfl rfl rfl ?_
                  refine SK rfl rfl rfl rfl rfl ?_
                  refine SK rfl rfl rfl rfl rfl ?_
                  refine Go.Sx.V rfl wu rfl rfl (pk rfl rfl) ?_
                  exact join rfl) (by
                  intro hg
                  simp at hg
                  refine Go.Sx.V rfl (wg rfl rfl) rfl rfl (fad rfl fa26_1) ?_
                  refine Go.Sx.V rfl (wg rfl rfl) rfl rfl (ldB rfl na3 hB) ?_
                  refine Go.Sx.V rfl (wg rfl rfl) rfl rfl (mv rfl) ?_
                  refine Go.Sx.V rfl (wg rfl rfl) rfl rfl (gtrI rfl rfl) ?_
                  refine Go.Sx.V rfl wu rfl rfl (pk rfl rfl) ?_
                  exact join rfl) ?_
              refine wr_nil (post_thenN ?_)
              refine wc_cond rfl ?_ ?_
              · intro h7
                simp at h7
                refine wc_seq ?_
                refine wc_region [0] rfl ?_
                refine Go.Sx.V rfl wu rfl rfl (asg rfl) ?_
                refine wr_nil (post_thenN (wc_ret (post_thenR ?_)))
                refine post_ret1 rfl rfl ?_
                exact ⟨hE, by rw [grsE, if_neg e1, if_neg e2, if_neg e3, if_neg e4, if_neg e5, if_pos (by omega)]⟩
              · intro h7
                simp at h7
                refine wc_skip (post_thenN (wc_seq ?_))
                refine wc_region [0] rfl ?_
                refine Go.Sx.V rfl wu rfl rfl (asg rfl) ?_
                refine wr_nil (post_thenN (wc_ret ?_))
                refine post_ret1 rfl rfl ?_
                exact ⟨hE, by rw [grsE, if_neg e1, if_neg e2, if_neg e3, if_neg e4, if_neg e5, if_neg (by omega)]⟩
  · skip
    refine wc_condT rfl (by simp) ?_
    refine wc_seq ?_
    refine wc_region [0] rfl ?_
    refine Go.Sx.V rfl wu rfl rfl (asg rfl) ?_
    refine wr_nil (post_thenN (wc_ret (post_blockR (post_thenR ?_))))
    refine post_ret1 rfl rfl ?_
    exact ⟨hE, by rw [gsT, dif_neg hno]⟩
set_option maxRecDepth 10000 in
theorem rElements (P : FP) (mo : Value) (md : List Int) (u : Value) (l : List Int) (n e : Int) (w : World) (hF : FV w P mo md) (hu : Ints w u l) :
    Calls Tryz.prog 13 #[fv P mo, u, .int .i64 n, .int .i64 e] w (RetX w fun v _ => v = .int .i64 (elE P.q l n e)) := by
  have hle := hu.le
  refine calls4 Tryz.func13 rfl rfl ?_
  refine wc_seq ?_
  refine wc_region [0,1] rfl ?_
  refine BXA rfl wu rfl rfl ?_
  intro fb w1 hE hB hg
  refine Go.Sx.V rfl wu rfl rfl (asg rfl) ?_
  refine wr_nil (post_thenN (wc_seq (wc_seq ?_)))
  have hui := hu.ext hE
  refine wc_region [0,1,2,3] rfl ?_
  refine Go.Sx.V rfl wu rfl rfl (mv rfl) ?_
  refine Go.Sx.V rfl wu rfl rfl (lenI rfl ty22 hui) ?_
  refine Go.Sx.V rfl wu rfl rfl (mv rfl) ?_
  refine Go.Sx.V rfl wu rfl rfl (neqI rfl rfl) ?_
  refine wr_nil (post_thenN ?_)
  refine wc_cond rfl ?_ ?_
  · intro h
    simp at h
    refine wc_seq ?_
    refine wc_region [0,1] rfl ?_
    refine Go.Sx.V rfl wu rfl rfl (mv rfl) ?_
    refine Go.Sx.V rfl wu rfl rfl (asg rfl) ?_
    refine wr_nil (post_thenN (wc_ret (post_thenR ?_)))
    refine post_ret1 rfl rfl ?_
    exact ⟨hE, by rw [elE, if_pos h]⟩
  · intro h
    simp at h
    obtain rfl : n = l.length := h.symm
    refine wc_skip (post_thenN (wc_seq (wc_seq ?_)))
    refine wc_region [0] rfl ?_
    refine Go.Sx.V rfl wu rfl rfl (asg rfl) ?_
    refine wr_nil (post_thenN (wc_block ?_))
    refine wc_loop (fun i : Nat => [(4, .pointer (some ⟨fb, 0, none⟩)), (1, u), (2, .int .i64 l.length), (9, .int .i64 i)])
      (fun i w' => i ≤ l.length ∧ Ext w w' ∧ Blk w' fb 24 #[.int .i64 P.p, .int .i64 P.M, mo] ∧ ∀ j : Nat, j < i → 0 ≤ gi l j ∧ gi l j < P.q) (fun i => l.length - i) 0 ⟨rfl, rfl, rfl, rfl, trivial⟩ ⟨by omega, hE, hB, fun j hj => by omega⟩ ?_
    clear hE hB hui
    rintro i w2 ⟨i1, hE, hB, ha⟩
    have hui := hu.ext hE
    try dsimp only
    refine wc_seq (wc_seq ?_)
    refine wc_region [0,1,2] rfl ?_
    refine Go.Sx.V rfl wu rfl rfl (mv rfl) ?_
    refine Go.Sx.V rfl wu rfl rfl (mv rfl) ?_
    refine Go.Sx.V rfl wu rfl rfl (lssI rfl rfl) ?_
    refine wr_nil (post_thenN ?_)
    refine wc_cond rfl ?_ ?_
    · intro hc
      simp at hc
      refine wc_skip (post_thenN (wc_seq (wc_block (wc_seq ?_))))
      refine wc_draw mixed [0,1,2,3,4,5,6] (by kernel_rfl) ?_
      intro w3 hd _
      replace hE := hE.trans hd
      replace hB := hB.ext hd
      replace hui := hui.ext hd
      refine Go.Sx.V rfl wu rfl rfl (ldA rfl ag24 hB) ?_
      refine Go.Sx.V rfl wu rfl rfl (mv rfl) ?_
      refine Go.Sx.V rfl wu rfl rfl (mv rfl) ?_
      refine Go.Sx.V rfl wu rfl rfl (iadI rfl rfl ty22 hui (by omega) (by omega)) ?_
      refine Go.Sx.V rfl wu rfl rfl (ldI rfl na3 hui) ?_
      refine C rfl wu rfl rfl Tryz.call36 (rIs P mo md (gi l i) _ (hF.ext hE)) ?_
      rintro _ w4 hE4 rfl
      replace hE := hE.trans hE4
      replace hB := hB.ext hE4
      refine Go.Sx.V rfl wu rfl rfl (notB rfl) ?_
      refine wr_nil (post_thenN ?_)
      refine wc_cond rfl ?_ ?_
      · intro h2
        simp at h2
        refine wc_seq ?_
        refine wc_region [0] rfl ?_
        refine Go.Sx.V rfl wu rfl rfl (asg rfl) ?_
        refine wr_nil (post_thenN (wc_ret (post_blockR (post_thenR (post_loopR (post_blockR (post_thenR ?_)))))))
        refine post_ret1 rfl rfl ?_
        have hno : ¬ AllIn P.q l := fun hA => by
          have := hA i hc
          omega
        exact ⟨hE, by rw [elE, if_neg (by simp), if_pos hno]⟩
      · intro h2
        simp at h2
        refine wc_skip (post_blockN (post_thenN ?_))
        refine wc_region [0,1,2] rfl ?_
        refine Go.Sx.V rfl wu rfl rfl (mv rfl) ?_
        refine Go.Sx.V rfl wu rfl rfl (addI rfl rfl) ?_
        refine Go.Sx.V rfl wu rfl rfl (asg rfl) ?_
        refine wr_nil ?_
        exact post_loopN (i + 1) ⟨rfl, rfl, rfl, rfl, trivial⟩ ⟨by omega, hE, hB, allIn_step ha h2⟩ (by omega)
    · intro hc
      simp at hc
      refine wc_exit (post_thenE (post_loopE (post_blockX (post_thenN (wc_seq ?_)))))
      refine wc_region [0] rfl ?_
      refine Go.Sx.V rfl wu rfl rfl (asg rfl) ?_
      refine wr_nil (post_thenN (wc_ret ?_))
      refine post_ret1 rfl rfl ?_
      exact ⟨hE, by rw [elE, if_neg (by simp), if_neg (fun hn => hn fun j hj => ha j (by omega))]⟩
set_option maxRecDepth 10000 in
theorem rLdCheck (x : CRec) (w : World) (hi : CInts w x) :
    Calls Tryz.prog 12 #[x.s.val, x.wu, .int .i64 x.t] w (RetX w fun v _ => v = .int .i64 (errC x)) := by
  obtain ⟨hmo, hxs, hms, hws⟩ := hi
  obtain ⟨⟨⟨p, M, mo, md⟩, K, pu, xs, mu, ms⟩, wu', ws, t⟩ := x
  dsimp only at hmo hxs hms hws
  refine calls3 Tryz.func12 rfl rfl ?_
  refine wc_seq ?_
  refine wc_region [0,1] rfl ?_
  refine BXA rfl wu rfl rfl ?_
  intro sb w1 hE hB hsb
  refine Go.Sx.V rfl wu rfl rfl (asg rfl) ?_
  refine wr_nil (post_thenN (wc_seq ?_))
  refine wc_region [0,1,2] rfl ?_
  refine Go.Sx.V rfl wu rfl rfl (ldA rfl ag26 hB) ?_
  refine C rfl wu rfl rfl Tryz.call35 (rGCheck p M K mo pu mu md xs ms _ (hmo.ext hE) (hxs.ext hE) (hms.ext hE)) ?_
  rintro _ w2 hE2 rfl
  replace hB := hB.ext hE2
  replace hE := hE.trans hE2
  refine Go.Sx.V rfl wu rfl rfl (asg rfl) ?_
  refine wr_nil (post_thenN (wc_seq (wc_seq ?_)))
  refine wc_region [0,1] rfl ?_
  refine Go.Sx.V rfl wu rfl rfl (mv rfl) ?_
  refine Go.Sx.V rfl wu rfl rfl (neqI rfl rfl) ?_
  refine wr_nil (post_thenN ?_)
  refine wc_cond rfl ?_ ?_
  · intro h
    simp at h
    refine wc_seq ?_
    refine wc_region [0,1] rfl ?_
    refine Go.Sx.V rfl wu rfl rfl (mv rfl) ?_
    refine Go.Sx.V rfl wu rfl rfl (asg rfl) ?_
    refine wr_nil (post_thenN (wc_ret (post_thenR ?_)))
    refine post_ret1 rfl rfl ?_
    refine ⟨hE, ?_⟩
    rw [errC]
    dsimp only
    split
    · rename_i hok
      rw [taskE, gsT, dif_pos hok]
      rw [gsT, dif_pos hok] at h
      rw [if_pos h]
    · rename_i hno
      rw [gsT, dif_neg hno]
  · intro h
    simp at h
    obtain ⟨hok, hgr⟩ : ∃ hok : OkF p M md, GrsOk (fpOf p M md hok.1.1 hok.1.2.1).q xs ms K := by
      rw [gsT] at h
      split at h
      · rename_i hok; exact ⟨hok, grsE_ok.1 h⟩
      · omega
    have hFv := fv_of hok mo
    have hFF : ∀ w', Ext w w' → FV w' (fpOf p M md hok.1.1 hok.1.2.1) mo md := fun w' h => okf_fv41 hok (hmo.ext h)
    have hldE : errC ⟨⟨⟨p, M, mo, md⟩, K, pu, xs, mu, ms⟩, wu', ws, t⟩ = if elE (fpOf p M md hok.1.1 hok.1.2.1).q ws xs.length 4 ≠ 0 then elE (fpOf p M md hok.1.1 hok.1.2.1).q ws xs.length 4 else (par xs.length K t).2 := by
      rw [errC, dif_pos hok, taskE, if_neg (by rw [grsE_ok.2 hgr]; simp)]
    rw [hldE]
    generalize fpOf p M md hok.1.1 hok.1.2.1 = P at hFv hFF ⊢
    have hxi := hxs.ext hE
    refine wc_skip (post_thenN (wc_seq ?_))
    refine wc_region [0,1,2,3,4,5,6,7] rfl ?_
    refine Go.Sx.V rfl wu rfl rfl (fad rfl fa26_0) ?_
    refine Go.Sx.V rfl wu rfl rfl (ldA rfl ag24 hB) ?_
    refine Go.Sx.V rfl wu rfl rfl (mv rfl) ?_
    refine Go.Sx.V rfl wu rfl rfl (fad rfl fa26_2) ?_
    refine Go.Sx.V rfl wu rfl rfl (ldB rfl na22 hB) ?_
    refine Go.Sx.V rfl wu rfl rfl (lenI rfl ty22 hxi) ?_
    have hcall := rElements P mo md wu' ws xs.length 4 _ (hFF _ hE) (hws.ext hE)
    rw [hFv] at hcall
    refine C rfl wu rfl rfl Tryz.call13 hcall ?_
    clear hcall
    rintro _ w3 hE3 rfl
    replace hE := hE.trans hE3
    replace hB := hB.ext hE3
    refine Go.Sx.V rfl wu rfl rfl (asg rfl) ?_
    refine wr_nil (post_thenN (wc_seq (wc_seq ?_)))
    refine wc_region [0,1] rfl ?_
    refine Go.Sx.V rfl wu rfl rfl (mv rfl) ?_
    refine Go.Sx.V rfl wu rfl rfl (neqI rfl rfl) ?_
    refine wr_nil (post_thenN ?_)
    refine wc_cond rfl ?_ ?_
    · intro h1
      simp at h1
      refine wc_seq ?_
      refine wc_region [0,1] rfl ?_
      refine Go.Sx.V rfl wu rfl rfl (mv rfl) ?_
      refine Go.Sx.V rfl wu rfl rfl (asg rfl) ?_
      refine wr_nil (post_thenN (wc_ret (post_thenR ?_)))
      refine post_ret1 rfl rfl ?_
      exact ⟨hE, by rw [if_pos h1]⟩
    · intro h1
      simp at h1
      have hxi := hxs.ext hE
      refine wc_skip (post_thenN (wc_seq ?_))
      obtain ⟨x0, y0, z0, hp3⟩ : ∃ x y z, (par xs.length K t).1 = [x, y, z] := by
        have := par_len xs.length K t
        match (par xs.length K t).1, this with
        | [x, y, z], _ => exact ⟨x, y, z, rfl⟩
      have hpv : PV (par xs.length K t) = .tuple #[.agg [Value.int .i64 x0, .int .i64 y0, .int .i64 z0].toArray, .int .i64 (par xs.length K t).2] := by rw [PV, hp3]; rfl
      refine wc_region [0,1,2,3,4,5,6,7,8,9,10] rfl ?_
      refine Go.Sx.V rfl wu rfl rfl (fad rfl fa26_2) ?_
      refine Go.Sx.V rfl wu rfl rfl (ldB rfl na22 hB) ?_
      refine Go.Sx.V rfl wu rfl rfl (lenI rfl ty22 hxi) ?_
      refine Go.Sx.V rfl wu rfl rfl (fad rfl fa26_1) ?_
      refine Go.Sx.V rfl wu rfl rfl (ldB rfl na3 hB) ?_
      refine Go.Sx.V rfl wu rfl rfl (mv rfl) ?_
      refine C rfl wu rfl rfl Tryz.call17 (rParams xs.length K t _) ?_
      rintro _ w4 hE4 rfl
      replace hE := hE.trans hE4
      rw [hpv]
      refine Go.Sx.V rfl wu rfl rfl (mv rfl) ?_
      refine Go.Sx.V rfl wu rfl rfl (ext rfl rfl) ?_
      refine Go.Sx.V rfl wu rfl rfl (ext rfl rfl) ?_
      refine Go.Sx.V rfl wu rfl rfl (asg rfl) ?_
      refine wr_nil (post_thenN (wc_seq ?_))
      refine wc_region [0,1] rfl ?_
      refine Go.Sx.V rfl wu rfl rfl (mv rfl) ?_
      refine Go.Sx.V rfl wu rfl rfl (asg rfl) ?_
      refine wr_nil (post_thenN (wc_ret ?_))
      refine post_ret1 rfl rfl ?_
      exact ⟨hE, by rw [if_neg (by omega)]; rfl⟩
def smB (x : CRec) : Bool := decide (x.s.xs.length ≤ 12) && (decide ((par x.s.xs.length x.s.k x.t).2 ≠ 0) || decide ((par x.s.xs.length x.s.k x.t).1.headD 0 ≤ 3))
theorem smB_true {x : CRec} (h : smB x = true) : x.s.xs.length ≤ 12 ∧ ∀ m D L, par x.s.xs.length x.s.k x.t = ([m, D, L], 0) → m ≤ 3 := by
  simp only [smB, Bool.and_eq_true, Bool.or_eq_true, decide_eq_true_eq] at h
  refine ⟨h.1, fun m D L hp => ?_⟩
  rw [hp] at h
  rcases h.2 with h2 | h2
  · exact absurd rfl h2
  · exact h2
set_option maxRecDepth 10000 in
theorem lSmall41 (x : CRec) (w : World) (hi : CInts w x) :
    Calls Tryz.prog 10 #[x.val] w (RetX w fun v _ => v = .bool (smB x)) := by
  obtain ⟨hmo, hxs, hms, hws⟩ := hi
  obtain ⟨⟨⟨p, M, mo, md⟩, K, pu, xs, mu, ms⟩, wu', ws, t⟩ := x
  dsimp only at hmo hxs hms hws
  have hxle := hxs.le
  refine calls1 Tryz.func10 rfl rfl ?_
  refine wc_seq ?_
  refine wc_region [0,1] rfl ?_
  refine BXA rfl wu rfl rfl ?_
  intro cb w1 hE hB hsb
  refine Go.Sx.V rfl wu rfl rfl (asg rfl) ?_
  refine wr_nil (post_thenN (wc_seq (wc_seq ?_)))
  have hxi := hxs.ext hE
  refine wc_region [0,1,2,3,4] rfl ?_
  refine Go.Sx.V rfl wu rfl rfl (fad rfl fa28_0) ?_
  refine Go.Sx.V rfl wu rfl rfl (fad rfl fa26_2) ?_
  refine Go.Sx.V rfl wu rfl rfl (ldB rfl na22 hB) ?_
  refine Go.Sx.V rfl wu rfl rfl (lenI rfl ty22 hxi) ?_
  refine Go.Sx.V rfl wu rfl rfl (gtrI rfl rfl) ?_
  refine wr_nil (post_thenN ?_)
  refine wc_cond rfl ?_ ?_
  · intro h
    refine wc_seq ?_
    refine wc_region [0] rfl ?_
    refine Go.Sx.V rfl wu rfl rfl (asg rfl) ?_
    refine wr_nil (post_thenN (wc_ret (post_thenR ?_)))
    refine post_ret1 rfl rfl ?_
    simp at h
    refine ⟨hE, ?_⟩
    rw [smB, show decide (xs.length ≤ 12) = false from decide_eq_false (by omega)]; rfl
  · intro h
    simp at h
    refine wc_skip (post_thenN (wc_seq ?_))
    obtain ⟨x0, y0, z0, hp3⟩ : ∃ x y z, (par xs.length K t).1 = [x, y, z] := by
      have := par_len xs.length K t
      match (par xs.length K t).1, this with
      | [x, y, z], _ => exact ⟨x, y, z, rfl⟩
    have hpv : PV (par xs.length K t) = .tuple #[.agg [Value.int .i64 x0, .int .i64 y0, .int .i64 z0].toArray, .int .i64 (par xs.length K t).2] := by rw [PV, hp3]; rfl
    refine wc_region [0,1,2,3,4,5,6,7,8,9,10,11,12,13,14,15] rfl ?_
    refine Go.Sx.V rfl wu rfl rfl (fad rfl fa28_0) ?_
    refine Go.Sx.V rfl wu rfl rfl (fad rfl fa26_2) ?_
    refine Go.Sx.V rfl wu rfl rfl (ldB rfl na22 hB) ?_
    refine Go.Sx.V rfl wu rfl rfl (lenI rfl ty22 hxi) ?_
    refine Go.Sx.V rfl wu rfl rfl (fad rfl fa28_0) ?_
    refine Go.Sx.V rfl wu rfl rfl (fad rfl fa26_1) ?_
    refine Go.Sx.V rfl wu rfl rfl (ldB rfl na3 hB) ?_
    refine Go.Sx.V rfl wu rfl rfl (fad rfl fa28_2) ?_
    refine Go.Sx.V rfl wu rfl rfl (ldB rfl na3 hB) ?_
    refine C rfl wu rfl rfl Tryz.call17 (rParams xs.length K t _) ?_
    rintro _ w4 hE4 rfl
    replace hE := hE.trans hE4
    rw [hpv]
    refine Go.Sx.V rfl wu rfl rfl (mv rfl) ?_
    refine Go.Sx.V rfl wu rfl rfl (ext rfl rfl) ?_
    refine Go.Sx.V rfl wu rfl rfl (ext rfl rfl) ?_
    refine AL rfl wu rfl zv43 ?_
    intro pb w7 hE7 hPB hpb
    have hsz7 := hE.size
    replace hE := hE.trans hE7
    refine STB (vs := [.int .i64 x0, .int .i64 y0, .int .i64 z0]) (cs' := [.int .i64 x0, .int .i64 y0, .int .i64 z0]) rfl wu rfl rfl rfl sv43 (by intro h; cases h) (by assumption) (by first | (simp [Value.oneCell']; done) | (intro v hv; simp only [List.mem_cons, List.not_mem_nil, or_false] at hv; rcases hv with rfl | rfl | rfl | rfl | rfl <;> first | rfl | assumption) | (intro v hv; simp only [List.mem_cons, List.not_mem_nil, or_false] at hv; rcases hv with rfl | rfl | rfl <;> first | rfl | assumption) | (intro v hv; simp only [List.mem_cons, List.not_mem_nil, or_false] at hv; rcases hv with rfl | rfl <;> first | rfl | assumption)) rfl rfl rfl ?_
    intro w8 hg8 hX8 hPB8
    refine Go.Sx.V rfl wu rfl rfl (asg rfl) ?_
    refine wr_nil (post_thenN (wc_seq ?_))
    have hE8 := hX8 w (by omega) hE
    refine wc_region [0,1,2,3,4,5,6,7] rfl ?_
    refine Go.Sx.V rfl wu rfl rfl (mv rfl) ?_
    refine Go.Sx.V rfl wu rfl rfl (neqI rfl rfl) ?_
    refine Go.Sx.V rfl wu rfl rfl (mv rfl) ?_
    refine OR (π1 := [3,4,5,6]) (π2 := [7]) (tc := 25) (tp := 29) rfl rfl rfl (by
        intro _
        refine SK rfl rfl rfl rfl rfl ?_
        refine SK rfl rfl rfl rfl rfl ?_
        refine SK rfl rfl rfl rfl rfl ?_
        refine Go.Sx.V rfl wu rfl rfl (pk rfl rfl) ?_
        exact join rfl) (by
        intro hg
        simp at hg
        refine Go.Sx.V rfl (wg rfl rfl) rfl rfl (fad rfl fa43_0) ?_
        refine Go.Sx.V rfl (wg rfl rfl) rfl rfl (ldB rfl na3 hPB8) ?_
        refine Go.Sx.V rfl (wg rfl rfl) rfl rfl (leqI rfl rfl) ?_
        refine Go.Sx.V rfl wu rfl rfl (pk rfl rfl) ?_
        exact join rfl) ?_
    refine Go.Sx.V rfl wu rfl rfl (asg rfl) ?_
    refine wr_nil (post_thenN (wc_ret ?_))
    refine post_ret1 rfl rfl ?_
    refine ⟨hE8, ?_⟩
    rw [smB, show decide (xs.length ≤ 12) = true from decide_eq_true (by omega), Bool.true_and, hp3]
    rfl
set_option maxRecDepth 10000 in
theorem lSame41 (u v : Value) (a b : List Int) (w : World) (hu : Ints w u a) (hv : Ints w v b) :
    Calls Tryz.prog 16 #[u, v] w (RetX w fun r _ => r = .bool (decide (a = b))) := by
  have hal := hu.le
  have hbl := hv.le
  refine calls2 Tryz.func16 rfl rfl ?_
  refine wc_seq ?_
  refine wc_region [0] rfl ?_
  refine Go.Sx.V rfl wu rfl rfl (asg rfl) ?_
  refine wr_nil (post_thenN (wc_seq (wc_seq ?_)))
  refine wc_region [0,1,2,3,4] rfl ?_
  refine Go.Sx.V rfl wu rfl rfl (mv rfl) ?_
  refine Go.Sx.V rfl wu rfl rfl (lenI rfl ty22) ?_
  refine Go.Sx.V rfl wu rfl rfl (mv rfl) ?_
  refine Go.Sx.V rfl wu rfl rfl (lenI rfl ty22) ?_
  refine Go.Sx.V rfl wu rfl rfl (neqI rfl rfl) ?_
  refine wr_nil (post_thenN ?_)
  refine wc_cond rfl ?_ ?_
  · intro h
    simp at h
    refine wc_seq ?_
    refine wc_region [0] rfl ?_
    refine Go.Sx.V rfl wu rfl rfl (asg rfl) ?_
    refine wr_nil (post_thenN (wc_ret (post_thenR ?_)))
    refine post_ret1 rfl rfl ?_
    exact ⟨Ext.refl _, by rw [decide_eq_false (fun e => h (by rw [e]))]⟩
  · intro h
    simp at h
    refine wc_skip (post_thenN (wc_seq (wc_seq ?_)))
    refine wc_region [0,1,2] rfl ?_
    refine Go.Sx.V rfl wu rfl rfl (mv rfl) ?_
    refine Go.Sx.V rfl wu rfl rfl (lenI rfl ty22) ?_
    refine Go.Sx.V rfl wu rfl rfl (mv rfl) ?_
    refine wr_nil (post_thenN (wc_block ?_))
    refine wc_loop (fun i : Nat => [(0, u), (1, v), (12, .int .i64 a.length), (13, .int .i64 i)])
      (fun i w' => i ≤ a.length ∧ Ext w w' ∧ ∀ t : Nat, t < i → gi a t = gi b t) (fun i => a.length - i) 0 ⟨rfl, rfl, rfl, rfl, trivial⟩ ⟨by omega, Ext.refl _, fun t ht => by omega⟩ ?_
    rintro i w1 ⟨i1, hE, hq⟩
    have hui := hu.ext hE
    have hvi := hv.ext hE
    try dsimp only
    refine wc_seq ?_
    refine wc_region [0] rfl ?_
    refine Go.Sx.V rfl wu rfl rfl (lssI rfl rfl) ?_
    refine wr_nil (post_thenN (wc_seq ?_))
    refine wc_cond rfl ?_ ?_
    · intro hc
      simp at hc
      refine wc_skip (post_thenN (wc_seq (wc_block (wc_seq ?_))))
      refine wc_region [0,1] rfl ?_
      refine Go.Sx.V rfl wu rfl rfl (mv rfl) ?_
      refine Go.Sx.V rfl wu rfl rfl (asg rfl) ?_
      refine wr_nil (post_thenN (wc_seq ?_))
      refine wc_draw mixed [0,1,2,3,4,5,6,7,8] (by kernel_rfl) ?_
      intro w2 hd _
      replace hE := hE.trans hd
      replace hui := hui.ext hd
      replace hvi := hvi.ext hd
      refine Go.Sx.V rfl wu rfl rfl (mv rfl) ?_
      refine Go.Sx.V rfl wu rfl rfl (mv rfl) ?_
      refine Go.Sx.V rfl wu rfl rfl (iadI rfl rfl ty22 hui (by omega) (by omega)) ?_
      refine Go.Sx.V rfl wu rfl rfl (ldI rfl na3 hui) ?_
      refine Go.Sx.V rfl wu rfl rfl (mv rfl) ?_
      refine Go.Sx.V rfl wu rfl rfl (mv rfl) ?_
      refine Go.Sx.V rfl wu rfl rfl (iadI rfl rfl ty22 hvi (by omega) (by omega)) ?_
      refine Go.Sx.V rfl wu rfl rfl (ldI rfl na3 hvi) ?_
      refine Go.Sx.V rfl wu rfl rfl (neqI rfl rfl) ?_
      refine wr_nil (post_thenN ?_)
      refine wc_cond rfl ?_ ?_
      · intro h2
        simp at h2
        refine wc_seq ?_
        refine wc_region [0] rfl ?_
        refine Go.Sx.V rfl wu rfl rfl (asg rfl) ?_
        refine wr_nil (post_thenN (wc_ret (post_blockR (post_thenR (post_loopR (post_blockR (post_thenR ?_)))))))
        refine post_ret1 rfl rfl ?_
        exact ⟨hE, by rw [decide_eq_false (fun e => h2 (by rw [e]))]⟩
      · intro h2
        simp at h2
        refine wc_skip (post_blockN (post_thenN ?_))
        refine wc_region [0,1] rfl ?_
        refine Go.Sx.V rfl wu rfl rfl (addI rfl rfl) ?_
        refine Go.Sx.V rfl wu rfl rfl (mv rfl) ?_
        refine wr_nil ?_
        exact post_loopN (i + 1) ⟨rfl, rfl, rfl, rfl, trivial⟩ ⟨by omega, hE, fun t ht => by
          by_cases e : t = i
          · rw [e]; exact h2
          · exact hq t (by omega)⟩ (by omega)
    · intro hc
      simp at hc
      refine wc_exit (post_thenE (post_loopE (post_blockX (post_thenN (wc_seq ?_)))))
      refine wc_region [0] rfl ?_
      refine Go.Sx.V rfl wu rfl rfl (asg rfl) ?_
      refine wr_nil (post_thenN (wc_ret ?_))
      refine post_ret1 rfl rfl ?_
      refine ⟨hE, ?_⟩
      have e : a = b := List.ext_getElem (by omega) fun i h1 h2 => by
        have := hq i (by omega)
        simpa [gi, List.getD_eq_getElem?_getD, h1, h2] using this
      rw [decide_eq_true e]
end Go.Proofs.YtmnojknfjbimdaaGreat

