/-
  The references of Reed-Solomon codes and of the list decoder, by contract.
-/
import Derived.Test.YtmnojknfjbimdaaGreatWLd1
import Derived.Test.YtmnojknfjbimdaaGreatWRPoly
import Derived.Test.YtmnojknfjbimdaaGreatWRHas
namespace Go.Proofs.YtmnojknfjbimdaaGreat
open Go Go.Sx Go.Pl Go.RowKit Go.Fd Go.Alg Go.Ld
theorem k_one_val {P : FP} : (1 : K P).1 = 1 := by
  have := P.q_two
  rw [k_one, inK_in (by omega)]
set_option maxRecDepth 10000 in
theorem rInv (P : FP) (mo : Value) (md : List Int) (x : Int) (w : World) (hF : FV w P mo md) (hgen : ∃ g : K P, HasOrder g (n1 P)) (hx : inK P x ≠ 0) :
    Calls Tryz.prog 72 #[fv P mo, .int .i64 x] w (RetX w fun v _ => v = .int .i64 (invK P (inK P x)).1) := by
  obtain ⟨gen, hgen⟩ := hgen
  have hmul := mul_invK hgen hx
  have hq2 := P.q_two
  have hq := hF.q
  have hc0 : (invK P (inK P x)).1 ≠ 0 := fun e => by
    have h0 : invK P (inK P x) = 0 := Subtype.ext e
    rw [h0, mul_zero] at hmul
    exact k_one_ne' hmul.symm
  have hcb := (invK P (inK P x)).2
  refine calls2 Tryz.func72 rfl rfl ?_
  refine wc_seq ?_
  refine wc_region [0,1] rfl ?_
  refine BXA rfl wu rfl rfl ?_
  intro fb w1 hE hB hg
  refine Go.Sx.V rfl wu rfl rfl (asg rfl) ?_
  refine wr_nil (post_thenN (wc_seq (wc_seq ?_)))
  have hFi := hF.ext hE
  refine wc_region [0] rfl ?_
  refine Go.Sx.V rfl wu rfl rfl (asg rfl) ?_
  refine wr_nil (post_thenN (wc_block ?_))
  refine wc_loop (fun y : Nat => [(2, .pointer (some ⟨fb, 0, none⟩)), (1, .int .i64 x), (5, .int .i64 y)])
    (fun y w' => 1 ≤ y ∧ (y : Int) ≤ (invK P (inK P x)).1 ∧ Ext w w' ∧ Blk w' fb 24 #[.int .i64 P.p, .int .i64 P.M, mo] ∧ ∀ z : Nat, 1 ≤ z → z < y → inK P x * inK P z ≠ 1) (fun y => (P.q - y).toNat) 1 ⟨rfl, rfl, rfl, trivial⟩ ⟨by omega, by omega, hE, hB, fun z h1 h2 => by omega⟩ ?_
  clear hE hB hFi
  rintro y w2 ⟨y0, y1, hE, hB, hno⟩
  have hFi := hF.ext hE
  try dsimp only
  refine wc_seq (wc_seq ?_)
  refine wc_region [0,1,2,3] rfl ?_
  refine Go.Sx.V rfl wu rfl rfl (mv rfl) ?_
  refine Go.Sx.V rfl wu rfl rfl (ldA rfl ag24 hB) ?_
  refine C rfl wu rfl rfl Tryz.call67 (rOrder P.p P.M mo _) ?_
  rintro _ w3 hE3 rfl
  replace hE := hE.trans hE3
  replace hB := hB.ext hE3
  refine Go.Sx.V rfl wu rfl rfl (lssI rfl rfl) ?_
  refine wr_nil (post_thenN ?_)
  rw [hF.ord]
  refine wc_condT rfl (by simp; omega) ?_
  refine wc_skip (post_thenN (wc_seq (wc_block (wc_seq ?_))))
  refine wc_region [0,1,2,3,4] rfl ?_
  refine Go.Sx.V rfl wu rfl rfl (ldA rfl ag24 hB) ?_
  refine Go.Sx.V rfl wu rfl rfl (mv rfl) ?_
  refine Go.Sx.V rfl wu rfl rfl (mv rfl) ?_
  refine C rfl wu rfl rfl Tryz.call37 (rMul P mo md x y _ (hF.ext hE)) ?_
  rintro _ w4 hE4 rfl
  replace hE := hE.trans hE4
  replace hB := hB.ext hE4
  refine Go.Sx.V rfl wu rfl rfl (eqlI rfl rfl) ?_
  refine wr_nil (post_thenN ?_)
  refine wc_cond rfl ?_ ?_
  · intro h
    simp at h
    have h1 : inK P x * inK P y = 1 := Subtype.ext (h.trans k_one_val.symm)
    have h2 := inv_uniq h1 hmul
    have h3 : (inK P y).1 = y := by rw [inK_in (by omega)]
    refine wc_seq ?_
    refine wc_region [0,1] rfl ?_
    refine Go.Sx.V rfl wu rfl rfl (mv rfl) ?_
    refine Go.Sx.V rfl wu rfl rfl (asg rfl) ?_
    refine wr_nil (post_thenN (wc_ret (post_blockR (post_thenR (post_loopR (post_blockR (post_thenR ?_)))))))
    refine post_ret1 rfl rfl ?_
    exact ⟨hE, by rw [← h2, h3]⟩
  · intro h
    simp at h
    refine wc_skip (post_blockN (post_thenN ?_))
    refine wc_region [0,1,2] rfl ?_
    refine Go.Sx.V rfl wu rfl rfl (mv rfl) ?_
    refine Go.Sx.V rfl wu rfl rfl (addI rfl rfl) ?_
    refine Go.Sx.V rfl wu rfl rfl (asg rfl) ?_
    refine wr_nil ?_
    have hne : inK P x * inK P y ≠ 1 := fun e => h (by rw [e]; exact k_one_val)
    have hlt : (y : Int) ≠ (invK P (inK P x)).1 := fun e => by
      rw [e, inK_val] at hne
      exact hne hmul
    exact post_loopN (y + 1) ⟨rfl, rfl, rfl, trivial⟩ ⟨by omega, by omega, hE, hB, fun z h1 h2 => by
      by_cases e : z = y
      · rw [e]; exact hne
      · exact hno z h1 (by omega)⟩ (by omega)
theorem chk2_split {v : Value} {A : Prop} (h : (v = .int .i64 0 ∧ A) ∨ (v = .int .i64 1 ∧ ¬ A)) : ∃ c, v = .int .i64 c ∧ ((c = 0 ∧ A) ∨ (c = 1 ∧ ¬ A)) := by
  rcases h with ⟨h1, h2⟩ | ⟨h1, h2⟩
  · exact ⟨_, h1, .inl ⟨rfl, h2⟩⟩
  · exact ⟨_, h1, .inr ⟨rfl, h2⟩⟩
theorem okf_fv41 {p M : Int} {md : List Int} (h : OkF p M md) {w : World} {mo : Value} (hi : Ints w mo md) : FV w (fpOf p M md h.1.1 h.1.2.1) mo md := by
  have hS := h.1
  obtain ⟨eo, eo0, hp⟩ := ordZ_eq hS.1 hS.2.1 hS.2.2.1 hS.2.2.2.1
  refine ⟨hi, hp, by have := hS.2.2.1; show M.toNat ≤ 8; omega, hS.2.2.2.1, rfl, fun h1 => hS.2.2.2.2.2.1 (by have : M.toNat = 1 := h1; omega), fun h1 => ?_, ?_⟩
  · have h1' : ¬ M.toNat = 1 := h1
    have := (hS.2.2.2.2.2.2 (by omega)).1
    show md.length = M.toNat
    omega
  · show Lo p md
    by_cases h1 : M = 1
    · rw [hS.2.2.2.2.2.1 h1]; intro z hz; cases hz
    · exact (hS.2.2.2.2.2.2 h1).2
theorem fv_of {p M : Int} {md : List Int} (h : OkF p M md) (mo : Value) : fv (fpOf p M md h.1.1 h.1.2.1) mo = .agg #[.int .i64 p, .int .i64 M, mo] := by
  have : (((M.toNat : Nat) : Int)) = M := by have := h.1.2.1; omega
  show Value.agg #[.int .i64 p, .int .i64 ((M.toNat : Nat) : Int), mo] = _
  rw [this]
set_option maxRecDepth 10000 in
theorem rGCheck (p M K : Int) (mo pu mu : Value) (md xs ms : List Int) (w : World) (hmd : Ints w mo md) (hx : Ints w pu xs) (hm : Ints w mu ms) :
    Calls Tryz.prog 35 #[gval p M mo K pu mu] w (RetX w fun v _ => v = .int .i64 (gsT p M md xs ms K)) := by
  have hxle := hx.le
  have hmle := hm.le
  refine calls1 Tryz.func35 rfl rfl ?_
  refine wc_seq ?_
  refine wc_region [0,1] rfl ?_
  refine BXA rfl wu rfl rfl ?_
  intro sb w1 hE hB hsb
  refine Go.Sx.V rfl wu rfl rfl (asg rfl) ?_
  refine wr_nil (post_thenN (wc_seq ?_))
  have hxi := hx.ext hE
  refine wc_region [0,1,2,3] rfl ?_
  refine Go.Sx.V rfl wu rfl rfl (fad rfl fa26_2) ?_
  refine Go.Sx.V rfl wu rfl rfl (ldB rfl na22 hB) ?_
  refine Go.Sx.V rfl wu rfl rfl (lenI rfl ty22 hxi) ?_
  refine Go.Sx.V rfl wu rfl rfl (asg rfl) ?_
  refine wr_nil (post_thenN (wc_seq (wc_block (wc_seq ?_))))
  refine wc_region [0,1,2,3,4] rfl ?_
  refine Go.Sx.V rfl wu rfl rfl (fad rfl fa26_0) ?_
  refine Go.Sx.V rfl wu rfl rfl (ldA rfl ag24 hB) ?_
  refine C rfl wu rfl rfl Tryz.call66 (rCheck p M mo md _ (hmd.ext hE)) ?_
  rintro cv w2 hE2 hck
  replace hB := hB.ext hE2
  replace hE := hE.trans hE2
  obtain ⟨cc, rfl, hcase⟩ := chk2_split hck
  refine Go.Sx.V rfl wu rfl rfl (neqI rfl rfl) ?_
  refine Go.Sx.V rfl wu rfl rfl (asg rfl) ?_
  refine wr_nil (post_thenN ?_)
  clear hck hxi
  rcases hcase with ⟨rfl, hok⟩ | ⟨rfl, hno⟩
  · have hgt : gsT p M md xs ms K = grsE (fpOf p M md hok.1.1 hok.1.2.1).q xs ms K := by rw [gsT, dif_pos hok]
    have hFv := fv_of hok mo
    have hFF : ∀ w', Ext w w' → FV w' (fpOf p M md hok.1.1 hok.1.2.1) mo md := fun w' h => okf_fv41 hok (hmd.ext h)
    rw [hgt]
    generalize fpOf p M md hok.1.1 hok.1.2.1 = P at hFv hFF ⊢
    refine wc_condF rfl (by simp) ?_
    refine wc_seq ?_
    refine wc_region [0,1,2,3,4,5,6] rfl ?_
    refine Go.Sx.V rfl wu rfl rfl (mv rfl) ?_
    refine Go.Sx.V rfl wu rfl rfl (lssI rfl rfl) ?_
    refine Go.Sx.V rfl wu rfl rfl (mv rfl) ?_
    refine OR (π1 := [3,4,5]) (π2 := [6]) (tc := 19) (tp := 22) rfl rfl rfl (by
        intro _
        refine SK rfl rfl rfl rfl rfl ?_
        refine SK rfl rfl rfl rfl rfl ?_
        refine Go.Sx.V rfl wu rfl rfl (pk rfl rfl) ?_
        exact join rfl) (by
        intro hg
        simp at hg
        refine Go.Sx.V rfl (wg rfl rfl) rfl rfl (mv rfl) ?_
        refine Go.Sx.V rfl (wg rfl rfl) rfl rfl (gtrI rfl rfl) ?_
        refine Go.Sx.V rfl wu rfl rfl (pk rfl rfl) ?_
        exact join rfl) ?_
    refine Go.Sx.V rfl wu rfl rfl (asg rfl) ?_
    refine wr_nil (post_thenN ?_)
    refine wc_cond rfl ?_ ?_
    · intro h
      simp at h
      refine wc_seq ?_
      refine wc_region [0] rfl ?_
      refine Go.Sx.V rfl wu rfl rfl (asg rfl) ?_
      refine wr_nil (post_thenN (wc_ret (post_blockR (post_thenR ?_))))
      refine post_ret1 rfl rfl ?_
      exact ⟨hE, by rw [grsE, if_pos (by omega)]⟩
    · intro h
      simp at h
      have e1 : ¬ ((xs.length : Int) < 1 ∨ 64 < (xs.length : Int)) := by omega
      have hmi := hm.ext hE
      refine wc_seq ?_
      refine wc_region [0,1,2,3,4,5] rfl ?_
      refine Go.Sx.V rfl wu rfl rfl (fad rfl fa26_3) ?_
      refine Go.Sx.V rfl wu rfl rfl (ldB rfl na22 hB) ?_
      refine Go.Sx.V rfl wu rfl rfl (lenI rfl ty22 hmi) ?_
      refine Go.Sx.V rfl wu rfl rfl (mv rfl) ?_
      refine Go.Sx.V rfl wu rfl rfl (neqI rfl rfl) ?_
      refine Go.Sx.V rfl wu rfl rfl (asg rfl) ?_
      refine wr_nil (post_thenN ?_)
      refine wc_cond rfl ?_ ?_
      · intro h2
        simp at h2
        refine wc_seq ?_
        refine wc_region [0] rfl ?_
        refine Go.Sx.V rfl wu rfl rfl (asg rfl) ?_
        refine wr_nil (post_thenN (wc_ret (post_blockR (post_thenR ?_))))
        refine post_ret1 rfl rfl ?_
        exact ⟨hE, by rw [grsE, if_neg e1, if_pos (by omega)]⟩
      · intro h2
        simp at h2
        have e2 : ¬ (ms.length ≠ xs.length) := by omega
        refine wc_skip (post_blockN (post_thenN (wc_seq (wc_seq ?_))))
        refine wc_region [0] rfl ?_
        refine Go.Sx.V rfl wu rfl rfl (asg rfl) ?_
        refine wr_nil (post_thenN (wc_block ?_))
        refine wc_loop (fun i : Nat => [(1, .pointer (some ⟨sb, 0, none⟩)), (3, .int .i64 xs.length), (4, .int .i64 i)])
          (fun i w' => i ≤ xs.length ∧ Ext w w' ∧ Blk w' sb 26 #[.int .i64 p, .int .i64 M, mo, .int .i64 K, pu, mu] ∧ (∀ j : Nat, j < i → 0 ≤ gi xs j ∧ gi xs j < P.q) ∧ ∀ j : Nat, j < i → 0 ≤ gi ms j ∧ gi ms j < P.q) (fun i => xs.length - i) 0 ⟨rfl, rfl, rfl, trivial⟩ ⟨by omega, hE, hB, fun j hj => by omega, fun j hj => by omega⟩ ?_
        clear hE hB hmi
        rintro i w3 ⟨i1, hE, hB, ha, hb⟩
        have hxi := hx.ext hE
        have hmi := hm.ext hE
        try dsimp only
        refine wc_seq (wc_seq ?_)
        refine wc_region [0,1,2] rfl ?_
        refine Go.Sx.V rfl wu rfl rfl (mv rfl) ?_
        refine Go.Sx.V rfl wu rfl rfl (mv rfl) ?_
        refine Go.Sx.V rfl wu rfl rfl (lssI rfl rfl) ?_
        refine wr_nil (post_thenN ?_)
        refine wc_cond rfl ?_ ?_
        · intro hc
          simp at hc
          refine wc_skip (post_thenN (wc_seq (wc_block (wc_seq ?_))))
          by_cases hin : 0 ≤ gi xs i ∧ gi xs i < P.q
          · skip
            refine wc_draw mixed [0,1,2,3,4,5,6,7,8,9,10,11,12,13,14,15,16,17,18,19] (by kernel_rfl) ?_
            intro w4 hd _
            replace hE := hE.trans hd
            replace hB := hB.ext hd
            replace hxi := hxi.ext hd
            replace hmi := hmi.ext hd
            refine Go.Sx.V rfl wu rfl rfl (fad rfl fa26_0) ?_
            refine Go.Sx.V rfl wu rfl rfl (ldA rfl ag24 hB) ?_
            refine Go.Sx.V rfl wu rfl rfl (fad rfl fa26_2) ?_
            refine Go.Sx.V rfl wu rfl rfl (ldB rfl na22 hB) ?_
            refine Go.Sx.V rfl wu rfl rfl (mv rfl) ?_
            refine Go.Sx.V rfl wu rfl rfl (iadI rfl rfl ty22 hxi (by omega) (by omega)) ?_
            refine Go.Sx.V rfl wu rfl rfl (ldI rfl na3 hxi) ?_
            have hcall := rIs P mo md (gi xs i) _ (hFF _ hE)
            rw [hFv] at hcall
            refine C rfl wu rfl rfl Tryz.call36 hcall ?_
            clear hcall
            rintro _ w5 hE5 rfl
            replace hE := hE.trans hE5
            replace hB := hB.ext hE5
            replace hmi := hmi.ext hE5
            refine Go.Sx.V rfl wu rfl rfl (notB rfl) ?_
            refine Go.Sx.V rfl wu rfl rfl (mv rfl) ?_
            refine KB 43 false rfl (by simp [hin]) ?_
            refine Go.Sx.V rfl (wg rfl rfl) rfl rfl (fad rfl fa26_0) ?_
            refine Go.Sx.V rfl (wg rfl rfl) rfl rfl (ldA rfl ag24 hB) ?_
            refine Go.Sx.V rfl (wg rfl rfl) rfl rfl (fad rfl fa26_3) ?_
            refine Go.Sx.V rfl (wg rfl rfl) rfl rfl (ldB rfl na22 hB) ?_
            refine Go.Sx.V rfl (wg rfl rfl) rfl rfl (mv rfl) ?_
            refine Go.Sx.V rfl (wg rfl rfl) rfl rfl (iadI rfl rfl ty22 hmi (by omega) (by omega)) ?_
            refine Go.Sx.V rfl (wg rfl rfl) rfl rfl (ldI rfl na3 hmi) ?_
            have hcall := rIs P mo md (gi ms i) _ (hFF _ hE)
            rw [hFv] at hcall
            refine C rfl (wg rfl rfl) rfl rfl Tryz.call36 hcall ?_
            clear hcall
            rintro _ w6 hE6 rfl
            replace hE := hE.trans hE6
            replace hB := hB.ext hE6
            refine Go.Sx.V rfl (wg rfl rfl) rfl rfl (notB rfl) ?_
            refine Go.Sx.V rfl wu rfl rfl (pk rfl rfl) ?_
            refine wr_nil (post_thenN ?_)
            refine wc_cond rfl ?_ ?_
            · intro h4
              simp at h4
              refine wc_seq ?_
              refine wc_region [0] rfl ?_
              refine Go.Sx.V rfl wu rfl rfl (asg rfl) ?_
              refine wr_nil (post_thenN (wc_ret (post_blockR (post_thenR (post_loopR (post_blockR (post_thenR ?_)))))))
              refine post_ret1 rfl rfl ?_
              have hno : ¬ AllIn P.q ms := fun hA => by
                have := hA i (by omega)
                omega
              exact ⟨hE, by rw [grsE, if_neg e1, if_neg e2, if_pos (.inr hno)]⟩
            · intro h4
              simp at h4
              refine wc_skip (post_blockN (post_thenN ?_))
              refine wc_region [0,1,2] rfl ?_
              refine Go.Sx.V rfl wu rfl rfl (mv rfl) ?_
              refine Go.Sx.V rfl wu rfl rfl (addI rfl rfl) ?_
              refine Go.Sx.V rfl wu rfl rfl (asg rfl) ?_
              refine wr_nil ?_
              exact post_loopN (i + 1) ⟨rfl, rfl, rfl, trivial⟩ ⟨by omega, hE, hB, allIn_step ha hin, allIn_step hb h4⟩ (by omega)
          · skip
            refine wc_draw mixed [0,1,2,3,4,5,6,7,8,9,10,11,12,13,14,15,16,17,18,19] (by kernel_rfl) ?_
            intro w4 hd _
            replace hE := hE.trans hd
            replace hB := hB.ext hd
            replace hxi := hxi.ext hd
            replace hmi := hmi.ext hd
            refine Go.Sx.V rfl wu rfl rfl (fad rfl fa26_0) ?_
            refine Go.Sx.V rfl wu rfl rfl (ldA rfl ag24 hB) ?_
            refine Go.Sx.V rfl wu rfl rfl (fad rfl fa26_2) ?_
            refine Go.Sx.V rfl wu rfl rfl (ldB rfl na22 hB) ?_
            refine Go.Sx.V rfl wu rfl rfl (mv rfl) ?_
            refine Go.Sx.V rfl wu rfl rfl (iadI rfl rfl ty22 hxi (by omega) (by omega)) ?_
            refine Go.Sx.V rfl wu rfl rfl (ldI rfl na3 hxi) ?_
            have hcall := rIs P mo md (gi xs i) _ (hFF _ hE)
            rw [hFv] at hcall
            refine C rfl wu rfl rfl Tryz.call36 hcall ?_
            clear hcall
            rintro _ w5 hE5 rfl
            replace hE := hE.trans hE5
            replace hB := hB.ext hE5
            refine Go.Sx.V rfl wu rfl rfl (notB rfl) ?_
            refine Go.Sx.V rfl wu rfl rfl (mv rfl) ?_
            refine KB 43 true rfl (by simp; omega) ?_
            refine SK rfl rfl rfl rfl rfl ?_
            refine SK rfl rfl rfl rfl rfl ?_
            refine SK rfl rfl rfl rfl rfl ?_
            refine SK rfl rfl rfl rfl rfl ?_
            refine SK rfl rfl rfl rfl rfl ?_
            refine SK rfl rfl rfl rfl rfl ?_
            refine SK rfl rfl rfl rfl rfl ?_
            refine SK rfl rfl rfl rfl rfl ?_
            refine SK rfl rfl rfl rfl rfl ?_
            refine Go.Sx.V rfl wu rfl rfl (pk rfl rfl) ?_
            refine wr_nil (post_thenN ?_)
            refine wc_condT rfl (by rfl) ?_
            refine wc_seq ?_
            refine wc_region [0] rfl ?_
            refine Go.Sx.V rfl wu rfl rfl (asg rfl) ?_
            refine wr_nil (post_thenN (wc_ret (post_blockR (post_thenR (post_loopR (post_blockR (post_thenR ?_)))))))
            refine post_ret1 rfl rfl ?_
            exact ⟨hE, by rw [grsE, if_neg e1, if_neg e2, if_pos (.inl fun hA => hin (hA i hc))]⟩
        · intro hc
          simp at hc
          have e3 : ¬ (¬ AllIn P.q xs ∨ ¬ AllIn P.q ms) := by
            rintro (h | h)
            · exact h fun j hj => ha j (by omega)
            · exact h fun j hj => hb j (by omega)
          refine wc_exit (post_thenE (post_loopE (post_blockX (post_thenN (wc_seq (wc_seq ?_))))))
          refine wc_region [0] rfl ?_
          refine Go.Sx.V rfl wu rfl rfl (asg rfl) ?_
          refine wr_nil (post_thenN (wc_block ?_))
          have hX3 := Ext.refl w3
          refine wc_loop (fun i : Nat => [(1, .pointer (some ⟨sb, 0, none⟩)), (3, .int .i64 xs.length), (5, .int .i64 i)])
            (fun i w' => i ≤ xs.length ∧ Ext w w' ∧ Blk w' sb 26 #[.int .i64 p, .int .i64 M, mo, .int .i64 K, pu, mu] ∧ ∀ a : Nat, a < i → ∀ b : Nat, b < a → gi xs a ≠ gi xs b) (fun i => xs.length - i) 0 ⟨rfl, rfl, rfl, trivial⟩ ⟨by omega, hE, hB, fun a ha => by omega⟩ ?_
          clear hE hB hxi hmi hX3 ha hb hc i1
          clear i
          rintro i w4 ⟨i1, hE, hB, ha⟩
          try dsimp only
          refine wc_seq (wc_seq ?_)
          refine wc_region [0,1,2] rfl ?_
          refine Go.Sx.V rfl wu rfl rfl (mv rfl) ?_
          refine Go.Sx.V rfl wu rfl rfl (mv rfl) ?_
          refine Go.Sx.V rfl wu rfl rfl (lssI rfl rfl) ?_
          refine wr_nil (post_thenN ?_)
          refine wc_cond rfl ?_ ?_
          · intro hc
            simp at hc
            refine wc_skip (post_thenN (wc_seq (wc_block (wc_seq ?_))))
            refine wc_region [0] rfl ?_
            refine Go.Sx.V rfl wu rfl rfl (asg rfl) ?_
            refine wr_nil (post_thenN (wc_block ?_))
            refine wc_loop (fun j : Nat => [(1, .pointer (some ⟨sb, 0, none⟩)), (3, .int .i64 xs.length), (5, .int .i64 i), (6, .int .i64 j)])
              (fun j w' => j ≤ i ∧ Ext w w' ∧ Blk w' sb 26 #[.int .i64 p, .int .i64 M, mo, .int .i64 K, pu, mu] ∧ ∀ b : Nat, b < j → gi xs i ≠ gi xs b) (fun j => i - j) 0 ⟨rfl, rfl, rfl, rfl, trivial⟩ ⟨by omega, hE, hB, fun b hb => by omega⟩ ?_
            clear hE hB
            rintro j w5 ⟨j1, hE, hB, hb⟩
            have hxi := hx.ext hE
            try dsimp only
            refine wc_seq (wc_seq ?_)
            refine wc_region [0,1,2] rfl ?_
            refine Go.Sx.V rfl wu rfl rfl (mv rfl) ?_
            refine Go.Sx.V rfl wu rfl rfl (mv rfl) ?_
            refine Go.Sx.V rfl wu rfl rfl (lssI rfl rfl) ?_
            refine wr_nil (post_thenN ?_)
            refine wc_cond rfl ?_ ?_
            · intro hc6
              simp at hc6
              refine wc_skip (post_thenN (wc_seq (wc_block (wc_seq ?_))))
              refine wc_draw mixed [0,1,2,3,4,5,6,7,8,9,10] (by kernel_rfl) ?_
              intro w6 hd _
              replace hE := hE.trans hd
              replace hB := hB.ext hd
              replace hxi := hxi.ext hd
              refine Go.Sx.V rfl wu rfl rfl (fad rfl fa26_2) ?_
              refine Go.Sx.V rfl wu rfl rfl (ldB rfl na22 hB) ?_
              refine Go.Sx.V rfl wu rfl rfl (mv rfl) ?_
              refine Go.Sx.V rfl wu rfl rfl (iadI rfl rfl ty22 hxi (by omega) (by omega)) ?_
              refine Go.Sx.V rfl wu rfl rfl (ldI rfl na3 hxi) ?_
              refine Go.Sx.V rfl wu rfl rfl (fad rfl fa26_2) ?_
              refine Go.Sx.V rfl wu rfl rfl (ldB rfl na22 hB) ?_
              refine Go.Sx.V rfl wu rfl rfl (mv rfl) ?_
              refine Go.Sx.V rfl wu rfl rfl (iadI rfl rfl ty22 hxi (by omega) (by omega)) ?_
              refine Go.Sx.V rfl wu rfl rfl (ldI rfl na3 hxi) ?_
              refine Go.Sx.V rfl wu rfl rfl (eqlI rfl rfl) ?_
              refine wr_nil (post_thenN ?_)
              refine wc_cond rfl ?_ ?_
              · intro h7
                simp at h7
                refine wc_seq ?_
                refine wc_region [0] rfl ?_
                refine Go.Sx.V rfl wu rfl rfl (asg rfl) ?_
                refine wr_nil (post_thenN (wc_ret (post_blockR (post_thenR (post_loopR (post_blockR (post_blockR (post_thenR (post_loopR (post_blockR (post_thenR ?_)))))))))))
                refine post_ret1 rfl rfl ?_
                exact ⟨hE, by rw [grsE, if_neg e1, if_neg e2, if_neg e3, if_pos fun hd => hd i hc j hc6 h7]⟩
              · intro h7
                simp at h7
                refine wc_skip (post_blockN (post_thenN ?_))
                refine wc_region [0,1,2] rfl ?_
                refine Go.Sx.V rfl wu rfl rfl (mv rfl) ?_
                refine Go.Sx.V rfl wu rfl rfl (addI rfl rfl) ?_
                refine Go.Sx.V rfl wu rfl rfl (asg rfl) ?_
                refine wr_nil ?_
                exact post_loopN (j + 1) ⟨rfl, rfl, rfl, rfl, trivial⟩ ⟨by omega, hE, hB, fun b hb' => by
                  by_cases e : b = j
                  · rw [e]; exact h7
                  · exact hb b (by omega)⟩ (by omega)
            · intro hc6
              simp at hc6
              refine wc_exit (post_thenE (post_loopE (post_blockX (post_blockN (post_thenN ?_)))))
              refine wc_region [0,1,2] rfl ?_
              refine Go.Sx.V rfl wu rfl rfl (mv rfl) ?_
              refine Go.Sx.V rfl wu rfl rfl (addI rfl rfl) ?_
              refine Go.Sx.V rfl wu rfl rfl (asg rfl) ?_
              refine wr_nil ?_
              exact post_loopN (i + 1) ⟨rfl, rfl, rfl, trivial⟩ ⟨by omega, hE, hB, fun a ha' b hb' => by
                by_cases e : a = i
                · rw [e]; exact hb b (by omega)
                · exact ha a (by omega) b hb'⟩ (by omega)
          · intro hc
            simp at hc
            have e4 : ¬ ¬ DifI xs := fun hn => hn fun a ha' b hb' => ha a (by omega) b hb'
            refine wc_exit (post_thenE (post_loopE (post_blockX (post_thenN (wc_seq (wc_seq ?_))))))
            refine wc_region [0] rfl ?_
            refine Go.Sx.V rfl wu rfl rfl (asg rfl) ?_
            refine wr_nil (post_thenN (wc_block ?_))
            refine wc_loop (fun i : Nat => [(1, .pointer (some ⟨sb, 0, none⟩)), (3, .int .i64 xs.length), (7, .int .i64 i)])
              (fun i w' => i ≤ xs.length ∧ Ext w w' ∧ Blk w' sb 26 #[.int .i64 p, .int .i64 M, mo, .int .i64 K, pu, mu] ∧ ∀ a : Nat, a < i → gi ms a ≠ 0) (fun i => xs.length - i) 0 ⟨rfl, rfl, rfl, trivial⟩ ⟨by omega, hE, hB, fun a ha => by omega⟩ ?_
            clear hE hB ha hc i1
            clear i
            rintro i w5 ⟨i1, hE, hB, ha⟩
            have hmi := hm.ext hE
            try dsimp only
            refine wc_seq (wc_seq ?_)
            refine wc_region [0,1,2] rfl ?_
            refine Go.Sx.V rfl wu rfl rfl (mv rfl) ?_
            refine Go.Sx.V rfl wu rfl rfl (mv rfl) ?_
            refine Go.Sx.V rfl wu rfl rfl (lssI rfl rfl) ?_
            refine wr_nil (post_thenN ?_)
            refine wc_cond rfl ?_ ?_
            · intro hc
              simp at hc
              refine wc_skip (post_thenN (wc_seq (wc_block (wc_seq ?_))))
              refine wc_region [0,1,2,3,4,5] rfl ?_
              refine Go.Sx.V rfl wu rfl rfl (fad rfl fa26_3) ?_
              refine Go.Sx.V rfl wu rfl rfl (ldB rfl na22 hB) ?_
              refine Go.Sx.V rfl wu rfl rfl (mv rfl) ?_
              refine Go.Sx.V rfl wu rfl rfl (iadI rfl rfl ty22 hmi (by omega) (by omega)) ?_
              refine Go.Sx.V rfl wu rfl rfl (ldI rfl na3 hmi) ?_
              refine Go.Sx.V rfl wu rfl rfl (eqlI rfl rfl) ?_
              refine wr_nil (post_thenN ?_)
              refine wc_cond rfl ?_ ?_
              · intro h9
                simp at h9
                refine wc_seq ?_
                refine wc_region [0] rfl ?_
                refine Go.Sx.V rfl wu rfl rfl (asg rfl) ?_
                refine wr_nil (post_thenN (wc_ret (post_blockR (post_thenR (post_loopR (post_blockR (post_thenR ?_)))))))
                refine post_ret1 rfl rfl ?_
                exact ⟨hE, by rw [grsE, if_neg e1, if_neg e2, if_neg e3, if_neg e4, if_pos fun hz => hz i (by omega) h9]⟩
              · intro h9
                simp at h9
                refine wc_skip (post_blockN (post_thenN ?_))
                refine wc_region [0,1,2] rfl ?_
                refine Go.Sx.V rfl wu rfl rfl (mv rfl) ?_
                refine Go.Sx.V rfl wu rfl rfl (addI rfl rfl) ?_
                refine Go.Sx.V rfl wu rfl rfl (asg rfl) ?_
                refine wr_nil ?_
                exact post_loopN (i + 1) ⟨rfl, rfl, rfl, trivial⟩ ⟨by omega, hE, hB, fun a ha' => by
                  by_cases e : a = i
                  · rw [e]; exact h9
                  · exact ha a (by omega)⟩ (by omega)
            · intro hc
              simp at hc
              have e5 : ¬ ¬ NoZ ms := fun hn => hn fun a ha' => ha a (by omega)
              refine wc_exit (post_thenE (post_loopE (post_blockX (post_thenN (wc_seq (wc_seq ?_))))))
              refine wc_region [0,1,2,3,4,5,6,7,8] rfl ?_
              refine Go.Sx.V rfl wu rfl rfl (fad rfl fa26_1) ?_
              refine Go.Sx.V rfl wu rfl rfl (ldB rfl na3 hB) ?_
              refine Go.Sx.V rfl wu rfl rfl (lssI rfl rfl) ?_
              refine Go.Sx.V rfl wu rfl rfl (mv rfl) ?_
              refine OR (π1 := [4,5,6,7,8]) (π2 := []) (tc := 89) (tp := 94) rfl rfl rfl (by
                  intro _
                  refine SK rfl rfl rfl rfl rfl ?_
                  refine SK rfl rfl rfl rfl rfl ?_
                  refine SK rfl rfl rfl rfl rfl ?_
                  refine SK rfl rfl rfl rfl rfl ?_
                  refine Go.Sx.V rfl wu rfl rfl (pk rfl rfl) ?_
                  exact join rfl) (by
                  intro hg
                  simp at hg
                  refine Go.Sx.V rfl (wg rfl rfl) rfl rfl (fad rfl fa26_1) ?_
                  refine Go.Sx.V rfl (wg rfl rfl) rfl rfl (ldB rfl na3 hB) ?_
                  refine Go.Sx.V rfl (wg rfl rfl) rfl rfl (mv rfl) ?_
                  refine Go.Sx.V rfl (wg rfl rfl) rfl rfl (gtrI rfl rfl) ?_
                  refine Go.Sx.V rfl wu rfl rfl (pk rfl rfl) ?_
                  exact join rfl) ?_
              refine wr_nil (post_thenN ?_)
              refine wc_cond rfl ?_ ?_
              · intro h7
                simp at h7
                refine wc_seq ?_
                refine wc_region [0] rfl ?_
                refine Go.Sx.V rfl wu rfl rfl (asg rfl) ?_
                refine wr_nil (post_thenN (wc_ret (post_thenR ?_)))
                refine post_ret1 rfl rfl ?_
                exact ⟨hE, by rw [grsE, if_neg e1, if_neg e2, if_neg e3, if_neg e4, if_neg e5, if_pos (by omega)]⟩
              · intro h7
                simp at h7
                refine wc_skip (post_thenN (wc_seq ?_))
                refine wc_region [0] rfl ?_
                refine Go.Sx.V rfl wu rfl rfl (asg rfl) ?_
                refine wr_nil (post_thenN (wc_ret ?_))
                refine post_ret1 rfl rfl ?_
                exact ⟨hE, by rw [grsE, if_neg e1, if_neg e2, if_neg e3, if_neg e4, if_neg e5, if_neg (by omega)]⟩
  · skip
    refine wc_condT rfl (by simp) ?_
    refine wc_seq ?_
    refine wc_region [0] rfl ?_
    refine Go.Sx.V rfl wu rfl rfl (asg rfl) ?_
    refine wr_nil (post_thenN (wc_ret (post_blockR (post_thenR ?_))))
    refine post_ret1 rfl rfl ?_
    exact ⟨hE, by rw [gsT, dif_neg hno]⟩
set_option maxRecDepth 10000 in
theorem rElements (P : FP) (mo : Value) (md : List Int) (u : Value) (l : List Int) (n e : Int) (w : World) (hF : FV w P mo md) (hu : Ints w u l) :
    Calls Tryz.prog 13 #[fv P mo, u, .int .i64 n, .int .i64 e] w (RetX w fun v _ => v = .int .i64 (elE P.q l n e)) := by
  have hle := hu.le
  refine calls4 Tryz.func13 rfl rfl ?_
  refine wc_seq ?_
  refine wc_region [0,1] rfl ?_
  refine BXA rfl wu rfl rfl ?_
  intro fb w1 hE hB hg
  refine Go.Sx.V rfl wu rfl rfl (asg rfl) ?_
  refine wr_nil (post_thenN (wc_seq (wc_seq ?_)))
  have hui := hu.ext hE
  refine wc_region [0,1,2,3] rfl ?_
  refine Go.Sx.V rfl wu rfl rfl (mv rfl) ?_
  refine Go.Sx.V rfl wu rfl rfl (lenI rfl ty22 hui) ?_
  refine Go.Sx.V rfl wu rfl rfl (mv rfl) ?_
  refine Go.Sx.V rfl wu rfl rfl (neqI rfl rfl) ?_
  refine wr_nil (post_thenN ?_)
  refine wc_cond rfl ?_ ?_
  · intro h
    simp at h
    refine wc_seq ?_
    refine wc_region [0,1] rfl ?_
    refine Go.Sx.V rfl wu rfl rfl (mv rfl) ?_
    refine Go.Sx.V rfl wu rfl rfl (asg rfl) ?_
    refine wr_nil (post_thenN (wc_ret (post_thenR ?_)))
    refine post_ret1 rfl rfl ?_
    exact ⟨hE, by rw [elE, if_pos h]⟩
  · intro h
    simp at h
    obtain rfl : n = l.length := h.symm
    refine wc_skip (post_thenN (wc_seq (wc_seq ?_)))
    refine wc_region [0] rfl ?_
    refine Go.Sx.V rfl wu rfl rfl (asg rfl) ?_
    refine wr_nil (post_thenN (wc_block ?_))
    refine wc_loop (fun i : Nat => [(4, .pointer (some ⟨fb, 0, none⟩)), (1, u), (2, .int .i64 l.length), (9, .int .i64 i)])
      (fun i w' => i ≤ l.length ∧ Ext w w' ∧ Blk w' fb 24 #[.int .i64 P.p, .int .i64 P.M, mo] ∧ ∀ j : Nat, j < i → 0 ≤ gi l j ∧ gi l j < P.q) (fun i => l.length - i) 0 ⟨rfl, rfl, rfl, rfl, trivial⟩ ⟨by omega, hE, hB, fun j hj => by omega⟩ ?_
    clear hE hB hui
    rintro i w2 ⟨i1, hE, hB, ha⟩
    have hui := hu.ext hE
    try dsimp only
    refine wc_seq (wc_seq ?_)
    refine wc_region [0,1,2] rfl ?_
    refine Go.Sx.V rfl wu rfl rfl (mv rfl) ?_
    refine Go.Sx.V rfl wu rfl rfl (mv rfl) ?_
    refine Go.Sx.V rfl wu rfl rfl (lssI rfl rfl) ?_
    refine wr_nil (post_thenN ?_)
    refine wc_cond rfl ?_ ?_
    · intro hc
      simp at hc
      refine wc_skip (post_thenN (wc_seq (wc_block (wc_seq ?_))))
      refine wc_draw mixed [0,1,2,3,4,5,6] (by kernel_rfl) ?_
      intro w3 hd _
      replace hE := hE.trans hd
      replace hB := hB.ext hd
      replace hui := hui.ext hd
      refine Go.Sx.V rfl wu rfl rfl (ldA rfl ag24 hB) ?_
      refine Go.Sx.V rfl wu rfl rfl (mv rfl) ?_
      refine Go.Sx.V rfl wu rfl rfl (mv rfl) ?_
      refine Go.Sx.V rfl wu rfl rfl (iadI rfl rfl ty22 hui (by omega) (by omega)) ?_
      refine Go.Sx.V rfl wu rfl rfl (ldI rfl na3 hui) ?_
      refine C rfl wu rfl rfl Tryz.call36 (rIs P mo md (gi l i) _ (hF.ext hE)) ?_
      rintro _ w4 hE4 rfl
      replace hE := hE.trans hE4
      replace hB := hB.ext hE4
      refine Go.Sx.V rfl wu rfl rfl (notB rfl) ?_
      refine wr_nil (post_thenN ?_)
      refine wc_cond rfl ?_ ?_
      · intro h2
        simp at h2
        refine wc_seq ?_
        refine wc_region [0] rfl ?_
        refine Go.Sx.V rfl wu rfl rfl (asg rfl) ?_
        refine wr_nil (post_thenN (wc_ret (post_blockR (post_thenR (post_loopR (post_blockR (post_thenR ?_)))))))
        refine post_ret1 rfl rfl ?_
        have hno : ¬ AllIn P.q l := fun hA => by
          have := hA i hc
          omega
        exact ⟨hE, by rw [elE, if_neg (by simp), if_pos hno]⟩
      · intro h2
        simp at h2
        refine wc_skip (post_blockN (post_thenN ?_))
        refine wc_region [0,1,2] rfl ?_
        refine Go.Sx.V rfl wu rfl rfl (mv rfl) ?_
        refine Go.Sx.V rfl wu rfl rfl (addI rfl rfl) ?_
        refine Go.Sx.V rfl wu rfl rfl (asg rfl) ?_
        refine wr_nil ?_
        exact post_loopN (i + 1) ⟨rfl, rfl, rfl, rfl, trivial⟩ ⟨by omega, hE, hB, allIn_step ha h2⟩ (by omega)
    · intro hc
      simp at hc
      refine wc_exit (post_thenE (post_loopE (post_blockX (post_thenN (wc_seq ?_)))))
      refine wc_region [0] rfl ?_
      refine Go.Sx.V rfl wu rfl rfl (asg rfl) ?_
      refine wr_nil (post_thenN (wc_ret ?_))
      refine post_ret1 rfl rfl ?_
      exact ⟨hE, by rw [elE, if_neg (by simp), if_neg (fun hn => hn fun j hj => ha j (by omega))]⟩
set_option maxRecDepth 10000 in
theorem rWord (P : FP) (p M K : Int) (mo pu mu u : Value) (md xs ms z : List Int) (w : World) (hF : FV w P mo md) (hv : fv P mo = .agg #[.int .i64 p, .int .i64 M, mo]) (hx : Ints w pu xs) (hm : Ints w mu ms) (hz : Ints w u z) (hml : ms.length = xs.length) (hx64 : xs.length ≤ 64) :
    Calls Tryz.prog 14 #[gval p M mo K pu mu, u] w (RetX w fun r w' => OwnI w.heap.size w' r 3 (encW P xs ms (pz P z))) := by
  refine calls2 Tryz.func14 rfl rfl ?_
  refine wc_seq ?_
  refine wc_region [0,1] rfl ?_
  refine BXA rfl wu rfl rfl ?_
  intro sb w1 hE hB hsb
  refine Go.Sx.V rfl wu rfl rfl (asg rfl) ?_
  refine wr_nil (post_thenN (wc_seq ?_))
  have hxi := hx.ext hE
  refine wc_region [0,1,2,3,4] rfl ?_
  refine Go.Sx.V rfl wu rfl rfl (fad rfl fa26_2) ?_
  refine Go.Sx.V rfl wu rfl rfl (ldB rfl na22 hB) ?_
  refine Go.Sx.V rfl wu rfl rfl (lenI rfl ty22 hxi) ?_
  refine MKI (n := xs.length) rfl wu rfl rfl ty22 ?_
  intro ov w2 hE2 ho hoi hob
  refine Go.Sx.V rfl wu rfl rfl (asg rfl) ?_
  refine wr_nil (post_thenN (wc_seq (wc_seq ?_)))
  have hsz := hE.size
  have hsz2 := hE2.size
  have hlt := hB.lt
  have hne : ov.ownBlock ≠ some sb := fun e => by
    rw [hob] at e
    have := Option.some.inj e
    omega
  replace hB := hB.ext hE2
  have ho' := Own.mono ho (B' := w.heap.size) (by omega)
  replace hE := hE.trans hE2
  rw [← upd_zero' xs.length (fun i => (inK P (gi ms i) * val1 (pz P z) (inK P (gi xs i))).1) (fun _ => 0)] at ho'
  clear ho hoi hxi
  refine wc_region [0] rfl ?_
  refine Go.Sx.V rfl wu rfl rfl (asg rfl) ?_
  refine wr_nil (post_thenN (wc_block ?_))
  refine wc_loop (fun i : Nat => [(2, .pointer (some ⟨sb, 0, none⟩)), (1, u), (5, ov), (6, .int .i64 i)])
    (fun i w' => i ≤ xs.length ∧ Ext w w' ∧ Blk w' sb 26 #[.int .i64 p, .int .i64 M, mo, .int .i64 K, pu, mu] ∧ OwnI w.heap.size w' ov 3 (upd xs.length (fun i => (inK P (gi ms i) * val1 (pz P z) (inK P (gi xs i))).1) (fun _ => 0) i)) (fun i => xs.length - i) 0 ⟨rfl, rfl, rfl, rfl, trivial⟩ ⟨by omega, hE, hB, ho'⟩ ?_
  clear hE hB ho'
  rintro i w3 ⟨i1, hE, hB, ho⟩
  have hxi := hx.ext hE
  have hmi := hm.ext hE
  have hoi := OwnI.ints ho
  have hul := upd_length xs.length (fun i => (inK P (gi ms i) * val1 (pz P z) (inK P (gi xs i))).1) (fun _ => (0 : Int)) i
  try dsimp only
  refine wc_seq (wc_seq ?_)
  refine wc_region [0,1,2,3] rfl ?_
  refine Go.Sx.V rfl wu rfl rfl (mv rfl) ?_
  refine Go.Sx.V rfl wu rfl rfl (mv rfl) ?_
  refine Go.Sx.V rfl wu rfl rfl (lenI rfl ty22 hoi) ?_
  refine Go.Sx.V rfl wu rfl rfl (lssI rfl rfl) ?_
  refine wr_nil (post_thenN ?_)
  rw [hul]
  refine wc_cond rfl ?_ ?_
  · intro hc
    simp at hc
    refine wc_skip (post_thenN (wc_seq (wc_block ?_)))
    refine wc_draw mixed [0,1,2,3,4,5,6,7,8,9,10,11,12,13,14,15,16,17,18,19,20] (by kernel_rfl) ?_
    intro w4 hd _
    replace hE := hE.trans hd
    replace hB := hB.ext hd
    replace hxi := hxi.ext hd
    replace hmi := hmi.ext hd
    replace ho := ho.ext hd
    refine Go.Sx.V rfl wu rfl rfl (mv rfl) ?_
    refine Go.Sx.V rfl wu rfl rfl (mv rfl) ?_
    refine Go.Sx.V rfl wu rfl rfl (fad rfl fa26_0) ?_
    refine Go.Sx.V rfl wu rfl rfl (ldA rfl ag24 hB) ?_
    refine Go.Sx.V rfl wu rfl rfl (fad rfl fa26_3) ?_
    refine Go.Sx.V rfl wu rfl rfl (ldB rfl na22 hB) ?_
    refine Go.Sx.V rfl wu rfl rfl (mv rfl) ?_
    refine Go.Sx.V rfl wu rfl rfl (iadI rfl rfl ty22 hmi (by omega) (by omega)) ?_
    refine Go.Sx.V rfl wu rfl rfl (ldI rfl na3 hmi) ?_
    refine Go.Sx.V rfl wu rfl rfl (fad rfl fa26_0) ?_
    refine Go.Sx.V rfl wu rfl rfl (ldA rfl ag24 hB) ?_
    refine Go.Sx.V rfl wu rfl rfl (mv rfl) ?_
    refine Go.Sx.V rfl wu rfl rfl (fad rfl fa26_2) ?_
    refine Go.Sx.V rfl wu rfl rfl (ldB rfl na22 hB) ?_
    refine Go.Sx.V rfl wu rfl rfl (mv rfl) ?_
    refine Go.Sx.V rfl wu rfl rfl (iadI rfl rfl ty22 hxi (by omega) (by omega)) ?_
    refine Go.Sx.V rfl wu rfl rfl (ldI rfl na3 hxi) ?_
    have hcall := rPEval P mo md u z (gi xs i) _ (hF.ext hE) (hz.ext hE)
    rw [hv] at hcall
    refine C rfl wu rfl rfl Tryz.call38 hcall ?_
    clear hcall
    rintro _ w5 hE5 rfl
    replace hE := hE.trans hE5
    replace hB := hB.ext hE5
    replace ho := ho.ext hE5
    have hcall := rMul P mo md (gi ms i) (val1 (pz P z) (inK P (gi xs i))).1 _ (hF.ext hE)
    rw [hv] at hcall
    refine C rfl wu rfl rfl Tryz.call37 hcall ?_
    clear hcall
    rintro _ w6 hE6 rfl
    replace hE := hE.trans hE6
    replace hB := hB.ext hE6
    replace ho := ho.ext hE6
    have hoi := OwnI.ints ho
    refine Go.Sx.V rfl wu rfl rfl (iadI rfl rfl ty22 hoi (by omega) (by omega)) ?_
    refine STI rfl wu rfl rfl sz3 (by intro h; kernel_rfl) ?_
    intro w7 hg7 hX7 ho7 hi7
    refine wr_nil (post_blockN (post_thenN ?_))
    rw [inK_val, show (inK P (gi ms i) * val1 (pz P z) (inK P (gi xs i))).1 = (fun i : Nat => (inK P (gi ms i) * val1 (pz P z) (inK P (gi xs i))).1) ((i : Int)).toNat by simp, upd_step (by omega)] at ho7
    refine wc_region [0,1,2] rfl ?_
    refine Go.Sx.V rfl wu rfl rfl (mv rfl) ?_
    refine Go.Sx.V rfl wu rfl rfl (addI rfl rfl) ?_
    refine Go.Sx.V rfl wu rfl rfl (asg rfl) ?_
    refine wr_nil ?_
    exact post_loopN (i + 1) ⟨rfl, rfl, rfl, rfl, trivial⟩ ⟨by omega, hX7 _ (Nat.le_refl _) hE, hB.grown hg7 hne, ho7⟩ (by omega)
  · intro hc
    simp at hc
    obtain rfl : i = xs.length := by omega
    rw [upd_last xs.length _ _ (Int.le_refl _)] at ho
    refine wc_exit (post_thenE (post_loopE (post_blockX (post_thenN (wc_seq ?_)))))
    refine wc_region [0,1] rfl ?_
    refine Go.Sx.V rfl wu rfl rfl (mv rfl) ?_
    refine Go.Sx.V rfl wu rfl rfl (asg rfl) ?_
    refine wr_nil (post_thenN (wc_ret ?_))
    refine post_ret1 rfl rfl ?_
    exact ⟨hE, ho⟩
set_option maxRecDepth 10000 in
theorem rLdCheck (x : CRec) (w : World) (hi : CInts w x) :
    Calls Tryz.prog 12 #[x.s.val, x.wu, .int .i64 x.t] w (RetX w fun v _ => v = .int .i64 (errC x)) := by
  obtain ⟨hmo, hxs, hms, hws⟩ := hi
  obtain ⟨⟨⟨p, M, mo, md⟩, K, pu, xs, mu, ms⟩, wu', ws, t⟩ := x
  dsimp only at hmo hxs hms hws
  refine calls3 Tryz.func12 rfl rfl ?_
  refine wc_seq ?_
  refine wc_region [0,1] rfl ?_
  refine BXA rfl wu rfl rfl ?_
  intro sb w1 hE hB hsb
  refine Go.Sx.V rfl wu rfl rfl (asg rfl) ?_
  refine wr_nil (post_thenN (wc_seq ?_))
  refine wc_region [0,1,2] rfl ?_
  refine Go.Sx.V rfl wu rfl rfl (ldA rfl ag26 hB) ?_
  refine C rfl wu rfl rfl Tryz.call35 (rGCheck p M K mo pu mu md xs ms _ (hmo.ext hE) (hxs.ext hE) (hms.ext hE)) ?_
  rintro _ w2 hE2 rfl
  replace hB := hB.ext hE2
  replace hE := hE.trans hE2
  refine Go.Sx.V rfl wu rfl rfl (asg rfl) ?_
  refine wr_nil (post_thenN (wc_seq (wc_seq ?_)))
  refine wc_region [0,1] rfl ?_
  refine Go.Sx.V rfl wu rfl rfl (mv rfl) ?_
  refine Go.Sx.V rfl wu rfl rfl (neqI rfl rfl) ?_
  refine wr_nil (post_thenN ?_)
  refine wc_cond rfl ?_ ?_
  · intro h
    simp at h
    refine wc_seq ?_
    refine wc_region [0,1] rfl ?_
    refine Go.Sx.V rfl wu rfl rfl (mv rfl) ?_
    refine Go.Sx.V rfl wu rfl rfl (asg rfl) ?_
    refine wr_nil (post_thenN (wc_ret (post_thenR ?_)))
    refine post_ret1 rfl rfl ?_
    refine ⟨hE, ?_⟩
    rw [errC]
    dsimp only
    split
    · rename_i hok
      rw [taskE, gsT, dif_pos hok]
      rw [gsT, dif_pos hok] at h
      rw [if_pos h]
    · rename_i hno
      rw [gsT, dif_neg hno]
  · intro h
    simp at h
    obtain ⟨hok, hgr⟩ : ∃ hok : OkF p M md, GrsOk (fpOf p M md hok.1.1 hok.1.2.1).q xs ms K := by
      rw [gsT] at h
      split at h
      · rename_i hok; exact ⟨hok, grsE_ok.1 h⟩
      · omega
    have hFv := fv_of hok mo
    have hFF : ∀ w', Ext w w' → FV w' (fpOf p M md hok.1.1 hok.1.2.1) mo md := fun w' h => okf_fv41 hok (hmo.ext h)
    have hldE : errC ⟨⟨⟨p, M, mo, md⟩, K, pu, xs, mu, ms⟩, wu', ws, t⟩ = if elE (fpOf p M md hok.1.1 hok.1.2.1).q ws xs.length 4 ≠ 0 then elE (fpOf p M md hok.1.1 hok.1.2.1).q ws xs.length 4 else (par xs.length K t).2 := by
      rw [errC, dif_pos hok, taskE, if_neg (by rw [grsE_ok.2 hgr]; simp)]
    rw [hldE]
    generalize fpOf p M md hok.1.1 hok.1.2.1 = P at hFv hFF ⊢
    have hxi := hxs.ext hE
    refine wc_skip (post_thenN (wc_seq ?_))
    refine wc_region [0,1,2,3,4,5,6,7] rfl ?_
    refine Go.Sx.V rfl wu rfl rfl (fad rfl fa26_0) ?_
    refine Go.Sx.V rfl wu rfl rfl (ldA rfl ag24 hB) ?_
    refine Go.Sx.V rfl wu rfl rfl (mv rfl) ?_
    refine Go.Sx.V rfl wu rfl rfl (fad rfl fa26_2) ?_
    refine Go.Sx.V rfl wu rfl rfl (ldB rfl na22 hB) ?_
    refine Go.Sx.V rfl wu rfl rfl (lenI rfl ty22 hxi) ?_
    have hcall := rElements P mo md wu' ws xs.length 4 _ (hFF _ hE) (hws.ext hE)
    rw [hFv] at hcall
    refine C rfl wu rfl rfl Tryz.call13 hcall ?_
    clear hcall
    rintro _ w3 hE3 rfl
    replace hE := hE.trans hE3
    replace hB := hB.ext hE3
    refine Go.Sx.V rfl wu rfl rfl (asg rfl) ?_
    refine wr_nil (post_thenN (wc_seq (wc_seq ?_)))
    refine wc_region [0,1] rfl ?_
    refine Go.Sx.V rfl wu rfl rfl (mv rfl) ?_
    refine Go.Sx.V rfl wu rfl rfl (neqI rfl rfl) ?_
    refine wr_nil (post_thenN ?_)
    refine wc_cond rfl ?_ ?_
    · intro h1
      simp at h1
      refine wc_seq ?_
      refine wc_region [0,1] rfl ?_
      refine Go.Sx.V rfl wu rfl rfl (mv rfl) ?_
      refine Go.Sx.V rfl wu rfl rfl (asg rfl) ?_
      refine wr_nil (post_thenN (wc_ret (post_thenR ?_)))
      refine post_ret1 rfl rfl ?_
      exact ⟨hE, by rw [if_pos h1]⟩
    · intro h1
      simp at h1
      have hxi := hxs.ext hE
      refine wc_skip (post_thenN (wc_seq ?_))
      obtain ⟨x0, y0, z0, hp3⟩ : ∃ x y z, (par xs.length K t).1 = [x, y, z] := by
        have := par_len xs.length K t
        match (par xs.length K t).1, this with
        | [x, y, z], _ => exact ⟨x, y, z, rfl⟩
      have hpv : PV (par xs.length K t) = .tuple #[.agg [Value.int .i64 x0, .int .i64 y0, .int .i64 z0].toArray, .int .i64 (par xs.length K t).2] := by rw [PV, hp3]; rfl
      refine wc_region [0,1,2,3,4,5,6,7,8,9,10] rfl ?_
      refine Go.Sx.V rfl wu rfl rfl (fad rfl fa26_2) ?_
      refine Go.Sx.V rfl wu rfl rfl (ldB rfl na22 hB) ?_
      refine Go.Sx.V rfl wu rfl rfl (lenI rfl ty22 hxi) ?_
      refine Go.Sx.V rfl wu rfl rfl (fad rfl fa26_1) ?_
      refine Go.Sx.V rfl wu rfl rfl (ldB rfl na3 hB) ?_
      refine Go.Sx.V rfl wu rfl rfl (mv rfl) ?_
      refine C rfl wu rfl rfl Tryz.call17 (rParams xs.length K t _) ?_
      rintro _ w4 hE4 rfl
      replace hE := hE.trans hE4
      rw [hpv]
      refine Go.Sx.V rfl wu rfl rfl (mv rfl) ?_
      refine Go.Sx.V rfl wu rfl rfl (ext rfl rfl) ?_
      refine Go.Sx.V rfl wu rfl rfl (ext rfl rfl) ?_
      refine Go.Sx.V rfl wu rfl rfl (asg rfl) ?_
      refine wr_nil (post_thenN (wc_seq ?_))
      refine wc_region [0,1] rfl ?_
      refine Go.Sx.V rfl wu rfl rfl (mv rfl) ?_
      refine Go.Sx.V rfl wu rfl rfl (asg rfl) ?_
      refine wr_nil (post_thenN (wc_ret ?_))
      refine post_ret1 rfl rfl ?_
      exact ⟨hE, by rw [if_neg (by omega)]; rfl⟩
set_option maxRecDepth 10000 in
theorem rValues (P : FP) (p M K : Int) (mo pu mu wu' : Value) (md _ ms ws : List Int) (w : World) (hF : FV w P mo md) (hv : fv P mo = .agg #[.int .i64 p, .int .i64 M, mo]) (hgen : ∃ g : Go.Fd.K P, HasOrder g (n1 P)) (hm : Ints w mu ms) (hw : Ints w wu' ws) (hml : ms.length = ws.length) (hmin : AllIn P.q ms) (hnz : NoZ ms) (hx64 : ws.length ≤ 64) :
    Calls Tryz.prog 42 #[gval p M mo K pu mu, wu'] w (RetX w fun r w' => OwnI w.heap.size w' r 3 (vals P ws ms)) := by
  have hwi0 := hw
  refine calls2 Tryz.func42 rfl rfl ?_
  refine wc_seq ?_
  refine wc_region [0,1] rfl ?_
  refine BXA rfl wu rfl rfl ?_
  intro sb w1 hE hB hsb
  refine Go.Sx.V rfl wu rfl rfl (asg rfl) ?_
  refine wr_nil (post_thenN (wc_seq ?_))
  have hwi := hw.ext hE
  refine wc_region [0,1,2,3] rfl ?_
  refine Go.Sx.V rfl wu rfl rfl (mv rfl) ?_
  refine Go.Sx.V rfl wu rfl rfl (lenI rfl ty22 hwi) ?_
  refine MKI (n := ws.length) rfl wu rfl rfl ty22 ?_
  intro ov w2 hE2 ho hoi hob
  refine Go.Sx.V rfl wu rfl rfl (asg rfl) ?_
  refine wr_nil (post_thenN (wc_seq (wc_seq ?_)))
  have hsz := hE.size
  have hsz2 := hE2.size
  have hlt := hB.lt
  have hne : ov.ownBlock ≠ some sb := fun e => by
    rw [hob] at e
    have := Option.some.inj e
    omega
  replace hB := hB.ext hE2
  have ho' := Own.mono ho (B' := w.heap.size) (by omega)
  replace hE := hE.trans hE2
  rw [← upd_zero' ws.length (fun i => (inK P (gi ws i) * invK P (inK P (gi ms i))).1) (fun _ => 0)] at ho'
  clear ho hoi hwi
  refine wc_region [0] rfl ?_
  refine Go.Sx.V rfl wu rfl rfl (asg rfl) ?_
  refine wr_nil (post_thenN (wc_block ?_))
  refine wc_loop (fun i : Nat => [(2, .pointer (some ⟨sb, 0, none⟩)), (1, wu'), (5, ov), (6, .int .i64 i)])
    (fun i w' => i ≤ ws.length ∧ Ext w w' ∧ Blk w' sb 26 #[.int .i64 p, .int .i64 M, mo, .int .i64 K, pu, mu] ∧ OwnI w.heap.size w' ov 3 (upd ws.length (fun i => (inK P (gi ws i) * invK P (inK P (gi ms i))).1) (fun _ => 0) i)) (fun i => ws.length - i) 0 ⟨rfl, rfl, rfl, rfl, trivial⟩ ⟨by omega, hE, hB, ho'⟩ ?_
  clear hE hB ho'
  rintro i w3 ⟨i1, hE, hB, ho⟩
  have hwi := hw.ext hE
  have hmi := hm.ext hE
  have hul := upd_length ws.length (fun i => (inK P (gi ws i) * invK P (inK P (gi ms i))).1) (fun _ => (0 : Int)) i
  try dsimp only
  refine wc_seq (wc_seq ?_)
  refine wc_region [0,1,2,3] rfl ?_
  refine Go.Sx.V rfl wu rfl rfl (mv rfl) ?_
  refine Go.Sx.V rfl wu rfl rfl (mv rfl) ?_
  refine Go.Sx.V rfl wu rfl rfl (lenI rfl ty22 hwi) ?_
  refine Go.Sx.V rfl wu rfl rfl (lssI rfl rfl) ?_
  refine wr_nil (post_thenN ?_)
  refine wc_cond rfl ?_ ?_
  · intro hc
    simp at hc
    have hmz : inK P (gi ms i) ≠ 0 := inK_ne (hmin i (by omega)) (hnz i (by omega))
    refine wc_skip (post_thenN (wc_seq (wc_block ?_)))
    refine wc_draw mixed [0,1,2,3,4,5,6,7,8,9,10,11,12,13,14,15,16,17,18] (by kernel_rfl) ?_
    intro w4 hd _
    replace hE := hE.trans hd
    replace hB := hB.ext hd
    replace hwi := hwi.ext hd
    replace hmi := hmi.ext hd
    replace ho := ho.ext hd
    refine Go.Sx.V rfl wu rfl rfl (mv rfl) ?_
    refine Go.Sx.V rfl wu rfl rfl (mv rfl) ?_
    refine Go.Sx.V rfl wu rfl rfl (fad rfl fa26_0) ?_
    refine Go.Sx.V rfl wu rfl rfl (ldA rfl ag24 hB) ?_
    refine Go.Sx.V rfl wu rfl rfl (mv rfl) ?_
    refine Go.Sx.V rfl wu rfl rfl (mv rfl) ?_
    refine Go.Sx.V rfl wu rfl rfl (iadI rfl rfl ty22 hwi (by omega) (by omega)) ?_
    refine Go.Sx.V rfl wu rfl rfl (ldI rfl na3 hwi) ?_
    refine Go.Sx.V rfl wu rfl rfl (fad rfl fa26_0) ?_
    refine Go.Sx.V rfl wu rfl rfl (ldA rfl ag24 hB) ?_
    refine Go.Sx.V rfl wu rfl rfl (fad rfl fa26_3) ?_
    refine Go.Sx.V rfl wu rfl rfl (ldB rfl na22 hB) ?_
    refine Go.Sx.V rfl wu rfl rfl (mv rfl) ?_
    refine Go.Sx.V rfl wu rfl rfl (iadI rfl rfl ty22 hmi (by omega) (by omega)) ?_
    refine Go.Sx.V rfl wu rfl rfl (ldI rfl na3 hmi) ?_
    have hcall := rInv P mo md (gi ms i) _ (hF.ext hE) hgen hmz
    rw [hv] at hcall
    refine C rfl wu rfl rfl Tryz.call72 hcall ?_
    clear hcall
    rintro _ w5 hE5 rfl
    replace hE := hE.trans hE5
    replace hB := hB.ext hE5
    replace ho := ho.ext hE5
    have hcall := rMul P mo md (gi ws i) (invK P (inK P (gi ms i))).1 _ (hF.ext hE)
    rw [hv] at hcall
    refine C rfl wu rfl rfl Tryz.call37 hcall ?_
    clear hcall
    rintro _ w6 hE6 rfl
    replace hE := hE.trans hE6
    replace hB := hB.ext hE6
    replace ho := ho.ext hE6
    have hoi := OwnI.ints ho
    refine Go.Sx.V rfl wu rfl rfl (iadI rfl rfl ty22 hoi (by omega) (by omega)) ?_
    refine STI rfl wu rfl rfl sz3 (by intro h; kernel_rfl) ?_
    intro w7 hg7 hX7 ho7 hi7
    refine wr_nil (post_blockN (post_thenN ?_))
    rw [inK_val, show (inK P (gi ws i) * invK P (inK P (gi ms i))).1 = (fun i : Nat => (inK P (gi ws i) * invK P (inK P (gi ms i))).1) ((i : Int)).toNat by simp, upd_step (by omega)] at ho7
    refine wc_region [0,1,2] rfl ?_
    refine Go.Sx.V rfl wu rfl rfl (mv rfl) ?_
    refine Go.Sx.V rfl wu rfl rfl (addI rfl rfl) ?_
    refine Go.Sx.V rfl wu rfl rfl (asg rfl) ?_
    refine wr_nil ?_
    exact post_loopN (i + 1) ⟨rfl, rfl, rfl, rfl, trivial⟩ ⟨by omega, hX7 _ (Nat.le_refl _) hE, hB.grown hg7 hne, ho7⟩ (by omega)
  · intro hc
    simp at hc
    obtain rfl : i = ws.length := by omega
    rw [upd_last ws.length _ _ (Int.le_refl _)] at ho
    refine wc_exit (post_thenE (post_loopE (post_blockX (post_thenN (wc_seq ?_)))))
    refine wc_region [0,1] rfl ?_
    refine Go.Sx.V rfl wu rfl rfl (mv rfl) ?_
    refine Go.Sx.V rfl wu rfl rfl (asg rfl) ?_
    refine wr_nil (post_thenN (wc_ret ?_))
    refine post_ret1 rfl rfl ?_
    exact ⟨hE, ho⟩
set_option maxRecDepth 10000 in
theorem rDistance (u v : Value) (a b : List Int) (w : World) (hu : Ints w u a) (hv : Ints w v b) (hl : b.length = a.length) :
    Calls Tryz.prog 15 #[u, v] w (RetX w fun r _ => r = .int .i64 (disN a b a.length)) := by
  have hle := hu.le
  refine calls2 Tryz.func15 rfl rfl ?_
  refine wc_seq ?_
  refine wc_region [0] rfl ?_
  refine Go.Sx.V rfl wu rfl rfl (asg rfl) ?_
  refine wr_nil (post_thenN (wc_seq ?_))
  refine wc_region [0] rfl ?_
  refine Go.Sx.V rfl wu rfl rfl (asg rfl) ?_
  refine wr_nil (post_thenN (wc_seq (wc_seq ?_)))
  refine wc_region [0] rfl ?_
  refine Go.Sx.V rfl wu rfl rfl (asg rfl) ?_
  refine wr_nil (post_thenN (wc_block ?_))
  refine wc_loop (fun i : Nat => [(0, u), (1, v), (5, .int .i64 (disN a b i)), (6, .int .i64 i)])
    (fun i w' => i ≤ a.length ∧ Ext w w') (fun i => a.length - i) 0 ⟨rfl, rfl, rfl, rfl, trivial⟩ ⟨by omega, Ext.refl _⟩ ?_
  rintro i w1 ⟨i1, hE⟩
  have hui := hu.ext hE
  have hvi := hv.ext hE
  have hdl := disN_le a b i
  try dsimp only
  refine wc_seq (wc_seq ?_)
  refine wc_region [0,1,2,3] rfl ?_
  refine Go.Sx.V rfl wu rfl rfl (mv rfl) ?_
  refine Go.Sx.V rfl wu rfl rfl (mv rfl) ?_
  refine Go.Sx.V rfl wu rfl rfl (lenI rfl ty22 hui) ?_
  refine Go.Sx.V rfl wu rfl rfl (lssI rfl rfl) ?_
  refine wr_nil (post_thenN ?_)
  refine wc_cond rfl ?_ ?_
  · intro hc
    simp at hc
    refine wc_skip (post_thenN (wc_seq (wc_block (wc_seq ?_))))
    refine wc_draw mixed [0,1,2,3,4,5,6,7,8] (by kernel_rfl) ?_
    intro w2 hd _
    replace hE := hE.trans hd
    replace hui := hui.ext hd
    replace hvi := hvi.ext hd
    refine Go.Sx.V rfl wu rfl rfl (mv rfl) ?_
    refine Go.Sx.V rfl wu rfl rfl (mv rfl) ?_
    refine Go.Sx.V rfl wu rfl rfl (iadI rfl rfl ty22 hui (by omega) (by omega)) ?_
    refine Go.Sx.V rfl wu rfl rfl (ldI rfl na3 hui) ?_
    refine Go.Sx.V rfl wu rfl rfl (mv rfl) ?_
    refine Go.Sx.V rfl wu rfl rfl (mv rfl) ?_
    refine Go.Sx.V rfl wu rfl rfl (iadI rfl rfl ty22 hvi (by omega) (by omega)) ?_
    refine Go.Sx.V rfl wu rfl rfl (ldI rfl na3 hvi) ?_
    refine Go.Sx.V rfl wu rfl rfl (neqI rfl rfl) ?_
    refine wr_nil (post_thenN ?_)
    refine wc_cond rfl ?_ ?_
    · intro h1
      simp at h1
      refine wc_region [0,1,2] rfl ?_
      refine Go.Sx.V rfl wu rfl rfl (mv rfl) ?_
      refine Go.Sx.V rfl wu rfl rfl (addI rfl rfl) ?_
      refine Go.Sx.V rfl wu rfl rfl (asg rfl) ?_
      refine wr_nil (post_blockN (post_thenN ?_))
      refine wc_region [0,1,2] rfl ?_
      refine Go.Sx.V rfl wu rfl rfl (mv rfl) ?_
      refine Go.Sx.V rfl wu rfl rfl (addI rfl rfl) ?_
      refine Go.Sx.V rfl wu rfl rfl (asg rfl) ?_
      refine wr_nil ?_
      have e : ((disN a b i : Nat) : Int) + 1 = (disN a b (i + 1) : Nat) := by rw [disN_step, if_neg h1]; rfl
      rw [e]
      exact post_loopN (i + 1) ⟨rfl, rfl, rfl, rfl, trivial⟩ ⟨by omega, hE⟩ (by omega)
    · intro h1
      simp at h1
      refine wc_skip (post_blockN (post_thenN ?_))
      refine wc_region [0,1,2] rfl ?_
      refine Go.Sx.V rfl wu rfl rfl (mv rfl) ?_
      refine Go.Sx.V rfl wu rfl rfl (addI rfl rfl) ?_
      refine Go.Sx.V rfl wu rfl rfl (asg rfl) ?_
      refine wr_nil ?_
      have e : disN a b i = disN a b (i + 1) := by rw [disN_step, if_pos h1]; rfl
      rw [e]
      exact post_loopN (i + 1) ⟨rfl, rfl, rfl, rfl, trivial⟩ ⟨by omega, hE⟩ (by omega)
  · intro hc
    simp at hc
    obtain rfl : i = a.length := by omega
    refine wc_exit (post_thenE (post_loopE (post_blockX (post_thenN (wc_seq ?_)))))
    refine wc_region [0,1] rfl ?_
    refine Go.Sx.V rfl wu rfl rfl (mv rfl) ?_
    refine Go.Sx.V rfl wu rfl rfl (asg rfl) ?_
    refine wr_nil (post_thenN (wc_ret ?_))
    refine post_ret1 rfl rfl ?_
    exact ⟨hE, rfl⟩
set_option maxRecDepth 10000 in
theorem rThrough (P : FP) (p M K : Int) (mo pu mu wu' q : Value) (md xs ms ws : List Int) (A : List (List Int)) (m : Nat) (na : Nat) (w : World) (hF : FV w P mo md) (hv : fv P mo = .agg #[.int .i64 p, .int .i64 M, mo]) (hgen : ∃ g : Go.Fd.K P, HasOrder g (n1 P)) (hg : GrsOk P.q xs ms K) (hwl : ws.length = xs.length) (hx : Ints w pu xs) (hm : Ints w mu ms) (hw : Ints w wu' ws)
    (hq : LL w q A) (hA : RB na A) (hna : na ≤ 65536) (hl : A.length ≤ 65536) (hm16 : m ≤ 65536) :
    Calls Tryz.prog 22 #[gval p M mo K pu mu, wu', q, .int .i64 m] w (RetX w fun r _ => ∃ t, r = .bool t ∧ (t = true ↔ ∀ i, i < xs.length → VanP (inK P (gi xs i)) (inK P (gi (vals P ws ms) i)) (bz P A) m)) := by
  have h64 := hg.n64
  have hml := hg.ml
  have hvl := vals_length (P := P) ws ms
  refine calls4 Tryz.func22 rfl rfl ?_
  refine wc_seq ?_
  refine wc_region [0,1] rfl ?_
  refine BXA rfl wu rfl rfl ?_
  intro sb w1 hE hB hsb
  refine Go.Sx.V rfl wu rfl rfl (asg rfl) ?_
  refine wr_nil (post_thenN (wc_seq ?_))
  refine wc_region [0,1,2,3] rfl ?_
  refine Go.Sx.V rfl wu rfl rfl (ldA rfl ag26 hB) ?_
  refine Go.Sx.V rfl wu rfl rfl (mv rfl) ?_
  refine C rfl wu rfl rfl Tryz.call42 (rValues P p M K mo pu mu wu' md xs ms ws _ (hF.ext hE) hv hgen (hm.ext hE) (hw.ext hE) (by omega) hg.min hg.noz (by omega)) ?_
  intro vv w2 hE2 hvo
  replace hB := hB.ext hE2
  replace hE := hE.trans hE2
  have hvi0 := OwnI.ints hvo
  refine Go.Sx.V rfl wu rfl rfl (asg rfl) ?_
  refine wr_nil (post_thenN (wc_seq (wc_seq ?_)))
  have hX := Ext.refl w2
  refine wc_region [0] rfl ?_
  refine Go.Sx.V rfl wu rfl rfl (asg rfl) ?_
  refine wr_nil (post_thenN (wc_block ?_))
  refine wc_loop (fun i : Nat => [(4, .pointer (some ⟨sb, 0, none⟩)), (1, wu'), (2, q), (3, .int .i64 m), (9, vv), (10, .int .i64 i)])
    (fun i w' => i ≤ ws.length ∧ Ext w w' ∧ Ext w2 w' ∧ ∀ j, j < i → VanP (inK P (gi xs j)) (inK P (gi (vals P ws ms) j)) (bz P A) m) (fun i => ws.length - i) 0 ⟨rfl, rfl, rfl, rfl, rfl, rfl, trivial⟩ ⟨by omega, hE, hX, fun j hj => by omega⟩ ?_
  clear hE hX
  rintro i w3 ⟨i1, hE, hX, ha⟩
  have hxi := hx.ext hE
  have hwi := hw.ext hE
  have hvi := hvi0.ext hX
  have hB3 := hB.ext hX
  try dsimp only
  refine wc_seq (wc_seq ?_)
  refine wc_region [0,1,2,3] rfl ?_
  refine Go.Sx.V rfl wu rfl rfl (mv rfl) ?_
  refine Go.Sx.V rfl wu rfl rfl (mv rfl) ?_
  refine Go.Sx.V rfl wu rfl rfl (lenI rfl ty22 hwi) ?_
  refine Go.Sx.V rfl wu rfl rfl (lssI rfl rfl) ?_
  refine wr_nil (post_thenN ?_)
  refine wc_cond rfl ?_ ?_
  · intro hc
    simp at hc
    refine wc_skip (post_thenN (wc_seq (wc_block (wc_seq ?_))))
    refine wc_draw mixed [0,1,2,3,4,5,6,7,8,9,10,11,12,13,14] (by kernel_rfl) ?_
    intro w4 hd _
    replace hE := hE.trans hd
    replace hX := hX.trans hd
    replace hB3 := hB3.ext hd
    replace hxi := hxi.ext hd
    replace hvi := hvi.ext hd
    refine Go.Sx.V rfl wu rfl rfl (fad rfl fa26_0) ?_
    refine Go.Sx.V rfl wu rfl rfl (ldA rfl ag24 hB3) ?_
    refine Go.Sx.V rfl wu rfl rfl (mv rfl) ?_
    refine Go.Sx.V rfl wu rfl rfl (fad rfl fa26_2) ?_
    refine Go.Sx.V rfl wu rfl rfl (ldB rfl na22 hB3) ?_
    refine Go.Sx.V rfl wu rfl rfl (mv rfl) ?_
    refine Go.Sx.V rfl wu rfl rfl (iadI rfl rfl ty22 hxi (by omega) (by omega)) ?_
    refine Go.Sx.V rfl wu rfl rfl (ldI rfl na3 hxi) ?_
    refine Go.Sx.V rfl wu rfl rfl (mv rfl) ?_
    refine Go.Sx.V rfl wu rfl rfl (mv rfl) ?_
    refine Go.Sx.V rfl wu rfl rfl (iadI rfl rfl ty22 hvi (by omega) (by omega)) ?_
    refine Go.Sx.V rfl wu rfl rfl (ldI rfl na3 hvi) ?_
    refine Go.Sx.V rfl wu rfl rfl (mv rfl) ?_
    have hcall := rAtLeast P mo md q A (gi xs i) (gi (vals P ws ms) i) m na _ (hF.ext hE) (hq.ext hE) hA hna hl hm16
    rw [hv] at hcall
    refine C rfl wu rfl rfl Tryz.call43 hcall ?_
    clear hcall
    rintro _ w5 hE5 ⟨t, rfl, ht⟩
    replace hE := hE.trans hE5
    replace hX := hX.trans hE5
    refine Go.Sx.V rfl wu rfl rfl (notB rfl) ?_
    refine wr_nil (post_thenN ?_)
    refine wc_cond rfl ?_ ?_
    · intro h1
      simp at h1
      subst h1
      refine wc_seq ?_
      refine wc_region [0] rfl ?_
      refine Go.Sx.V rfl wu rfl rfl (asg rfl) ?_
      refine wr_nil (post_thenN (wc_ret (post_blockR (post_thenR (post_loopR (post_blockR (post_thenR ?_)))))))
      refine post_ret1 rfl rfl ?_
      exact ⟨hE, false, rfl, ⟨fun h => by (cases h), fun h => absurd (ht.2 (h i (by omega))) (by simp)⟩⟩
    · intro h1
      simp at h1
      subst h1
      refine wc_skip (post_blockN (post_thenN ?_))
      refine wc_region [0,1,2] rfl ?_
      refine Go.Sx.V rfl wu rfl rfl (mv rfl) ?_
      refine Go.Sx.V rfl wu rfl rfl (addI rfl rfl) ?_
      refine Go.Sx.V rfl wu rfl rfl (asg rfl) ?_
      refine wr_nil ?_
      exact post_loopN (i + 1) ⟨rfl, rfl, rfl, rfl, rfl, rfl, trivial⟩ ⟨by omega, hE, hX, fun j hj => by
        by_cases e : j = i
        · rw [e]; exact ht.1 rfl
        · exact ha j (by omega)⟩ (by omega)
  · intro hc
    simp at hc
    refine wc_exit (post_thenE (post_loopE (post_blockX (post_thenN (wc_seq ?_)))))
    refine wc_region [0] rfl ?_
    refine Go.Sx.V rfl wu rfl rfl (asg rfl) ?_
    refine wr_nil (post_thenN (wc_ret ?_))
    refine post_ret1 rfl rfl ?_
    exact ⟨hE, true, rfl, ⟨fun _ j hj => ha j (by omega), fun _ => rfl⟩⟩
def smB (x : CRec) : Bool := decide (x.s.xs.length ≤ 12) && (decide ((par x.s.xs.length x.s.k x.t).2 ≠ 0) || decide ((par x.s.xs.length x.s.k x.t).1.headD 0 ≤ 3))
theorem smB_true {x : CRec} (h : smB x = true) : x.s.xs.length ≤ 12 ∧ ∀ m D L, par x.s.xs.length x.s.k x.t = ([m, D, L], 0) → m ≤ 3 := by
  simp only [smB, Bool.and_eq_true, Bool.or_eq_true, decide_eq_true_eq] at h
  refine ⟨h.1, fun m D L hp => ?_⟩
  rw [hp] at h
  rcases h.2 with h2 | h2
  · exact absurd rfl h2
  · exact h2
set_option maxRecDepth 10000 in
theorem lSmall41 (x : CRec) (w : World) (hi : CInts w x) :
    Calls Tryz.prog 10 #[x.val] w (RetX w fun v _ => v = .bool (smB x)) := by
  obtain ⟨hmo, hxs, hms, hws⟩ := hi
  obtain ⟨⟨⟨p, M, mo, md⟩, K, pu, xs, mu, ms⟩, wu', ws, t⟩ := x
  dsimp only at hmo hxs hms hws
  have hxle := hxs.le
  refine calls1 Tryz.func10 rfl rfl ?_
  refine wc_seq ?_
  refine wc_region [0,1] rfl ?_
  refine BXA rfl wu rfl rfl ?_
  intro cb w1 hE hB hsb
  refine Go.Sx.V rfl wu rfl rfl (asg rfl) ?_
  refine wr_nil (post_thenN (wc_seq (wc_seq ?_)))
  have hxi := hxs.ext hE
  refine wc_region [0,1,2,3,4] rfl ?_
  refine Go.Sx.V rfl wu rfl rfl (fad rfl fa28_0) ?_
  refine Go.Sx.V rfl wu rfl rfl (fad rfl fa26_2) ?_
  refine Go.Sx.V rfl wu rfl rfl (ldB rfl na22 hB) ?_
  refine Go.Sx.V rfl wu rfl rfl (lenI rfl ty22 hxi) ?_
  refine Go.Sx.V rfl wu rfl rfl (gtrI rfl rfl) ?_
  refine wr_nil (post_thenN ?_)
  refine wc_cond rfl ?_ ?_
  · intro h
    refine wc_seq ?_
    refine wc_region [0] rfl ?_
    refine Go.Sx.V rfl wu rfl rfl (asg rfl) ?_
    refine wr_nil (post_thenN (wc_ret (post_thenR ?_)))
    refine post_ret1 rfl rfl ?_
    simp at h
    refine ⟨hE, ?_⟩
    rw [smB, show decide (xs.length ≤ 12) = false from decide_eq_false (by omega)]; rfl
  · intro h
    simp at h
    refine wc_skip (post_thenN (wc_seq ?_))
    obtain ⟨x0, y0, z0, hp3⟩ : ∃ x y z, (par xs.length K t).1 = [x, y, z] := by
      have := par_len xs.length K t
      match (par xs.length K t).1, this with
      | [x, y, z], _ => exact ⟨x, y, z, rfl⟩
    have hpv : PV (par xs.length K t) = .tuple #[.agg [Value.int .i64 x0, .int .i64 y0, .int .i64 z0].toArray, .int .i64 (par xs.length K t).2] := by rw [PV, hp3]; rfl
    refine wc_region [0,1,2,3,4,5,6,7,8,9,10,11,12,13,14,15] rfl ?_
    refine Go.Sx.V rfl wu rfl rfl (fad rfl fa28_0) ?_
    refine Go.Sx.V rfl wu rfl rfl (fad rfl fa26_2) ?_
    refine Go.Sx.V rfl wu rfl rfl (ldB rfl na22 hB) ?_
    refine Go.Sx.V rfl wu rfl rfl (lenI rfl ty22 hxi) ?_
    refine Go.Sx.V rfl wu rfl rfl (fad rfl fa28_0) ?_
    refine Go.Sx.V rfl wu rfl rfl (fad rfl fa26_1) ?_
    refine Go.Sx.V rfl wu rfl rfl (ldB rfl na3 hB) ?_
    refine Go.Sx.V rfl wu rfl rfl (fad rfl fa28_2) ?_
    refine Go.Sx.V rfl wu rfl rfl (ldB rfl na3 hB) ?_
    refine C rfl wu rfl rfl Tryz.call17 (rParams xs.length K t _) ?_
    rintro _ w4 hE4 rfl
    replace hE := hE.trans hE4
    rw [hpv]
    refine Go.Sx.V rfl wu rfl rfl (mv rfl) ?_
    refine Go.Sx.V rfl wu rfl rfl (ext rfl rfl) ?_
    refine Go.Sx.V rfl wu rfl rfl (ext rfl rfl) ?_
    refine AL rfl wu rfl zv43 ?_
    intro pb w7 hE7 hPB hpb
    have hsz7 := hE.size
    replace hE := hE.trans hE7
    refine STB (vs := [.int .i64 x0, .int .i64 y0, .int .i64 z0]) (cs' := [.int .i64 x0, .int .i64 y0, .int .i64 z0]) rfl wu rfl rfl rfl sv43 (by intro h; cases h) (by assumption) (by first | (simp [Value.oneCell']; done) | (intro v hv; simp only [List.mem_cons, List.not_mem_nil, or_false] at hv; rcases hv with rfl | rfl | rfl | rfl | rfl <;> first | rfl | assumption) | (intro v hv; simp only [List.mem_cons, List.not_mem_nil, or_false] at hv; rcases hv with rfl | rfl | rfl <;> first | rfl | assumption) | (intro v hv; simp only [List.mem_cons, List.not_mem_nil, or_false] at hv; rcases hv with rfl | rfl <;> first | rfl | assumption)) rfl rfl rfl ?_
    intro w8 hg8 hX8 hPB8
    refine Go.Sx.V rfl wu rfl rfl (asg rfl) ?_
    refine wr_nil (post_thenN (wc_seq ?_))
    have hE8 := hX8 w (by omega) hE
    refine wc_region [0,1,2,3,4,5,6,7] rfl ?_
    refine Go.Sx.V rfl wu rfl rfl (mv rfl) ?_
    refine Go.Sx.V rfl wu rfl rfl (neqI rfl rfl) ?_
    refine Go.Sx.V rfl wu rfl rfl (mv rfl) ?_
    refine OR (π1 := [3,4,5,6]) (π2 := [7]) (tc := 25) (tp := 29) rfl rfl rfl (by
        intro _
        refine SK rfl rfl rfl rfl rfl ?_
        refine SK rfl rfl rfl rfl rfl ?_
        refine SK rfl rfl rfl rfl rfl ?_
        refine Go.Sx.V rfl wu rfl rfl (pk rfl rfl) ?_
        exact join rfl) (by
        intro hg
        simp at hg
        refine Go.Sx.V rfl (wg rfl rfl) rfl rfl (fad rfl fa43_0) ?_
        refine Go.Sx.V rfl (wg rfl rfl) rfl rfl (ldB rfl na3 hPB8) ?_
        refine Go.Sx.V rfl (wg rfl rfl) rfl rfl (leqI rfl rfl) ?_
        refine Go.Sx.V rfl wu rfl rfl (pk rfl rfl) ?_
        exact join rfl) ?_
    refine Go.Sx.V rfl wu rfl rfl (asg rfl) ?_
    refine wr_nil (post_thenN (wc_ret ?_))
    refine post_ret1 rfl rfl ?_
    refine ⟨hE8, ?_⟩
    rw [smB, show decide (xs.length ≤ 12) = true from decide_eq_true (by omega), Bool.true_and, hp3]
    rfl
end Go.Proofs.YtmnojknfjbimdaaGreat

