/-
  Statement ListdecodeUnique: for every case the law returns true. No condition.
-/
import Derived.Test.YtmnojknfjbimdaaGreatUBd5
import Derived.Test.YtmnojknfjbimdaaGreatULaw41p
import Derived.Test.YtmnojknfjbimdaaGreatUListdLaws
import Derived.Test.YtmnojknfjbimdaaGreatUMPa
namespace Go.Proofs.YtmnojknfjbimdaaGreat
open Go Go.Sx Go.Pl Go.RowKit Go.Fd Go.Alg Go.Ld Go.Fr
theorem list_ok {x : CRec} {w' : World} {r : Value} (he : errC x = 0) (h : (errC x ≠ 0 ∧ r = .tuple #[.slice none 0 0, .int .i64 (errC x)]) ∨
      (errC x = 0 ∧ ∃ P m D L s Q R, TkP P x m D L ∧ par x.s.xs.length x.s.k x.t = ([m, D, L], 0) ∧ r = .tuple #[s, .int .i64 0] ∧ LL w' s R ∧ (∃ gv, GFV w' P gv) ∧ IsNear P x.s.xs x.s.ms x.ws x.s.k x.t Q R ∧ R.length ≤ L.toNat ∧
        IntP (fun i : Nat => inK P (gi x.s.xs i)) (fun i : Nat => inK P (gi (vals P x.ws x.s.ms) i)) x.s.xs.length m.toNat (wt x.s.k).toNat (L.toNat + 1) Q)) :
    ∃ lv P m D L Q R, r = .tuple #[lv, .int .i64 0] ∧ TkP P x m D L ∧ LL w' lv R ∧ (∃ gv, GFV w' P gv) ∧ IsNear P x.s.xs x.s.ms x.ws x.s.k x.t Q R ∧ IntP (fun i : Nat => inK P (gi x.s.xs i)) (fun i : Nat => inK P (gi (vals P x.ws x.s.ms) i)) x.s.xs.length m.toNat (wt x.s.k).toNat (L.toNat + 1) Q := by
  obtain ⟨_, P, m, D, L, s, Q, R, hT, hp, hr, hL, hG, hN, hl, hip⟩ := h.resolve_left fun h => h.1 he
  exact ⟨s, P, m, D, L, Q, R, hr, hT, hL, hG, hN, hip⟩
set_option maxRecDepth 10000 in
theorem law_ListdecodeUnique {w : World} (v0 : Value) (x : CRec) (s0 : v0 = x.val ∧ COf w x) :
    Calls Tryz.prog 8 #[v0] w (RetX w fun v _ => v = .bool true) := by
  obtain ⟨rfl, hco⟩ := s0
  have hci := hco.cints
  clear hco
  refine calls1 Tryz.func8 rfl rfl ?_
  refine wc_seq ?_
  refine wc_region [0,1] rfl ?_
  refine BXA rfl wu rfl rfl ?_
  intro cb w1 hE hB hsb
  refine Go.Sx.V rfl wu rfl rfl (asg rfl) ?_
  refine wr_nil (post_thenN (wc_seq (wc_seq ?_)))
  refine wc_region [0,1] rfl ?_
  refine C rfl wu rfl rfl Tryz.call9 (alive41 _) ?_
  rintro _ w2 hE2 rfl
  replace hE := hE.trans hE2
  replace hB := hB.ext hE2
  refine Go.Sx.V rfl wu rfl rfl (notB rfl) ?_
  refine wr_nil (post_thenN ?_)
  refine wc_condF rfl (by rfl) ?_
  refine wc_skip (post_thenN (wc_seq (wc_seq ?_)))
  have hci2 := hci.ext hE
  by_cases hsm : smB x = true
  · obtain ⟨h12, hm3⟩ := smB_true hsm
    by_cases he : errC x = 0
    · obtain ⟨P0, m0, D0, L0, hT0, _⟩ := errC_ok he
      have ht0 := hT0.pok.ht
      have hk0 := hT0.pok.hk
      have hwl0 := hT0.wl
      have hwi := hci.ws.ext hE
      refine wc_region [0,1,2,3,4,5,6,7,8,9,10,11,12,13,14,15,16,17,18,19,20,21,22,23,24,25] rfl ?_
      refine Go.Sx.V rfl wu rfl rfl (ldA rfl ag28 hB) ?_
      refine C rfl wu rfl rfl Tryz.call10 (lSmall41 x _ hci2) ?_
      rintro _ w3 hE3 rfl
      replace hE := hE.trans hE3
      replace hB := hB.ext hE3
      replace hwi := hwi.ext hE3
      rw [hsm]
      refine Go.Sx.V rfl wu rfl rfl (notB rfl) ?_
      refine Go.Sx.V rfl wu rfl rfl (mv rfl) ?_
      refine KB 12 false rfl (by rfl) ?_
      refine Go.Sx.V rfl (wg rfl rfl) rfl rfl (fad rfl fa28_0) ?_
      refine Go.Sx.V rfl (wg rfl rfl) rfl rfl (ldA rfl ag26 hB) ?_
      refine Go.Sx.V rfl (wg rfl rfl) rfl rfl (fad rfl fa28_1) ?_
      refine Go.Sx.V rfl (wg rfl rfl) rfl rfl (ldB rfl na22 hB) ?_
      refine Go.Sx.V rfl (wg rfl rfl) rfl rfl (fad rfl fa28_2) ?_
      refine Go.Sx.V rfl (wg rfl rfl) rfl rfl (ldB rfl na3 hB) ?_
      refine C rfl (wg rfl rfl) rfl rfl Tryz.call12 (rLdCheck x _ (hci.ext hE)) ?_
      rintro _ w4 hE4 rfl
      replace hE := hE.trans hE4
      replace hB := hB.ext hE4
      replace hwi := hwi.ext hE4
      rw [he]
      refine Go.Sx.V rfl (wg rfl rfl) rfl rfl (neqI rfl rfl) ?_
      refine Go.Sx.V rfl wu rfl rfl (pk rfl rfl) ?_
      refine Go.Sx.V rfl wu rfl rfl (mv rfl) ?_
      refine KB 22 false rfl (by rfl) ?_
      refine Go.Sx.V rfl (wg rfl rfl) rfl rfl (fad rfl fa28_2) ?_
      refine Go.Sx.V rfl (wg rfl rfl) rfl rfl (ldB rfl na3 hB) ?_
      refine Go.Sx.V rfl (wg rfl rfl) rfl rfl (mulI rfl rfl) ?_
      refine Go.Sx.V rfl (wg rfl rfl) rfl rfl (fad rfl fa28_1) ?_
      refine Go.Sx.V rfl (wg rfl rfl) rfl rfl (ldB rfl na22 hB) ?_
      refine Go.Sx.V rfl (wg rfl rfl) rfl rfl (lenI rfl ty22 hwi) ?_
      refine Go.Sx.V rfl (wg rfl rfl) rfl rfl (fad rfl fa28_0) ?_
      refine Go.Sx.V rfl (wg rfl rfl) rfl rfl (fad rfl fa26_1) ?_
      refine Go.Sx.V rfl (wg rfl rfl) rfl rfl (ldB rfl na3 hB) ?_
      refine Go.Sx.V rfl (wg rfl rfl) rfl rfl (subI rfl rfl) ?_
      refine Go.Sx.V rfl (wg rfl rfl) rfl rfl (gtrI rfl rfl) ?_
      refine Go.Sx.V rfl wu rfl rfl (pk rfl rfl) ?_
      refine wr_nil (post_thenN ?_)
      refine wc_cond rfl ?_ ?_
      · intro _
        refine wc_seq ?_
        refine wc_region [0] rfl ?_
        refine Go.Sx.V rfl wu rfl rfl (asg rfl) ?_
        refine wr_nil (post_thenN (wc_ret (post_thenR ?_)))
        refine post_ret1 rfl rfl ?_
        exact ⟨hE, rfl⟩
      · intro h1
        replace h1 := of_decide_eq_false h1
        refine wc_skip (post_thenN (wc_seq ?_))
        refine wc_region [0,1,2,3,4,5,6,7,8,9,10,11] rfl ?_
        refine Go.Sx.V rfl wu rfl rfl (fad rfl fa28_0) ?_
        refine Go.Sx.V rfl wu rfl rfl (ldA rfl ag26 hB) ?_
        refine Go.Sx.V rfl wu rfl rfl (fad rfl fa28_1) ?_
        refine Go.Sx.V rfl wu rfl rfl (ldB rfl na22 hB) ?_
        refine Go.Sx.V rfl wu rfl rfl (fad rfl fa28_2) ?_
        refine Go.Sx.V rfl wu rfl rfl (ldB rfl na3 hB) ?_
        refine C rfl wu rfl rfl Tryz.call25 (lList x _ (hci.ext hE) h12 hm3) ?_
        intro rv w5 hE5 hch
        replace hE := hE.trans hE5
        replace hB := hB.ext hE5
        obtain ⟨lv, P, m, D, L, Q, R, rfl, hT, hL, ⟨gv, hG⟩, hN, hip⟩ := list_ok he hch
        clear hch
        refine Go.Sx.V rfl wu rfl rfl (mv rfl) ?_
        refine Go.Sx.V rfl wu rfl rfl (ext rfl rfl) ?_
        refine Go.Sx.V rfl wu rfl rfl (ext rfl rfl) ?_
        refine Go.Sx.V rfl wu rfl rfl (asg rfl) ?_
        refine Go.Sx.V rfl wu rfl rfl (asg rfl) ?_
        refine wr_nil (post_thenN (wc_seq ?_))
        obtain ⟨hok, hPe⟩ := hT.ok
        obtain ⟨gg, hgg⟩ := hG.gen
        have hwl := hT.wl
        refine wc_region [0,1,2,3,4,5,6,7,8,9,10] rfl ?_
        refine Go.Sx.V rfl wu rfl rfl (fad rfl fa28_0) ?_
        refine Go.Sx.V rfl wu rfl rfl (ldA rfl ag26 hB) ?_
        refine Go.Sx.V rfl wu rfl rfl (fad rfl fa28_1) ?_
        refine Go.Sx.V rfl wu rfl rfl (ldB rfl na22 hB) ?_
        refine C rfl wu rfl rfl Tryz.call27 (bGRS P x.s.f.p x.s.f.M x.s.k x.s.f.mo x.s.pu x.s.mu x.wu x.s.f.md x.s.xs x.s.ms x.ws _ hok hPe hT.grs (hci.ext hE).mo (hci.ext hE).xs (hci.ext hE).ms (hci.ext hE).ws hT.wl hT.win) ?_
        rintro _ w6 hE6 ⟨av, bv, e, F, rfl, hao, hbo, hres, hu⟩
        replace hE := hE.trans hE6
        replace hB := hB.ext hE6
        replace hL := hL.ext hE6
        refine Go.Sx.V rfl wu rfl rfl (mv rfl) ?_
        refine Go.Sx.V rfl wu rfl rfl (ext rfl rfl) ?_
        refine Go.Sx.V rfl wu rfl rfl (ext rfl rfl) ?_
        refine AL rfl wu rfl zv59 ?_
        intro db w7 hE7 hD hdb
        have hsz6 := hB.lt
        replace hB := hB.ext hE7
        refine STB (vs := [av, bv]) (cs' := [av, bv]) rfl wu rfl rfl rfl sv59 (by intro h; cases h) (by assumption) (by first | (simp [Value.oneCell']; done) | (intro v hv; simp only [List.mem_cons, List.not_mem_nil, or_false] at hv; rcases hv with rfl | rfl | rfl | rfl | rfl <;> first | rfl | assumption) | (intro v hv; simp only [List.mem_cons, List.not_mem_nil, or_false] at hv; rcases hv with rfl | rfl | rfl <;> first | rfl | assumption) | (intro v hv; simp only [List.mem_cons, List.not_mem_nil, or_false] at hv; rcases hv with rfl | rfl <;> first | rfl | assumption)) rfl rfl rfl ?_
        intro w8 hg8 hX8 hD8
        refine Go.Sx.V rfl wu rfl rfl (asg rfl) ?_
        refine wr_nil (post_thenN (wc_seq (wc_seq ?_)))
        have hX68 := hX8 w6 hdb hE7
        replace hE := hE.trans hX68
        replace hB := hB.grown hg8 (by intro hh; cases hh; omega)
        replace hL := hL.ext hX68
        obtain ⟨rows, hs, hrl, hrr⟩ := hL.row
        have hnear : ∀ i : Nat, i < R.length → ∃ f, YB x.s.k.toNat f ∧ R.getD i [] = encW P x.s.xs x.s.ms f ∧ e = 0 ∧ F = f := fun i hi => by
          obtain ⟨f, hf, _, hfe, hfd⟩ := (hN.mem _).1 (mem_get hi)
          have hd2 : 2 * disN (encW P x.s.xs x.s.ms f) x.ws x.s.xs.length ≤ x.s.xs.length - x.s.k.toNat := by
            rw [← hfe]
            omega
          obtain ⟨h2, h3⟩ := hu f hf hd2
          exact ⟨f, hf, hfe, h2, h3⟩
        have hR1 : R.length ≤ 1 := by
          apply Classical.byContradiction
          intro hc
          obtain ⟨f, _, h2, _, h3⟩ := hnear 0 (by omega)
          obtain ⟨f', _, h4, _, h5⟩ := hnear 1 (by omega)
          have h6 := asc_get hN.asc (show 0 < 1 by omega) (by omega)
          rw [h2, h4, ← h3, ← h5, cmpL_self] at h6
          omega
        refine wc_region [0,1,2,3,4,5,6] rfl ?_
        refine Go.Sx.V rfl wu rfl rfl (mv rfl) ?_
        refine Go.Sx.V rfl wu rfl rfl (neqI rfl rfl) ?_
        refine Go.Sx.V rfl wu rfl rfl (mv rfl) ?_
        refine KB 55 false rfl (by rfl) ?_
        refine Go.Sx.V rfl (wg rfl rfl) rfl rfl (mv rfl) ?_
        refine Go.Sx.V rfl (wg rfl rfl) rfl rfl (lenS rfl ty29 hs) ?_
        refine Go.Sx.V rfl (wg rfl rfl) rfl rfl (gtrI rfl rfl) ?_
        refine Go.Sx.V rfl wu rfl rfl (pk rfl rfl) ?_
        refine wr_nil (post_thenN ?_)
        refine wc_condF rfl (by rw [hrl]; exact decide_eq_false (by omega)) ?_
        refine wc_skip (post_thenN (wc_seq (wc_seq ?_)))
        refine wc_region [0,1,2] rfl ?_
        refine Go.Sx.V rfl wu rfl rfl (mv rfl) ?_
        refine Go.Sx.V rfl wu rfl rfl (lenS rfl ty29 hs) ?_
        refine Go.Sx.V rfl wu rfl rfl (eqlI rfl rfl) ?_
        refine wr_nil (post_thenN ?_)
        rw [hrl]
        refine wc_cond rfl ?_ ?_
        · intro h3
          replace h3 := of_decide_eq_true h3
          have h0 : 0 < R.length := by omega
          obtain ⟨f, hf, hfe, rfl, rfl⟩ := hnear 0 h0
          obtain ⟨r, hr, hri⟩ := hrr 0 h0
          have ha : Ints w6 av (encW P x.s.xs x.s.ms F) := by
            rcases hres with h | ⟨_, _, h, _⟩
            · exact absurd h (by decide)
            · exact h
          have ha8 := ha.ext hX68
          refine wc_seq ?_
          refine wc_draw mixed [0,1,2,3,4,5,6,7,8,9,10] (by kernel_rfl) ?_
          intro w9 hd9 _
          replace hE := hE.trans hd9
          replace hs := hs.ext hd9
          replace hri := hri.ext hd9
          replace ha8 := ha8.ext hd9
          replace hD8 := hD8.ext hd9
          refine Go.Sx.V rfl wu rfl rfl (mv rfl) ?_
          refine Go.Sx.V rfl wu rfl rfl (eqlI rfl rfl) ?_
          refine Go.Sx.V rfl wu rfl rfl (mv rfl) ?_
          refine KB 65 true rfl (by rfl) ?_
          refine Go.Sx.V rfl (wg rfl rfl) rfl rfl (fad rfl fa59_0) ?_
          refine Go.Sx.V rfl (wg rfl rfl) rfl rfl (ldB rfl na22 hD8) ?_
          refine Go.Sx.V rfl (wg rfl rfl) rfl rfl (mv rfl) ?_
          refine Go.Sx.V rfl (wg rfl rfl) rfl rfl (iad rfl rfl ty29 hs (by omega) (by omega)) ?_
          refine Go.Sx.V rfl (wg rfl rfl) rfl rfl (ldE rfl na22 hs hr) ?_
          refine C rfl (wg rfl rfl) rfl rfl Tryz.call16 (lSame41 av r _ _ _ ha8 hri) ?_
          rintro _ wa hEa rfl
          replace hE := hE.trans hEa
          rw [hfe, decide_eq_true rfl]
          refine Go.Sx.V rfl wu rfl rfl (pk rfl rfl) ?_
          refine Go.Sx.V rfl wu rfl rfl (asg rfl) ?_
          refine wr_nil (post_thenN (wc_ret (post_thenR ?_)))
          refine post_ret1 rfl rfl ?_
          exact ⟨hE, rfl⟩
        · intro h3
          replace h3 := of_decide_eq_false h3
          have hR0 : R = [] := List.eq_nil_of_length_eq_zero (by omega)
          refine wc_skip (post_thenN (wc_seq ?_))
          rcases hres with rfl | ⟨rfl, hFy, ha, pos, hp, hpl⟩
          · skip
            refine wc_region [0,1,2,3,4,5,6,7,8,9,10,11,12,13,14] rfl ?_
            refine Go.Sx.V rfl wu rfl rfl (mv rfl) ?_
            refine Go.Sx.V rfl wu rfl rfl (eqlI rfl rfl) ?_
            refine Go.Sx.V rfl wu rfl rfl (mv rfl) ?_
            refine KB 75 true rfl (by rfl) ?_
            refine SK rfl rfl rfl rfl rfl ?_
            refine SK rfl rfl rfl rfl rfl ?_
            refine SK rfl rfl rfl rfl rfl ?_
            refine SKU rfl rfl rfl rfl ?_
            refine SKU rfl rfl rfl rfl ?_
            refine SKU rfl rfl rfl rfl ?_
            refine SKU rfl rfl rfl rfl ?_
            refine SKU rfl rfl rfl rfl ?_
            refine SKU rfl rfl rfl rfl ?_
            refine SK rfl rfl rfl rfl rfl ?_
            refine Go.Sx.V rfl wu rfl rfl (pk rfl rfl) ?_
            refine Go.Sx.V rfl wu rfl rfl (asg rfl) ?_
            refine wr_nil (post_thenN (wc_ret ?_))
            refine post_ret1 rfl rfl ?_
            exact ⟨hE, rfl⟩
          · have hp8 := hp.ext hX68
            have hfar : x.t < (pos.length : Int) := by
              apply Classical.byContradiction
              intro hc
              have hin : encW P x.s.xs x.s.ms F ∈ R := hN.has hG.nzd hgg hT.grs hT.win hT.wl hip.van (hT.deg hip) hFy (by omega)
              rw [hR0] at hin
              cases hin
            refine wc_region [0,1,2,3,4,5,6,7,8,9,10,11,12,13,14] rfl ?_
            refine Go.Sx.V rfl wu rfl rfl (mv rfl) ?_
            refine Go.Sx.V rfl wu rfl rfl (eqlI rfl rfl) ?_
            refine Go.Sx.V rfl wu rfl rfl (mv rfl) ?_
            refine KB 75 false rfl (by rfl) ?_
            refine Go.Sx.V rfl (wg rfl rfl) rfl rfl (mv rfl) ?_
            refine Go.Sx.V rfl (wg rfl rfl) rfl rfl (eqlI rfl rfl) ?_
            refine Go.Sx.V rfl (wg rfl rfl) rfl rfl (mv rfl) ?_
            refine KB 78 true rfl (by rfl) ?_
            refine Go.Sx.V rfl (wg rfl rfl) rfl rfl (fad rfl fa59_1) ?_
            refine Go.Sx.V rfl (wg rfl rfl) rfl rfl (ldB rfl na22 hD8) ?_
            refine Go.Sx.V rfl (wg rfl rfl) rfl rfl (lenI rfl ty22 hp8) ?_
            refine Go.Sx.V rfl (wg rfl rfl) rfl rfl (fad rfl fa28_2) ?_
            refine Go.Sx.V rfl (wg rfl rfl) rfl rfl (ldB rfl na3 hB) ?_
            refine Go.Sx.V rfl (wg rfl rfl) rfl rfl (gtrI rfl rfl) ?_
            refine Go.Sx.V rfl (wg rfl rfl) rfl rfl (pk rfl rfl) ?_
            refine Go.Sx.V rfl wu rfl rfl (pk rfl rfl) ?_
            refine Go.Sx.V rfl wu rfl rfl (asg rfl) ?_
            refine wr_nil (post_thenN (wc_ret ?_))
            refine post_ret1 rfl rfl ?_
            refine ⟨hE, ?_⟩
            show Value.bool (decide _) = _
            rw [decide_eq_true hfar]
    · skip
      refine wc_region [0,1,2,3,4,5,6,7,8,9,10,11,12,13,14,15,16,17,18,19,20,21,22,23,24,25] rfl ?_
      refine Go.Sx.V rfl wu rfl rfl (ldA rfl ag28 hB) ?_
      refine C rfl wu rfl rfl Tryz.call10 (lSmall41 x _ hci2) ?_
      rintro _ w3 hE3 rfl
      replace hE := hE.trans hE3
      replace hB := hB.ext hE3
      rw [hsm]
      refine Go.Sx.V rfl wu rfl rfl (notB rfl) ?_
      refine Go.Sx.V rfl wu rfl rfl (mv rfl) ?_
      refine KB 12 false rfl (by rfl) ?_
      refine Go.Sx.V rfl (wg rfl rfl) rfl rfl (fad rfl fa28_0) ?_
      refine Go.Sx.V rfl (wg rfl rfl) rfl rfl (ldA rfl ag26 hB) ?_
      refine Go.Sx.V rfl (wg rfl rfl) rfl rfl (fad rfl fa28_1) ?_
      refine Go.Sx.V rfl (wg rfl rfl) rfl rfl (ldB rfl na22 hB) ?_
      refine Go.Sx.V rfl (wg rfl rfl) rfl rfl (fad rfl fa28_2) ?_
      refine Go.Sx.V rfl (wg rfl rfl) rfl rfl (ldB rfl na3 hB) ?_
      refine C rfl (wg rfl rfl) rfl rfl Tryz.call12 (rLdCheck x _ (hci.ext hE)) ?_
      rintro _ w4 hE4 rfl
      replace hE := hE.trans hE4
      refine Go.Sx.V rfl (wg rfl rfl) rfl rfl (neqI rfl rfl) ?_
      refine Go.Sx.V rfl wu rfl rfl (pk rfl rfl) ?_
      refine Go.Sx.V rfl wu rfl rfl (mv rfl) ?_
      refine KB 22 true rfl (by show (decide _) = true; exact decide_eq_true he) ?_
      refine SK rfl rfl rfl rfl rfl ?_
      refine SK rfl rfl rfl rfl rfl ?_
      refine SK rfl rfl rfl rfl rfl ?_
      refine SK rfl rfl rfl rfl rfl ?_
      refine SK rfl rfl rfl rfl rfl ?_
      refine SK rfl rfl rfl rfl rfl ?_
      refine SK rfl rfl rfl rfl rfl ?_
      refine SK rfl rfl rfl rfl rfl ?_
      refine SK rfl rfl rfl rfl rfl ?_
      refine SK rfl rfl rfl rfl rfl ?_
      refine SK rfl rfl rfl rfl rfl ?_
      refine Go.Sx.V rfl wu rfl rfl (pk rfl rfl) ?_
      refine wr_nil (post_thenN ?_)
      refine wc_condT rfl (by rfl) ?_
      refine wc_seq ?_
      refine wc_region [0] rfl ?_
      refine Go.Sx.V rfl wu rfl rfl (asg rfl) ?_
      refine wr_nil (post_thenN (wc_ret (post_thenR ?_)))
      refine post_ret1 rfl rfl ?_
      exact ⟨hE, rfl⟩
  · replace hsm : smB x = false := by simpa using hsm
    refine wc_region [0,1,2,3,4,5,6,7,8,9,10,11,12,13,14,15,16,17,18,19,20,21,22,23,24,25] rfl ?_
    refine Go.Sx.V rfl wu rfl rfl (ldA rfl ag28 hB) ?_
    refine C rfl wu rfl rfl Tryz.call10 (lSmall41 x _ hci2) ?_
    rintro _ w3 hE3 rfl
    replace hE := hE.trans hE3
    rw [hsm]
    refine Go.Sx.V rfl wu rfl rfl (notB rfl) ?_
    refine Go.Sx.V rfl wu rfl rfl (mv rfl) ?_
    refine KB 12 true rfl (by rfl) ?_
    refine SK rfl rfl rfl rfl rfl ?_
    refine SK rfl rfl rfl rfl rfl ?_
    refine SK rfl rfl rfl rfl rfl ?_
    refine SK rfl rfl rfl rfl rfl ?_
    refine SK rfl rfl rfl rfl rfl ?_
    refine SK rfl rfl rfl rfl rfl ?_
    refine SK rfl rfl rfl rfl rfl ?_
    refine SK rfl rfl rfl rfl rfl ?_
    refine Go.Sx.V rfl wu rfl rfl (pk rfl rfl) ?_
    refine Go.Sx.V rfl wu rfl rfl (mv rfl) ?_
    refine KB 22 true rfl (by rfl) ?_
    refine SK rfl rfl rfl rfl rfl ?_
    refine SK rfl rfl rfl rfl rfl ?_
    refine SK rfl rfl rfl rfl rfl ?_
    refine SK rfl rfl rfl rfl rfl ?_
    refine SK rfl rfl rfl rfl rfl ?_
    refine SK rfl rfl rfl rfl rfl ?_
    refine SK rfl rfl rfl rfl rfl ?_
    refine SK rfl rfl rfl rfl rfl ?_
    refine SK rfl rfl rfl rfl rfl ?_
    refine SK rfl rfl rfl rfl rfl ?_
    refine SK rfl rfl rfl rfl rfl ?_
    refine Go.Sx.V rfl wu rfl rfl (pk rfl rfl) ?_
    refine wr_nil (post_thenN ?_)
    refine wc_condT rfl (by rfl) ?_
    refine wc_seq ?_
    refine wc_region [0] rfl ?_
    refine Go.Sx.V rfl wu rfl rfl (asg rfl) ?_
    refine wr_nil (post_thenN (wc_ret (post_thenR ?_)))
    refine post_ret1 rfl rfl ?_
    exact ⟨hE, rfl⟩
namespace FListdecodeUnique
open Go.ChangeShapes Go.WideShapes Go.ChangeAt Go.RowKit Go.Fr
theorem own : ownKnob Tryz.prog.godebug = none := by kernel_rfl
theorem laidOut : laidOutB Tryz.prog = true := by kernel_rfl
set_option maxRecDepth 100000 in
theorem lifted (os : Os) (started : os.Started) (H : Type) (enc : TypeId × Value → H) :
    ReturnsInHanded {} Tryz.checked os 8 .any (Rows.listdecodeUniqueSpec.pre6 enc Tryz.prog Tryz.f8 Rows.listdecodeUniqueRow.domain false) (Rows.listdecodeUniqueSpec.post enc Tryz.prog Tryz.f8 false true false false) := by
  refine returnsInHanded_of_change_sized (C := Tryz.checked) own started (by kernel_rfl) Tryz.func8
    (ChangeSpec.witness6 (enc := enc) (C := Tryz.checked) false ⟨#[], #[.agg #[.int .i64 0, .int .i64 0, .slice none 0 0, .int .i64 0, .slice none 0 0, .slice none 0 0, .slice none 0 0, .int .i64 0]], []⟩ 8 (by kernel_rfl) (by kernel_rfl) (by kernel_rfl) (by kernel_rfl)) ?_
  intro W base args ds gs before hval0 hW _ hsz0 _
  have hval : ∀ (j : Nat) t v, Tryz.f8.params[j]? = some t → args[j]? = some v → Value.okWide Tryz.prog W .any base t v := hval0
  have hW' := hW
  obtain ⟨p, q, hA0, hV, rfl, hfz, hnd⟩ := hW
  have hA : DataW.TrodAll enc Tryz.prog W 0 (fun _ => true) true Tryz.f8.params.toList args.toList ds p := hA0
  have hsz : (DataW.weightsEach Tryz.prog (Tryz.f8.params.toList ++ Rows.listdecodeUniqueSpec.plain.varTypes Tryz.prog) (ds ++ gs)).all (· ≤ reachBytes) = true := hsz0
  rw [Tryz.params8] at hA hval hsz
  obtain ⟨v0, vs0, d0, ds0, p0, q0, hargs, rfl, rfl, h0, r0⟩ := trodAll_cons hA
  obtain ⟨rfl, rfl, rfl⟩ := trodAll_nil r0
  obtain rfl : args = #[v0] := by cases args; simp_all
  obtain ⟨rfl, rfl⟩ := trodVars_none hV
  have k0 := h0
  have lt0 : ∀ x ∈ p0, x.block < W.heap.size := by obtain ⟨m, hm⟩ := k0; exact DataW.trod_lt m _ _ _ hm
  have w0 : WOK Tryz.prog 28 d0 := wok_arg hsz (j := 0) rfl rfl
  obtain ⟨x0, s0⟩ := op_case (hval 0 28 v0 rfl rfl) h0 w0
  refine (law_ListdecodeUnique (w := W) v0 x0 s0).mono fun e W' he => ?_
  cases e with
  | panicked c => exact he.elim
  | outgrown => exact he.elim
  | returned v =>
    obtain ⟨bel, rfl⟩ := he
    exact ⟨_, rfl, _, _, _, [], _, [], hW', trodAll_mk1 (shut_bool Tryz.underlying4 _), (trodAll_cons_mk (Below.trod laidOut (by kernel_rfl) (of_decide_eq_true (by kernel_rfl)) k0 bel lt0) trodAll_mk0), rfl, bel.frame _, fun h => by cases h⟩
theorem over : Rows.listdecodeUniqueRow.holds Tryz.pinned (OpenSpec.ofChange Rows.listdecodeUniqueSpec) :=
  OpenClaim.holds_of_wide 8 Tryz.f8 rfl rfl rfl rfl rfl rfl rfl ⟨rfl, rfl, rfl, rfl, rfl⟩ rfl rfl rfl rfl rfl (by kernel_rfl) Tryz.func8 (by kernel_rfl)
    (of_decide_eq_true (by kernel_rfl)) (by unfold Func.isWrapper; first | (rw [if_pos (by decide +kernel)]; kernel_rfl) | (rw [if_neg (by decide +kernel)]; exact ⟨rfl, rfl⟩))
    (fun os started H enc _ => lifted os started H enc)
end FListdecodeUnique
theorem listdecodeUnique_holds : Rows.ListdecodeUniqueSaid := FListdecodeUnique.over
end Go.Proofs.YtmnojknfjbimdaaGreat

