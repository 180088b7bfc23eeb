/-
  Statement ListdecodeComplete: for every case and every message the law returns true. No condition.
-/
import Derived.Test.YtmnojknfjbimdaaGreatZLaw41p
import Derived.Test.YtmnojknfjbimdaaGreatZListdLaws
namespace Go.Proofs.YtmnojknfjbimdaaGreat
open Go Go.Sx Go.Pl Go.RowKit Go.Fd Go.Alg Go.Ld Go.Fr
set_option maxRecDepth 10000 in
theorem law_ListdecodeComplete {w : World} (v0 : Value) (x : CRec) (s0 : v0 = x.val ∧ COf w x) (u : Value) (z : List Int) (hz : Ints w u z) (_ : ∀ q ∈ z, Go.Fr.Fits q) :
    Calls Tryz.prog 6 #[v0, u] w (RetX w fun v _ => v = .bool true) := by
  obtain ⟨rfl, hco⟩ := s0
  have hci := hco.cints
  clear hco
  refine calls2 Tryz.func6 rfl rfl ?_
  refine wc_seq ?_
  refine wc_region [0,1] rfl ?_
  refine BXA rfl wu rfl rfl ?_
  intro cb w1 hE hB hsb
  refine Go.Sx.V rfl wu rfl rfl (asg rfl) ?_
  refine wr_nil (post_thenN (wc_seq (wc_seq ?_)))
  refine wc_region [0,1] rfl ?_
  refine C rfl wu rfl rfl Tryz.call9 (alive41 _) ?_
  rintro _ w2 hE2 rfl
  replace hE := hE.trans hE2
  replace hB := hB.ext hE2
  refine Go.Sx.V rfl wu rfl rfl (notB rfl) ?_
  refine wr_nil (post_thenN ?_)
  refine wc_condF rfl (by rfl) ?_
  refine wc_skip (post_thenN (wc_seq (wc_seq ?_)))
  have hci2 := hci.ext hE
  by_cases hsm : smB x = true
  · obtain ⟨h12, hm3⟩ := smB_true hsm
    by_cases he : errC x = 0
    · obtain ⟨P, m, D, L, hT, hp⟩ := errC_ok he
      obtain ⟨hok, hPe⟩ := hT.ok
      have hFv := fv_of hok x.s.f.mo
      have hFF : ∀ w', Ext w w' → FV w' P x.s.f.mo x.s.f.md := fun w' h => by rw [hPe]; exact okf_fv41 hok (hci.mo.ext h)
      rw [← hPe] at hFv
      by_cases hel : elE P.q z x.s.k 3 = 0
      · obtain ⟨hzl, hzi⟩ := (elE_ok (by decide)).1 hel
        refine wc_region [0,1,2,3,4,5,6,7,8,9,10,11,12,13,14,15,16,17,18,19,20,21,22,23] rfl ?_
        refine Go.Sx.V rfl wu rfl rfl (ldA rfl ag28 hB) ?_
        refine C rfl wu rfl rfl Tryz.call10 (lSmall41 x _ hci2) ?_
        rintro _ w3 hE3 rfl
        replace hE := hE.trans hE3
        replace hB := hB.ext hE3
        rw [hsm]
        refine Go.Sx.V rfl wu rfl rfl (notB rfl) ?_
        refine Go.Sx.V rfl wu rfl rfl (mv rfl) ?_
        refine KB 15 false rfl (by rfl) ?_
        refine Go.Sx.V rfl (wg rfl rfl) rfl rfl (fad rfl fa28_0) ?_
        refine Go.Sx.V rfl (wg rfl rfl) rfl rfl (ldA rfl ag26 hB) ?_
        refine Go.Sx.V rfl (wg rfl rfl) rfl rfl (fad rfl fa28_1) ?_
        refine Go.Sx.V rfl (wg rfl rfl) rfl rfl (ldB rfl na22 hB) ?_
        refine Go.Sx.V rfl (wg rfl rfl) rfl rfl (fad rfl fa28_2) ?_
        refine Go.Sx.V rfl (wg rfl rfl) rfl rfl (ldB rfl na3 hB) ?_
        refine C rfl (wg rfl rfl) rfl rfl Tryz.call12 (rLdCheck x _ (hci.ext hE)) ?_
        rintro _ w4 hE4 rfl
        replace hE := hE.trans hE4
        replace hB := hB.ext hE4
        rw [he]
        refine Go.Sx.V rfl (wg rfl rfl) rfl rfl (neqI rfl rfl) ?_
        refine Go.Sx.V rfl wu rfl rfl (pk rfl rfl) ?_
        refine Go.Sx.V rfl wu rfl rfl (mv rfl) ?_
        refine KB 25 false rfl (by rfl) ?_
        refine Go.Sx.V rfl (wg rfl rfl) rfl rfl (fad rfl fa28_0) ?_
        refine Go.Sx.V rfl (wg rfl rfl) rfl rfl (fad rfl fa26_0) ?_
        refine Go.Sx.V rfl (wg rfl rfl) rfl rfl (ldA rfl ag24 hB) ?_
        refine Go.Sx.V rfl (wg rfl rfl) rfl rfl (mv rfl) ?_
        refine Go.Sx.V rfl (wg rfl rfl) rfl rfl (fad rfl fa28_0) ?_
        refine Go.Sx.V rfl (wg rfl rfl) rfl rfl (fad rfl fa26_1) ?_
        refine Go.Sx.V rfl (wg rfl rfl) rfl rfl (ldB rfl na3 hB) ?_
        have hcall := rElements P x.s.f.mo x.s.f.md u z x.s.k 3 _ (hFF _ hE) (hz.ext hE)
        rw [hFv] at hcall
        refine C rfl (wg rfl rfl) rfl rfl Tryz.call13 hcall ?_
        clear hcall
        rintro _ w5 hE5 rfl
        replace hE := hE.trans hE5
        replace hB := hB.ext hE5
        rw [hel]
        refine Go.Sx.V rfl (wg rfl rfl) rfl rfl (neqI rfl rfl) ?_
        refine Go.Sx.V rfl wu rfl rfl (pk rfl rfl) ?_
        refine wr_nil (post_thenN ?_)
        refine wc_condF rfl (by rfl) ?_
        refine wc_skip (post_thenN (wc_seq ?_))
        refine wc_region [0,1,2,3,4] rfl ?_
        refine Go.Sx.V rfl wu rfl rfl (fad rfl fa28_0) ?_
        refine Go.Sx.V rfl wu rfl rfl (ldA rfl ag26 hB) ?_
        refine Go.Sx.V rfl wu rfl rfl (mv rfl) ?_
        refine C rfl wu rfl rfl Tryz.call14 (rWord P x.s.f.p x.s.f.M x.s.k x.s.f.mo x.s.pu x.s.mu u x.s.f.md x.s.xs x.s.ms z _ (hFF _ hE) hFv (hci.ext hE).xs (hci.ext hE).ms (hz.ext hE) hT.grs.ml hT.grs.n64) ?_
        intro wv w6 hE6 hwo
        replace hE := hE.trans hE6
        replace hB := hB.ext hE6
        have hwi := OwnI.ints hwo
        refine Go.Sx.V rfl wu rfl rfl (asg rfl) ?_
        refine wr_nil (post_thenN (wc_seq (wc_seq ?_)))
        have hwln := encW_length (P := P) x.s.xs x.s.ms (pz P z)
        have hci6 := hci.ext hE
        have hX := Ext.refl w6
        obtain ⟨cw, hcw⟩ : ∃ cw, cw = encW P x.s.xs x.s.ms (pz P z) := ⟨_, rfl⟩
        rw [← hcw] at hwi hwln
        refine wc_draw mixed [0,1,2,4,5,3,6] (by kernel_rfl) ?_
        intro w7 hd7 _
        replace hE := hE.trans hd7
        replace hX := hX.trans hd7
        replace hB := hB.ext hd7
        refine Go.Sx.V rfl wu rfl rfl (mv rfl) ?_
        refine Go.Sx.V rfl wu rfl rfl (fad rfl fa28_1) ?_
        refine Go.Sx.V rfl wu rfl rfl (ldB rfl na22 hB) ?_
        refine Go.Sx.V rfl wu rfl rfl (fad rfl fa28_2) ?_
        refine Go.Sx.V rfl wu rfl rfl (ldB rfl na3 hB) ?_
        refine C rfl wu rfl rfl Tryz.call15 (rDistance wv x.wu cw x.ws _ (hwi.ext hX) (hci6.ws.ext hX) (by rw [hwln]; exact hT.wl)) ?_
        rintro _ w8 hE8 rfl
        replace hE := hE.trans hE8
        replace hX := hX.trans hE8
        replace hB := hB.ext hE8
        refine Go.Sx.V rfl wu rfl rfl (gtrI rfl rfl) ?_
        refine wr_nil (post_thenN ?_)
        rw [hwln]
        refine wc_cond rfl ?_ ?_
        · intro h2
          refine wc_seq ?_
          refine wc_region [0] rfl ?_
          refine Go.Sx.V rfl wu rfl rfl (asg rfl) ?_
          refine wr_nil (post_thenN (wc_ret (post_thenR ?_)))
          refine post_ret1 rfl rfl ?_
          exact ⟨hE, rfl⟩
        · intro h2
          simp at h2
          refine wc_skip (post_thenN (wc_seq ?_))
          refine wc_region [0,1,2,3,4,5,6,7,8,9,10,11] rfl ?_
          refine Go.Sx.V rfl wu rfl rfl (fad rfl fa28_0) ?_
          refine Go.Sx.V rfl wu rfl rfl (ldA rfl ag26 hB) ?_
          refine Go.Sx.V rfl wu rfl rfl (fad rfl fa28_1) ?_
          refine Go.Sx.V rfl wu rfl rfl (ldB rfl na22 hB) ?_
          refine Go.Sx.V rfl wu rfl rfl (fad rfl fa28_2) ?_
          refine Go.Sx.V rfl wu rfl rfl (ldB rfl na3 hB) ?_
          refine C rfl wu rfl rfl Tryz.call25 (lList x _ (hci.ext hE) h12 hm3) ?_
          rintro lv w9 hE9 hlist
          replace hE := hE.trans hE9
          replace hX := hX.trans hE9
          obtain ⟨P', m', D', L', s, Q, R, hT', hp', rfl, hR, ⟨gv, hG⟩, hN, _, hip⟩ := (hlist.resolve_left fun h => h.1 he).2
          refine Go.Sx.V rfl wu rfl rfl (mv rfl) ?_
          refine Go.Sx.V rfl wu rfl rfl (ext rfl rfl) ?_
          refine Go.Sx.V rfl wu rfl rfl (ext rfl rfl) ?_
          refine Go.Sx.V rfl wu rfl rfl (asg rfl) ?_
          refine Go.Sx.V rfl wu rfl rfl (asg rfl) ?_
          refine wr_nil (post_thenN (wc_seq (wc_seq ?_)))
          clear hlist
          obtain rfl := hT.uniq hT'
          rw [hp] at hp'
          obtain ⟨rfl, rfl, rfl⟩ : m = m' ∧ D = D' ∧ L = L' := by
            have := (Prod.mk.inj hp').1
            simpa using this
          obtain ⟨gg, hgg⟩ := hG.gen
          have hin : cw ∈ R := by
            rw [hcw]
            exact hN.has hG.nzd hgg hT.grs hT.win hT.wl hip.van (hT.deg hip) (yb_pz hzl) (by rw [← hcw]; omega)
          obtain ⟨rows, hs, hrl, hrr⟩ := hR.row
          have hrle := hs.le
          have hX9 := Ext.refl w9
          refine wc_region [0,1,2] rfl ?_
          refine Go.Sx.V rfl wu rfl rfl (mv rfl) ?_
          refine Go.Sx.V rfl wu rfl rfl (lenS rfl ty29 hs) ?_
          refine Go.Sx.V rfl wu rfl rfl (mv rfl) ?_
          refine wr_nil (post_thenN (wc_block ?_))
          rw [hrl]
          refine wc_loop (fun i : Nat => [(5, wv), (7, .int .i64 0), (57, s), (58, .int .i64 R.length), (59, .int .i64 i)])
            (fun i w' => i ≤ R.length ∧ Ext w w' ∧ Ext w6 w' ∧ Ext w9 w' ∧ ∀ j, j < i → R.getD j [] ≠ cw) (fun i => R.length - i) 0 ⟨rfl, rfl, rfl, rfl, rfl, trivial⟩ ⟨by omega, hE, hX, hX9, fun j hj => by omega⟩ ?_
          clear hE hX hX9 hB
          rintro i w10 ⟨i1, hE, hX, hX9, hno⟩
          try dsimp only
          refine wc_seq ?_
          refine wc_region [0] rfl ?_
          refine Go.Sx.V rfl wu rfl rfl (lssI rfl rfl) ?_
          refine wr_nil (post_thenN (wc_seq ?_))
          refine wc_cond rfl ?_ ?_
          · intro hc
            simp at hc
            obtain ⟨r, hr, hri⟩ := hrr i hc
            refine wc_skip (post_thenN (wc_seq (wc_block (wc_seq ?_))))
            refine wc_region [0,1,2] rfl ?_
            refine Go.Sx.V rfl wu rfl rfl (iad rfl rfl ty29 hs (by omega) (by omega)) ?_
            refine Go.Sx.V rfl wu rfl rfl (ldE rfl na22 hs (by rw [Int.toNat_natCast]; exact hr)) ?_
            refine Go.Sx.V rfl wu rfl rfl (asg rfl) ?_
            refine wr_nil (post_thenN (wc_seq ?_))
            refine wc_region [0,1,2] rfl ?_
            refine Go.Sx.V rfl wu rfl rfl (mv rfl) ?_
            refine Go.Sx.V rfl wu rfl rfl (mv rfl) ?_
            refine C rfl wu rfl rfl Tryz.call16 (lSame41 r wv _ _ _ (hri.ext hX9) (hwi.ext hX)) ?_
            rintro _ w11 hE11 rfl
            replace hE := hE.trans hE11
            replace hX := hX.trans hE11
            replace hX9 := hX9.trans hE11
            refine wr_nil (post_thenN ?_)
            refine wc_cond rfl ?_ ?_
            · intro h4
              refine wc_seq ?_
              refine wc_region [0,1,2] rfl ?_
              refine Go.Sx.V rfl wu rfl rfl (mv rfl) ?_
              refine Go.Sx.V rfl wu rfl rfl (eqlI rfl rfl) ?_
              refine Go.Sx.V rfl wu rfl rfl (asg rfl) ?_
              refine wr_nil (post_thenN (wc_ret (post_blockR (post_thenR (post_loopR (post_blockR (post_thenR ?_)))))))
              refine post_ret1 rfl rfl ?_
              exact ⟨hE, rfl⟩
            · intro h4
              replace h4 := of_decide_eq_false h4
              refine wc_skip (post_blockN (post_thenN ?_))
              refine wc_region [0,1] rfl ?_
              refine Go.Sx.V rfl wu rfl rfl (addI rfl rfl) ?_
              refine Go.Sx.V rfl wu rfl rfl (mv rfl) ?_
              refine wr_nil ?_
              exact post_loopN (i + 1) ⟨rfl, rfl, rfl, rfl, rfl, trivial⟩ ⟨by omega, hE, hX, hX9, fun j hj => by
                by_cases e : j = i
                · rw [e]; exact h4
                · exact hno j (by omega)⟩ (by omega)
          · intro hc
            simp at hc
            exfalso
            obtain ⟨j, hj, hje⟩ := List.getElem_of_mem hin
            exact hno j (by omega) (by rw [List.getD_eq_getElem?_getD, List.getElem?_eq_getElem hj]; exact hje)
      · skip
        refine wc_region [0,1,2,3,4,5,6,7,8,9,10,11,12,13,14,15,16,17,18,19,20,21,22,23] rfl ?_
        refine Go.Sx.V rfl wu rfl rfl (ldA rfl ag28 hB) ?_
        refine C rfl wu rfl rfl Tryz.call10 (lSmall41 x _ hci2) ?_
        rintro _ w3 hE3 rfl
        replace hE := hE.trans hE3
        replace hB := hB.ext hE3
        rw [hsm]
        refine Go.Sx.V rfl wu rfl rfl (notB rfl) ?_
        refine Go.Sx.V rfl wu rfl rfl (mv rfl) ?_
        refine KB 15 false rfl (by rfl) ?_
        refine Go.Sx.V rfl (wg rfl rfl) rfl rfl (fad rfl fa28_0) ?_
        refine Go.Sx.V rfl (wg rfl rfl) rfl rfl (ldA rfl ag26 hB) ?_
        refine Go.Sx.V rfl (wg rfl rfl) rfl rfl (fad rfl fa28_1) ?_
        refine Go.Sx.V rfl (wg rfl rfl) rfl rfl (ldB rfl na22 hB) ?_
        refine Go.Sx.V rfl (wg rfl rfl) rfl rfl (fad rfl fa28_2) ?_
        refine Go.Sx.V rfl (wg rfl rfl) rfl rfl (ldB rfl na3 hB) ?_
        refine C rfl (wg rfl rfl) rfl rfl Tryz.call12 (rLdCheck x _ (hci.ext hE)) ?_
        rintro _ w4 hE4 rfl
        replace hE := hE.trans hE4
        replace hB := hB.ext hE4
        rw [he]
        refine Go.Sx.V rfl (wg rfl rfl) rfl rfl (neqI rfl rfl) ?_
        refine Go.Sx.V rfl wu rfl rfl (pk rfl rfl) ?_
        refine Go.Sx.V rfl wu rfl rfl (mv rfl) ?_
        refine KB 25 false rfl (by rfl) ?_
        refine Go.Sx.V rfl (wg rfl rfl) rfl rfl (fad rfl fa28_0) ?_
        refine Go.Sx.V rfl (wg rfl rfl) rfl rfl (fad rfl fa26_0) ?_
        refine Go.Sx.V rfl (wg rfl rfl) rfl rfl (ldA rfl ag24 hB) ?_
        refine Go.Sx.V rfl (wg rfl rfl) rfl rfl (mv rfl) ?_
        refine Go.Sx.V rfl (wg rfl rfl) rfl rfl (fad rfl fa28_0) ?_
        refine Go.Sx.V rfl (wg rfl rfl) rfl rfl (fad rfl fa26_1) ?_
        refine Go.Sx.V rfl (wg rfl rfl) rfl rfl (ldB rfl na3 hB) ?_
        have hcall := rElements P x.s.f.mo x.s.f.md u z x.s.k 3 _ (hFF _ hE) (hz.ext hE)
        rw [hFv] at hcall
        refine C rfl (wg rfl rfl) rfl rfl Tryz.call13 hcall ?_
        clear hcall
        rintro _ w5 hE5 rfl
        replace hE := hE.trans hE5
        refine Go.Sx.V rfl (wg rfl rfl) rfl rfl (neqI rfl rfl) ?_
        refine Go.Sx.V rfl wu rfl rfl (pk rfl rfl) ?_
        refine wr_nil (post_thenN ?_)
        refine wc_condT rfl (by simp [hel]) ?_
        refine wc_seq ?_
        refine wc_region [0] rfl ?_
        refine Go.Sx.V rfl wu rfl rfl (asg rfl) ?_
        refine wr_nil (post_thenN (wc_ret (post_thenR ?_)))
        refine post_ret1 rfl rfl ?_
        exact ⟨hE, rfl⟩
    · skip
      refine wc_region [0,1,2,3,4,5,6,7,8,9,10,11,12,13,14,15,16,17,18,19,20,21,22,23] rfl ?_
      refine Go.Sx.V rfl wu rfl rfl (ldA rfl ag28 hB) ?_
      refine C rfl wu rfl rfl Tryz.call10 (lSmall41 x _ hci2) ?_
      rintro _ w3 hE3 rfl
      replace hE := hE.trans hE3
      replace hB := hB.ext hE3
      rw [hsm]
      refine Go.Sx.V rfl wu rfl rfl (notB rfl) ?_
      refine Go.Sx.V rfl wu rfl rfl (mv rfl) ?_
      refine KB 15 false rfl (by rfl) ?_
      refine Go.Sx.V rfl (wg rfl rfl) rfl rfl (fad rfl fa28_0) ?_
      refine Go.Sx.V rfl (wg rfl rfl) rfl rfl (ldA rfl ag26 hB) ?_
      refine Go.Sx.V rfl (wg rfl rfl) rfl rfl (fad rfl fa28_1) ?_
      refine Go.Sx.V rfl (wg rfl rfl) rfl rfl (ldB rfl na22 hB) ?_
      refine Go.Sx.V rfl (wg rfl rfl) rfl rfl (fad rfl fa28_2) ?_
      refine Go.Sx.V rfl (wg rfl rfl) rfl rfl (ldB rfl na3 hB) ?_
      refine C rfl (wg rfl rfl) rfl rfl Tryz.call12 (rLdCheck x _ (hci.ext hE)) ?_
      rintro _ w4 hE4 rfl
      replace hE := hE.trans hE4
      replace hB := hB.ext hE4
      refine Go.Sx.V rfl (wg rfl rfl) rfl rfl (neqI rfl rfl) ?_
      refine Go.Sx.V rfl wu rfl rfl (pk rfl rfl) ?_
      refine Go.Sx.V rfl wu rfl rfl (mv rfl) ?_
      refine KB 25 true rfl (by simp [he]) ?_
      refine SK rfl rfl rfl rfl rfl ?_
      refine SK rfl rfl rfl rfl rfl ?_
      refine SK rfl rfl rfl rfl rfl ?_
      refine SK rfl rfl rfl rfl rfl ?_
      refine SK rfl rfl rfl rfl rfl ?_
      refine SK rfl rfl rfl rfl rfl ?_
      refine SK rfl rfl rfl rfl rfl ?_
      refine SK rfl rfl rfl rfl rfl ?_
      refine SK rfl rfl rfl rfl rfl ?_
      refine Go.Sx.V rfl wu rfl rfl (pk rfl rfl) ?_
      refine wr_nil (post_thenN ?_)
      refine wc_condT rfl (by rfl) ?_
      refine wc_seq ?_
      refine wc_region [0] rfl ?_
      refine Go.Sx.V rfl wu rfl rfl (asg rfl) ?_
      refine wr_nil (post_thenN (wc_ret (post_thenR ?_)))
      refine post_ret1 rfl rfl ?_
      exact ⟨hE, rfl⟩
  · replace hsm : smB x = false := by simpa using hsm
    refine wc_region [0,1,2,3,4,5,6,7,8,9,10,11,12,13,14,15,16,17,18,19,20,21,22,23] rfl ?_
    refine Go.Sx.V rfl wu rfl rfl (ldA rfl ag28 hB) ?_
    refine C rfl wu rfl rfl Tryz.call10 (lSmall41 x _ hci2) ?_
    rintro _ w3 hE3 rfl
    replace hE := hE.trans hE3
    replace hB := hB.ext hE3
    rw [hsm]
    refine Go.Sx.V rfl wu rfl rfl (notB rfl) ?_
    refine Go.Sx.V rfl wu rfl rfl (mv rfl) ?_
    refine KB 15 true rfl (by rfl) ?_
    refine SK rfl rfl rfl rfl rfl ?_
    refine SK rfl rfl rfl rfl rfl ?_
    refine SK rfl rfl rfl rfl rfl ?_
    refine SK rfl rfl rfl rfl rfl ?_
    refine SK rfl rfl rfl rfl rfl ?_
    refine SK rfl rfl rfl rfl rfl ?_
    refine SK rfl rfl rfl rfl rfl ?_
    refine SK rfl rfl rfl rfl rfl ?_
    refine Go.Sx.V rfl wu rfl rfl (pk rfl rfl) ?_
    refine Go.Sx.V rfl wu rfl rfl (mv rfl) ?_
    refine KB 25 true rfl (by rfl) ?_
    refine SK rfl rfl rfl rfl rfl ?_
    refine SK rfl rfl rfl rfl rfl ?_
    refine SK rfl rfl rfl rfl rfl ?_
    refine SK rfl rfl rfl rfl rfl ?_
    refine SK rfl rfl rfl rfl rfl ?_
    refine SK rfl rfl rfl rfl rfl ?_
    refine SK rfl rfl rfl rfl rfl ?_
    refine SK rfl rfl rfl rfl rfl ?_
    refine SK rfl rfl rfl rfl rfl ?_
    refine Go.Sx.V rfl wu rfl rfl (pk rfl rfl) ?_
    refine wr_nil (post_thenN ?_)
    refine wc_condT rfl (by rfl) ?_
    refine wc_seq ?_
    refine wc_region [0] rfl ?_
    refine Go.Sx.V rfl wu rfl rfl (asg rfl) ?_
    refine wr_nil (post_thenN (wc_ret (post_thenR ?_)))
    refine post_ret1 rfl rfl ?_
    exact ⟨hE, rfl⟩
namespace FListdecodeComplete
open Go.ChangeShapes Go.WideShapes Go.ChangeAt Go.RowKit Go.Fr
theorem own : ownKnob Tryz.prog.godebug = none := by kernel_rfl
theorem laidOut : laidOutB Tryz.prog = true := by kernel_rfl
set_option maxRecDepth 100000 in
theorem lifted (os : Os) (started : os.Started) (H : Type) (enc : TypeId × Value → H) :
    ReturnsInHanded {} Tryz.checked os 6 .any (Rows.listdecodeCompleteSpec.pre6 enc Tryz.prog Tryz.f6 Rows.listdecodeCompleteRow.domain false) (Rows.listdecodeCompleteSpec.post enc Tryz.prog Tryz.f6 false true false false) := by
  refine returnsInHanded_of_change_sized (C := Tryz.checked) own started (by kernel_rfl) Tryz.func6
    (ChangeSpec.witness6 (enc := enc) (C := Tryz.checked) false ⟨#[], #[.agg #[.int .i64 0, .int .i64 0, .slice none 0 0, .int .i64 0, .slice none 0 0, .slice none 0 0, .slice none 0 0, .int .i64 0], .slice none 0 0], []⟩ 8 (by kernel_rfl) (by kernel_rfl) (by kernel_rfl) (by kernel_rfl)) ?_
  intro W base args ds gs before hval0 hW _ hsz0 _
  have hval : ∀ (j : Nat) t v, Tryz.f6.params[j]? = some t → args[j]? = some v → Value.okWide Tryz.prog W .any base t v := hval0
  have hW' := hW
  obtain ⟨p, q, hA0, hV, rfl, hfz, hnd⟩ := hW
  have hA : DataW.TrodAll enc Tryz.prog W 0 (fun _ => true) true Tryz.f6.params.toList args.toList ds p := hA0
  have hsz : (DataW.weightsEach Tryz.prog (Tryz.f6.params.toList ++ Rows.listdecodeCompleteSpec.plain.varTypes Tryz.prog) (ds ++ gs)).all (· ≤ reachBytes) = true := hsz0
  rw [Tryz.params6] at hA hval hsz
  obtain ⟨v0, vs0, d0, ds0, p0, q0, hargs, rfl, rfl, h0, r0⟩ := trodAll_cons hA
  obtain ⟨v1, vs1, d1, ds1, p1, q1, rfl, rfl, rfl, h1, r1⟩ := trodAll_cons r0
  obtain ⟨rfl, rfl, rfl⟩ := trodAll_nil r1
  obtain rfl : args = #[v0, v1] := by cases args; simp_all
  obtain ⟨rfl, rfl⟩ := trodVars_none hV
  have k0 := h0
  have lt0 : ∀ x ∈ p0, x.block < W.heap.size := by obtain ⟨m, hm⟩ := k0; exact DataW.trod_lt m _ _ _ hm
  have w0 : WOK Tryz.prog 28 d0 := wok_arg hsz (j := 0) rfl rfl
  obtain ⟨x0, s0⟩ := op_case (hval 0 28 v0 rfl rfl) h0 w0
  have k1 := h1
  have lt1 : ∀ x ∈ p1, x.block < W.heap.size := by obtain ⟨m, hm⟩ := k1; exact DataW.trod_lt m _ _ _ hm
  have w1 : WOK Tryz.prog 22 d1 := wok_arg hsz (j := 1) rfl rfl
  obtain ⟨z1, s1, b1⟩ := op_ints Tryz.underlying22 Tryz.underlying3 (by kernel_rfl) (by kernel_rfl) (hval 1 22 v1 rfl rfl) h1 w1
  refine (law_ListdecodeComplete (w := W) v0 x0 s0 v1 z1 s1 b1).mono fun e W' he => ?_
  cases e with
  | panicked c => exact he.elim
  | outgrown => exact he.elim
  | returned v =>
    obtain ⟨bel, rfl⟩ := he
    exact ⟨_, rfl, _, _, _, [], _, [], hW', trodAll_mk1 (shut_bool Tryz.underlying4 _), (trodAll_cons_mk (Below.trod laidOut (by kernel_rfl) (of_decide_eq_true (by kernel_rfl)) k0 bel lt0) (trodAll_cons_mk (Below.trod laidOut (by kernel_rfl) (of_decide_eq_true (by kernel_rfl)) k1 bel lt1) trodAll_mk0)), rfl, bel.frame _, fun h => by cases h⟩
theorem over : Rows.listdecodeCompleteRow.holds Tryz.pinned (OpenSpec.ofChange Rows.listdecodeCompleteSpec) :=
  OpenClaim.holds_of_wide 6 Tryz.f6 rfl rfl rfl rfl rfl rfl rfl ⟨rfl, rfl, rfl, rfl, rfl⟩ rfl rfl rfl rfl rfl (by kernel_rfl) Tryz.func6 (by kernel_rfl)
    (of_decide_eq_true (by kernel_rfl)) (by unfold Func.isWrapper; first | (rw [if_pos (by decide +kernel)]; kernel_rfl) | (rw [if_neg (by decide +kernel)]; exact ⟨rfl, rfl⟩))
    (fun os started H enc _ => lifted os started H enc)
end FListdecodeComplete
/-- The statement. -/
theorem listdecodeComplete_holds : Rows.ListdecodeCompleteSaid := FListdecodeComplete.over
end Go.Proofs.YtmnojknfjbimdaaGreat

