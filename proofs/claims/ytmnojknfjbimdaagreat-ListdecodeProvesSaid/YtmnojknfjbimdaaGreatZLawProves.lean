/-
  Statement ListdecodeProves: for every case and every proof the law returns true. No condition.
-/
import Derived.Test.YtmnojknfjbimdaaGreatZLaw41p
import Derived.Test.YtmnojknfjbimdaaGreatZListdLaws
import Derived.Test.YtmnojknfjbimdaaGreatZMTya
namespace Go.Proofs.YtmnojknfjbimdaaGreat
open Go Go.Sx Go.Pl Go.RowKit Go.Fd Go.Alg Go.Ld Go.Fr
theorem rb_step {n i : Nat} {A : List (List Int)} (h : ∀ j, j < i → (A.getD j []).length ≤ n) (hi : (A.getD i []).length ≤ n) : ∀ j, j < i + 1 → (A.getD j []).length ≤ n := fun j hj => by
  by_cases e : j = i
  · rw [e]; exact hi
  · exact h j (by omega)
theorem rb_of {n : Nat} {A : List (List Int)} (h : ∀ j, j < A.length → (A.getD j []).length ≤ n) : RB n A := fun j => by
  by_cases e : j < A.length
  · exact h j e
  · rw [List.getD_eq_getElem?_getD, List.getElem?_eq_none (by omega)]
    exact Nat.zero_le _
theorem PrvOk.degN {P : FP} {x : CRec} {m D L : Int} {A : List (List Int)} (h : PrvOk P x m A) (hT : TkP P x m D L) : wdg (bz P A) (wt x.s.k) < (m.toNat : Int) * (x.s.xs.length - x.t) := by
  have hm := hT.pok.hm
  rw [show ((m.toNat : Nat) : Int) = m by omega]
  exact h.deg
set_option maxRecDepth 10000 in
theorem law_ListdecodeProves {w : World} (v0 : Value) (x : CRec) (s0 : v0 = x.val ∧ COf w x) (v1 : Value) (y : PRec) (s1 : v1 = y.val ∧ POf w y) :
    Calls Tryz.prog 3 #[v0, v1] w (RetX w fun v _ => v = .bool true) := by
  obtain ⟨rfl, hco⟩ := s0
  obtain ⟨rfl, hy⟩ := s1
  have hci := hco.cints
  clear hco
  obtain ⟨rowsA, hsA, hrlA, hrrA⟩ := hy.A.row
  obtain ⟨rowsL, hsL, hrlL, hrrL⟩ := hy.L.row
  refine calls2 Tryz.func3 rfl rfl ?_
  refine wc_seq ?_
  refine wc_region [0,1,2] rfl ?_
  refine BXA rfl wu rfl rfl ?_
  intro cb w1 hE hB hsb
  refine BXA rfl wu rfl rfl ?_
  intro pb w1' hE1 hPB hpb
  replace hE := hE.trans hE1
  replace hB := hB.ext hE1
  refine Go.Sx.V rfl wu rfl rfl (asg rfl) ?_
  refine wr_nil (post_thenN (wc_seq (wc_seq ?_)))
  refine wc_region [0,1] rfl ?_
  refine C rfl wu rfl rfl Tryz.call9 (alive41 _) ?_
  rintro _ w2 hE2 rfl
  replace hE := hE.trans hE2
  replace hB := hB.ext hE2
  replace hPB := hPB.ext hE2
  refine Go.Sx.V rfl wu rfl rfl (notB rfl) ?_
  refine wr_nil (post_thenN ?_)
  refine wc_condF rfl (by rfl) ?_
  refine wc_skip (post_thenN (wc_seq (wc_seq ?_)))
  have hci2 := hci.ext hE
  by_cases hsm : smB x = true
  · obtain ⟨h12, hm3⟩ := smB_true hsm
    by_cases hl : y.A.length ≤ 12 ∧ y.L.length ≤ 20
    · skip
      refine wc_region [0,1,2,3,4,5,6,7,8,9,10,11,12,13,14] rfl ?_
      refine Go.Sx.V rfl wu rfl rfl (ldA rfl ag28 hB) ?_
      refine C rfl wu rfl rfl Tryz.call10 (lSmall41 x _ hci2) ?_
      rintro _ w3 hE3 rfl
      replace hE := hE.trans hE3
      replace hB := hB.ext hE3
      replace hPB := hPB.ext hE3
      rw [hsm]
      refine Go.Sx.V rfl wu rfl rfl (notB rfl) ?_
      refine Go.Sx.V rfl wu rfl rfl (mv rfl) ?_
      refine KB 17 false rfl (by rfl) ?_
      refine Go.Sx.V rfl (wg rfl rfl) rfl rfl (fad rfl fa32_0) ?_
      refine Go.Sx.V rfl (wg rfl rfl) rfl rfl (ldB rfl na30 hPB) ?_
      refine Go.Sx.V rfl (wg rfl rfl) rfl rfl (lenS rfl ty30 hsA) ?_
      refine Go.Sx.V rfl (wg rfl rfl) rfl rfl (gtrI rfl rfl) ?_
      refine Go.Sx.V rfl wu rfl rfl (pk rfl rfl) ?_
      refine Go.Sx.V rfl wu rfl rfl (mv rfl) ?_
      refine KB 23 false rfl (by rw [hrlA]; simp; omega) ?_
      refine Go.Sx.V rfl (wg rfl rfl) rfl rfl (fad rfl fa32_1) ?_
      refine Go.Sx.V rfl (wg rfl rfl) rfl rfl (ldB rfl na29 hPB) ?_
      refine Go.Sx.V rfl (wg rfl rfl) rfl rfl (lenS rfl ty29 hsL) ?_
      refine Go.Sx.V rfl (wg rfl rfl) rfl rfl (gtrI rfl rfl) ?_
      refine Go.Sx.V rfl wu rfl rfl (pk rfl rfl) ?_
      refine wr_nil (post_thenN ?_)
      refine wc_condF rfl (by rw [hrlL]; simp; omega) ?_
      refine wc_skip (post_thenN (wc_seq (wc_seq ?_)))
      refine wc_region [0,1,2,3] rfl ?_
      refine Go.Sx.V rfl wu rfl rfl (fad rfl fa32_0) ?_
      refine Go.Sx.V rfl wu rfl rfl (ldB rfl na30 hPB) ?_
      refine Go.Sx.V rfl wu rfl rfl (lenS rfl ty30 hsA) ?_
      refine Go.Sx.V rfl wu rfl rfl (mv rfl) ?_
      refine wr_nil (post_thenN (wc_block ?_))
      rw [hrlA]
      refine wc_loop (fun i : Nat => [(2, .pointer (some ⟨cb, 0, none⟩)), (3, .pointer (some ⟨pb, 0, none⟩)), (30, y.pu), (31, .int .i64 y.A.length), (32, .int .i64 i)])
        (fun i w' => i ≤ y.A.length ∧ w' = w3 ∧ ∀ j, j < i → (y.A.getD j []).length ≤ 40) (fun i => y.A.length - i) 0 ⟨rfl, rfl, rfl, rfl, rfl, trivial⟩ ⟨by omega, rfl, fun j hj => by omega⟩ ?_
      rintro i w3' ⟨i1, rfl, hrb⟩
      try dsimp only
      refine wc_seq ?_
      refine wc_region [0] rfl ?_
      refine Go.Sx.V rfl wu rfl rfl (lssI rfl rfl) ?_
      refine wr_nil (post_thenN (wc_seq ?_))
      refine wc_cond rfl ?_ ?_
      · intro hc
        simp at hc
        obtain ⟨r, hr, hri⟩ := hrrA i hc
        have hri' := hri.ext hE
        refine wc_skip (post_thenN (wc_seq (wc_block (wc_seq ?_))))
        refine wc_region [0,1,2] rfl ?_
        refine Go.Sx.V rfl wu rfl rfl (iad rfl rfl ty30 hsA (by omega) (by omega)) ?_
        refine Go.Sx.V rfl wu rfl rfl (ldE rfl na22 hsA (by rw [Int.toNat_natCast]; exact hr)) ?_
        refine Go.Sx.V rfl wu rfl rfl (asg rfl) ?_
        refine wr_nil (post_thenN (wc_seq ?_))
        refine wc_region [0,1,2] rfl ?_
        refine Go.Sx.V rfl wu rfl rfl (mv rfl) ?_
        refine Go.Sx.V rfl wu rfl rfl (lenI rfl ty22 hri') ?_
        refine Go.Sx.V rfl wu rfl rfl (gtrI rfl rfl) ?_
        refine wr_nil (post_thenN ?_)
        refine wc_cond rfl ?_ ?_
        · intro h3
          refine wc_seq ?_
          refine wc_region [0] rfl ?_
          refine Go.Sx.V rfl wu rfl rfl (asg rfl) ?_
          refine wr_nil (post_thenN (wc_ret (post_blockR (post_thenR (post_loopR (post_blockR (post_thenR ?_)))))))
          refine post_ret1 rfl rfl ?_
          exact ⟨hE, rfl⟩
        · intro h3
          replace h3 := of_decide_eq_false h3
          refine wc_skip (post_blockN (post_thenN ?_))
          refine wc_region [0,1] rfl ?_
          refine Go.Sx.V rfl wu rfl rfl (addI rfl rfl) ?_
          refine Go.Sx.V rfl wu rfl rfl (mv rfl) ?_
          refine wr_nil ?_
          exact post_loopN (i + 1) ⟨rfl, rfl, rfl, rfl, rfl, trivial⟩ ⟨by omega, rfl, rb_step hrb (by omega)⟩ (by omega)
      · intro hc
        simp at hc
        have hRB : RB 40 y.A := rb_of fun j hj => hrb j (by omega)
        refine wc_exit (post_thenE (post_loopE (post_blockX (post_thenN (wc_seq ?_)))))
        refine wc_region [0,1,2,3,4,5,6,7,8,9,10,11] rfl ?_
        refine Go.Sx.V rfl wu rfl rfl (fad rfl fa28_0) ?_
        refine Go.Sx.V rfl wu rfl rfl (ldA rfl ag26 hB) ?_
        refine Go.Sx.V rfl wu rfl rfl (fad rfl fa28_1) ?_
        refine Go.Sx.V rfl wu rfl rfl (ldB rfl na22 hB) ?_
        refine Go.Sx.V rfl wu rfl rfl (fad rfl fa28_2) ?_
        refine Go.Sx.V rfl wu rfl rfl (ldB rfl na3 hB) ?_
        refine Go.Sx.V rfl wu rfl rfl (fad rfl fa32_0) ?_
        refine Go.Sx.V rfl wu rfl rfl (ldB rfl na30 hPB) ?_
        refine Go.Sx.V rfl wu rfl rfl (fad rfl fa32_1) ?_
        refine Go.Sx.V rfl wu rfl rfl (ldB rfl na29 hPB) ?_
        refine C rfl wu rfl rfl Tryz.call11 (lCheck x y.pu y.lu y.A y.L 40 _ (hci.ext hE) (hy.A.ext hE) (hy.L.ext hE) hRB (by omega) (by omega)) ?_
        rintro rv w7 hE7 hch
        replace hE := hE.trans hE7
        replace hB := hB.ext hE7
        replace hPB := hPB.ext hE7
        refine Go.Sx.V rfl wu rfl rfl (asg rfl) ?_
        refine wr_nil (post_thenN (wc_seq (wc_seq ?_)))
        by_cases he : errC x = 0
        · obtain ⟨P, m, D, L, hT, hp, ⟨gv, hG⟩, hcase⟩ := (hch.resolve_left fun h => h.1 he).2
          clear hch
          refine wc_region [0,1,2,3,4,5,6,7] rfl ?_
          refine Go.Sx.V rfl wu rfl rfl (fad rfl fa28_0) ?_
          refine Go.Sx.V rfl wu rfl rfl (ldA rfl ag26 hB) ?_
          refine Go.Sx.V rfl wu rfl rfl (fad rfl fa28_1) ?_
          refine Go.Sx.V rfl wu rfl rfl (ldB rfl na22 hB) ?_
          refine Go.Sx.V rfl wu rfl rfl (fad rfl fa28_2) ?_
          refine Go.Sx.V rfl wu rfl rfl (ldB rfl na3 hB) ?_
          refine C rfl wu rfl rfl Tryz.call12 (rLdCheck x _ (hci.ext hE)) ?_
          rintro _ w8 hE8 rfl
          replace hE := hE.trans hE8
          replace hB := hB.ext hE8
          replace hPB := hPB.ext hE8
          refine Go.Sx.V rfl wu rfl rfl (asg rfl) ?_
          refine wr_nil (post_thenN (wc_seq ?_))
          rw [he]
          refine wc_region [0,1] rfl ?_
          refine Go.Sx.V rfl wu rfl rfl (mv rfl) ?_
          refine Go.Sx.V rfl wu rfl rfl (neqI rfl rfl) ?_
          refine wr_nil (post_thenN ?_)
          refine wc_condF rfl (by simp) ?_
          refine wc_skip (post_thenN (wc_seq (wc_seq ?_)))
          rcases hcase with ⟨rfl, hprv, hN⟩ | ⟨rfl, _⟩
          · skip
            refine wc_region [0,1] rfl ?_
            refine Go.Sx.V rfl wu rfl rfl (mv rfl) ?_
            refine Go.Sx.V rfl wu rfl rfl (neqI rfl rfl) ?_
            refine wr_nil (post_thenN ?_)
            refine wc_condF rfl (by simp) ?_
            refine wc_skip (post_thenN (wc_seq (wc_seq ?_)))
            obtain ⟨hok, hPe⟩ := hT.ok
            have hFv := fv_of hok x.s.f.mo
            have hFF : ∀ w', Ext w w' → FV w' P x.s.f.mo x.s.f.md := fun w' h => by rw [hPe]; exact okf_fv41 hok (hci.mo.ext h)
            rw [← hPe] at hFv
            refine wc_region [0,1,2,3,4,5,6,7,8,9] rfl ?_
            refine Go.Sx.V rfl wu rfl rfl (fad rfl fa28_0) ?_
            refine Go.Sx.V rfl wu rfl rfl (fad rfl fa26_0) ?_
            refine Go.Sx.V rfl wu rfl rfl (ldA rfl ag24 hB) ?_
            refine Go.Sx.V rfl wu rfl rfl (fad rfl fa32_2) ?_
            refine Go.Sx.V rfl wu rfl rfl (ldB rfl na22 hPB) ?_
            refine Go.Sx.V rfl wu rfl rfl (fad rfl fa28_0) ?_
            refine Go.Sx.V rfl wu rfl rfl (fad rfl fa26_1) ?_
            refine Go.Sx.V rfl wu rfl rfl (ldB rfl na3 hB) ?_
            have hcall := rElements P x.s.f.mo x.s.f.md y.mu y.ms x.s.k 3 _ (hFF _ hE) (hy.ms.ext hE)
            rw [hFv] at hcall
            refine C rfl wu rfl rfl Tryz.call13 hcall ?_
            clear hcall
            rintro _ w9 hE9 rfl
            replace hE := hE.trans hE9
            replace hB := hB.ext hE9
            replace hPB := hPB.ext hE9
            refine Go.Sx.V rfl wu rfl rfl (neqI rfl rfl) ?_
            refine wr_nil (post_thenN ?_)
            refine wc_cond rfl ?_ ?_
            · intro h6
              refine wc_seq ?_
              refine wc_region [0] rfl ?_
              refine Go.Sx.V rfl wu rfl rfl (asg rfl) ?_
              refine wr_nil (post_thenN (wc_ret (post_thenR ?_)))
              refine post_ret1 rfl rfl ?_
              exact ⟨hE, rfl⟩
            · intro h6
              simp at h6
              obtain ⟨hzl, hzi⟩ := (elE_ok (by decide)).1 h6
              refine wc_skip (post_thenN (wc_seq ?_))
              refine wc_region [0,1,2,3,4,5] rfl ?_
              refine Go.Sx.V rfl wu rfl rfl (fad rfl fa28_0) ?_
              refine Go.Sx.V rfl wu rfl rfl (ldA rfl ag26 hB) ?_
              refine Go.Sx.V rfl wu rfl rfl (fad rfl fa32_2) ?_
              refine Go.Sx.V rfl wu rfl rfl (ldB rfl na22 hPB) ?_
              refine C rfl wu rfl rfl Tryz.call14 (rWord P x.s.f.p x.s.f.M x.s.k x.s.f.mo x.s.pu x.s.mu y.mu x.s.f.md x.s.xs x.s.ms y.ms _ (hFF _ hE) hFv (hci.ext hE).xs (hci.ext hE).ms (hy.ms.ext hE) hT.grs.ml hT.grs.n64) ?_
              intro wv w10 hE10 hwo
              replace hE := hE.trans hE10
              replace hB := hB.ext hE10
              replace hPB := hPB.ext hE10
              have hwi := OwnI.ints hwo
              refine Go.Sx.V rfl wu rfl rfl (asg rfl) ?_
              refine wr_nil (post_thenN (wc_seq (wc_seq ?_)))
              have hwln := encW_length (P := P) x.s.xs x.s.ms (pz P y.ms)
              have hci10 := hci.ext hE
              have hX := Ext.refl w10
              obtain ⟨cw, hcw⟩ : ∃ cw, cw = encW P x.s.xs x.s.ms (pz P y.ms) := ⟨_, rfl⟩
              rw [← hcw] at hwi hwln
              refine wc_draw mixed [0,1,2,4,5,3,6] (by kernel_rfl) ?_
              intro w11 hd11 _
              replace hE := hE.trans hd11
              replace hX := hX.trans hd11
              replace hB := hB.ext hd11
              replace hPB := hPB.ext hd11
              refine Go.Sx.V rfl wu rfl rfl (mv rfl) ?_
              refine Go.Sx.V rfl wu rfl rfl (fad rfl fa28_1) ?_
              refine Go.Sx.V rfl wu rfl rfl (ldB rfl na22 hB) ?_
              refine Go.Sx.V rfl wu rfl rfl (fad rfl fa28_2) ?_
              refine Go.Sx.V rfl wu rfl rfl (ldB rfl na3 hB) ?_
              refine C rfl wu rfl rfl Tryz.call15 (rDistance wv x.wu cw x.ws _ (hwi.ext hX) (hci10.ws.ext hX) (by rw [hwln]; exact hT.wl)) ?_
              rintro _ w12 hE12 rfl
              replace hE := hE.trans hE12
              replace hX := hX.trans hE12
              replace hB := hB.ext hE12
              replace hPB := hPB.ext hE12
              refine Go.Sx.V rfl wu rfl rfl (gtrI rfl rfl) ?_
              refine wr_nil (post_thenN ?_)
              rw [hwln]
              refine wc_cond rfl ?_ ?_
              · intro h2
                refine wc_seq ?_
                refine wc_region [0] rfl ?_
                refine Go.Sx.V rfl wu rfl rfl (asg rfl) ?_
                refine wr_nil (post_thenN (wc_ret (post_thenR ?_)))
                refine post_ret1 rfl rfl ?_
                exact ⟨hE, rfl⟩
              · intro h2
                simp at h2
                obtain ⟨gg, hgg⟩ := hG.gen
                have hin : cw ∈ y.L := by
                  rw [hcw]
                  exact hN.has hG.nzd hgg hT.grs hT.win hT.wl hprv.van (hprv.degN hT) (yb_pz hzl) (by rw [← hcw]; omega)
                refine wc_skip (post_thenN (wc_seq (wc_seq ?_)))
                refine wc_region [0,1,2,3] rfl ?_
                refine Go.Sx.V rfl wu rfl rfl (fad rfl fa32_1) ?_
                refine Go.Sx.V rfl wu rfl rfl (ldB rfl na29 hPB) ?_
                refine Go.Sx.V rfl wu rfl rfl (lenS rfl ty29 hsL) ?_
                refine Go.Sx.V rfl wu rfl rfl (mv rfl) ?_
                refine wr_nil (post_thenN (wc_block ?_))
                rw [hrlL]
                refine wc_loop (fun i : Nat => [(9, wv), (90, y.lu), (91, .int .i64 y.L.length), (92, .int .i64 i)])
                  (fun i w' => i ≤ y.L.length ∧ Ext w w' ∧ Ext w10 w' ∧ ∀ j, j < i → y.L.getD j [] ≠ cw) (fun i => y.L.length - i) 0 ⟨rfl, rfl, rfl, rfl, trivial⟩ ⟨by omega, hE, hX, fun j hj => by omega⟩ ?_
                clear hE hX hB hPB
                clear i1 hrb hc
                clear i
                rintro i w13 ⟨i1, hE, hX, hno⟩
                try dsimp only
                refine wc_seq ?_
                refine wc_region [0] rfl ?_
                refine Go.Sx.V rfl wu rfl rfl (lssI rfl rfl) ?_
                refine wr_nil (post_thenN (wc_seq ?_))
                refine wc_cond rfl ?_ ?_
                · intro hc
                  simp at hc
                  obtain ⟨r, hr, hri⟩ := hrrL i hc
                  refine wc_skip (post_thenN (wc_seq (wc_block (wc_seq ?_))))
                  refine wc_region [0,1,2] rfl ?_
                  refine Go.Sx.V rfl wu rfl rfl (iad rfl rfl ty29 hsL (by omega) (by omega)) ?_
                  refine Go.Sx.V rfl wu rfl rfl (ldE rfl na22 hsL (by rw [Int.toNat_natCast]; exact hr)) ?_
                  refine Go.Sx.V rfl wu rfl rfl (asg rfl) ?_
                  refine wr_nil (post_thenN (wc_seq ?_))
                  refine wc_region [0,1,2] rfl ?_
                  refine Go.Sx.V rfl wu rfl rfl (mv rfl) ?_
                  refine Go.Sx.V rfl wu rfl rfl (mv rfl) ?_
                  refine C rfl wu rfl rfl Tryz.call16 (lSame41 r wv _ _ _ (hri.ext hE) (hwi.ext hX)) ?_
                  rintro _ w14 hE14 rfl
                  replace hE := hE.trans hE14
                  replace hX := hX.trans hE14
                  refine wr_nil (post_thenN ?_)
                  refine wc_cond rfl ?_ ?_
                  · intro h4
                    refine wc_seq ?_
                    refine wc_region [0] rfl ?_
                    refine Go.Sx.V rfl wu rfl rfl (asg rfl) ?_
                    refine wr_nil (post_thenN (wc_ret (post_blockR (post_thenR (post_loopR (post_blockR (post_thenR ?_)))))))
                    refine post_ret1 rfl rfl ?_
                    exact ⟨hE, rfl⟩
                  · intro h4
                    replace h4 := of_decide_eq_false h4
                    refine wc_skip (post_blockN (post_thenN ?_))
                    refine wc_region [0,1] rfl ?_
                    refine Go.Sx.V rfl wu rfl rfl (addI rfl rfl) ?_
                    refine Go.Sx.V rfl wu rfl rfl (mv rfl) ?_
                    refine wr_nil ?_
                    exact post_loopN (i + 1) ⟨rfl, rfl, rfl, rfl, trivial⟩ ⟨by omega, hE, hX, fun j hj => by
                      by_cases e : j = i
                      · rw [e]; exact h4
                      · exact hno j (by omega)⟩ (by omega)
                · intro hc
                  simp at hc
                  exfalso
                  obtain ⟨j, hj, hje⟩ := List.getElem_of_mem hin
                  exact hno j (by omega) (by rw [List.getD_eq_getElem?_getD, List.getElem?_eq_getElem hj]; exact hje)
          · skip
            refine wc_region [0,1] rfl ?_
            refine Go.Sx.V rfl wu rfl rfl (mv rfl) ?_
            refine Go.Sx.V rfl wu rfl rfl (neqI rfl rfl) ?_
            refine wr_nil (post_thenN ?_)
            refine wc_condT rfl (by simp) ?_
            refine wc_seq ?_
            refine wc_region [0,1,2] rfl ?_
            refine Go.Sx.V rfl wu rfl rfl (mv rfl) ?_
            refine Go.Sx.V rfl wu rfl rfl (eqlI rfl rfl) ?_
            refine Go.Sx.V rfl wu rfl rfl (asg rfl) ?_
            refine wr_nil (post_thenN (wc_ret (post_thenR ?_)))
            refine post_ret1 rfl rfl ?_
            exact ⟨hE, rfl⟩
        · obtain rfl : rv = .int .i64 (errC x) := (hch.resolve_right fun h => he h.1).2
          clear hch
          refine wc_region [0,1,2,3,4,5,6,7] rfl ?_
          refine Go.Sx.V rfl wu rfl rfl (fad rfl fa28_0) ?_
          refine Go.Sx.V rfl wu rfl rfl (ldA rfl ag26 hB) ?_
          refine Go.Sx.V rfl wu rfl rfl (fad rfl fa28_1) ?_
          refine Go.Sx.V rfl wu rfl rfl (ldB rfl na22 hB) ?_
          refine Go.Sx.V rfl wu rfl rfl (fad rfl fa28_2) ?_
          refine Go.Sx.V rfl wu rfl rfl (ldB rfl na3 hB) ?_
          refine C rfl wu rfl rfl Tryz.call12 (rLdCheck x _ (hci.ext hE)) ?_
          rintro _ w8 hE8 rfl
          replace hE := hE.trans hE8
          refine Go.Sx.V rfl wu rfl rfl (asg rfl) ?_
          refine wr_nil (post_thenN (wc_seq ?_))
          refine wc_region [0,1] rfl ?_
          refine Go.Sx.V rfl wu rfl rfl (mv rfl) ?_
          refine Go.Sx.V rfl wu rfl rfl (neqI rfl rfl) ?_
          refine wr_nil (post_thenN ?_)
          refine wc_condT rfl (by simp [he]) ?_
          refine wc_seq ?_
          refine wc_region [0,1,2,3] rfl ?_
          refine Go.Sx.V rfl wu rfl rfl (mv rfl) ?_
          refine Go.Sx.V rfl wu rfl rfl (mv rfl) ?_
          refine Go.Sx.V rfl wu rfl rfl (eqlI rfl rfl) ?_
          refine Go.Sx.V rfl wu rfl rfl (asg rfl) ?_
          refine wr_nil (post_thenN (wc_ret (post_thenR ?_)))
          refine post_ret1 rfl rfl ?_
          exact ⟨hE, by simp⟩
    · by_cases hla : y.A.length ≤ 12
      · have hll : ¬ y.L.length ≤ 20 := fun h => hl ⟨hla, h⟩
        refine wc_region [0,1,2,3,4,5,6,7,8,9,10,11,12,13,14] rfl ?_
        refine Go.Sx.V rfl wu rfl rfl (ldA rfl ag28 hB) ?_
        refine C rfl wu rfl rfl Tryz.call10 (lSmall41 x _ hci2) ?_
        rintro _ w3 hE3 rfl
        replace hE := hE.trans hE3
        replace hB := hB.ext hE3
        replace hPB := hPB.ext hE3
        rw [hsm]
        refine Go.Sx.V rfl wu rfl rfl (notB rfl) ?_
        refine Go.Sx.V rfl wu rfl rfl (mv rfl) ?_
        refine KB 17 false rfl (by rfl) ?_
        refine Go.Sx.V rfl (wg rfl rfl) rfl rfl (fad rfl fa32_0) ?_
        refine Go.Sx.V rfl (wg rfl rfl) rfl rfl (ldB rfl na30 hPB) ?_
        refine Go.Sx.V rfl (wg rfl rfl) rfl rfl (lenS rfl ty30 hsA) ?_
        refine Go.Sx.V rfl (wg rfl rfl) rfl rfl (gtrI rfl rfl) ?_
        refine Go.Sx.V rfl wu rfl rfl (pk rfl rfl) ?_
        refine Go.Sx.V rfl wu rfl rfl (mv rfl) ?_
        refine KB 23 false rfl (by rw [hrlA]; simp; omega) ?_
        refine Go.Sx.V rfl (wg rfl rfl) rfl rfl (fad rfl fa32_1) ?_
        refine Go.Sx.V rfl (wg rfl rfl) rfl rfl (ldB rfl na29 hPB) ?_
        refine Go.Sx.V rfl (wg rfl rfl) rfl rfl (lenS rfl ty29 hsL) ?_
        refine Go.Sx.V rfl (wg rfl rfl) rfl rfl (gtrI rfl rfl) ?_
        refine Go.Sx.V rfl wu rfl rfl (pk rfl rfl) ?_
        refine wr_nil (post_thenN ?_)
        refine wc_condT rfl (by rw [hrlL]; simp; omega) ?_
        refine wc_seq ?_
        refine wc_region [0] rfl ?_
        refine Go.Sx.V rfl wu rfl rfl (asg rfl) ?_
        refine wr_nil (post_thenN (wc_ret (post_thenR ?_)))
        refine post_ret1 rfl rfl ?_
        exact ⟨hE, rfl⟩
      · skip
        refine wc_region [0,1,2,3,4,5,6,7,8,9,10,11,12,13,14] rfl ?_
        refine Go.Sx.V rfl wu rfl rfl (ldA rfl ag28 hB) ?_
        refine C rfl wu rfl rfl Tryz.call10 (lSmall41 x _ hci2) ?_
        rintro _ w3 hE3 rfl
        replace hE := hE.trans hE3
        replace hB := hB.ext hE3
        replace hPB := hPB.ext hE3
        rw [hsm]
        refine Go.Sx.V rfl wu rfl rfl (notB rfl) ?_
        refine Go.Sx.V rfl wu rfl rfl (mv rfl) ?_
        refine KB 17 false rfl (by rfl) ?_
        refine Go.Sx.V rfl (wg rfl rfl) rfl rfl (fad rfl fa32_0) ?_
        refine Go.Sx.V rfl (wg rfl rfl) rfl rfl (ldB rfl na30 hPB) ?_
        refine Go.Sx.V rfl (wg rfl rfl) rfl rfl (lenS rfl ty30 hsA) ?_
        refine Go.Sx.V rfl (wg rfl rfl) rfl rfl (gtrI rfl rfl) ?_
        refine Go.Sx.V rfl wu rfl rfl (pk rfl rfl) ?_
        refine Go.Sx.V rfl wu rfl rfl (mv rfl) ?_
        refine KB 23 true rfl (by rw [hrlA]; simp; omega) ?_
        refine SK rfl rfl rfl rfl rfl ?_
        refine SK rfl rfl rfl rfl rfl ?_
        refine SK rfl rfl rfl rfl rfl ?_
        refine SK rfl rfl rfl rfl rfl ?_
        refine Go.Sx.V rfl wu rfl rfl (pk rfl rfl) ?_
        refine wr_nil (post_thenN ?_)
        refine wc_condT rfl (by rfl) ?_
        refine wc_seq ?_
        refine wc_region [0] rfl ?_
        refine Go.Sx.V rfl wu rfl rfl (asg rfl) ?_
        refine wr_nil (post_thenN (wc_ret (post_thenR ?_)))
        refine post_ret1 rfl rfl ?_
        exact ⟨hE, rfl⟩
  · replace hsm : smB x = false := by simpa using hsm
    refine wc_region [0,1,2,3,4,5,6,7,8,9,10,11,12,13,14] rfl ?_
    refine Go.Sx.V rfl wu rfl rfl (ldA rfl ag28 hB) ?_
    refine C rfl wu rfl rfl Tryz.call10 (lSmall41 x _ hci2) ?_
    rintro _ w3 hE3 rfl
    replace hE := hE.trans hE3
    replace hB := hB.ext hE3
    rw [hsm]
    refine Go.Sx.V rfl wu rfl rfl (notB rfl) ?_
    refine Go.Sx.V rfl wu rfl rfl (mv rfl) ?_
    refine KB 17 true rfl (by rfl) ?_
    refine SK rfl rfl rfl rfl rfl ?_
    refine SK rfl rfl rfl rfl rfl ?_
    refine SK rfl rfl rfl rfl rfl ?_
    refine SK rfl rfl rfl rfl rfl ?_
    refine Go.Sx.V rfl wu rfl rfl (pk rfl rfl) ?_
    refine Go.Sx.V rfl wu rfl rfl (mv rfl) ?_
    refine KB 23 true rfl (by rfl) ?_
    refine SK rfl rfl rfl rfl rfl ?_
    refine SK rfl rfl rfl rfl rfl ?_
    refine SK rfl rfl rfl rfl rfl ?_
    refine SK rfl rfl rfl rfl rfl ?_
    refine Go.Sx.V rfl wu rfl rfl (pk rfl rfl) ?_
    refine wr_nil (post_thenN ?_)
    refine wc_condT rfl (by rfl) ?_
    refine wc_seq ?_
    refine wc_region [0] rfl ?_
    refine Go.Sx.V rfl wu rfl rfl (asg rfl) ?_
    refine wr_nil (post_thenN (wc_ret (post_thenR ?_)))
    refine post_ret1 rfl rfl ?_
    exact ⟨hE, rfl⟩
namespace FListdecodeProves
open Go.ChangeShapes Go.WideShapes Go.ChangeAt Go.RowKit Go.Fr
theorem own : ownKnob Tryz.prog.godebug = none := by kernel_rfl
theorem laidOut : laidOutB Tryz.prog = true := by kernel_rfl
set_option maxRecDepth 100000 in
theorem lifted (os : Os) (started : os.Started) (H : Type) (enc : TypeId × Value → H) :
    ReturnsInHanded {} Tryz.checked os 3 .any (Rows.listdecodeProvesSpec.pre6 enc Tryz.prog Tryz.f3 Rows.listdecodeProvesRow.domain false) (Rows.listdecodeProvesSpec.post enc Tryz.prog Tryz.f3 false true false false) := by
  refine returnsInHanded_of_change_sized (C := Tryz.checked) own started (by kernel_rfl) Tryz.func3
    (ChangeSpec.witness6 (enc := enc) (C := Tryz.checked) false ⟨#[], #[.agg #[.int .i64 0, .int .i64 0, .slice none 0 0, .int .i64 0, .slice none 0 0, .slice none 0 0, .slice none 0 0, .int .i64 0], .agg #[.slice none 0 0, .slice none 0 0, .slice none 0 0]], []⟩ 8 (by kernel_rfl) (by kernel_rfl) (by kernel_rfl) (by kernel_rfl)) ?_
  intro W base args ds gs before hval0 hW _ hsz0 _
  have hval : ∀ (j : Nat) t v, Tryz.f3.params[j]? = some t → args[j]? = some v → Value.okWide Tryz.prog W .any base t v := hval0
  have hW' := hW
  obtain ⟨p, q, hA0, hV, rfl, hfz, hnd⟩ := hW
  have hA : DataW.TrodAll enc Tryz.prog W 0 (fun _ => true) true Tryz.f3.params.toList args.toList ds p := hA0
  have hsz : (DataW.weightsEach Tryz.prog (Tryz.f3.params.toList ++ Rows.listdecodeProvesSpec.plain.varTypes Tryz.prog) (ds ++ gs)).all (· ≤ reachBytes) = true := hsz0
  rw [Tryz.params3] at hA hval hsz
  obtain ⟨v0, vs0, d0, ds0, p0, q0, hargs, rfl, rfl, h0, r0⟩ := trodAll_cons hA
  obtain ⟨v1, vs1, d1, ds1, p1, q1, rfl, rfl, rfl, h1, r1⟩ := trodAll_cons r0
  obtain ⟨rfl, rfl, rfl⟩ := trodAll_nil r1
  obtain rfl : args = #[v0, v1] := by cases args; simp_all
  obtain ⟨rfl, rfl⟩ := trodVars_none hV
  have k0 := h0
  have lt0 : ∀ x ∈ p0, x.block < W.heap.size := by obtain ⟨m, hm⟩ := k0; exact DataW.trod_lt m _ _ _ hm
  have w0 : WOK Tryz.prog 28 d0 := wok_arg hsz (j := 0) rfl rfl
  obtain ⟨x0, s0⟩ := op_case (hval 0 28 v0 rfl rfl) h0 w0
  have k1 := h1
  have lt1 : ∀ x ∈ p1, x.block < W.heap.size := by obtain ⟨m, hm⟩ := k1; exact DataW.trod_lt m _ _ _ hm
  have w1 : WOK Tryz.prog 32 d1 := wok_arg hsz (j := 1) rfl rfl
  obtain ⟨x1, s1⟩ := op_proof (hval 1 32 v1 rfl rfl) h1 w1
  refine (law_ListdecodeProves (w := W) v0 x0 s0 v1 x1 s1).mono fun e W' he => ?_
  cases e with
  | panicked c => exact he.elim
  | outgrown => exact he.elim
  | returned v =>
    obtain ⟨bel, rfl⟩ := he
    exact ⟨_, rfl, _, _, _, [], _, [], hW', trodAll_mk1 (shut_bool Tryz.underlying4 _), (trodAll_cons_mk (Below.trod laidOut (by kernel_rfl) (of_decide_eq_true (by kernel_rfl)) k0 bel lt0) (trodAll_cons_mk (Below.trod laidOut (by kernel_rfl) (of_decide_eq_true (by kernel_rfl)) k1 bel lt1) trodAll_mk0)), rfl, bel.frame _, fun h => by cases h⟩
theorem over : Rows.listdecodeProvesRow.holds Tryz.pinned (OpenSpec.ofChange Rows.listdecodeProvesSpec) :=
  OpenClaim.holds_of_wide 3 Tryz.f3 rfl rfl rfl rfl rfl rfl rfl ⟨rfl, rfl, rfl, rfl, rfl⟩ rfl rfl rfl rfl rfl (by kernel_rfl) Tryz.func3 (by kernel_rfl)
    (of_decide_eq_true (by kernel_rfl)) (by unfold Func.isWrapper; first | (rw [if_pos (by decide +kernel)]; kernel_rfl) | (rw [if_neg (by decide +kernel)]; exact ⟨rfl, rfl⟩))
    (fun os started H enc _ => lifted os started H enc)
end FListdecodeProves
/-- The statement. -/
theorem listdecodeProves_holds : Rows.ListdecodeProvesSaid := FListdecodeProves.over
end Go.Proofs.YtmnojknfjbimdaaGreat

