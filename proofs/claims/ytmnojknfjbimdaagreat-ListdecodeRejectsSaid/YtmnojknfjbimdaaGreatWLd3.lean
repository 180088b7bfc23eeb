/-
  The package listdecode, by contract, part 3: proves, Interpolation, List, Check.
-/
import Derived.Test.YtmnojknfjbimdaaGreatWLd2
import Derived.Test.YtmnojknfjbimdaaGreatWRHas
namespace Go.Fd
open Go.Pl Go.Alg
variable {P : FP}
theorem mulIs_ge {x y : K P} {Q : Pol (Pol (K P))} {v : Int} (h : MulIs x y Q v) (hQ : Q ≠ 0) {m : Nat} : (m : Int) ≤ v ↔ Van x y Q m := by
  rcases h with ⟨h, _⟩ | ⟨n, hn, rfl⟩
  · exact absurd h hQ
  obtain ⟨h1, a, b, hab, hne⟩ := mult_iff.1 hn
  constructor
  · intro hm a' b' hab'
    exact h1 a' b' (by omega)
  · intro hv
    apply Classical.byContradiction
    intro hc
    exact hne (hv a b (by omega))
end Go.Fd
namespace Go.Proofs.YtmnojknfjbimdaaGreat
open Go Go.Sx Go.Pl Go.RowKit Go.Fd Go.Alg Go.Ld
theorem vanP_van {P : FP} {x y : Go.Fd.K P} {Q : Pol (Pol (Go.Fd.K P))} {m : Nat} : VanP x y Q m ↔ Van x y Q m := Iff.rfl
structure PrvOk (P : FP) (x : CRec) (m : Int) (A : List (List Int)) : Prop where
  ne : bz P A ≠ 0
  can : A = bcl (bz P A)
  deg : wdg (bz P A) (wt x.s.k) < m * (x.s.xs.length - x.t)
  van : ∀ i, i < x.s.xs.length → Van (inK P (gi x.s.xs i)) (inK P (gi (vals P x.ws x.s.ms) i)) (bz P A) m.toNat
set_option maxRecDepth 10000 in
theorem lProves (P : FP) (x : CRec) (m D L : Int) (kv pv : Value) (A : List (List Int)) (na : Nat) (w : World) (hT : TkP P x m D L) (hV : TkV w P x m D L kv) (hA : LL w pv A) (hrb : RB na A) (hna : na ≤ 262144) (hal : A.length ≤ 512) :
    Calls Tryz.prog 31 #[kv, pv] w (RetX w fun r _ => ∃ t, r = .bool t ∧ (t = true ↔ PrvOk P x m A)) := by
  have hV0 := hV
  obtain ⟨⟨kb, g, vu, rfl, hB, hG, hvi⟩, hI⟩ := hV
  have hk := hT.pok.hk
  have hn := hT.pok.hn
  have ht := hT.pok.ht
  have hm := hT.pok.hm
  have hwl := hT.wl
  have hvl := vals_length (P := P) x.ws x.s.ms
  have hwt : 0 ≤ wt x.s.k ∧ wt x.s.k ≤ 256 := by unfold wt; omega
  obtain ⟨rows, hs, hrl, hrr⟩ := hA.row
  have hE := Ext.refl w
  dsimp only [tkCells] at hB
  refine calls2 Tryz.func31 rfl rfl ?_
  refine wc_seq ?_
  refine wc_region [0] rfl ?_
  refine Go.Sx.V rfl wu rfl rfl (asg rfl) ?_
  refine wr_nil (post_thenN (wc_seq (wc_seq ?_)))
  by_cases hemp : A.length = 0
  · have hz : bz P ([] : List (List Int)) = 0 := bcl_nil.1 (List.eq_nil_of_length_eq_zero (Nat.le_zero.1 (bcl_bz_len (P := P) [])))
    have hno : ¬ PrvOk P x m A := fun h => h.ne (by rw [List.eq_nil_of_length_eq_zero hemp]; exact hz)
    refine wc_region [0,1,2,3,4,5,6,7,8,9,10,11,12,13] rfl ?_
    refine Go.Sx.V rfl wu rfl rfl (mv rfl) ?_
    refine Go.Sx.V rfl wu rfl rfl (lenS rfl ty30 hs) ?_
    refine Go.Sx.V rfl wu rfl rfl (eqlI rfl rfl) ?_
    refine Go.Sx.V rfl wu rfl rfl (mv rfl) ?_
    refine KB 12 true rfl (by rw [hrl]; simp; exact List.eq_nil_of_length_eq_zero hemp) ?_
    refine SK rfl rfl rfl rfl rfl ?_
    refine SK rfl rfl rfl rfl rfl ?_
    refine SK rfl rfl rfl rfl rfl ?_
    refine SK rfl rfl rfl rfl rfl ?_
    refine SK rfl rfl rfl rfl rfl ?_
    refine SK rfl rfl rfl rfl rfl ?_
    refine SK rfl rfl rfl rfl rfl ?_
    refine SK rfl rfl rfl rfl rfl ?_
    refine SK rfl rfl rfl rfl rfl ?_
    refine Go.Sx.V rfl wu rfl rfl (pk rfl rfl) ?_
    refine wr_nil (post_thenN ?_)
    refine wc_condT rfl (by rfl) ?_
    refine wc_seq ?_
    refine wc_region [0] rfl ?_
    refine Go.Sx.V rfl wu rfl rfl (asg rfl) ?_
    refine wr_nil (post_thenN (wc_ret (post_thenR ?_)))
    refine post_ret1 rfl rfl ?_
    exact ⟨hE, false, rfl, ⟨fun h => by (cases h), fun h => absurd h hno⟩⟩
  · skip
    refine wc_region [0,1,2,3,4,5,6,7,8,9,10,11,12,13] rfl ?_
    refine Go.Sx.V rfl wu rfl rfl (mv rfl) ?_
    refine Go.Sx.V rfl wu rfl rfl (lenS rfl ty30 hs) ?_
    refine Go.Sx.V rfl wu rfl rfl (eqlI rfl rfl) ?_
    refine Go.Sx.V rfl wu rfl rfl (mv rfl) ?_
    refine KB 12 false rfl (by rw [hrl]; simp; exact fun e => hemp (by rw [e]; rfl)) ?_
    refine Go.Sx.V rfl (wg rfl rfl) rfl rfl (mv rfl) ?_
    refine Go.Sx.V rfl (wg rfl rfl) rfl rfl (mv rfl) ?_
    refine Go.Sx.V rfl (wg rfl rfl) rfl rfl (nchk rfl) ?_
    refine Go.Sx.V rfl (wg rfl rfl) rfl rfl (fad rfl fa98_1) ?_
    refine Go.Sx.V rfl (wg rfl rfl) rfl rfl (ldB rfl naE84 hB) ?_
    refine Go.Sx.V rfl (wg rfl rfl) rfl rfl (mv rfl) ?_
    refine C rfl (wg rfl rfl) rfl rfl Tryz.call58 (bCanon P g pv A _ hG hA (hrb.mono (by omega)) (by omega)) ?_
    intro c w2 hE2 hc
    replace hE := hE.trans hE2
    replace hB := hB.ext hE2
    replace hG := hG.ext hE2
    refine C rfl (wg rfl rfl) rfl rfl Tryz.call57 (sEqualFuncB pv c A _ _ (hA.ext hE) hc.ll) ?_
    rintro _ w3 hE3 rfl
    replace hE := hE.trans hE3
    replace hB := hB.ext hE3
    replace hG := hG.ext hE3
    refine Go.Sx.V rfl (wg rfl rfl) rfl rfl (notB rfl) ?_
    refine Go.Sx.V rfl wu rfl rfl (pk rfl rfl) ?_
    refine wr_nil (post_thenN ?_)
    refine wc_cond rfl ?_ ?_
    · intro h
      simp at h
      refine wc_seq ?_
      refine wc_region [0] rfl ?_
      refine Go.Sx.V rfl wu rfl rfl (asg rfl) ?_
      refine wr_nil (post_thenN (wc_ret (post_thenR ?_)))
      refine post_ret1 rfl rfl ?_
      exact ⟨hE, false, rfl, ⟨fun h => by (cases h), fun h' => absurd h'.can h⟩⟩
    · intro h
      simp at h
      have hne : bz P A ≠ 0 := fun e => hemp (by rw [h, bcl_nil.2 e]; rfl)
      have hAe := hA.ext hE
      refine wc_skip (post_thenN (wc_seq ?_))
      refine wc_draw mixed [0,1,2,3,4,5,6,7,8,9,10,11,12,13,14,15,16] (by kernel_rfl) ?_
      intro w4 hd4 _
      replace hE := hE.trans hd4
      replace hB := hB.ext hd4
      replace hG := hG.ext hd4
      replace hAe := hAe.ext hd4
      refine Go.Sx.V rfl wu rfl rfl (mv rfl) ?_
      refine Go.Sx.V rfl wu rfl rfl (nchk rfl) ?_
      refine Go.Sx.V rfl wu rfl rfl (fad rfl fa98_1) ?_
      refine Go.Sx.V rfl wu rfl rfl (ldB rfl naE84 hB) ?_
      refine Go.Sx.V rfl wu rfl rfl (mv rfl) ?_
      refine Go.Sx.V rfl wu rfl rfl (mv rfl) ?_
      refine Go.Sx.V rfl wu rfl rfl (nchk rfl) ?_
      refine Go.Sx.V rfl wu rfl rfl (fad rfl fa98_0) ?_
      refine Go.Sx.V rfl wu rfl rfl (fad rfl fa26_1) ?_
      refine Go.Sx.V rfl wu rfl rfl (ldB rfl na3 hB) ?_
      refine C rfl wu rfl rfl Tryz.call60 (lWeight x.s.k _ ⟨hk.1, by omega⟩) ?_
      rintro _ w5 hE5 rfl
      replace hE := hE.trans hE5
      replace hB := hB.ext hE5
      replace hG := hG.ext hE5
      refine C rfl wu rfl rfl Tryz.call59 (bDegree P g pv A (wt x.s.k) na _ hG (hA.ext hE) hrb (by omega) (by omega)) ?_
      rintro dv w6 hE6 hdg
      replace hE := hE.trans hE6
      replace hB := hB.ext hE6
      replace hG := hG.ext hE6
      obtain rfl : dv = .tuple #[.int .i64 (wdg (bz P A) (wt x.s.k)), .int .i64 0] := hdg.elim (fun h => absurd hwt h.1) (·.2)
      refine Go.Sx.V rfl wu rfl rfl (mv rfl) ?_
      refine Go.Sx.V rfl wu rfl rfl (ext rfl rfl) ?_
      refine Go.Sx.V rfl wu rfl rfl (ext rfl rfl) ?_
      refine Go.Sx.V rfl wu rfl rfl (asg rfl) ?_
      refine Go.Sx.V rfl wu rfl rfl (asg rfl) ?_
      refine wr_nil (post_thenN (wc_seq (wc_seq ?_)))
      have hws6 := hI.ws.ext hE
      have hmb : 0 ≤ m * ((x.ws.length : Int) - x.t) ∧ m * ((x.ws.length : Int) - x.t) ≤ 16 * 64 := ⟨Int.mul_nonneg (by omega) (by omega), Int.mul_le_mul (by omega) (by omega) (by omega) (by omega)⟩
      refine wc_draw mixed [0,1,2,3,4,5,6,7,8,9,10,11,12,13,14,15,16,17,18,19,20,21] (by kernel_rfl) ?_
      intro w7 hd7 _
      replace hE := hE.trans hd7
      replace hB := hB.ext hd7
      replace hG := hG.ext hd7
      replace hws6 := hws6.ext hd7
      refine Go.Sx.V rfl wu rfl rfl (mv rfl) ?_
      refine Go.Sx.V rfl wu rfl rfl (neqI rfl rfl) ?_
      refine Go.Sx.V rfl wu rfl rfl (mv rfl) ?_
      refine KB 40 false rfl (by simp) ?_
      refine Go.Sx.V rfl (wg rfl rfl) rfl rfl (mv rfl) ?_
      refine Go.Sx.V rfl (wg rfl rfl) rfl rfl (mv rfl) ?_
      refine Go.Sx.V rfl (wg rfl rfl) rfl rfl (nchk rfl) ?_
      refine Go.Sx.V rfl (wg rfl rfl) rfl rfl (fad rfl fa98_5) ?_
      refine Go.Sx.V rfl (wg rfl rfl) rfl rfl (fad rfl fa43_0) ?_
      refine Go.Sx.V rfl (wg rfl rfl) rfl rfl (ldB rfl na3 hB) ?_
      refine Go.Sx.V rfl (wg rfl rfl) rfl rfl (mv rfl) ?_
      refine Go.Sx.V rfl (wg rfl rfl) rfl rfl (nchk rfl) ?_
      refine Go.Sx.V rfl (wg rfl rfl) rfl rfl (fad rfl fa98_2) ?_
      refine Go.Sx.V rfl (wg rfl rfl) rfl rfl (ldB rfl na22 hB) ?_
      refine Go.Sx.V rfl (wg rfl rfl) rfl rfl (lenI rfl ty22 hws6) ?_
      refine Go.Sx.V rfl (wg rfl rfl) rfl rfl (mv rfl) ?_
      refine Go.Sx.V rfl (wg rfl rfl) rfl rfl (nchk rfl) ?_
      refine Go.Sx.V rfl (wg rfl rfl) rfl rfl (fad rfl fa98_4) ?_
      refine Go.Sx.V rfl (wg rfl rfl) rfl rfl (ldB rfl na3 hB) ?_
      refine Go.Sx.V rfl (wg rfl rfl) rfl rfl (subI rfl rfl) ?_
      refine Go.Sx.V rfl (wg rfl rfl) rfl rfl (mulI rfl rfl) ?_
      refine Go.Sx.V rfl (wg rfl rfl) rfl rfl (geqI rfl rfl) ?_
      refine Go.Sx.V rfl wu rfl rfl (pk rfl rfl) ?_
      refine wr_nil (post_thenN ?_)
      refine wc_cond rfl ?_ ?_
      · intro h1
        replace h1 := of_decide_eq_true h1
        refine wc_seq ?_
        refine wc_region [0] rfl ?_
        refine Go.Sx.V rfl wu rfl rfl (asg rfl) ?_
        refine wr_nil (post_thenN (wc_ret (post_thenR ?_)))
        refine post_ret1 rfl rfl ?_
        exact ⟨hE, false, rfl, ⟨fun h => by (cases h), fun h' => by
          have := h'.deg
          rw [← hwl] at this
          omega⟩⟩
      · intro h1
        replace h1 := of_decide_eq_false h1
        have hxs6 := hI.xs.ext hE
        refine wc_skip (post_thenN (wc_seq (wc_seq ?_)))
        refine wc_region [0,1,2,3,4,5,6] rfl ?_
        refine Go.Sx.V rfl wu rfl rfl (mv rfl) ?_
        refine Go.Sx.V rfl wu rfl rfl (nchk rfl) ?_
        refine Go.Sx.V rfl wu rfl rfl (fad rfl fa98_0) ?_
        refine Go.Sx.V rfl wu rfl rfl (fad rfl fa26_2) ?_
        refine Go.Sx.V rfl wu rfl rfl (ldB rfl na22 hB) ?_
        refine Go.Sx.V rfl wu rfl rfl (lenI rfl ty22 hxs6) ?_
        refine Go.Sx.V rfl wu rfl rfl (mv rfl) ?_
        refine wr_nil (post_thenN (wc_block ?_))
        refine wc_loop (fun i : Nat => [(0, .pointer (some ⟨kb, 0, none⟩)), (1, pv), (64, x.s.pu), (65, .int .i64 x.s.xs.length), (66, .int .i64 i)])
          (fun i w' => i ≤ x.s.xs.length ∧ Ext w w' ∧ ∀ j, j < i → Van (inK P (gi x.s.xs j)) (inK P (gi (vals P x.ws x.s.ms) j)) (bz P A) m.toNat) (fun i => x.s.xs.length - i) 0 ⟨rfl, rfl, rfl, rfl, rfl, trivial⟩ ⟨by omega, hE, fun j hj => by omega⟩ ?_
        clear hE hB hG hvi hws6 hxs6 hAe
        rintro i w8 ⟨i1, hE, hvn⟩
        have hV8 := hV0.ext hE
        obtain ⟨⟨kb', g', vu', ekb, hB, hG, hvi⟩, hI8⟩ := hV8
        cases ekb
        dsimp only [tkCells] at hB
        have hxs8 := hI8.xs
        try dsimp only
        refine wc_seq ?_
        refine wc_region [0] rfl ?_
        refine Go.Sx.V rfl wu rfl rfl (lssI rfl rfl) ?_
        refine wr_nil (post_thenN (wc_seq ?_))
        refine wc_cond rfl ?_ ?_
        · intro hc2
          simp at hc2
          refine wc_skip (post_thenN (wc_seq (wc_block (wc_seq ?_))))
          refine wc_region [0,1,2,3,4] rfl ?_
          refine Go.Sx.V rfl wu rfl rfl (mv rfl) ?_
          refine Go.Sx.V rfl wu rfl rfl (iadI rfl rfl ty22) ?_
          refine Go.Sx.V rfl wu rfl rfl (ldI rfl na3) ?_
          refine Go.Sx.V rfl wu rfl rfl (asg rfl) ?_
          refine Go.Sx.V rfl wu rfl rfl (asg rfl) ?_
          refine wr_nil (post_thenN (wc_seq ?_))
          refine wc_draw mixed [0,1,2,3,4,5,6,7,8,9,10,11,12,14,15,16,17,18,13,19] (by kernel_rfl) ?_
          intro w9 hd9 _
          replace hE := hE.trans hd9
          replace hB := hB.ext hd9
          replace hG := hG.ext hd9
          replace hvi := hvi.ext hd9
          refine Go.Sx.V rfl wu rfl rfl (mv rfl) ?_
          refine Go.Sx.V rfl wu rfl rfl (nchk rfl) ?_
          refine Go.Sx.V rfl wu rfl rfl (fad rfl fa98_1) ?_
          refine Go.Sx.V rfl wu rfl rfl (ldB rfl naE84 hB) ?_
          refine Go.Sx.V rfl wu rfl rfl (mv rfl) ?_
          refine Go.Sx.V rfl wu rfl rfl (mv rfl) ?_
          refine Go.Sx.V rfl wu rfl rfl (mv rfl) ?_
          refine Go.Sx.V rfl wu rfl rfl (nchk rfl) ?_
          refine Go.Sx.V rfl wu rfl rfl (fad rfl fa98_3) ?_
          refine Go.Sx.V rfl wu rfl rfl (ldB rfl na22 hB) ?_
          refine Go.Sx.V rfl wu rfl rfl (mv rfl) ?_
          refine Go.Sx.V rfl wu rfl rfl (iadI rfl rfl ty22 hvi (by omega) (by omega)) ?_
          refine Go.Sx.V rfl wu rfl rfl (ldI rfl na3 hvi) ?_
          refine Go.Sx.V rfl wu rfl rfl (mv rfl) ?_
          refine Go.Sx.V rfl wu rfl rfl (nchk rfl) ?_
          refine Go.Sx.V rfl wu rfl rfl (fad rfl fa98_5) ?_
          refine Go.Sx.V rfl wu rfl rfl (fad rfl fa43_0) ?_
          refine Go.Sx.V rfl wu rfl rfl (ldB rfl na3 hB) ?_
          refine C rfl wu rfl rfl Tryz.call61 (bMultiplicity P g' pv A (gi x.s.xs i) (gi (vals P x.ws x.s.ms) i) na _ hG (hA.ext hE) hrb (by omega) (by omega)) ?_
          rintro _ w10 hE10 ⟨mv0, rfl, hmv⟩
          replace hE := hE.trans hE10
          replace hB := hB.ext hE10
          refine Go.Sx.V rfl wu rfl rfl (lssI rfl rfl) ?_
          refine wr_nil (post_thenN ?_)
          have hge := mulIs_ge hmv hne (m := m.toNat)
          refine wc_cond rfl ?_ ?_
          · intro h3
            simp at h3
            refine wc_seq ?_
            refine wc_region [0] rfl ?_
            refine Go.Sx.V rfl wu rfl rfl (asg rfl) ?_
            refine wr_nil (post_thenN (wc_ret (post_blockR (post_thenR (post_loopR (post_blockR (post_thenR ?_)))))))
            refine post_ret1 rfl rfl ?_
            exact ⟨hE, false, rfl, ⟨fun h => by (cases h), fun h' => by
              have := hge.2 (h'.van i hc2)
              omega⟩⟩
          · intro h3
            simp at h3
            refine wc_skip (post_blockN (post_thenN ?_))
            refine wc_region [0,1] rfl ?_
            refine Go.Sx.V rfl wu rfl rfl (addI rfl rfl) ?_
            refine Go.Sx.V rfl wu rfl rfl (mv rfl) ?_
            refine wr_nil ?_
            exact post_loopN (i + 1) ⟨rfl, rfl, rfl, rfl, rfl, trivial⟩ ⟨by omega, hE, fun j hj => by
              by_cases e : j = i
              · rw [e]; exact hge.1 (by omega)
              · exact hvn j (by omega)⟩ (by omega)
        · intro hc2
          simp at hc2
          refine wc_exit (post_thenE (post_loopE (post_blockX (post_thenN (wc_seq ?_)))))
          refine wc_region [0] rfl ?_
          refine Go.Sx.V rfl wu rfl rfl (asg rfl) ?_
          refine wr_nil (post_thenN (wc_ret ?_))
          refine post_ret1 rfl rfl ?_
          exact ⟨hE, true, rfl, ⟨fun _ => ⟨hne, h, by rw [← hwl]; omega, fun j hj => hvn j (by omega)⟩, fun _ => rfl⟩⟩
set_option maxRecDepth 10000 in
theorem lCheck (x : CRec) (pv lv : Value) (A Ls : List (List Int)) (na : Nat) (w : World) (hi : CInts w x) (hA : LL w pv A) (hL : LL w lv Ls) (hrb : RB na A) (hna : na ≤ 262144) (hal : A.length ≤ 13) :
    Calls Tryz.prog 11 #[x.s.val, x.wu, .int .i64 x.t, pv, lv] w (RetX w fun r w' => (errC x ≠ 0 ∧ r = .int .i64 (errC x)) ∨
      (errC x = 0 ∧ ∃ P m D L, TkP P x m D L ∧ par x.s.xs.length x.s.k x.t = ([m, D, L], 0) ∧ (∃ gv, GFV w' P gv) ∧ ((r = .int .i64 0 ∧ PrvOk P x m A ∧ IsNear P x.s.xs x.s.ms x.ws x.s.k x.t (bz P A) Ls) ∨ (r = .int .i64 13 ∧ ¬ (PrvOk P x m A ∧ IsNear P x.s.xs x.s.ms x.ws x.s.k x.t (bz P A) Ls))))) := by
  refine calls5 Tryz.func11 rfl rfl ?_
  refine wc_seq ?_
  refine wc_region [0,1] rfl ?_
  refine BXA rfl wu rfl rfl ?_
  intro sb w1 hE hB hsb
  refine Go.Sx.V rfl wu rfl rfl (asg rfl) ?_
  refine wr_nil (post_thenN (wc_seq ?_))
  have hi1 := hi.ext hE
  refine wc_region [0,1,2,3,4,5,6,7,8] rfl ?_
  refine Go.Sx.V rfl wu rfl rfl (ldA rfl ag26 hB) ?_
  refine Go.Sx.V rfl wu rfl rfl (mv rfl) ?_
  refine Go.Sx.V rfl wu rfl rfl (mv rfl) ?_
  refine C rfl wu rfl rfl Tryz.call30 (lOpen x _ hi1) ?_
  rintro _ w2 hE2 ⟨kv, rfl, hkv⟩
  replace hE := hE.trans hE2
  refine Go.Sx.V rfl wu rfl rfl (mv rfl) ?_
  refine Go.Sx.V rfl wu rfl rfl (ext rfl rfl) ?_
  refine Go.Sx.V rfl wu rfl rfl (ext rfl rfl) ?_
  refine Go.Sx.V rfl wu rfl rfl (asg rfl) ?_
  refine Go.Sx.V rfl wu rfl rfl (asg rfl) ?_
  refine wr_nil (post_thenN (wc_seq (wc_seq ?_)))
  refine wc_region [0,1] rfl ?_
  refine Go.Sx.V rfl wu rfl rfl (mv rfl) ?_
  refine Go.Sx.V rfl wu rfl rfl (neqI rfl rfl) ?_
  refine wr_nil (post_thenN ?_)
  refine wc_cond rfl ?_ ?_
  · intro h
    simp at h
    refine wc_seq ?_
    refine wc_region [0,1] rfl ?_
    refine Go.Sx.V rfl wu rfl rfl (mv rfl) ?_
    refine Go.Sx.V rfl wu rfl rfl (asg rfl) ?_
    refine wr_nil (post_thenN (wc_ret (post_thenR ?_)))
    refine post_ret1 rfl rfl ?_
    exact ⟨hE, .inl ⟨h, rfl⟩⟩
  · intro h
    simp at h
    obtain ⟨P, m, D, L, hT, hp, hV⟩ := hkv h
    have hgv : ∀ w', Ext w2 w' → ∃ gv, GFV w' P gv := fun w' hE' => by
      obtain ⟨⟨b, g, vu, _, _, hG, _⟩, _⟩ := hV.ext hE'
      exact ⟨g, hG⟩
    refine wc_skip (post_thenN (wc_seq (wc_seq ?_)))
    refine wc_region [0,1,2,3] rfl ?_
    refine Go.Sx.V rfl wu rfl rfl (mv rfl) ?_
    refine Go.Sx.V rfl wu rfl rfl (mv rfl) ?_
    refine C rfl wu rfl rfl Tryz.call31 (lProves P x m D L kv pv A na _ hT hV (hA.ext hE) hrb hna (by omega)) ?_
    rintro _ w3 hE3 ⟨t, rfl, ht⟩
    replace hE := hE.trans hE3
    refine Go.Sx.V rfl wu rfl rfl (notB rfl) ?_
    refine wr_nil (post_thenN ?_)
    refine wc_cond rfl ?_ ?_
    · intro h1
      simp at h1
      subst h1
      refine wc_seq ?_
      refine wc_region [0] rfl ?_
      refine Go.Sx.V rfl wu rfl rfl (asg rfl) ?_
      refine wr_nil (post_thenN (wc_ret (post_thenR ?_)))
      refine post_ret1 rfl rfl ?_
      exact ⟨hE, .inr ⟨h, P, m, D, L, hT, hp, hgv _ hE3, .inr ⟨rfl, fun hc => absurd (ht.2 hc.1) (by simp)⟩⟩⟩
    · intro h1
      simp at h1
      subst h1
      have hpr := ht.1 rfl
      refine wc_skip (post_thenN (wc_seq ?_))
      refine wc_region [0,1,2,3,4,5,6,7] rfl ?_
      refine Go.Sx.V rfl wu rfl rfl (mv rfl) ?_
      refine Go.Sx.V rfl wu rfl rfl (mv rfl) ?_
      refine C rfl wu rfl rfl Tryz.call32 (lNear P x m D L kv pv A na _ hT (hV.ext hE3) (hA.ext hE) hrb hna hal) ?_
      rintro nv w4 hE4 hnear
      replace hE := hE.trans hE4
      obtain ⟨s, R, rfl, hR, hN, _⟩ := (hnear.resolve_left fun h => hpr.ne h.1).2
      refine Go.Sx.V rfl wu rfl rfl (mv rfl) ?_
      refine Go.Sx.V rfl wu rfl rfl (ext rfl rfl) ?_
      refine Go.Sx.V rfl wu rfl rfl (ext rfl rfl) ?_
      refine Go.Sx.V rfl wu rfl rfl (asg rfl) ?_
      refine Go.Sx.V rfl wu rfl rfl (asg rfl) ?_
      refine wr_nil (post_thenN (wc_seq (wc_seq ?_)))
      refine wc_region [0,1,2,3,4,5,6,7] rfl ?_
      refine Go.Sx.V rfl wu rfl rfl (mv rfl) ?_
      refine Go.Sx.V rfl wu rfl rfl (neqI rfl rfl) ?_
      refine Go.Sx.V rfl wu rfl rfl (mv rfl) ?_
      refine KB 36 false rfl (by simp) ?_
      refine Go.Sx.V rfl (wg rfl rfl) rfl rfl (mv rfl) ?_
      refine Go.Sx.V rfl (wg rfl rfl) rfl rfl (mv rfl) ?_
      refine C rfl (wg rfl rfl) rfl rfl Tryz.call33 (sEqualFunc s lv R Ls _ hR (hL.ext hE)) ?_
      rintro _ w5 hE5 rfl
      replace hE := hE.trans hE5
      refine Go.Sx.V rfl (wg rfl rfl) rfl rfl (notB rfl) ?_
      refine Go.Sx.V rfl wu rfl rfl (pk rfl rfl) ?_
      refine wr_nil (post_thenN ?_)
      refine wc_cond rfl ?_ ?_
      · intro h2
        simp at h2
        refine wc_seq ?_
        refine wc_region [0] rfl ?_
        refine Go.Sx.V rfl wu rfl rfl (asg rfl) ?_
        refine wr_nil (post_thenN (wc_ret (post_thenR ?_)))
        refine post_ret1 rfl rfl ?_
        exact ⟨hE, .inr ⟨h, P, m, D, L, hT, hp, hgv _ ((hE3.trans hE4).trans hE5), .inr ⟨rfl, fun hc => h2 (hN.uniq hc.2)⟩⟩⟩
      · intro h2
        simp at h2
        subst h2
        refine wc_skip (post_thenN (wc_seq ?_))
        refine wc_region [0] rfl ?_
        refine Go.Sx.V rfl wu rfl rfl (asg rfl) ?_
        refine wr_nil (post_thenN (wc_ret ?_))
        refine post_ret1 rfl rfl ?_
        exact ⟨hE, .inr ⟨h, P, m, D, L, hT, hp, hgv _ ((hE3.trans hE4).trans hE5), .inl ⟨rfl, hpr, hN⟩⟩⟩
end Go.Proofs.YtmnojknfjbimdaaGreat

