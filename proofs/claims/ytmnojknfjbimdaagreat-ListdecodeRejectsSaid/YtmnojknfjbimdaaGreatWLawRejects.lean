/-
  Statement ListdecodeRejects: for every case and every proof the law returns true. No condition.
-/
import Derived.Test.YtmnojknfjbimdaaGreatWLawSound
import Derived.Test.YtmnojknfjbimdaaGreatWMTya
namespace Go.Proofs.YtmnojknfjbimdaaGreat
open Go Go.Sx Go.Pl Go.RowKit Go.Fd Go.Alg Go.Ld Go.Fr
theorem row40 {A : List (List Int)} (h : ∀ j, j < A.length → (A.getD j []).length ≤ 40) : RB 40 A := fun j => by
  by_cases e : j < A.length
  · exact h j e
  · rw [List.getD_eq_getElem?_getD, List.getElem?_eq_none (by omega)]
    exact Nat.zero_le _
theorem row40_step {i : Nat} {A : List (List Int)} (h : ∀ j, j < i → (A.getD j []).length ≤ 40) (hi : (A.getD i []).length ≤ 40) : ∀ j, j < i + 1 → (A.getD j []).length ≤ 40 := fun j hj => by
  by_cases e : j = i
  · rw [e]; exact hi
  · exact h j (by omega)
theorem bz_of_nil {P : FP} {A : List (List Int)} (h : A.length = 0) : bz P A = 0 := by
  obtain rfl := List.eq_nil_of_length_eq_zero h
  exact Pol.ext fun i => co_bz_over (Nat.zero_le i)
theorem small_prod {m a : Int} (hm : 1 ≤ m ∧ m ≤ 16) (ha : -64 ≤ a ∧ a ≤ 64) : -1024 ≤ m * a ∧ m * a ≤ 1024 := by
  constructor
  · have h1 : m * (-64) ≤ m * a := Int.mul_le_mul_of_nonneg_left ha.1 (by omega)
    omega
  · have h1 : m * a ≤ m * 64 := Int.mul_le_mul_of_nonneg_left ha.2 (by omega)
    omega
theorem check13 {P : FP} {x : CRec} {m D L : Int} {A Ls : List (List Int)} {r : Value} {w' : World} (he : errC x = 0) (hT : TkP P x m D L) (hp : par x.s.xs.length x.s.k x.t = ([m, D, L], 0))
    (h : (errC x ≠ 0 ∧ r = .int .i64 (errC x)) ∨ (errC x = 0 ∧ ∃ P m D L, TkP P x m D L ∧ par x.s.xs.length x.s.k x.t = ([m, D, L], 0) ∧ (∃ gv, GFV w' P gv) ∧ ((r = .int .i64 0 ∧ PrvOk P x m A ∧ IsNear P x.s.xs x.s.ms x.ws x.s.k x.t (bz P A) Ls) ∨ (r = .int .i64 13 ∧ ¬ (PrvOk P x m A ∧ IsNear P x.s.xs x.s.ms x.ws x.s.k x.t (bz P A) Ls)))))
    (hno : ¬ (PrvOk P x m A ∧ IsNear P x.s.xs x.s.ms x.ws x.s.k x.t (bz P A) Ls)) : r = .int .i64 13 := by
  obtain ⟨_, P', m', D', L', hT', hp', _, hc⟩ := h.resolve_left fun h => h.1 he
  obtain rfl := hT.uniq hT'
  rw [hp] at hp'
  simp only [Prod.mk.injEq, List.cons.injEq, and_true] at hp'
  obtain ⟨rfl, _, _⟩ := hp'
  rcases hc with ⟨_, h1⟩ | ⟨h1, _⟩
  · exact absurd h1 hno
  · exact h1
set_option maxRecDepth 10000 in
theorem law_ListdecodeRejects {w : World} (v0 : Value) (x : CRec) (s0 : v0 = x.val ∧ COf w x) (v1 : Value) (y : PRec) (s1 : v1 = y.val ∧ POf w y) :
    Calls Tryz.prog 4 #[v0, v1] w (RetX w fun v _ => v = .bool true) := by
  obtain ⟨rfl, hco⟩ := s0
  obtain ⟨rfl, hy⟩ := s1
  have hci := hco.cints
  clear hco
  obtain ⟨rowsA, hsA, hrlA, hrrA⟩ := hy.A.row
  obtain ⟨rowsL, hsL, hrlL, hrrL⟩ := hy.L.row
  have hLle := hsL.le
  refine calls2 Tryz.func4 rfl rfl ?_
  refine wc_seq ?_
  refine wc_region [0,1,2] rfl ?_
  refine BXA rfl wu rfl rfl ?_
  intro cb w1 hE hB hsb
  refine BXA rfl wu rfl rfl ?_
  intro pb w1' hE1 hPB hpb
  replace hE := hE.trans hE1
  replace hB := hB.ext hE1
  refine Go.Sx.V rfl wu rfl rfl (asg rfl) ?_
  refine wr_nil (post_thenN (wc_seq (wc_seq ?_)))
  refine wc_region [0,1] rfl ?_
  refine C rfl wu rfl rfl Tryz.call9 (alive41 _) ?_
  rintro _ w2 hE2 rfl
  replace hE := hE.trans hE2
  replace hB := hB.ext hE2
  replace hPB := hPB.ext hE2
  refine Go.Sx.V rfl wu rfl rfl (notB rfl) ?_
  refine wr_nil (post_thenN ?_)
  refine wc_condF rfl (by rfl) ?_
  refine wc_skip (post_thenN (wc_seq (wc_seq ?_)))
  have hci2 := hci.ext hE
  by_cases hsm : smB x = true
  · obtain ⟨h12, hm3⟩ := smB_true hsm
    by_cases hla : y.A.length ≤ 12
    · by_cases hll : y.L.length ≤ 20
      · skip
        refine wc_region [0,1,2,3,4,5,6,7,8,9,10,11,12,13,14,15,16,17,18,19,20,21,22,23,24] rfl ?_
        refine Go.Sx.V rfl wu rfl rfl (ldA rfl ag28 hB) ?_
        refine C rfl wu rfl rfl Tryz.call10 (lSmall41 x _ hci2) ?_
        rintro _ w3 hE3 rfl
        replace hE := hE.trans hE3
        replace hB := hB.ext hE3
        replace hPB := hPB.ext hE3
        rw [hsm]
        refine Go.Sx.V rfl wu rfl rfl (notB rfl) ?_
        refine Go.Sx.V rfl wu rfl rfl (mv rfl) ?_
        refine KB 17 false rfl (by rfl) ?_
        refine Go.Sx.V rfl (wg rfl rfl) rfl rfl (fad rfl fa32_0) ?_
        refine Go.Sx.V rfl (wg rfl rfl) rfl rfl (ldB rfl na30 hPB) ?_
        refine Go.Sx.V rfl (wg rfl rfl) rfl rfl (lenS rfl ty30 hsA) ?_
        refine Go.Sx.V rfl (wg rfl rfl) rfl rfl (gtrI rfl rfl) ?_
        refine Go.Sx.V rfl wu rfl rfl (pk rfl rfl) ?_
        refine Go.Sx.V rfl wu rfl rfl (mv rfl) ?_
        refine KB 23 false rfl (by rw [hrlA]; simp; omega) ?_
        refine Go.Sx.V rfl (wg rfl rfl) rfl rfl (fad rfl fa32_1) ?_
        refine Go.Sx.V rfl (wg rfl rfl) rfl rfl (ldB rfl na29 hPB) ?_
        refine Go.Sx.V rfl (wg rfl rfl) rfl rfl (lenS rfl ty29 hsL) ?_
        refine Go.Sx.V rfl (wg rfl rfl) rfl rfl (gtrI rfl rfl) ?_
        refine Go.Sx.V rfl wu rfl rfl (pk rfl rfl) ?_
        refine Go.Sx.V rfl wu rfl rfl (mv rfl) ?_
        refine KB 29 false rfl (by rw [hrlL]; simp; omega) ?_
        refine Go.Sx.V rfl (wg rfl rfl) rfl rfl (fad rfl fa28_0) ?_
        refine Go.Sx.V rfl (wg rfl rfl) rfl rfl (ldA rfl ag26 hB) ?_
        refine Go.Sx.V rfl (wg rfl rfl) rfl rfl (fad rfl fa28_1) ?_
        refine Go.Sx.V rfl (wg rfl rfl) rfl rfl (ldB rfl na22 hB) ?_
        refine Go.Sx.V rfl (wg rfl rfl) rfl rfl (fad rfl fa28_2) ?_
        refine Go.Sx.V rfl (wg rfl rfl) rfl rfl (ldB rfl na3 hB) ?_
        refine C rfl (wg rfl rfl) rfl rfl Tryz.call12 (rLdCheck x _ (hci.ext hE)) ?_
        rintro _ w4 hE4 rfl
        replace hE := hE.trans hE4
        replace hB := hB.ext hE4
        replace hPB := hPB.ext hE4
        refine Go.Sx.V rfl (wg rfl rfl) rfl rfl (neqI rfl rfl) ?_
        refine Go.Sx.V rfl wu rfl rfl (pk rfl rfl) ?_
        refine wr_nil (post_thenN ?_)
        refine wc_cond rfl ?_ ?_
        · intro he
          refine wc_seq ?_
          refine wc_region [0] rfl ?_
          refine Go.Sx.V rfl wu rfl rfl (asg rfl) ?_
          refine wr_nil (post_thenN (wc_ret (post_thenR ?_)))
          refine post_ret1 rfl rfl ?_
          exact ⟨hE, rfl⟩
        · intro he
          replace he : errC x = 0 := by simpa using he
          obtain ⟨P, m, D, L, hT, hp⟩ := errC_ok he
          obtain ⟨hok, hPe⟩ := hT.ok
          have hFv := fv_of hok x.s.f.mo
          have hFF : ∀ w', Ext w w' → FV w' P x.s.f.mo x.s.f.md := fun w' h => by rw [hPe]; exact okf_fv41 hok (hci.mo.ext h)
          rw [← hPe] at hFv
          have hokP := okF_fp hok hPe
          have hgen : ∃ g : Go.Fd.K P, HasOrder g (n1 P) := by rw [hPe]; exact hok.gen
          have hpok := hT.pok
          have hmc := hpok.hm
          have hk := hpok.hk
          have ht := hpok.ht
          have hn := hpok.hn
          have hwl := hT.wl
          have hpv : PV (par x.s.xs.length x.s.k x.t) = .tuple #[.agg [Value.int .i64 m, .int .i64 D, .int .i64 L].toArray, .int .i64 0] := by rw [hp]; rfl
          have hwt : 0 ≤ wt x.s.k ∧ wt x.s.k ≤ 256 := by unfold wt; omega
          refine wc_skip (post_thenN (wc_seq (wc_seq ?_)))
          refine wc_region [0,1,2,3] rfl ?_
          refine Go.Sx.V rfl wu rfl rfl (fad rfl fa32_0) ?_
          refine Go.Sx.V rfl wu rfl rfl (ldB rfl na30 hPB) ?_
          refine Go.Sx.V rfl wu rfl rfl (lenS rfl ty30 hsA) ?_
          refine Go.Sx.V rfl wu rfl rfl (mv rfl) ?_
          refine wr_nil (post_thenN (wc_block ?_))
          rw [hrlA]
          refine wc_loop (fun i : Nat => [(2, .pointer (some ⟨cb, 0, none⟩)), (3, .pointer (some ⟨pb, 0, none⟩)), (40, y.pu), (41, .int .i64 y.A.length), (42, .int .i64 i)])
            (fun i w' => i ≤ y.A.length ∧ w' = w4 ∧ ∀ j, j < i → (y.A.getD j []).length ≤ 40) (fun i => y.A.length - i) 0 ⟨rfl, rfl, rfl, rfl, rfl, trivial⟩ ⟨by omega, rfl, fun j hj => by omega⟩ ?_
          rintro i w4' ⟨i1, rfl, hrb⟩
          try dsimp only
          refine wc_seq ?_
          refine wc_region [0] rfl ?_
          refine Go.Sx.V rfl wu rfl rfl (lssI rfl rfl) ?_
          refine wr_nil (post_thenN (wc_seq ?_))
          refine wc_cond rfl ?_ ?_
          · intro hc
            simp at hc
            obtain ⟨r, hr, hri⟩ := hrrA i hc
            have hri' := hri.ext hE
            refine wc_skip (post_thenN (wc_seq (wc_block (wc_seq ?_))))
            refine wc_region [0,1,2] rfl ?_
            refine Go.Sx.V rfl wu rfl rfl (iad rfl rfl ty30 hsA (by omega) (by omega)) ?_
            refine Go.Sx.V rfl wu rfl rfl (ldE rfl na22 hsA (by rw [Int.toNat_natCast]; exact hr)) ?_
            refine Go.Sx.V rfl wu rfl rfl (asg rfl) ?_
            refine wr_nil (post_thenN (wc_seq ?_))
            refine wc_region [0,1,2] rfl ?_
            refine Go.Sx.V rfl wu rfl rfl (mv rfl) ?_
            refine Go.Sx.V rfl wu rfl rfl (lenI rfl ty22 hri') ?_
            refine Go.Sx.V rfl wu rfl rfl (gtrI rfl rfl) ?_
            refine wr_nil (post_thenN ?_)
            refine wc_cond rfl ?_ ?_
            · intro h3
              refine wc_seq ?_
              refine wc_region [0] rfl ?_
              refine Go.Sx.V rfl wu rfl rfl (asg rfl) ?_
              refine wr_nil (post_thenN (wc_ret (post_blockR (post_thenR (post_loopR (post_blockR (post_thenR ?_)))))))
              refine post_ret1 rfl rfl ?_
              exact ⟨hE, rfl⟩
            · intro h3
              replace h3 := of_decide_eq_false h3
              refine wc_skip (post_blockN (post_thenN ?_))
              refine wc_region [0,1] rfl ?_
              refine Go.Sx.V rfl wu rfl rfl (addI rfl rfl) ?_
              refine Go.Sx.V rfl wu rfl rfl (mv rfl) ?_
              refine wr_nil ?_
              exact post_loopN (i + 1) ⟨rfl, rfl, rfl, rfl, rfl, trivial⟩ ⟨by omega, rfl, row40_step hrb (by omega)⟩ (by omega)
          · intro hc
            simp at hc
            have hRB : RB 40 y.A := row40 fun j hj => hrb j (by omega)
            have hxi := hci.xs.ext hE
            refine wc_exit (post_thenE (post_loopE (post_blockX (post_thenN (wc_seq ?_)))))
            refine wc_region [0,1,2,3,4,5,6,7,8,9,10,11,12,13,14,15] rfl ?_
            refine Go.Sx.V rfl wu rfl rfl (fad rfl fa28_0) ?_
            refine Go.Sx.V rfl wu rfl rfl (fad rfl fa26_2) ?_
            refine Go.Sx.V rfl wu rfl rfl (ldB rfl na22 hB) ?_
            refine Go.Sx.V rfl wu rfl rfl (lenI rfl ty22 hxi) ?_
            refine Go.Sx.V rfl wu rfl rfl (fad rfl fa28_0) ?_
            refine Go.Sx.V rfl wu rfl rfl (fad rfl fa26_1) ?_
            refine Go.Sx.V rfl wu rfl rfl (ldB rfl na3 hB) ?_
            refine Go.Sx.V rfl wu rfl rfl (fad rfl fa28_2) ?_
            refine Go.Sx.V rfl wu rfl rfl (ldB rfl na3 hB) ?_
            refine C rfl wu rfl rfl Tryz.call17 (rParams x.s.xs.length x.s.k x.t _) ?_
            rintro _ w7 hE7 rfl
            have hz0 := hE.size
            have hsz7 := hB.lt
            have hsz7' := hPB.lt
            replace hE := hE.trans hE7
            replace hB := hB.ext hE7
            replace hPB := hPB.ext hE7
            rw [hpv]
            refine Go.Sx.V rfl wu rfl rfl (mv rfl) ?_
            refine Go.Sx.V rfl wu rfl rfl (ext rfl rfl) ?_
            refine Go.Sx.V rfl wu rfl rfl (ext rfl rfl) ?_
            refine AL rfl wu rfl zv43 ?_
            intro qb w8 hE8 hQB hqb
            have hsz8 := hE.size
            replace hB := hB.ext hE8
            replace hPB := hPB.ext hE8
            replace hE := hE.trans hE8
            refine STB (vs := [.int .i64 m, .int .i64 D, .int .i64 L]) (cs' := [.int .i64 m, .int .i64 D, .int .i64 L]) rfl wu rfl rfl rfl sv43 (by intro h; cases h) (by assumption) (by first | (simp [Value.oneCell']; done) | (intro v hv; simp only [List.mem_cons, List.not_mem_nil, or_false] at hv; rcases hv with rfl | rfl | rfl | rfl | rfl <;> first | rfl | assumption) | (intro v hv; simp only [List.mem_cons, List.not_mem_nil, or_false] at hv; rcases hv with rfl | rfl | rfl <;> first | rfl | assumption) | (intro v hv; simp only [List.mem_cons, List.not_mem_nil, or_false] at hv; rcases hv with rfl | rfl <;> first | rfl | assumption)) rfl rfl rfl ?_
            intro w9 hg9 hX9 hQB9
            refine Go.Sx.V rfl wu rfl rfl (asg rfl) ?_
            refine wr_nil (post_thenN (wc_seq ?_))
            have hz7 := hE7.size
            replace hB := hB.grown hg9 (by intro hh; cases hh; omega)
            replace hPB := hPB.grown hg9 (by intro hh; cases hh; omega)
            replace hE := hX9 w (by omega) hE
            clear hQB hxi hc i1 hrb hci2
            have hmul := small_prod (m := m) (a := (x.ws.length : Int) - x.t) hmc (by omega)
            obtain ⟨GG, hGG⟩ : ∃ GG : Prop, GG ↔ (PrvOk P x m y.A ∧ IsNear P x.s.xs x.s.ms x.ws x.s.k x.t (bz P y.A) y.L) := ⟨_, Iff.rfl⟩
            have hX := Ext.refl w9
            refine wc_cut (σ := Bool) (fun b => [(2, .pointer (some ⟨cb, 0, none⟩)), (3, .pointer (some ⟨pb, 0, none⟩)), (9, .bool b)]) (fun b w' => Ext w w' ∧ Ext w9 w' ∧ (GG → b = false)) ?_ ?_
            · have hsA' := hsA.ext hE
              by_cases h0 : y.A.length = 0
              · skip
                refine wc_draw mixed [0,1,2,3,4,5,6,7,8,9,10,11,12,13,14,15,16,17,18,19,20,21,22,23,24,27,28,29,30,31,32,33,34,35,25,26,36,37,38,39,40,41,42,43,44,45,46,47,48,49,50] (by kernel_rfl) ?_
                intro w10 hd10 _
                replace hE := hE.trans hd10
                replace hX := hX.trans hd10
                replace hB := hB.ext hd10
                replace hPB := hPB.ext hd10
                replace hsA' := hsA'.ext hd10
                refine Go.Sx.V rfl wu rfl rfl (fad rfl fa32_0) ?_
                refine Go.Sx.V rfl wu rfl rfl (ldB rfl na30 hPB) ?_
                refine Go.Sx.V rfl wu rfl rfl (lenS rfl ty30 hsA') ?_
                refine Go.Sx.V rfl wu rfl rfl (eqlI rfl rfl) ?_
                refine Go.Sx.V rfl wu rfl rfl (mv rfl) ?_
                refine KB 67 true rfl (by rw [hrlA, h0]; rfl) ?_
                refine SK rfl rfl rfl rfl rfl ?_
                refine SK rfl rfl rfl rfl rfl ?_
                refine SK rfl rfl rfl rfl rfl ?_
                refine SK rfl rfl rfl rfl rfl ?_
                refine SK rfl rfl rfl rfl rfl ?_
                refine SK rfl rfl rfl rfl rfl ?_
                refine SK rfl rfl rfl rfl rfl ?_
                refine SK rfl rfl rfl rfl rfl ?_
                refine SK rfl rfl rfl rfl rfl ?_
                refine SK rfl rfl rfl rfl rfl ?_
                refine Go.Sx.V rfl wu rfl rfl (pk rfl rfl) ?_
                refine Go.Sx.V rfl wu rfl rfl (mv rfl) ?_
                refine KB 79 true rfl (by rfl) ?_
                refine SK rfl rfl rfl rfl rfl ?_
                refine SK rfl rfl rfl rfl rfl ?_
                refine SK rfl rfl rfl rfl rfl ?_
                refine SK rfl rfl rfl rfl rfl ?_
                refine SK rfl rfl rfl rfl rfl ?_
                refine SK rfl rfl rfl rfl rfl ?_
                refine SK rfl rfl rfl rfl rfl ?_
                refine SK rfl rfl rfl rfl rfl ?_
                refine SK rfl rfl rfl rfl rfl ?_
                refine SK rfl rfl rfl rfl rfl ?_
                refine SK rfl rfl rfl rfl rfl ?_
                refine SK rfl rfl rfl rfl rfl ?_
                refine SK rfl rfl rfl rfl rfl ?_
                refine SK rfl rfl rfl rfl rfl ?_
                refine SK rfl rfl rfl rfl rfl ?_
                refine SK rfl rfl rfl rfl rfl ?_
                refine SK rfl rfl rfl rfl rfl ?_
                refine SK rfl rfl rfl rfl rfl ?_
                refine SK rfl rfl rfl rfl rfl ?_
                refine SK rfl rfl rfl rfl rfl ?_
                refine Go.Sx.V rfl wu rfl rfl (pk rfl rfl) ?_
                refine Go.Sx.V rfl wu rfl rfl (mv rfl) ?_
                refine KB 101 true rfl (by rfl) ?_
                refine SK rfl rfl rfl rfl rfl ?_
                refine SK rfl rfl rfl rfl rfl ?_
                refine SK rfl rfl rfl rfl rfl ?_
                refine SK rfl rfl rfl rfl rfl ?_
                refine SK rfl rfl rfl rfl rfl ?_
                refine SK rfl rfl rfl rfl rfl ?_
                refine SK rfl rfl rfl rfl rfl ?_
                refine SK rfl rfl rfl rfl rfl ?_
                refine SK rfl rfl rfl rfl rfl ?_
                refine SK rfl rfl rfl rfl rfl ?_
                refine Go.Sx.V rfl wu rfl rfl (pk rfl rfl) ?_
                refine Go.Sx.V rfl wu rfl rfl (asg rfl) ?_
                exact wr_nil (post_cutN true ⟨rfl, rfl, rfl, trivial⟩ ⟨hE, hX, fun hg => absurd (bz_of_nil h0) (hGG.1 hg).1.ne⟩)
              · by_cases hcan : y.A = bcl (bz P y.A)
                · by_cases hdeg : wdg (bz P y.A) (wt x.s.k) < m * ((x.ws.length : Int) - x.t)
                  · have hwi := hci.ws.ext hE
                    refine wc_draw mixed [0,1,2,3,4,5,6,7,8,9,10,11,12,13,14,15,16,17,18,19,20,21,22,23,24,27,28,29,30,31,32,33,34,35,25,26,36,37,38,39,40,41,42,43,44,45,46,47,48,49,50] (by kernel_rfl) ?_
                    intro w10 hd10 _
                    replace hE := hE.trans hd10
                    replace hX := hX.trans hd10
                    replace hB := hB.ext hd10
                    replace hPB := hPB.ext hd10
                    replace hsA' := hsA'.ext hd10
                    replace hQB9 := hQB9.ext hd10
                    replace hwi := hwi.ext hd10
                    refine Go.Sx.V rfl wu rfl rfl (fad rfl fa32_0) ?_
                    refine Go.Sx.V rfl wu rfl rfl (ldB rfl na30 hPB) ?_
                    refine Go.Sx.V rfl wu rfl rfl (lenS rfl ty30 hsA') ?_
                    refine Go.Sx.V rfl wu rfl rfl (eqlI rfl rfl) ?_
                    refine Go.Sx.V rfl wu rfl rfl (mv rfl) ?_
                    refine KB 67 false rfl (by rw [hrlA]; exact decide_eq_false (by omega)) ?_
                    refine Go.Sx.V rfl (wg rfl rfl) rfl rfl (fad rfl fa32_0) ?_
                    refine Go.Sx.V rfl (wg rfl rfl) rfl rfl (ldB rfl na30 hPB) ?_
                    refine Go.Sx.V rfl (wg rfl rfl) rfl rfl (fad rfl fa28_0) ?_
                    refine Go.Sx.V rfl (wg rfl rfl) rfl rfl (fad rfl fa26_0) ?_
                    refine Go.Sx.V rfl (wg rfl rfl) rfl rfl (ldA rfl ag24 hB) ?_
                    refine Go.Sx.V rfl (wg rfl rfl) rfl rfl (fad rfl fa32_0) ?_
                    refine Go.Sx.V rfl (wg rfl rfl) rfl rfl (ldB rfl na30 hPB) ?_
                    have hcall := rBCanon P x.s.f.mo x.s.f.md y.pu y.A _ (hFF _ hE) (hy.A.ext hE) (hRB.mono (by omega)) (by omega)
                    rw [hFv] at hcall
                    refine C rfl (wg rfl rfl) rfl rfl Tryz.call19 hcall ?_
                    clear hcall
                    intro c w11 hE11 hcc
                    replace hE := hE.trans hE11
                    replace hX := hX.trans hE11
                    replace hB := hB.ext hE11
                    replace hPB := hPB.ext hE11
                    replace hQB9 := hQB9.ext hE11
                    replace hwi := hwi.ext hE11
                    refine C rfl (wg rfl rfl) rfl rfl Tryz.call18 (rBSame y.pu c y.A (bcl (bz P y.A)) _ (hy.A.ext hE) hcc.ll) ?_
                    rintro _ w12 hE12 rfl
                    replace hE := hE.trans hE12
                    replace hX := hX.trans hE12
                    replace hB := hB.ext hE12
                    replace hPB := hPB.ext hE12
                    replace hQB9 := hQB9.ext hE12
                    replace hwi := hwi.ext hE12
                    rw [decide_eq_true hcan]
                    refine Go.Sx.V rfl (wg rfl rfl) rfl rfl (notB rfl) ?_
                    refine Go.Sx.V rfl wu rfl rfl (pk rfl rfl) ?_
                    refine Go.Sx.V rfl wu rfl rfl (mv rfl) ?_
                    refine KB 79 false rfl (by rfl) ?_
                    refine Go.Sx.V rfl (wg rfl rfl) rfl rfl (fad rfl fa28_0) ?_
                    refine Go.Sx.V rfl (wg rfl rfl) rfl rfl (fad rfl fa26_0) ?_
                    refine Go.Sx.V rfl (wg rfl rfl) rfl rfl (ldA rfl ag24 hB) ?_
                    refine Go.Sx.V rfl (wg rfl rfl) rfl rfl (fad rfl fa32_0) ?_
                    refine Go.Sx.V rfl (wg rfl rfl) rfl rfl (ldB rfl na30 hPB) ?_
                    refine Go.Sx.V rfl (wg rfl rfl) rfl rfl (fad rfl fa28_0) ?_
                    refine Go.Sx.V rfl (wg rfl rfl) rfl rfl (fad rfl fa26_1) ?_
                    refine Go.Sx.V rfl (wg rfl rfl) rfl rfl (ldB rfl na3 hB) ?_
                    refine Go.Sx.V rfl (wg rfl rfl) rfl rfl (fad rfl fa43_0) ?_
                    refine Go.Sx.V rfl (wg rfl rfl) rfl rfl (ldB rfl na3 hQB9) ?_
                    refine Go.Sx.V rfl (wg rfl rfl) rfl rfl (fad rfl fa28_1) ?_
                    refine Go.Sx.V rfl (wg rfl rfl) rfl rfl (ldB rfl na22 hB) ?_
                    refine Go.Sx.V rfl (wg rfl rfl) rfl rfl (lenI rfl ty22 hwi) ?_
                    refine Go.Sx.V rfl (wg rfl rfl) rfl rfl (fad rfl fa28_2) ?_
                    refine Go.Sx.V rfl (wg rfl rfl) rfl rfl (ldB rfl na3 hB) ?_
                    refine Go.Sx.V rfl (wg rfl rfl) rfl rfl (subI rfl rfl) ?_
                    refine Go.Sx.V rfl (wg rfl rfl) rfl rfl (mulI rfl rfl) ?_
                    refine C rfl (wg rfl rfl) rfl rfl Tryz.call21 (rWeight x.s.k _ ⟨hk.1, by omega⟩) ?_
                    rintro _ w13 hE13 rfl
                    replace hE := hE.trans hE13
                    replace hX := hX.trans hE13
                    replace hB := hB.ext hE13
                    replace hPB := hPB.ext hE13
                    replace hQB9 := hQB9.ext hE13
                    have hcall := rBDegree P x.s.f.mo x.s.f.md y.pu y.A (wt x.s.k) 40 _ (hFF _ hE) (hy.A.ext hE) hwt hRB (by omega) (by omega)
                    rw [hFv] at hcall
                    refine C rfl (wg rfl rfl) rfl rfl Tryz.call20 hcall ?_
                    clear hcall
                    rintro _ w14 hE14 rfl
                    replace hE := hE.trans hE14
                    replace hX := hX.trans hE14
                    replace hB := hB.ext hE14
                    replace hPB := hPB.ext hE14
                    replace hQB9 := hQB9.ext hE14
                    refine Go.Sx.V rfl (wg rfl rfl) rfl rfl (geqI rfl rfl) ?_
                    refine Go.Sx.V rfl wu rfl rfl (pk rfl rfl) ?_
                    refine Go.Sx.V rfl wu rfl rfl (mv rfl) ?_
                    refine KB 101 false rfl (by show (decide _) = false; exact decide_eq_false (by omega)) ?_
                    refine Go.Sx.V rfl (wg rfl rfl) rfl rfl (fad rfl fa28_0) ?_
                    refine Go.Sx.V rfl (wg rfl rfl) rfl rfl (ldA rfl ag26 hB) ?_
                    refine Go.Sx.V rfl (wg rfl rfl) rfl rfl (fad rfl fa28_1) ?_
                    refine Go.Sx.V rfl (wg rfl rfl) rfl rfl (ldB rfl na22 hB) ?_
                    refine Go.Sx.V rfl (wg rfl rfl) rfl rfl (fad rfl fa32_0) ?_
                    refine Go.Sx.V rfl (wg rfl rfl) rfl rfl (ldB rfl na30 hPB) ?_
                    refine Go.Sx.V rfl (wg rfl rfl) rfl rfl (fad rfl fa43_0) ?_
                    refine Go.Sx.V rfl (wg rfl rfl) rfl rfl (ldB rfl na3 hQB9) ?_
                    have em : Value.int .i64 m = Value.int .i64 ((m.toNat : Nat) : Int) := by rw [show ((m.toNat : Nat) : Int) = m by omega]
                    refine C rfl (wg rfl rfl) rfl rfl Tryz.call22 (by have h0 := rThrough P x.s.f.p x.s.f.M x.s.k x.s.f.mo x.s.pu x.s.mu x.wu y.pu x.s.f.md x.s.xs x.s.ms x.ws y.A m.toNat 40 _ (hFF _ hE) hFv hgen hT.grs hT.wl (hci.ext hE).xs (hci.ext hE).ms (hci.ext hE).ws (hy.A.ext hE) hRB (by omega) (by omega) (by omega); rw [← em] at h0; exact h0) ?_
                    rintro _ w15 hE15 ⟨t, rfl, htr⟩
                    replace hE := hE.trans hE15
                    replace hX := hX.trans hE15
                    refine Go.Sx.V rfl (wg rfl rfl) rfl rfl (notB rfl) ?_
                    refine Go.Sx.V rfl wu rfl rfl (pk rfl rfl) ?_
                    refine Go.Sx.V rfl wu rfl rfl (asg rfl) ?_
                    exact wr_nil (post_cutN (!t) ⟨rfl, rfl, rfl, trivial⟩ ⟨hE, hX, fun hg => by rw [htr.2 fun i hi => vanP_van.2 ((hGG.1 hg).1.van i hi)]; rfl⟩)
                  · have hwi := hci.ws.ext hE
                    refine wc_draw mixed [0,1,2,3,4,5,6,7,8,9,10,11,12,13,14,15,16,17,18,19,20,21,22,23,24,27,28,29,30,31,32,33,34,35,25,26,36,37,38,39,40,41,42,43,44,45,46,47,48,49,50] (by kernel_rfl) ?_
                    intro w10 hd10 _
                    replace hE := hE.trans hd10
                    replace hX := hX.trans hd10
                    replace hB := hB.ext hd10
                    replace hPB := hPB.ext hd10
                    replace hsA' := hsA'.ext hd10
                    replace hQB9 := hQB9.ext hd10
                    replace hwi := hwi.ext hd10
                    refine Go.Sx.V rfl wu rfl rfl (fad rfl fa32_0) ?_
                    refine Go.Sx.V rfl wu rfl rfl (ldB rfl na30 hPB) ?_
                    refine Go.Sx.V rfl wu rfl rfl (lenS rfl ty30 hsA') ?_
                    refine Go.Sx.V rfl wu rfl rfl (eqlI rfl rfl) ?_
                    refine Go.Sx.V rfl wu rfl rfl (mv rfl) ?_
                    refine KB 67 false rfl (by rw [hrlA]; exact decide_eq_false (by omega)) ?_
                    refine Go.Sx.V rfl (wg rfl rfl) rfl rfl (fad rfl fa32_0) ?_
                    refine Go.Sx.V rfl (wg rfl rfl) rfl rfl (ldB rfl na30 hPB) ?_
                    refine Go.Sx.V rfl (wg rfl rfl) rfl rfl (fad rfl fa28_0) ?_
                    refine Go.Sx.V rfl (wg rfl rfl) rfl rfl (fad rfl fa26_0) ?_
                    refine Go.Sx.V rfl (wg rfl rfl) rfl rfl (ldA rfl ag24 hB) ?_
                    refine Go.Sx.V rfl (wg rfl rfl) rfl rfl (fad rfl fa32_0) ?_
                    refine Go.Sx.V rfl (wg rfl rfl) rfl rfl (ldB rfl na30 hPB) ?_
                    have hcall := rBCanon P x.s.f.mo x.s.f.md y.pu y.A _ (hFF _ hE) (hy.A.ext hE) (hRB.mono (by omega)) (by omega)
                    rw [hFv] at hcall
                    refine C rfl (wg rfl rfl) rfl rfl Tryz.call19 hcall ?_
                    clear hcall
                    intro c w11 hE11 hcc
                    replace hE := hE.trans hE11
                    replace hX := hX.trans hE11
                    replace hB := hB.ext hE11
                    replace hPB := hPB.ext hE11
                    replace hQB9 := hQB9.ext hE11
                    replace hwi := hwi.ext hE11
                    refine C rfl (wg rfl rfl) rfl rfl Tryz.call18 (rBSame y.pu c y.A (bcl (bz P y.A)) _ (hy.A.ext hE) hcc.ll) ?_
                    rintro _ w12 hE12 rfl
                    replace hE := hE.trans hE12
                    replace hX := hX.trans hE12
                    replace hB := hB.ext hE12
                    replace hPB := hPB.ext hE12
                    replace hQB9 := hQB9.ext hE12
                    replace hwi := hwi.ext hE12
                    rw [decide_eq_true hcan]
                    refine Go.Sx.V rfl (wg rfl rfl) rfl rfl (notB rfl) ?_
                    refine Go.Sx.V rfl wu rfl rfl (pk rfl rfl) ?_
                    refine Go.Sx.V rfl wu rfl rfl (mv rfl) ?_
                    refine KB 79 false rfl (by rfl) ?_
                    refine Go.Sx.V rfl (wg rfl rfl) rfl rfl (fad rfl fa28_0) ?_
                    refine Go.Sx.V rfl (wg rfl rfl) rfl rfl (fad rfl fa26_0) ?_
                    refine Go.Sx.V rfl (wg rfl rfl) rfl rfl (ldA rfl ag24 hB) ?_
                    refine Go.Sx.V rfl (wg rfl rfl) rfl rfl (fad rfl fa32_0) ?_
                    refine Go.Sx.V rfl (wg rfl rfl) rfl rfl (ldB rfl na30 hPB) ?_
                    refine Go.Sx.V rfl (wg rfl rfl) rfl rfl (fad rfl fa28_0) ?_
                    refine Go.Sx.V rfl (wg rfl rfl) rfl rfl (fad rfl fa26_1) ?_
                    refine Go.Sx.V rfl (wg rfl rfl) rfl rfl (ldB rfl na3 hB) ?_
                    refine Go.Sx.V rfl (wg rfl rfl) rfl rfl (fad rfl fa43_0) ?_
                    refine Go.Sx.V rfl (wg rfl rfl) rfl rfl (ldB rfl na3 hQB9) ?_
                    refine Go.Sx.V rfl (wg rfl rfl) rfl rfl (fad rfl fa28_1) ?_
                    refine Go.Sx.V rfl (wg rfl rfl) rfl rfl (ldB rfl na22 hB) ?_
                    refine Go.Sx.V rfl (wg rfl rfl) rfl rfl (lenI rfl ty22 hwi) ?_
                    refine Go.Sx.V rfl (wg rfl rfl) rfl rfl (fad rfl fa28_2) ?_
                    refine Go.Sx.V rfl (wg rfl rfl) rfl rfl (ldB rfl na3 hB) ?_
                    refine Go.Sx.V rfl (wg rfl rfl) rfl rfl (subI rfl rfl) ?_
                    refine Go.Sx.V rfl (wg rfl rfl) rfl rfl (mulI rfl rfl) ?_
                    refine C rfl (wg rfl rfl) rfl rfl Tryz.call21 (rWeight x.s.k _ ⟨hk.1, by omega⟩) ?_
                    rintro _ w13 hE13 rfl
                    replace hE := hE.trans hE13
                    replace hX := hX.trans hE13
                    replace hB := hB.ext hE13
                    replace hPB := hPB.ext hE13
                    replace hQB9 := hQB9.ext hE13
                    have hcall := rBDegree P x.s.f.mo x.s.f.md y.pu y.A (wt x.s.k) 40 _ (hFF _ hE) (hy.A.ext hE) hwt hRB (by omega) (by omega)
                    rw [hFv] at hcall
                    refine C rfl (wg rfl rfl) rfl rfl Tryz.call20 hcall ?_
                    clear hcall
                    rintro _ w14 hE14 rfl
                    replace hE := hE.trans hE14
                    replace hX := hX.trans hE14
                    replace hB := hB.ext hE14
                    replace hPB := hPB.ext hE14
                    replace hQB9 := hQB9.ext hE14
                    refine Go.Sx.V rfl (wg rfl rfl) rfl rfl (geqI rfl rfl) ?_
                    refine Go.Sx.V rfl wu rfl rfl (pk rfl rfl) ?_
                    refine Go.Sx.V rfl wu rfl rfl (mv rfl) ?_
                    refine KB 101 true rfl (by show (decide _) = true; exact decide_eq_true (by omega)) ?_
                    refine SK rfl rfl rfl rfl rfl ?_
                    refine SK rfl rfl rfl rfl rfl ?_
                    refine SK rfl rfl rfl rfl rfl ?_
                    refine SK rfl rfl rfl rfl rfl ?_
                    refine SK rfl rfl rfl rfl rfl ?_
                    refine SK rfl rfl rfl rfl rfl ?_
                    refine SK rfl rfl rfl rfl rfl ?_
                    refine SK rfl rfl rfl rfl rfl ?_
                    refine SK rfl rfl rfl rfl rfl ?_
                    refine SK rfl rfl rfl rfl rfl ?_
                    refine Go.Sx.V rfl wu rfl rfl (pk rfl rfl) ?_
                    refine Go.Sx.V rfl wu rfl rfl (asg rfl) ?_
                    exact wr_nil (post_cutN true ⟨rfl, rfl, rfl, trivial⟩ ⟨hE, hX, fun hg => absurd (by rw [hwl]; exact (hGG.1 hg).1.deg) hdeg⟩)
                · skip
                  refine wc_draw mixed [0,1,2,3,4,5,6,7,8,9,10,11,12,13,14,15,16,17,18,19,20,21,22,23,24,27,28,29,30,31,32,33,34,35,25,26,36,37,38,39,40,41,42,43,44,45,46,47,48,49,50] (by kernel_rfl) ?_
                  intro w10 hd10 _
                  replace hE := hE.trans hd10
                  replace hX := hX.trans hd10
                  replace hB := hB.ext hd10
                  replace hPB := hPB.ext hd10
                  replace hsA' := hsA'.ext hd10
                  refine Go.Sx.V rfl wu rfl rfl (fad rfl fa32_0) ?_
                  refine Go.Sx.V rfl wu rfl rfl (ldB rfl na30 hPB) ?_
                  refine Go.Sx.V rfl wu rfl rfl (lenS rfl ty30 hsA') ?_
                  refine Go.Sx.V rfl wu rfl rfl (eqlI rfl rfl) ?_
                  refine Go.Sx.V rfl wu rfl rfl (mv rfl) ?_
                  refine KB 67 false rfl (by rw [hrlA]; exact decide_eq_false (by omega)) ?_
                  refine Go.Sx.V rfl (wg rfl rfl) rfl rfl (fad rfl fa32_0) ?_
                  refine Go.Sx.V rfl (wg rfl rfl) rfl rfl (ldB rfl na30 hPB) ?_
                  refine Go.Sx.V rfl (wg rfl rfl) rfl rfl (fad rfl fa28_0) ?_
                  refine Go.Sx.V rfl (wg rfl rfl) rfl rfl (fad rfl fa26_0) ?_
                  refine Go.Sx.V rfl (wg rfl rfl) rfl rfl (ldA rfl ag24 hB) ?_
                  refine Go.Sx.V rfl (wg rfl rfl) rfl rfl (fad rfl fa32_0) ?_
                  refine Go.Sx.V rfl (wg rfl rfl) rfl rfl (ldB rfl na30 hPB) ?_
                  have hcall := rBCanon P x.s.f.mo x.s.f.md y.pu y.A _ (hFF _ hE) (hy.A.ext hE) (hRB.mono (by omega)) (by omega)
                  rw [hFv] at hcall
                  refine C rfl (wg rfl rfl) rfl rfl Tryz.call19 hcall ?_
                  clear hcall
                  intro c w11 hE11 hcc
                  replace hE := hE.trans hE11
                  replace hX := hX.trans hE11
                  refine C rfl (wg rfl rfl) rfl rfl Tryz.call18 (rBSame y.pu c y.A (bcl (bz P y.A)) _ (hy.A.ext hE) hcc.ll) ?_
                  rintro _ w12 hE12 rfl
                  replace hE := hE.trans hE12
                  replace hX := hX.trans hE12
                  rw [decide_eq_false hcan]
                  refine Go.Sx.V rfl (wg rfl rfl) rfl rfl (notB rfl) ?_
                  refine Go.Sx.V rfl wu rfl rfl (pk rfl rfl) ?_
                  refine Go.Sx.V rfl wu rfl rfl (mv rfl) ?_
                  refine KB 79 true rfl (by rfl) ?_
                  refine SK rfl rfl rfl rfl rfl ?_
                  refine SK rfl rfl rfl rfl rfl ?_
                  refine SK rfl rfl rfl rfl rfl ?_
                  refine SK rfl rfl rfl rfl rfl ?_
                  refine SK rfl rfl rfl rfl rfl ?_
                  refine SK rfl rfl rfl rfl rfl ?_
                  refine SK rfl rfl rfl rfl rfl ?_
                  refine SK rfl rfl rfl rfl rfl ?_
                  refine SK rfl rfl rfl rfl rfl ?_
                  refine SK rfl rfl rfl rfl rfl ?_
                  refine SK rfl rfl rfl rfl rfl ?_
                  refine SK rfl rfl rfl rfl rfl ?_
                  refine SK rfl rfl rfl rfl rfl ?_
                  refine SK rfl rfl rfl rfl rfl ?_
                  refine SK rfl rfl rfl rfl rfl ?_
                  refine SK rfl rfl rfl rfl rfl ?_
                  refine SK rfl rfl rfl rfl rfl ?_
                  refine SK rfl rfl rfl rfl rfl ?_
                  refine SK rfl rfl rfl rfl rfl ?_
                  refine SK rfl rfl rfl rfl rfl ?_
                  refine Go.Sx.V rfl wu rfl rfl (pk rfl rfl) ?_
                  refine Go.Sx.V rfl wu rfl rfl (mv rfl) ?_
                  refine KB 101 true rfl (by rfl) ?_
                  refine SK rfl rfl rfl rfl rfl ?_
                  refine SK rfl rfl rfl rfl rfl ?_
                  refine SK rfl rfl rfl rfl rfl ?_
                  refine SK rfl rfl rfl rfl rfl ?_
                  refine SK rfl rfl rfl rfl rfl ?_
                  refine SK rfl rfl rfl rfl rfl ?_
                  refine SK rfl rfl rfl rfl rfl ?_
                  refine SK rfl rfl rfl rfl rfl ?_
                  refine SK rfl rfl rfl rfl rfl ?_
                  refine SK rfl rfl rfl rfl rfl ?_
                  refine Go.Sx.V rfl wu rfl rfl (pk rfl rfl) ?_
                  refine Go.Sx.V rfl wu rfl rfl (asg rfl) ?_
                  exact wr_nil (post_cutN true ⟨rfl, rfl, rfl, trivial⟩ ⟨hE, hX, fun hg => absurd (hGG.1 hg).1.can hcan⟩)
            · clear hE hX
              rintro bd w10 ⟨hE, hX, hbd⟩
              have hB0 := hB
              have hPB0 := hPB
              replace hB := hB.ext hX
              replace hPB := hPB.ext hX
              refine wc_seq (wc_seq ?_)
              refine wc_region [0,1,2,3] rfl ?_
              refine Go.Sx.V rfl wu rfl rfl (fad rfl fa32_1) ?_
              refine Go.Sx.V rfl wu rfl rfl (ldB rfl na29 hPB) ?_
              refine Go.Sx.V rfl wu rfl rfl (lenS rfl ty29 hsL) ?_
              refine Go.Sx.V rfl wu rfl rfl (mv rfl) ?_
              refine wr_nil (post_thenN (wc_block ?_))
              rw [hrlL]
              refine wc_loop (fun q : Nat × Bool => [(2, .pointer (some ⟨cb, 0, none⟩)), (3, .pointer (some ⟨pb, 0, none⟩)), (9, .bool q.2), (114, y.lu), (115, .int .i64 y.L.length), (116, .int .i64 q.1)])
                (fun q w' => q.1 ≤ y.L.length ∧ Ext w w' ∧ Ext w9 w' ∧ (GG → q.2 = false)) (fun q => y.L.length - q.1) (0, bd) ⟨rfl, rfl, rfl, rfl, rfl, rfl, trivial⟩ ⟨by simp, hE, hX, hbd⟩ ?_
              clear hE hX hbd hB hPB
              clear bd w10
              rintro ⟨i, bd⟩ w10 ⟨i1, hE, hX, hbd⟩
              dsimp only at i1 hbd
              have hB := hB0.ext hX
              have hPB := hPB0.ext hX
              try dsimp only
              refine wc_seq ?_
              refine wc_region [0] rfl ?_
              refine Go.Sx.V rfl wu rfl rfl (lssI rfl rfl) ?_
              refine wr_nil (post_thenN (wc_seq ?_))
              refine wc_cond rfl ?_ ?_
              · intro hc
                simp at hc
                obtain ⟨r, hr, hri0⟩ := hrrL i hc
                refine wc_skip (post_thenN (wc_seq (wc_block (wc_seq ?_))))
                refine wc_region [0,1,2,3,4] rfl ?_
                refine Go.Sx.V rfl wu rfl rfl (mv rfl) ?_
                refine Go.Sx.V rfl wu rfl rfl (iad rfl rfl ty29 hsL (by omega) (by omega)) ?_
                refine Go.Sx.V rfl wu rfl rfl (ldE rfl na22 hsL (by rw [Int.toNat_natCast]; exact hr)) ?_
                refine Go.Sx.V rfl wu rfl rfl (asg rfl) ?_
                refine Go.Sx.V rfl wu rfl rfl (asg rfl) ?_
                refine wr_nil (post_thenN (wc_seq ?_))
                obtain ⟨cw, hcw⟩ : ∃ cw, cw = y.L.getD i [] := ⟨_, rfl⟩
                rw [← hcw] at hri0
                have hGf : GG → ∃ f, YB x.s.k.toNat f ∧ cw = encW P x.s.xs x.s.ms f ∧ (disN cw x.ws x.s.xs.length : Int) ≤ x.t := fun hg => by
                  obtain ⟨f, hf, _, hfe, hfd⟩ := ((hGG.1 hg).2.mem cw).1 (by rw [hcw]; exact mem_at hc)
                  exact ⟨f, hf, hfe, hfd⟩
                refine wc_cut (σ := Bool) (fun b => [(2, .pointer (some ⟨cb, 0, none⟩)), (3, .pointer (some ⟨pb, 0, none⟩)), (9, .bool b), (10, .int .i64 i), (11, r), (114, y.lu), (115, .int .i64 y.L.length), (116, .int .i64 i)]) (fun b w' => Ext w w' ∧ Ext w9 w' ∧ (GG → b = false)) ?_ ?_
                · have hwi := hci.ws.ext hE
                  cases bd with
                  | true =>
                    refine wc_draw mixed [0,1,2,3,4,5,6,7,8,9,10,11,12,13,14,15,17,18,16,19,20,21,22,23,24,25,26,27,28] (by kernel_rfl) ?_
                    intro w11 hd11 _
                    replace hE := hE.trans hd11
                    replace hX := hX.trans hd11
                    refine Go.Sx.V rfl wu rfl rfl (mv rfl) ?_
                    refine Go.Sx.V rfl wu rfl rfl (mv rfl) ?_
                    refine KB 122 true rfl (by rfl) ?_
                    refine SK rfl rfl rfl rfl rfl ?_
                    refine SK rfl rfl rfl rfl rfl ?_
                    refine SK rfl rfl rfl rfl rfl ?_
                    refine SK rfl rfl rfl rfl rfl ?_
                    refine SK rfl rfl rfl rfl rfl ?_
                    refine SK rfl rfl rfl rfl rfl ?_
                    refine SK rfl rfl rfl rfl rfl ?_
                    refine SK rfl rfl rfl rfl rfl ?_
                    refine SK rfl rfl rfl rfl rfl ?_
                    refine Go.Sx.V rfl wu rfl rfl (pk rfl rfl) ?_
                    refine Go.Sx.V rfl wu rfl rfl (mv rfl) ?_
                    refine KB 133 true rfl (by rfl) ?_
                    refine SK rfl rfl rfl rfl rfl ?_
                    refine SK rfl rfl rfl rfl rfl ?_
                    refine SK rfl rfl rfl rfl rfl ?_
                    refine SK rfl rfl rfl rfl rfl ?_
                    refine SK rfl rfl rfl rfl rfl ?_
                    refine SK rfl rfl rfl rfl rfl ?_
                    refine SK rfl rfl rfl rfl rfl ?_
                    refine Go.Sx.V rfl wu rfl rfl (pk rfl rfl) ?_
                    refine Go.Sx.V rfl wu rfl rfl (mv rfl) ?_
                    refine KB 142 true rfl (by rfl) ?_
                    refine SK rfl rfl rfl rfl rfl ?_
                    refine SK rfl rfl rfl rfl rfl ?_
                    refine SK rfl rfl rfl rfl rfl ?_
                    refine SK rfl rfl rfl rfl rfl ?_
                    refine SK rfl rfl rfl rfl rfl ?_
                    refine Go.Sx.V rfl wu rfl rfl (pk rfl rfl) ?_
                    refine Go.Sx.V rfl wu rfl rfl (asg rfl) ?_
                    exact wr_nil (post_cutN true ⟨rfl, rfl, rfl, rfl, rfl, rfl, rfl, rfl, trivial⟩ ⟨hE, hX, hbd⟩)
                  | false =>
                    by_cases hel : cw.length = x.ws.length ∧ AllIn P.q cw
                    · by_cases hds : (disN cw x.ws cw.length : Int) ≤ x.t
                      · skip
                        refine wc_draw mixed [0,1,2,3,4,5,6,7,8,9,10,11,12,13,14,15,17,18,16,19,20,21,22,23,24,25,26,27,28] (by kernel_rfl) ?_
                        intro w11 hd11 _
                        replace hE := hE.trans hd11
                        replace hX := hX.trans hd11
                        replace hB := hB.ext hd11
                        replace hwi := hwi.ext hd11
                        refine Go.Sx.V rfl wu rfl rfl (mv rfl) ?_
                        refine Go.Sx.V rfl wu rfl rfl (mv rfl) ?_
                        refine KB 122 false rfl (by rfl) ?_
                        refine Go.Sx.V rfl (wg rfl rfl) rfl rfl (fad rfl fa28_0) ?_
                        refine Go.Sx.V rfl (wg rfl rfl) rfl rfl (fad rfl fa26_0) ?_
                        refine Go.Sx.V rfl (wg rfl rfl) rfl rfl (ldA rfl ag24 hB) ?_
                        refine Go.Sx.V rfl (wg rfl rfl) rfl rfl (mv rfl) ?_
                        refine Go.Sx.V rfl (wg rfl rfl) rfl rfl (fad rfl fa28_1) ?_
                        refine Go.Sx.V rfl (wg rfl rfl) rfl rfl (ldB rfl na22 hB) ?_
                        refine Go.Sx.V rfl (wg rfl rfl) rfl rfl (lenI rfl ty22 hwi) ?_
                        have hcall := rElements P x.s.f.mo x.s.f.md r cw x.ws.length 4 _ (hFF _ hE) (hri0.ext hE)
                        rw [hFv] at hcall
                        refine C rfl (wg rfl rfl) rfl rfl Tryz.call13 hcall ?_
                        clear hcall
                        rintro _ w12 hE12 rfl
                        replace hE := hE.trans hE12
                        replace hX := hX.trans hE12
                        replace hB := hB.ext hE12
                        refine Go.Sx.V rfl (wg rfl rfl) rfl rfl (neqI rfl rfl) ?_
                        refine Go.Sx.V rfl wu rfl rfl (pk rfl rfl) ?_
                        refine Go.Sx.V rfl wu rfl rfl (mv rfl) ?_
                        refine KB 133 false rfl (by rw [(elE_ok (by decide)).2 ⟨by omega, hel.2⟩]; rfl) ?_
                        refine Go.Sx.V rfl (wg rfl rfl) rfl rfl (mv rfl) ?_
                        refine Go.Sx.V rfl (wg rfl rfl) rfl rfl (fad rfl fa28_1) ?_
                        refine Go.Sx.V rfl (wg rfl rfl) rfl rfl (ldB rfl na22 hB) ?_
                        refine Go.Sx.V rfl (wg rfl rfl) rfl rfl (fad rfl fa28_2) ?_
                        refine Go.Sx.V rfl (wg rfl rfl) rfl rfl (ldB rfl na3 hB) ?_
                        refine C rfl (wg rfl rfl) rfl rfl Tryz.call15 (rDistance r x.wu cw x.ws _ (hri0.ext hE) (hci.ws.ext hE) (by omega)) ?_
                        rintro _ w13 hE13 rfl
                        replace hE := hE.trans hE13
                        replace hX := hX.trans hE13
                        replace hB := hB.ext hE13
                        refine Go.Sx.V rfl (wg rfl rfl) rfl rfl (gtrI rfl rfl) ?_
                        refine Go.Sx.V rfl wu rfl rfl (pk rfl rfl) ?_
                        refine Go.Sx.V rfl wu rfl rfl (mv rfl) ?_
                        refine KB 142 false rfl (by show (decide _) = false; exact decide_eq_false (by omega)) ?_
                        refine Go.Sx.V rfl (wg rfl rfl) rfl rfl (fad rfl fa28_0) ?_
                        refine Go.Sx.V rfl (wg rfl rfl) rfl rfl (ldA rfl ag26 hB) ?_
                        refine Go.Sx.V rfl (wg rfl rfl) rfl rfl (mv rfl) ?_
                        refine C rfl (wg rfl rfl) rfl rfl Tryz.call23 (r18Has P x.s.f.p x.s.f.M x.s.k x.s.f.mo x.s.pu x.s.mu r x.s.f.md x.s.xs x.s.ms cw _ (hFF _ hE) hFv hokP hgen (hci.ext hE).xs (hci.ext hE).ms hT.grs (hri0.ext hE) hel.2 (by omega)) ?_
                        rintro _ w14 hE14 ⟨b, rfl, hb⟩
                        replace hE := hE.trans hE14
                        replace hX := hX.trans hE14
                        refine Go.Sx.V rfl (wg rfl rfl) rfl rfl (notB rfl) ?_
                        refine Go.Sx.V rfl wu rfl rfl (pk rfl rfl) ?_
                        refine Go.Sx.V rfl wu rfl rfl (asg rfl) ?_
                        exact wr_nil (post_cutN (!b) ⟨rfl, rfl, rfl, rfl, rfl, rfl, rfl, rfl, trivial⟩ ⟨hE, hX, fun hg => by
                          obtain ⟨f, hf, hfe, _⟩ := hGf hg
                          rw [hb f hf hfe]; rfl⟩)
                      · skip
                        refine wc_draw mixed [0,1,2,3,4,5,6,7,8,9,10,11,12,13,14,15,17,18,16,19,20,21,22,23,24,25,26,27,28] (by kernel_rfl) ?_
                        intro w11 hd11 _
                        replace hE := hE.trans hd11
                        replace hX := hX.trans hd11
                        replace hB := hB.ext hd11
                        replace hwi := hwi.ext hd11
                        refine Go.Sx.V rfl wu rfl rfl (mv rfl) ?_
                        refine Go.Sx.V rfl wu rfl rfl (mv rfl) ?_
                        refine KB 122 false rfl (by rfl) ?_
                        refine Go.Sx.V rfl (wg rfl rfl) rfl rfl (fad rfl fa28_0) ?_
                        refine Go.Sx.V rfl (wg rfl rfl) rfl rfl (fad rfl fa26_0) ?_
                        refine Go.Sx.V rfl (wg rfl rfl) rfl rfl (ldA rfl ag24 hB) ?_
                        refine Go.Sx.V rfl (wg rfl rfl) rfl rfl (mv rfl) ?_
                        refine Go.Sx.V rfl (wg rfl rfl) rfl rfl (fad rfl fa28_1) ?_
                        refine Go.Sx.V rfl (wg rfl rfl) rfl rfl (ldB rfl na22 hB) ?_
                        refine Go.Sx.V rfl (wg rfl rfl) rfl rfl (lenI rfl ty22 hwi) ?_
                        have hcall := rElements P x.s.f.mo x.s.f.md r cw x.ws.length 4 _ (hFF _ hE) (hri0.ext hE)
                        rw [hFv] at hcall
                        refine C rfl (wg rfl rfl) rfl rfl Tryz.call13 hcall ?_
                        clear hcall
                        rintro _ w12 hE12 rfl
                        replace hE := hE.trans hE12
                        replace hX := hX.trans hE12
                        replace hB := hB.ext hE12
                        refine Go.Sx.V rfl (wg rfl rfl) rfl rfl (neqI rfl rfl) ?_
                        refine Go.Sx.V rfl wu rfl rfl (pk rfl rfl) ?_
                        refine Go.Sx.V rfl wu rfl rfl (mv rfl) ?_
                        refine KB 133 false rfl (by rw [(elE_ok (by decide)).2 ⟨by omega, hel.2⟩]; rfl) ?_
                        refine Go.Sx.V rfl (wg rfl rfl) rfl rfl (mv rfl) ?_
                        refine Go.Sx.V rfl (wg rfl rfl) rfl rfl (fad rfl fa28_1) ?_
                        refine Go.Sx.V rfl (wg rfl rfl) rfl rfl (ldB rfl na22 hB) ?_
                        refine Go.Sx.V rfl (wg rfl rfl) rfl rfl (fad rfl fa28_2) ?_
                        refine Go.Sx.V rfl (wg rfl rfl) rfl rfl (ldB rfl na3 hB) ?_
                        refine C rfl (wg rfl rfl) rfl rfl Tryz.call15 (rDistance r x.wu cw x.ws _ (hri0.ext hE) (hci.ws.ext hE) (by omega)) ?_
                        rintro _ w13 hE13 rfl
                        replace hE := hE.trans hE13
                        replace hX := hX.trans hE13
                        replace hB := hB.ext hE13
                        refine Go.Sx.V rfl (wg rfl rfl) rfl rfl (gtrI rfl rfl) ?_
                        refine Go.Sx.V rfl wu rfl rfl (pk rfl rfl) ?_
                        refine Go.Sx.V rfl wu rfl rfl (mv rfl) ?_
                        refine KB 142 true rfl (by show (decide _) = true; exact decide_eq_true (by omega)) ?_
                        refine SK rfl rfl rfl rfl rfl ?_
                        refine SK rfl rfl rfl rfl rfl ?_
                        refine SK rfl rfl rfl rfl rfl ?_
                        refine SK rfl rfl rfl rfl rfl ?_
                        refine SK rfl rfl rfl rfl rfl ?_
                        refine Go.Sx.V rfl wu rfl rfl (pk rfl rfl) ?_
                        refine Go.Sx.V rfl wu rfl rfl (asg rfl) ?_
                        exact wr_nil (post_cutN true ⟨rfl, rfl, rfl, rfl, rfl, rfl, rfl, rfl, trivial⟩ ⟨hE, hX, fun hg => by
                          obtain ⟨f, _, _, hfd⟩ := hGf hg
                          exact absurd (by rw [hel.1, hwl]; exact hfd) hds⟩)
                    · have hne : elE P.q cw x.ws.length 4 ≠ 0 := fun h => by
                        obtain ⟨h1, h2⟩ := (elE_ok (by decide)).1 h
                        exact hel ⟨by omega, h2⟩
                      refine wc_draw mixed [0,1,2,3,4,5,6,7,8,9,10,11,12,13,14,15,17,18,16,19,20,21,22,23,24,25,26,27,28] (by kernel_rfl) ?_
                      intro w11 hd11 _
                      replace hE := hE.trans hd11
                      replace hX := hX.trans hd11
                      replace hB := hB.ext hd11
                      replace hwi := hwi.ext hd11
                      refine Go.Sx.V rfl wu rfl rfl (mv rfl) ?_
                      refine Go.Sx.V rfl wu rfl rfl (mv rfl) ?_
                      refine KB 122 false rfl (by rfl) ?_
                      refine Go.Sx.V rfl (wg rfl rfl) rfl rfl (fad rfl fa28_0) ?_
                      refine Go.Sx.V rfl (wg rfl rfl) rfl rfl (fad rfl fa26_0) ?_
                      refine Go.Sx.V rfl (wg rfl rfl) rfl rfl (ldA rfl ag24 hB) ?_
                      refine Go.Sx.V rfl (wg rfl rfl) rfl rfl (mv rfl) ?_
                      refine Go.Sx.V rfl (wg rfl rfl) rfl rfl (fad rfl fa28_1) ?_
                      refine Go.Sx.V rfl (wg rfl rfl) rfl rfl (ldB rfl na22 hB) ?_
                      refine Go.Sx.V rfl (wg rfl rfl) rfl rfl (lenI rfl ty22 hwi) ?_
                      have hcall := rElements P x.s.f.mo x.s.f.md r cw x.ws.length 4 _ (hFF _ hE) (hri0.ext hE)
                      rw [hFv] at hcall
                      refine C rfl (wg rfl rfl) rfl rfl Tryz.call13 hcall ?_
                      clear hcall
                      rintro _ w12 hE12 rfl
                      replace hE := hE.trans hE12
                      replace hX := hX.trans hE12
                      replace hB := hB.ext hE12
                      refine Go.Sx.V rfl (wg rfl rfl) rfl rfl (neqI rfl rfl) ?_
                      refine Go.Sx.V rfl wu rfl rfl (pk rfl rfl) ?_
                      refine Go.Sx.V rfl wu rfl rfl (mv rfl) ?_
                      refine KB 133 true rfl (by show (decide _) = true; exact decide_eq_true hne) ?_
                      refine SK rfl rfl rfl rfl rfl ?_
                      refine SK rfl rfl rfl rfl rfl ?_
                      refine SK rfl rfl rfl rfl rfl ?_
                      refine SK rfl rfl rfl rfl rfl ?_
                      refine SK rfl rfl rfl rfl rfl ?_
                      refine SK rfl rfl rfl rfl rfl ?_
                      refine SK rfl rfl rfl rfl rfl ?_
                      refine Go.Sx.V rfl wu rfl rfl (pk rfl rfl) ?_
                      refine Go.Sx.V rfl wu rfl rfl (mv rfl) ?_
                      refine KB 142 true rfl (by rfl) ?_
                      refine SK rfl rfl rfl rfl rfl ?_
                      refine SK rfl rfl rfl rfl rfl ?_
                      refine SK rfl rfl rfl rfl rfl ?_
                      refine SK rfl rfl rfl rfl rfl ?_
                      refine SK rfl rfl rfl rfl rfl ?_
                      refine Go.Sx.V rfl wu rfl rfl (pk rfl rfl) ?_
                      refine Go.Sx.V rfl wu rfl rfl (asg rfl) ?_
                      exact wr_nil (post_cutN true ⟨rfl, rfl, rfl, rfl, rfl, rfl, rfl, rfl, trivial⟩ ⟨hE, hX, fun hg => by
                        obtain ⟨f, _, hfe, _⟩ := hGf hg
                        exact absurd ⟨by rw [hfe, encW_length, hwl], by rw [hfe]; exact encW_in _ _ _⟩ hel⟩)
                · clear hE hX hbd hB hPB
                  clear bd w10
                  rintro bd w10 ⟨hE, hX, hbd⟩
                  have hPB := hPB0.ext hX
                  cases bd with
                  | true =>
                    refine wc_region [0,1,2,3,4,5,6,7,8,9,10,11,12,13,14,15,16] rfl ?_
                    refine Go.Sx.V rfl wu rfl rfl (mv rfl) ?_
                    refine Go.Sx.V rfl wu rfl rfl (mv rfl) ?_
                    refine KB 150 true rfl (by rfl) ?_
                    refine SK rfl rfl rfl rfl rfl ?_
                    refine SK rfl rfl rfl rfl rfl ?_
                    refine SK rfl rfl rfl rfl rfl ?_
                    refine SKU rfl rfl rfl rfl ?_
                    refine SKU rfl rfl rfl rfl ?_
                    refine SKU rfl rfl rfl rfl ?_
                    refine SKU rfl rfl rfl rfl ?_
                    refine SKU rfl rfl rfl rfl ?_
                    refine SKU rfl rfl rfl rfl ?_
                    refine SKU rfl rfl rfl rfl ?_
                    refine SKU rfl rfl rfl rfl ?_
                    refine SKU rfl rfl rfl rfl ?_
                    refine SK rfl rfl rfl rfl rfl ?_
                    refine Go.Sx.V rfl wu rfl rfl (pk rfl rfl) ?_
                    refine Go.Sx.V rfl wu rfl rfl (asg rfl) ?_
                    refine wr_nil (post_blockN (post_thenN ?_))
                    refine wc_region [0,1] rfl ?_
                    refine Go.Sx.V rfl wu rfl rfl (addI rfl rfl) ?_
                    refine Go.Sx.V rfl wu rfl rfl (mv rfl) ?_
                    refine wr_nil ?_
                    exact post_loopN (i + 1, true) ⟨rfl, rfl, rfl, rfl, rfl, rfl, trivial⟩ ⟨by (try dsimp only); omega, hE, hX, hbd⟩ (by (try dsimp only); omega)
                  | false =>
                    rcases Nat.eq_zero_or_pos i with rfl | hi0
                    · skip
                      refine wc_region [0,1,2,3,4,5,6,7,8,9,10,11,12,13,14,15,16] rfl ?_
                      refine Go.Sx.V rfl wu rfl rfl (mv rfl) ?_
                      refine Go.Sx.V rfl wu rfl rfl (mv rfl) ?_
                      refine KB 150 false rfl (by rfl) ?_
                      refine Go.Sx.V rfl (wg rfl rfl) rfl rfl (mv rfl) ?_
                      refine Go.Sx.V rfl (wg rfl rfl) rfl rfl (gtrI rfl rfl) ?_
                      refine Go.Sx.V rfl (wg rfl rfl) rfl rfl (mv rfl) ?_
                      refine KB 153 false rfl (by simp) ?_
                      refine SK rfl rfl rfl rfl rfl ?_
                      refine SK rfl rfl rfl rfl rfl ?_
                      refine SK rfl rfl rfl rfl rfl ?_
                      refine SK rfl rfl rfl rfl rfl ?_
                      refine SK rfl rfl rfl rfl rfl ?_
                      refine SK rfl rfl rfl rfl rfl ?_
                      refine SK rfl rfl rfl rfl rfl ?_
                      refine SK rfl rfl rfl rfl rfl ?_
                      refine SK rfl rfl rfl rfl rfl ?_
                      refine Go.Sx.V rfl (wg rfl rfl) rfl rfl (pk rfl rfl) ?_
                      refine Go.Sx.V rfl wu rfl rfl (pk rfl rfl) ?_
                      refine Go.Sx.V rfl wu rfl rfl (asg rfl) ?_
                      refine wr_nil (post_blockN (post_thenN ?_))
                      refine wc_region [0,1] rfl ?_
                      refine Go.Sx.V rfl wu rfl rfl (addI rfl rfl) ?_
                      refine Go.Sx.V rfl wu rfl rfl (mv rfl) ?_
                      refine wr_nil ?_
                      exact post_loopN (1, false) ⟨rfl, rfl, rfl, rfl, rfl, rfl, trivial⟩ ⟨by (try dsimp only); omega, hE, hX, fun _ => rfl⟩ (by (try dsimp only); omega)
                    · obtain ⟨j, rfl⟩ : ∃ j, i = j + 1 := ⟨i - 1, by omega⟩
                      obtain ⟨r2, hr2, hri2⟩ := hrrL j (by omega)
                      have e2 : (((j + 1 : Nat) : Int) - 1).toNat = j := by omega
                      have hsL' := hsL.ext hE
                      refine wc_region [0,1,2,3,4,5,6,7,8,9,10,11,12,13,14,15,16] rfl ?_
                      refine Go.Sx.V rfl wu rfl rfl (mv rfl) ?_
                      refine Go.Sx.V rfl wu rfl rfl (mv rfl) ?_
                      refine KB 150 false rfl (by rfl) ?_
                      refine Go.Sx.V rfl (wg rfl rfl) rfl rfl (mv rfl) ?_
                      refine Go.Sx.V rfl (wg rfl rfl) rfl rfl (gtrI rfl rfl) ?_
                      refine Go.Sx.V rfl (wg rfl rfl) rfl rfl (mv rfl) ?_
                      refine KB 153 true rfl (by simp) ?_
                      refine Go.Sx.V rfl (wg rfl rfl) rfl rfl (fad rfl fa32_1) ?_
                      refine Go.Sx.V rfl (wg rfl rfl) rfl rfl (ldB rfl na29 hPB) ?_
                      refine Go.Sx.V rfl (wg rfl rfl) rfl rfl (mv rfl) ?_
                      refine Go.Sx.V rfl (wg rfl rfl) rfl rfl (subI rfl rfl) ?_
                      refine Go.Sx.V rfl (wg rfl rfl) rfl rfl (iad rfl rfl ty29 hsL' (by omega) (by omega)) ?_
                      refine Go.Sx.V rfl (wg rfl rfl) rfl rfl (ldE rfl na22 hsL' (by rw [e2]; exact hr2)) ?_
                      refine Go.Sx.V rfl (wg rfl rfl) rfl rfl (mv rfl) ?_
                      refine C rfl (wg rfl rfl) rfl rfl Tryz.call24 (rCompare r2 r _ _ _ (hri2.ext hE) (hri0.ext hE)) ?_
                      rintro _ w15 hE15 rfl
                      replace hE := hE.trans hE15
                      replace hX := hX.trans hE15
                      refine Go.Sx.V rfl (wg rfl rfl) rfl rfl (geqI rfl rfl) ?_
                      refine Go.Sx.V rfl (wg rfl rfl) rfl rfl (pk rfl rfl) ?_
                      refine Go.Sx.V rfl wu rfl rfl (pk rfl rfl) ?_
                      refine Go.Sx.V rfl wu rfl rfl (asg rfl) ?_
                      refine wr_nil (post_blockN (post_thenN ?_))
                      refine wc_region [0,1] rfl ?_
                      refine Go.Sx.V rfl wu rfl rfl (addI rfl rfl) ?_
                      refine Go.Sx.V rfl wu rfl rfl (mv rfl) ?_
                      refine wr_nil ?_
                      exact post_loopN (j + 1 + 1, decide (cmpL (y.L.getD j []) cw ≥ 0)) ⟨rfl, rfl, rfl, rfl, rfl, rfl, trivial⟩ ⟨by (try dsimp only); omega, hE, hX, fun hg => decide_eq_false (by
                        have := asc_at (hGG.1 hg).2.asc (show j < j + 1 by omega) hc
                        rw [← hcw] at this
                        omega)⟩ (by (try dsimp only); omega)
              · intro hc
                refine wc_exit (post_thenE (post_loopE (post_blockX (post_thenN (wc_seq ?_)))))
                cases bd with
                | false =>
                  refine wc_region [0,1,2,3,4,5,6,7,8,9,10,11,12,13,14,15,16] rfl ?_
                  refine Go.Sx.V rfl wu rfl rfl (mv rfl) ?_
                  refine Go.Sx.V rfl wu rfl rfl (notB rfl) ?_
                  refine Go.Sx.V rfl wu rfl rfl (mv rfl) ?_
                  refine KB 168 true rfl (by rfl) ?_
                  refine SK rfl rfl rfl rfl rfl ?_
                  refine SK rfl rfl rfl rfl rfl ?_
                  refine SK rfl rfl rfl rfl rfl ?_
                  refine SK rfl rfl rfl rfl rfl ?_
                  refine SK rfl rfl rfl rfl rfl ?_
                  refine SK rfl rfl rfl rfl rfl ?_
                  refine SK rfl rfl rfl rfl rfl ?_
                  refine SK rfl rfl rfl rfl rfl ?_
                  refine SK rfl rfl rfl rfl rfl ?_
                  refine SK rfl rfl rfl rfl rfl ?_
                  refine SK rfl rfl rfl rfl rfl ?_
                  refine SK rfl rfl rfl rfl rfl ?_
                  refine Go.Sx.V rfl wu rfl rfl (pk rfl rfl) ?_
                  refine Go.Sx.V rfl wu rfl rfl (asg rfl) ?_
                  refine wr_nil (post_thenN (wc_ret ?_))
                  refine post_ret1 rfl rfl ?_
                  exact ⟨hE, rfl⟩
                | true =>
                  refine wc_region [0,1,2,3,4,5,6,7,8,9,10,11,12,13,14,15,16] rfl ?_
                  refine Go.Sx.V rfl wu rfl rfl (mv rfl) ?_
                  refine Go.Sx.V rfl wu rfl rfl (notB rfl) ?_
                  refine Go.Sx.V rfl wu rfl rfl (mv rfl) ?_
                  refine KB 168 false rfl (by rfl) ?_
                  refine Go.Sx.V rfl (wg rfl rfl) rfl rfl (fad rfl fa28_0) ?_
                  refine Go.Sx.V rfl (wg rfl rfl) rfl rfl (ldA rfl ag26 hB) ?_
                  refine Go.Sx.V rfl (wg rfl rfl) rfl rfl (fad rfl fa28_1) ?_
                  refine Go.Sx.V rfl (wg rfl rfl) rfl rfl (ldB rfl na22 hB) ?_
                  refine Go.Sx.V rfl (wg rfl rfl) rfl rfl (fad rfl fa28_2) ?_
                  refine Go.Sx.V rfl (wg rfl rfl) rfl rfl (ldB rfl na3 hB) ?_
                  refine Go.Sx.V rfl (wg rfl rfl) rfl rfl (fad rfl fa32_0) ?_
                  refine Go.Sx.V rfl (wg rfl rfl) rfl rfl (ldB rfl na30 hPB) ?_
                  refine Go.Sx.V rfl (wg rfl rfl) rfl rfl (fad rfl fa32_1) ?_
                  refine Go.Sx.V rfl (wg rfl rfl) rfl rfl (ldB rfl na29 hPB) ?_
                  refine C rfl (wg rfl rfl) rfl rfl Tryz.call11 (lCheck x y.pu y.lu y.A y.L 40 _ (hci.ext hE) (hy.A.ext hE) (hy.L.ext hE) hRB (by omega) (by omega)) ?_
                  intro rv w11 hE11 hch
                  replace hE := hE.trans hE11
                  obtain rfl := check13 he hT hp hch (fun hg => by have := hbd (hGG.2 hg); cases this)
                  refine Go.Sx.V rfl (wg rfl rfl) rfl rfl (eqlI rfl rfl) ?_
                  refine Go.Sx.V rfl wu rfl rfl (pk rfl rfl) ?_
                  refine Go.Sx.V rfl wu rfl rfl (asg rfl) ?_
                  refine wr_nil (post_thenN (wc_ret ?_))
                  refine post_ret1 rfl rfl ?_
                  exact ⟨hE, rfl⟩
      · skip
        refine wc_region [0,1,2,3,4,5,6,7,8,9,10,11,12,13,14,15,16,17,18,19,20,21,22,23,24] rfl ?_
        refine Go.Sx.V rfl wu rfl rfl (ldA rfl ag28 hB) ?_
        refine C rfl wu rfl rfl Tryz.call10 (lSmall41 x _ hci2) ?_
        rintro _ w3 hE3 rfl
        replace hE := hE.trans hE3
        replace hB := hB.ext hE3
        replace hPB := hPB.ext hE3
        rw [hsm]
        refine Go.Sx.V rfl wu rfl rfl (notB rfl) ?_
        refine Go.Sx.V rfl wu rfl rfl (mv rfl) ?_
        refine KB 17 false rfl (by rfl) ?_
        refine Go.Sx.V rfl (wg rfl rfl) rfl rfl (fad rfl fa32_0) ?_
        refine Go.Sx.V rfl (wg rfl rfl) rfl rfl (ldB rfl na30 hPB) ?_
        refine Go.Sx.V rfl (wg rfl rfl) rfl rfl (lenS rfl ty30 hsA) ?_
        refine Go.Sx.V rfl (wg rfl rfl) rfl rfl (gtrI rfl rfl) ?_
        refine Go.Sx.V rfl wu rfl rfl (pk rfl rfl) ?_
        refine Go.Sx.V rfl wu rfl rfl (mv rfl) ?_
        refine KB 23 false rfl (by rw [hrlA]; simp; omega) ?_
        refine Go.Sx.V rfl (wg rfl rfl) rfl rfl (fad rfl fa32_1) ?_
        refine Go.Sx.V rfl (wg rfl rfl) rfl rfl (ldB rfl na29 hPB) ?_
        refine Go.Sx.V rfl (wg rfl rfl) rfl rfl (lenS rfl ty29 hsL) ?_
        refine Go.Sx.V rfl (wg rfl rfl) rfl rfl (gtrI rfl rfl) ?_
        refine Go.Sx.V rfl wu rfl rfl (pk rfl rfl) ?_
        refine Go.Sx.V rfl wu rfl rfl (mv rfl) ?_
        refine KB 29 true rfl (by rw [hrlL]; simp; omega) ?_
        refine SK rfl rfl rfl rfl rfl ?_
        refine SK rfl rfl rfl rfl rfl ?_
        refine SK rfl rfl rfl rfl rfl ?_
        refine SK rfl rfl rfl rfl rfl ?_
        refine SK rfl rfl rfl rfl rfl ?_
        refine SK rfl rfl rfl rfl rfl ?_
        refine SK rfl rfl rfl rfl rfl ?_
        refine SK rfl rfl rfl rfl rfl ?_
        refine Go.Sx.V rfl wu rfl rfl (pk rfl rfl) ?_
        refine wr_nil (post_thenN ?_)
        refine wc_condT rfl (by rfl) ?_
        refine wc_seq ?_
        refine wc_region [0] rfl ?_
        refine Go.Sx.V rfl wu rfl rfl (asg rfl) ?_
        refine wr_nil (post_thenN (wc_ret (post_thenR ?_)))
        refine post_ret1 rfl rfl ?_
        exact ⟨hE, rfl⟩
    · skip
      refine wc_region [0,1,2,3,4,5,6,7,8,9,10,11,12,13,14,15,16,17,18,19,20,21,22,23,24] rfl ?_
      refine Go.Sx.V rfl wu rfl rfl (ldA rfl ag28 hB) ?_
      refine C rfl wu rfl rfl Tryz.call10 (lSmall41 x _ hci2) ?_
      rintro _ w3 hE3 rfl
      replace hE := hE.trans hE3
      replace hB := hB.ext hE3
      replace hPB := hPB.ext hE3
      rw [hsm]
      refine Go.Sx.V rfl wu rfl rfl (notB rfl) ?_
      refine Go.Sx.V rfl wu rfl rfl (mv rfl) ?_
      refine KB 17 false rfl (by rfl) ?_
      refine Go.Sx.V rfl (wg rfl rfl) rfl rfl (fad rfl fa32_0) ?_
      refine Go.Sx.V rfl (wg rfl rfl) rfl rfl (ldB rfl na30 hPB) ?_
      refine Go.Sx.V rfl (wg rfl rfl) rfl rfl (lenS rfl ty30 hsA) ?_
      refine Go.Sx.V rfl (wg rfl rfl) rfl rfl (gtrI rfl rfl) ?_
      refine Go.Sx.V rfl wu rfl rfl (pk rfl rfl) ?_
      refine Go.Sx.V rfl wu rfl rfl (mv rfl) ?_
      refine KB 23 true rfl (by rw [hrlA]; simp; omega) ?_
      refine SK rfl rfl rfl rfl rfl ?_
      refine SK rfl rfl rfl rfl rfl ?_
      refine SK rfl rfl rfl rfl rfl ?_
      refine SK rfl rfl rfl rfl rfl ?_
      refine Go.Sx.V rfl wu rfl rfl (pk rfl rfl) ?_
      refine Go.Sx.V rfl wu rfl rfl (mv rfl) ?_
      refine KB 29 true rfl (by rfl) ?_
      refine SK rfl rfl rfl rfl rfl ?_
      refine SK rfl rfl rfl rfl rfl ?_
      refine SK rfl rfl rfl rfl rfl ?_
      refine SK rfl rfl rfl rfl rfl ?_
      refine SK rfl rfl rfl rfl rfl ?_
      refine SK rfl rfl rfl rfl rfl ?_
      refine SK rfl rfl rfl rfl rfl ?_
      refine SK rfl rfl rfl rfl rfl ?_
      refine Go.Sx.V rfl wu rfl rfl (pk rfl rfl) ?_
      refine wr_nil (post_thenN ?_)
      refine wc_condT rfl (by rfl) ?_
      refine wc_seq ?_
      refine wc_region [0] rfl ?_
      refine Go.Sx.V rfl wu rfl rfl (asg rfl) ?_
      refine wr_nil (post_thenN (wc_ret (post_thenR ?_)))
      refine post_ret1 rfl rfl ?_
      exact ⟨hE, rfl⟩
  · replace hsm : smB x = false := by simpa using hsm
    refine wc_region [0,1,2,3,4,5,6,7,8,9,10,11,12,13,14,15,16,17,18,19,20,21,22,23,24] rfl ?_
    refine Go.Sx.V rfl wu rfl rfl (ldA rfl ag28 hB) ?_
    refine C rfl wu rfl rfl Tryz.call10 (lSmall41 x _ hci2) ?_
    rintro _ w3 hE3 rfl
    replace hE := hE.trans hE3
    replace hB := hB.ext hE3
    rw [hsm]
    refine Go.Sx.V rfl wu rfl rfl (notB rfl) ?_
    refine Go.Sx.V rfl wu rfl rfl (mv rfl) ?_
    refine KB 17 true rfl (by rfl) ?_
    refine SK rfl rfl rfl rfl rfl ?_
    refine SK rfl rfl rfl rfl rfl ?_
    refine SK rfl rfl rfl rfl rfl ?_
    refine SK rfl rfl rfl rfl rfl ?_
    refine Go.Sx.V rfl wu rfl rfl (pk rfl rfl) ?_
    refine Go.Sx.V rfl wu rfl rfl (mv rfl) ?_
    refine KB 23 true rfl (by rfl) ?_
    refine SK rfl rfl rfl rfl rfl ?_
    refine SK rfl rfl rfl rfl rfl ?_
    refine SK rfl rfl rfl rfl rfl ?_
    refine SK rfl rfl rfl rfl rfl ?_
    refine Go.Sx.V rfl wu rfl rfl (pk rfl rfl) ?_
    refine Go.Sx.V rfl wu rfl rfl (mv rfl) ?_
    refine KB 29 true rfl (by rfl) ?_
    refine SK rfl rfl rfl rfl rfl ?_
    refine SK rfl rfl rfl rfl rfl ?_
    refine SK rfl rfl rfl rfl rfl ?_
    refine SK rfl rfl rfl rfl rfl ?_
    refine SK rfl rfl rfl rfl rfl ?_
    refine SK rfl rfl rfl rfl rfl ?_
    refine SK rfl rfl rfl rfl rfl ?_
    refine SK rfl rfl rfl rfl rfl ?_
    refine Go.Sx.V rfl wu rfl rfl (pk rfl rfl) ?_
    refine wr_nil (post_thenN ?_)
    refine wc_condT rfl (by rfl) ?_
    refine wc_seq ?_
    refine wc_region [0] rfl ?_
    refine Go.Sx.V rfl wu rfl rfl (asg rfl) ?_
    refine wr_nil (post_thenN (wc_ret (post_thenR ?_)))
    refine post_ret1 rfl rfl ?_
    exact ⟨hE, rfl⟩
namespace FListdecodeRejects
open Go.ChangeShapes Go.WideShapes Go.ChangeAt Go.RowKit Go.Fr
theorem own : ownKnob Tryz.prog.godebug = none := by kernel_rfl
theorem laidOut : laidOutB Tryz.prog = true := by kernel_rfl
set_option maxRecDepth 100000 in
theorem lifted (os : Os) (started : os.Started) (H : Type) (enc : TypeId × Value → H) :
    ReturnsInHanded {} Tryz.checked os 4 .any (Rows.listdecodeRejectsSpec.pre6 enc Tryz.prog Tryz.f4 Rows.listdecodeRejectsRow.domain false) (Rows.listdecodeRejectsSpec.post enc Tryz.prog Tryz.f4 false true false false) := by
  refine returnsInHanded_of_change_sized (C := Tryz.checked) own started (by kernel_rfl) Tryz.func4
    (ChangeSpec.witness6 (enc := enc) (C := Tryz.checked) false ⟨#[], #[.agg #[.int .i64 0, .int .i64 0, .slice none 0 0, .int .i64 0, .slice none 0 0, .slice none 0 0, .slice none 0 0, .int .i64 0], .agg #[.slice none 0 0, .slice none 0 0, .slice none 0 0]], []⟩ 8 (by kernel_rfl) (by kernel_rfl) (by kernel_rfl) (by kernel_rfl)) ?_
  intro W base args ds gs before hval0 hW _ hsz0 _
  have hval : ∀ (j : Nat) t v, Tryz.f4.params[j]? = some t → args[j]? = some v → Value.okWide Tryz.prog W .any base t v := hval0
  have hW' := hW
  obtain ⟨p, q, hA0, hV, rfl, hfz, hnd⟩ := hW
  have hA : DataW.TrodAll enc Tryz.prog W 0 (fun _ => true) true Tryz.f4.params.toList args.toList ds p := hA0
  have hsz : (DataW.weightsEach Tryz.prog (Tryz.f4.params.toList ++ Rows.listdecodeRejectsSpec.plain.varTypes Tryz.prog) (ds ++ gs)).all (· ≤ reachBytes) = true := hsz0
  rw [Tryz.params4] at hA hval hsz
  obtain ⟨v0, vs0, d0, ds0, p0, q0, hargs, rfl, rfl, h0, r0⟩ := trodAll_cons hA
  obtain ⟨v1, vs1, d1, ds1, p1, q1, rfl, rfl, rfl, h1, r1⟩ := trodAll_cons r0
  obtain ⟨rfl, rfl, rfl⟩ := trodAll_nil r1
  obtain rfl : args = #[v0, v1] := by cases args; simp_all
  obtain ⟨rfl, rfl⟩ := trodVars_none hV
  have k0 := h0
  have lt0 : ∀ x ∈ p0, x.block < W.heap.size := by obtain ⟨m, hm⟩ := k0; exact DataW.trod_lt m _ _ _ hm
  have w0 : WOK Tryz.prog 28 d0 := wok_arg hsz (j := 0) rfl rfl
  obtain ⟨x0, s0⟩ := op_case (hval 0 28 v0 rfl rfl) h0 w0
  have k1 := h1
  have lt1 : ∀ x ∈ p1, x.block < W.heap.size := by obtain ⟨m, hm⟩ := k1; exact DataW.trod_lt m _ _ _ hm
  have w1 : WOK Tryz.prog 32 d1 := wok_arg hsz (j := 1) rfl rfl
  obtain ⟨x1, s1⟩ := op_proof (hval 1 32 v1 rfl rfl) h1 w1
  refine (law_ListdecodeRejects (w := W) v0 x0 s0 v1 x1 s1).mono fun e W' he => ?_
  cases e with
  | panicked c => exact he.elim
  | outgrown => exact he.elim
  | returned v =>
    obtain ⟨bel, rfl⟩ := he
    exact ⟨_, rfl, _, _, _, [], _, [], hW', trodAll_mk1 (shut_bool Tryz.underlying4 _), (trodAll_cons_mk (Below.trod laidOut (by kernel_rfl) (of_decide_eq_true (by kernel_rfl)) k0 bel lt0) (trodAll_cons_mk (Below.trod laidOut (by kernel_rfl) (of_decide_eq_true (by kernel_rfl)) k1 bel lt1) trodAll_mk0)), rfl, bel.frame _, fun h => by cases h⟩
theorem over : Rows.listdecodeRejectsRow.holds Tryz.pinned (OpenSpec.ofChange Rows.listdecodeRejectsSpec) :=
  OpenClaim.holds_of_wide 4 Tryz.f4 rfl rfl rfl rfl rfl rfl rfl ⟨rfl, rfl, rfl, rfl, rfl⟩ rfl rfl rfl rfl rfl (by kernel_rfl) Tryz.func4 (by kernel_rfl)
    (of_decide_eq_true (by kernel_rfl)) (by unfold Func.isWrapper; first | (rw [if_pos (by decide +kernel)]; kernel_rfl) | (rw [if_neg (by decide +kernel)]; exact ⟨rfl, rfl⟩))
    (fun os started H enc _ => lifted os started H enc)
end FListdecodeRejects
/-- The statement. -/
theorem listdecodeRejects_holds : Rows.ListdecodeRejectsSaid := FListdecodeRejects.over
end Go.Proofs.YtmnojknfjbimdaaGreat

