/-
  Tables of logarithms, by contract: New, Base, Log, Exp, Mul, Zech, Add; the reference's logarithms.
-/
import Derived.Test.YtmookiiehfdloaaDlog1
namespace Go.Proofs.Ytmookiiehfdloaa
open Go Go.Sx Go.Pl Go.RowKit Go.Fd Go.Alg Go.Nm
theorem infoTb : Try.prog.info? 78 = some Try.t78 := by kernel_rfl
theorem infoGp : Try.prog.info? 29 = some Try.t29 := by kernel_rfl
theorem szGp : ∀ w, (sizeOf 29).run Try.prog w = .ok 1 w := fun w => by simp [sizeOf, typeInfo, infoGp]; rfl
theorem na29 : NA Try.prog 29 := fun w => Try.isAgg29 w
theorem zvTb : ZV Try.prog 78 [.pointer none, .int .i64 0, .slice none 0 0, .slice none 0 0] := fun w => ⟨_, by simp [zeroValue, typeInfo, infoTb]; rfl, rfl⟩
theorem bdTb (g : Value) (b : Int) (a l : Value) (hg : g.cells = #[g]) (ha : a.cells = #[a]) (hl : l.cells = #[l]) : ∀ w, (Instr.build 78 #[(0, g), (1, .int .i64 b), (2, a), (3, l)]).run Try.prog w = .ok (.agg #[g, .int .i64 b, a, l]) w := fun w => by
  obtain ⟨zv, h1, h2⟩ := zvTb w
  simp [Instr.build, h1, h2, run_underlying Try.underlying78, szI1, szSl, szGp, Instr.fill, cells_i, hg, ha, hl]
theorem fa78_0 : FA Try.prog 78 0 0 := fun a w => by
  simp [Instr.fieldAt, run_underlying Try.underlying78, Instr.sureAddr, fieldPlace]
theorem fa78_1 : FA Try.prog 78 1 1 := fun a w => by
  simp [Instr.fieldAt, run_underlying Try.underlying78, Instr.sureAddr, fieldPlace]
theorem fa78_2 : FA Try.prog 78 2 2 := fun a w => by
  simp [Instr.fieldAt, run_underlying Try.underlying78, Instr.sureAddr, fieldPlace]
theorem fa78_3 : FA Try.prog 78 3 3 := fun a w => by
  simp [Instr.fieldAt, run_underlying Try.underlying78, Instr.sureAddr, fieldPlace]

/-- A table as New makes it. -/
structure TBV (w : World) (P : FP) (v : Value) (b : Int) : Prop where
  ex : ∃ (tb : Nat) (g exp log : Value) (lg : List Int), v = .pointer (some ⟨tb, 0, none⟩) ∧ Blk w tb 78 #[g, .int .i64 b, exp, log] ∧ GFV w P g ∧ Ints w exp (pows (inK P b) (n1 P)) ∧ Ints w log lg ∧ LogOk (inK P b) (n1 P) lg
  nz : inK P b ≠ 0
  prim : HasOrder (inK P b) (n1 P)
theorem TBV.ext {w w' : World} {P : FP} {v : Value} {b : Int} (h : TBV w P v b) (hE : Ext w w') : TBV w' P v b := by
  obtain ⟨⟨tb, g, exp, log, lg, h1, h2, h3, h4, h5, h6⟩, h7, h8⟩ := h
  exact ⟨⟨tb, g, exp, log, lg, h1, h2.ext hE, h3.ext hE, h4.ext hE, h5.ext hE, h6⟩, h7, h8⟩
theorem TBV.q {w : World} {P : FP} {v : Value} {b : Int} (h : TBV w P v b) : P.q ≤ 256 := by
  obtain ⟨⟨tb, g, exp, log, lg, h1, h2, h3, h4, h5, h6⟩, h7, h8⟩ := h
  exact h3.q

theorem tBase (P : FP) (v : Value) (b : Int) (w : World) (hT : TBV w P v b) :
    Calls Try.prog 53 #[v] w (RetX w fun r _ => r = .int .i64 b) := by
  obtain ⟨⟨tb, g, exp, log, lg, rfl, hB, hG, he, hl, hL⟩, hnz, hpr⟩ := hT
  refine calls1 Try.func53 rfl rfl ?_
  refine wc_seq ?_
  refine wc_region [0] rfl ?_
  refine Go.Sx.V rfl wu rfl rfl (asg rfl) ?_
  refine wr_nil (post_thenN (wc_seq ?_))
  refine wc_region [0,1,2,3,4] rfl ?_
  refine Go.Sx.V rfl wu rfl rfl (mv rfl) ?_
  refine Go.Sx.V rfl wu rfl rfl (nchk rfl) ?_
  refine Go.Sx.V rfl wu rfl rfl (fad rfl fa78_1) ?_
  refine Go.Sx.V rfl wu rfl rfl (ldB rfl na3) ?_
  refine Go.Sx.V rfl wu rfl rfl (asg rfl) ?_
  refine wr_nil (post_thenN (wc_ret ?_))
  refine post_ret1 rfl rfl ?_
  exact ⟨Ext.refl _, rfl⟩

/-- The logarithm of x to the base X, and the error. -/
def LogA (P : FP) (X Y : K P) (v : Value) : Prop := (Y = 0 ∧ v = .tuple #[.int .i64 0, .int .i64 7]) ∨ (Y ≠ 0 ∧ ∃ i : Nat, i < n1 P ∧ npow X i = Y ∧ v = .tuple #[.int .i64 i, .int .i64 0])
theorem LogA.split {P : FP} {X Y : K P} {v : Value} (h : LogA P X Y v) : ∃ (i : Nat) (e : Int), v = .tuple #[.int .i64 i, .int .i64 e] ∧ ((Y = 0 ∧ e = 7 ∧ i = 0) ∨ (Y ≠ 0 ∧ e = 0 ∧ i < n1 P ∧ npow X i = Y)) := by
  rcases h with ⟨h1, h2⟩ | ⟨h1, i, h2, h3, h4⟩
  · exact ⟨0, 7, h2, .inl ⟨h1, rfl, rfl⟩⟩
  · exact ⟨i, 0, h4, .inr ⟨h1, rfl, h2, h3⟩⟩
theorem isz_f {P : FP} {x : Int} (h : ((!(decide (0 ≤ x) && decide (x < P.q))) || decide (x = 0)) = false) : inK P x ≠ 0 ∧ (0 ≤ x ∧ x < P.q) := by
  have h0 : inK P x ≠ 0 := fun e => by rw [isz.2 e] at h; cases h
  exact ⟨h0, Classical.byContradiction fun hc => h0 (inK_out hc)⟩

set_option maxRecDepth 10000 in
theorem tLog (P : FP) (v : Value) (b x : Int) (w : World) (hT : TBV w P v b) :
    Calls Try.prog 28 #[v, .int .i64 x] w (RetX w fun r _ => LogA P (inK P b) (inK P x) r) := by
  obtain ⟨⟨tb, g, exp, log, lg, rfl, hB, hG, he, hl, hL⟩, hnz, hpr⟩ := hT
  have hll := hL.1
  refine calls2 Try.func28 rfl rfl ?_
  refine wc_seq ?_
  refine wc_region [0,1] rfl ?_
  refine Go.Sx.V rfl wu rfl rfl (asg rfl) ?_
  refine Go.Sx.V rfl wu rfl rfl (asg rfl) ?_
  refine wr_nil (post_thenN (wc_seq (wc_seq ?_)))
  refine wc_region [0,1,2,3,4,5,6,7,8,9,10] rfl ?_
  refine Go.Sx.V rfl wu rfl rfl (mv rfl) ?_
  refine Go.Sx.V rfl wu rfl rfl (nchk rfl) ?_
  refine Go.Sx.V rfl wu rfl rfl (fad rfl fa78_0) ?_
  refine Go.Sx.V rfl wu rfl rfl (ldB rfl na29 hB) ?_
  refine Go.Sx.V rfl wu rfl rfl (mv rfl) ?_
  refine C rfl wu rfl rfl Try.call40 (gIs P g x _ hG) ?_
  rintro _ w1 hE rfl
  replace hB := hB.ext hE
  replace hl := hl.ext hE
  refine Go.Sx.V rfl wu rfl rfl (notB rfl) ?_
  refine Go.Sx.V rfl wu rfl rfl (mv rfl) ?_
  refine OR (π1 := [8,9,10]) (π2 := []) (tc := 13) (tp := 16) rfl rfl rfl (by
      intro _
      refine SK rfl rfl rfl rfl rfl ?_
      refine SK rfl rfl rfl rfl rfl ?_
      refine Go.Sx.V rfl wu rfl rfl (pk rfl rfl) ?_
      exact join rfl) (by
      intro hg
      simp at hg
      refine Go.Sx.V rfl (wg rfl rfl) rfl rfl (mv rfl) ?_
      refine Go.Sx.V rfl (wg rfl rfl) rfl rfl (eqlI rfl rfl) ?_
      refine Go.Sx.V rfl wu rfl rfl (pk rfl rfl) ?_
      exact join rfl) ?_
  refine wr_nil (post_thenN ?_)
  refine wc_cond rfl ?_ ?_
  · intro h
    rw [isz] at h
    refine wc_seq ?_
    refine wc_region [0,1] rfl ?_
    refine Go.Sx.V rfl wu rfl rfl (asg rfl) ?_
    refine Go.Sx.V rfl wu rfl rfl (asg rfl) ?_
    refine wr_nil (post_thenN (wc_ret (post_thenR ?_)))
    refine post_ret2 rfl rfl rfl ?_
    exact ⟨hE, .inl ⟨h, rfl⟩⟩
  · intro h
    obtain ⟨h0, hx⟩ := isz_f h
    obtain ⟨i, hi, eX⟩ := gen_all hpr _ h0
    have gX := hL.2 i hi
    rw [eX, inK_in hx] at gX
    have gX' : gi lg x = i := gX
    refine wc_skip (post_thenN (wc_seq ?_))
    refine wc_region [0,1,2,3,4,5,6,7,8] rfl ?_
    refine Go.Sx.V rfl wu rfl rfl (mv rfl) ?_
    refine Go.Sx.V rfl wu rfl rfl (nchk rfl) ?_
    refine Go.Sx.V rfl wu rfl rfl (fad rfl fa78_3) ?_
    refine Go.Sx.V rfl wu rfl rfl (ldB rfl na22) ?_
    refine Go.Sx.V rfl wu rfl rfl (mv rfl) ?_
    refine Go.Sx.V rfl wu rfl rfl (iadI rfl rfl ty22) ?_
    refine Go.Sx.V rfl wu rfl rfl (ldI rfl na3) ?_
    refine Go.Sx.V rfl wu rfl rfl (asg rfl) ?_
    refine Go.Sx.V rfl wu rfl rfl (asg rfl) ?_
    refine wr_nil (post_thenN (wc_ret ?_))
    refine post_ret2 rfl rfl rfl ?_
    exact ⟨hE, .inr ⟨h0, i, hi, eX, by rw [gX']⟩⟩

theorem npow_int {P : FP} {X : K P} (h : HasOrder X (n1 P)) {a b : Int} (ha : 0 ≤ a) (hb : 0 ≤ b) (hab : a % n1 P = b % n1 P) : npow X a.toNat = npow X b.toNat := by
  rw [npow_mod h.2.1 a.toNat, npow_mod h.2.1 b.toNat]
  congr 1
  have h1 : ((a.toNat % n1 P : Nat) : Int) = a % n1 P := by rw [Int.natCast_emod]; congr 1; omega
  have h2 : ((b.toNat % n1 P : Nat) : Int) = b % n1 P := by rw [Int.natCast_emod]; congr 1; omega
  omega
theorem emod_of {n k : Int} (hk : 1 ≤ k) : (if n.tmod k < 0 then n.tmod k + k else n.tmod k) = n % k := by
  have h1 := Int.emod_nonneg n (b := k) (by omega)
  have h2 := Int.emod_lt_of_pos n (b := k) (by omega)
  have hn : (k.natAbs : Int) = k := by omega
  have e := Int.tmod_eq_emod (a := n) (b := k)
  by_cases h : 0 ≤ n ∨ k ∣ n
  · rw [if_pos h] at e
    have e' : n.tmod k = n % k := by rw [e]; simp
    rw [e', if_neg (by omega)]
  · rw [if_neg h, hn] at e
    rw [e, if_pos (by omega)]
    omega

set_option maxRecDepth 10000 in
theorem tExp (P : FP) (v : Value) (b n : Int) (w : World) (hT : TBV w P v b) :
    Calls Try.prog 29 #[v, .int .i64 n] w (RetX w fun r _ => r = .int .i64 (npow (inK P b) (n % n1 P).toNat).1) := by
  have hq := hT.q
  obtain ⟨⟨tb, g, exp, log, lg, rfl, hB, hG, he, hl, hL⟩, hnz, hpr⟩ := hT
  have hpl := pows_length (inK P b) (n1 P)
  have h1 := n1_pos (P := P)
  have hn1 := n1_eq (P := P)
  have hem := emod_of (n := n) (k := (n1 P : Int)) (by omega)
  have e0 := Int.emod_nonneg n (b := (n1 P : Int)) (by omega)
  have e1 := Int.emod_lt_of_pos n (b := (n1 P : Int)) (by omega)
  refine calls2 Try.func29 rfl rfl ?_
  refine wc_seq ?_
  refine wc_region [0] rfl ?_
  refine Go.Sx.V rfl wu rfl rfl (asg rfl) ?_
  refine wr_nil (post_thenN (wc_seq ?_))
  refine wc_region [0,1,2,3,4,5] rfl ?_
  refine Go.Sx.V rfl wu rfl rfl (mv rfl) ?_
  refine Go.Sx.V rfl wu rfl rfl (nchk rfl) ?_
  refine Go.Sx.V rfl wu rfl rfl (fad rfl fa78_2) ?_
  refine Go.Sx.V rfl wu rfl rfl (ldB rfl na22 hB) ?_
  refine Go.Sx.V rfl wu rfl rfl (lenI rfl ty22) ?_
  refine Go.Sx.V rfl wu rfl rfl (asg rfl) ?_
  refine wr_nil (post_thenN (wc_seq (wc_seq ?_)))
  rw [hpl]
  refine wc_region [0,1,2,3] rfl ?_
  refine Go.Sx.V rfl wu rfl rfl (mv rfl) ?_
  refine Go.Sx.V rfl wu rfl rfl (mv rfl) ?_
  refine Go.Sx.V rfl wu rfl rfl (remT rfl rfl) ?_
  refine Go.Sx.V rfl wu rfl rfl (asg rfl) ?_
  refine wr_nil (post_thenN (wc_seq ?_))
  refine wc_region [0,1] rfl ?_
  refine Go.Sx.V rfl wu rfl rfl (mv rfl) ?_
  refine Go.Sx.V rfl wu rfl rfl (lssI rfl rfl) ?_
  refine wr_nil (post_thenN ?_)
  refine wc_cut (σ := Unit) (fun _ => [(0, .pointer (some ⟨tb, 0, none⟩)), (1, .int .i64 (n % n1 P))]) (fun _ w' => w' = w) ?_ ?_
  · skip
    refine wc_cond rfl ?_ ?_
    · intro h
      simp at h
      rw [if_pos h] at hem
      refine wc_region [0,1,2,3] rfl ?_
      refine Go.Sx.V rfl wu rfl rfl (mv rfl) ?_
      refine Go.Sx.V rfl wu rfl rfl (mv rfl) ?_
      refine Go.Sx.V rfl wu rfl rfl (addI rfl rfl) ?_
      refine Go.Sx.V rfl wu rfl rfl (asg rfl) ?_
      exact wr_nil (post_cutN () ⟨rfl, by rw [← hem]; rfl, trivial⟩ rfl)
    · intro h
      simp at h
      rw [if_neg (by omega)] at hem
      exact wc_skip (post_cutN () ⟨rfl, by rw [← hem]; rfl, trivial⟩ rfl)
  · rintro _ _ rfl
    refine wc_seq ?_
    refine wc_region [0,1,2,3,4,5,6,7] rfl ?_
    refine Go.Sx.V rfl wu rfl rfl (mv rfl) ?_
    refine Go.Sx.V rfl wu rfl rfl (nchk rfl) ?_
    refine Go.Sx.V rfl wu rfl rfl (fad rfl fa78_2) ?_
    refine Go.Sx.V rfl wu rfl rfl (ldB rfl na22 hB) ?_
    refine Go.Sx.V rfl wu rfl rfl (mv rfl) ?_
    refine Go.Sx.V rfl wu rfl rfl (iadI rfl rfl ty22) ?_
    refine Go.Sx.V rfl wu rfl rfl (ldI rfl na3) ?_
    refine Go.Sx.V rfl wu rfl rfl (asg rfl) ?_
    refine wr_nil (post_thenN (wc_ret ?_))
    refine post_ret1 rfl rfl ?_
    exact ⟨Ext.refl _, by rw [pows_get _ e0 e1]⟩

set_option maxRecDepth 10000 in
theorem tMul (P : FP) (v : Value) (b x y : Int) (w : World) (hT : TBV w P v b) :
    Calls Try.prog 31 #[v, .int .i64 x, .int .i64 y] w (RetX w fun r _ => r = .int .i64 (inK P x * inK P y).1) := by
  have hq := hT.q
  have hn1 := n1_eq (P := P)
  have hpr := hT.prim
  refine calls3 Try.func31 rfl rfl ?_
  refine wc_seq ?_
  refine wc_region [0] rfl ?_
  refine Go.Sx.V rfl wu rfl rfl (asg rfl) ?_
  refine wr_nil (post_thenN (wc_seq ?_))
  refine wc_region [0,1,2,3,4,5,6,7] rfl ?_
  refine Go.Sx.V rfl wu rfl rfl (mv rfl) ?_
  refine Go.Sx.V rfl wu rfl rfl (mv rfl) ?_
  refine C rfl wu rfl rfl Try.call28 (tLog P v b x _ hT) ?_
  rintro r w1 hE hr0
  obtain ⟨i, e, hre, hr⟩ := hr0.split
  subst hre
  refine Go.Sx.V rfl wu rfl rfl (mv rfl) ?_
  refine Go.Sx.V rfl wu rfl rfl (ext rfl rfl) ?_
  refine Go.Sx.V rfl wu rfl rfl (ext rfl rfl) ?_
  refine Go.Sx.V rfl wu rfl rfl (asg rfl) ?_
  refine Go.Sx.V rfl wu rfl rfl (asg rfl) ?_
  refine wr_nil (post_thenN (wc_seq ?_))
  refine wc_region [0,1,2,3,4,5,6,7] rfl ?_
  refine Go.Sx.V rfl wu rfl rfl (mv rfl) ?_
  refine Go.Sx.V rfl wu rfl rfl (mv rfl) ?_
  refine C rfl wu rfl rfl Try.call28 (tLog P v b y _ (hT.ext hE)) ?_
  rintro r w2 hE2 hs0
  obtain ⟨j, f, hse, hs⟩ := hs0.split
  subst hse
  replace hE := hE.trans hE2
  refine Go.Sx.V rfl wu rfl rfl (mv rfl) ?_
  refine Go.Sx.V rfl wu rfl rfl (ext rfl rfl) ?_
  refine Go.Sx.V rfl wu rfl rfl (ext rfl rfl) ?_
  refine Go.Sx.V rfl wu rfl rfl (asg rfl) ?_
  refine Go.Sx.V rfl wu rfl rfl (asg rfl) ?_
  refine wr_nil (post_thenN (wc_seq (wc_seq ?_)))
  refine wc_region [0,1,2,3,4,5] rfl ?_
  refine Go.Sx.V rfl wu rfl rfl (mv rfl) ?_
  refine Go.Sx.V rfl wu rfl rfl (neqI rfl rfl) ?_
  refine Go.Sx.V rfl wu rfl rfl (mv rfl) ?_
  refine OR (π1 := [3,4,5]) (π2 := []) (tc := 25) (tp := 28) rfl rfl rfl (by
      intro _
      refine SK rfl rfl rfl rfl rfl ?_
      refine SK rfl rfl rfl rfl rfl ?_
      refine Go.Sx.V rfl wu rfl rfl (pk rfl rfl) ?_
      exact join rfl) (by
      intro hg
      simp at hg
      refine Go.Sx.V rfl (wg rfl rfl) rfl rfl (mv rfl) ?_
      refine Go.Sx.V rfl (wg rfl rfl) rfl rfl (neqI rfl rfl) ?_
      refine Go.Sx.V rfl wu rfl rfl (pk rfl rfl) ?_
      exact join rfl) ?_
  refine wr_nil (post_thenN ?_)
  refine wc_cond rfl ?_ ?_
  · intro h
    simp at h
    refine wc_seq ?_
    refine wc_region [0] rfl ?_
    refine Go.Sx.V rfl wu rfl rfl (asg rfl) ?_
    refine wr_nil (post_thenN (wc_ret (post_thenR ?_)))
    refine post_ret1 rfl rfl ?_
    refine ⟨hE, ?_⟩
    rcases hr with ⟨h1, _⟩ | ⟨_, h1, _⟩
    · rw [h1, zero_mul]; rfl
    · rcases hs with ⟨h2, _⟩ | ⟨_, h2, _⟩
      · rw [h2, mul_zero]; rfl
      · omega
  · intro h
    simp at h
    rcases hr with ⟨_, h1, _⟩ | ⟨_, _, hi, ei⟩
    · omega
    rcases hs with ⟨_, h1, _⟩ | ⟨_, _, hj, ej⟩
    · omega
    refine wc_skip (post_thenN (wc_seq ?_))
    refine wc_region [0,1,2,3,4,5] rfl ?_
    refine Go.Sx.V rfl wu rfl rfl (mv rfl) ?_
    refine Go.Sx.V rfl wu rfl rfl (mv rfl) ?_
    refine Go.Sx.V rfl wu rfl rfl (mv rfl) ?_
    refine Go.Sx.V rfl wu rfl rfl (addI rfl rfl) ?_
    refine C rfl wu rfl rfl Try.call29 (tExp P v b ((i : Int) + j) _ (hT.ext hE)) ?_
    rintro _ w3 hE3 rfl
    refine Go.Sx.V rfl wu rfl rfl (asg rfl) ?_
    refine wr_nil (post_thenN (wc_ret ?_))
    refine post_ret1 rfl rfl ?_
    refine ⟨hE.trans hE3, ?_⟩
    have e1 : npow (inK P b) (((i : Int) + j) % n1 P).toNat = npow (inK P b) ((i : Int) + j).toNat := npow_int hpr (Int.emod_nonneg _ (by have := n1_pos (P := P); omega)) (by omega) (Int.emod_emod_of_dvd _ (Int.dvd_refl _))
    rw [e1, ← ei, ← ej, ← npow_add]
    congr 3

set_option maxRecDepth 10000 in
theorem tZech (P : FP) (v : Value) (b n : Int) (w : World) (hT : TBV w P v b) :
    Calls Try.prog 34 #[v, .int .i64 n] w (RetX w fun r _ => LogA P (inK P b) (1 + npow (inK P b) (n % n1 P).toNat) r) := by
  have hT0 := hT
  obtain ⟨⟨tb, g, exp, log, lg, rfl, hB, hG, he, hl, hL⟩, hnz, hpr⟩ := hT
  have hE := Ext.refl w
  have h1 : inK P 1 = 1 := inK_in (by have := P.q_two; omega)
  refine calls2 Try.func34 rfl rfl ?_
  refine wc_seq ?_
  refine wc_region [0,1] rfl ?_
  refine Go.Sx.V rfl wu rfl rfl (asg rfl) ?_
  refine Go.Sx.V rfl wu rfl rfl (asg rfl) ?_
  refine wr_nil (post_thenN (wc_seq ?_))
  refine wc_draw mixed [0,1,2,3,4,5,6,7,8,9,10,11,12,13] (by kernel_rfl) ?_
  intro w1 hd _
  replace hE := hE.trans hd
  refine Go.Sx.V rfl wu rfl rfl (mv rfl) ?_
  refine Go.Sx.V rfl wu rfl rfl (mv rfl) ?_
  refine Go.Sx.V rfl wu rfl rfl (nchk rfl) ?_
  refine Go.Sx.V rfl wu rfl rfl (fad rfl fa78_0) ?_
  refine Go.Sx.V rfl wu rfl rfl (ldB rfl na29 hB) ?_
  refine Go.Sx.V rfl wu rfl rfl (mv rfl) ?_
  refine Go.Sx.V rfl wu rfl rfl (mv rfl) ?_
  refine C rfl wu rfl rfl Try.call29 (tExp P _ b n _ (hT0.ext hE)) ?_
  rintro _ w2 hE2 rfl
  replace hE := hE.trans hE2
  refine C rfl wu rfl rfl Try.call56 (gAdd P g 1 _ _ (hG.ext hE)) ?_
  rintro _ w3 hE3 rfl
  replace hE := hE.trans hE3
  rw [h1, inK_val]
  refine C rfl wu rfl rfl Try.call28 (tLog P _ b _ _ (hT0.ext hE)) ?_
  rintro r w4 hE4 hr0
  replace hE := hE.trans hE4
  rw [inK_val] at hr0
  obtain ⟨i, e, hre, hr⟩ := hr0.split
  subst hre
  refine Go.Sx.V rfl wu rfl rfl (ext rfl rfl) ?_
  refine Go.Sx.V rfl wu rfl rfl (ext rfl rfl) ?_
  refine Go.Sx.V rfl wu rfl rfl (asg rfl) ?_
  refine Go.Sx.V rfl wu rfl rfl (asg rfl) ?_
  refine wr_nil (post_thenN (wc_ret ?_))
  refine post_ret2 rfl rfl rfl ?_
  exact ⟨hE, hr0⟩

set_option maxRecDepth 10000 in
theorem tAdd (P : FP) (v : Value) (b x y : Int) (w : World) (hT : TBV w P v b) :
    Calls Try.prog 36 #[v, .int .i64 x, .int .i64 y] w (RetX w fun r _ => r = .int .i64 (inK P x + inK P y).1) := by
  have hq := hT.q
  have hn1 := n1_eq (P := P)
  have hpr := hT.prim
  have h1p := n1_pos (P := P)
  have hval : ∀ z, inK P z ≠ 0 → (inK P z).1 = z := fun z hz => by
    have hin : 0 ≤ z ∧ z < P.q := Classical.byContradiction fun hc => hz (inK_out hc)
    rw [inK_in hin]
  refine calls3 Try.func36 rfl rfl ?_
  refine wc_seq ?_
  refine wc_region [0] rfl ?_
  refine Go.Sx.V rfl wu rfl rfl (asg rfl) ?_
  refine wr_nil (post_thenN (wc_seq ?_))
  refine wc_region [0,1,2,3,4,5,6,7] rfl ?_
  refine Go.Sx.V rfl wu rfl rfl (mv rfl) ?_
  refine Go.Sx.V rfl wu rfl rfl (mv rfl) ?_
  refine C rfl wu rfl rfl Try.call28 (tLog P v b x _ hT) ?_
  rintro r w1 hE hr0
  obtain ⟨i, e, hre, hr⟩ := hr0.split
  subst hre
  refine Go.Sx.V rfl wu rfl rfl (mv rfl) ?_
  refine Go.Sx.V rfl wu rfl rfl (ext rfl rfl) ?_
  refine Go.Sx.V rfl wu rfl rfl (ext rfl rfl) ?_
  refine Go.Sx.V rfl wu rfl rfl (asg rfl) ?_
  refine Go.Sx.V rfl wu rfl rfl (asg rfl) ?_
  refine wr_nil (post_thenN (wc_seq ?_))
  refine wc_region [0,1,2,3,4,5,6,7] rfl ?_
  refine Go.Sx.V rfl wu rfl rfl (mv rfl) ?_
  refine Go.Sx.V rfl wu rfl rfl (mv rfl) ?_
  refine C rfl wu rfl rfl Try.call28 (tLog P v b y _ (hT.ext hE)) ?_
  rintro r w2 hE2 hs0
  obtain ⟨j, f, hse, hs⟩ := hs0.split
  subst hse
  replace hE := hE.trans hE2
  refine Go.Sx.V rfl wu rfl rfl (mv rfl) ?_
  refine Go.Sx.V rfl wu rfl rfl (ext rfl rfl) ?_
  refine Go.Sx.V rfl wu rfl rfl (ext rfl rfl) ?_
  refine Go.Sx.V rfl wu rfl rfl (asg rfl) ?_
  refine Go.Sx.V rfl wu rfl rfl (asg rfl) ?_
  refine wr_nil (post_thenN (wc_seq (wc_block (wc_seq ?_))))
  clear hr0 hs0
  refine wc_region [0,1,2,3,4,5,6] rfl ?_
  refine Go.Sx.V rfl wu rfl rfl (mv rfl) ?_
  refine Go.Sx.V rfl wu rfl rfl (neqI rfl rfl) ?_
  refine Go.Sx.V rfl wu rfl rfl (mv rfl) ?_
  refine AND (π1 := [3,4,5]) (π2 := [6]) (tc := 27) (tp := 30) rfl rfl rfl (by
      intro hg
      simp at hg
      refine Go.Sx.V rfl (wg rfl rfl) rfl rfl (mv rfl) ?_
      refine Go.Sx.V rfl (wg rfl rfl) rfl rfl (neqI rfl rfl) ?_
      refine Go.Sx.V rfl wu rfl rfl (pk rfl rfl) ?_
      exact join rfl) (by
      intro _
      refine SK rfl rfl rfl rfl rfl ?_
      refine SK rfl rfl rfl rfl rfl ?_
      refine Go.Sx.V rfl wu rfl rfl (pk rfl rfl) ?_
      exact join rfl) ?_
  refine Go.Sx.V rfl wu rfl rfl (asg rfl) ?_
  refine wr_nil (post_thenN ?_)
  refine wc_cond rfl ?_ ?_
  · intro h
    simp at h
    refine wc_seq ?_
    refine wc_region [0] rfl ?_
    refine Go.Sx.V rfl wu rfl rfl (asg rfl) ?_
    refine wr_nil (post_thenN (wc_ret (post_blockR (post_thenR ?_))))
    refine post_ret1 rfl rfl ?_
    refine ⟨hE, ?_⟩
    rcases hr with ⟨h1, _⟩ | ⟨_, h1, _⟩
    · rcases hs with ⟨h2, _⟩ | ⟨_, h2, _⟩
      · rw [h1, h2, zero_add]; rfl
      · omega
    · omega
  · intro h
    simp at h
    refine wc_seq ?_
    refine wc_region [0,1,2] rfl ?_
    refine Go.Sx.V rfl wu rfl rfl (mv rfl) ?_
    refine Go.Sx.V rfl wu rfl rfl (neqI rfl rfl) ?_
    refine Go.Sx.V rfl wu rfl rfl (asg rfl) ?_
    refine wr_nil (post_thenN ?_)
    refine wc_cond rfl ?_ ?_
    · intro he
      simp at he
      refine wc_seq ?_
      refine wc_region [0,1] rfl ?_
      refine Go.Sx.V rfl wu rfl rfl (mv rfl) ?_
      refine Go.Sx.V rfl wu rfl rfl (asg rfl) ?_
      refine wr_nil (post_thenN (wc_ret (post_blockR (post_thenR ?_))))
      refine post_ret1 rfl rfl ?_
      refine ⟨hE, ?_⟩
      rcases hr with ⟨h1, _⟩ | ⟨_, h1, _⟩
      · rcases hs with ⟨_, h2, _⟩ | ⟨h2, _⟩
        · omega
        · rw [h1, zero_add, hval y h2]
      · omega
    · intro he
      simp at he
      refine wc_seq ?_
      refine wc_region [0,1,2] rfl ?_
      refine Go.Sx.V rfl wu rfl rfl (mv rfl) ?_
      refine Go.Sx.V rfl wu rfl rfl (neqI rfl rfl) ?_
      refine Go.Sx.V rfl wu rfl rfl (asg rfl) ?_
      refine wr_nil (post_thenN ?_)
      refine wc_cond rfl ?_ ?_
      · intro hf
        simp at hf
        refine wc_seq ?_
        refine wc_region [0,1] rfl ?_
        refine Go.Sx.V rfl wu rfl rfl (mv rfl) ?_
        refine Go.Sx.V rfl wu rfl rfl (asg rfl) ?_
        refine wr_nil (post_thenN (wc_ret (post_blockR (post_thenR ?_))))
        refine post_ret1 rfl rfl ?_
        refine ⟨hE, ?_⟩
        rcases hs with ⟨h1, _⟩ | ⟨_, h1, _⟩
        · rcases hr with ⟨_, h2, _⟩ | ⟨h2, _⟩
          · omega
          · rw [h1, add_zero, hval x h2]
        · omega
      · intro hf
        simp at hf
        rcases hr with ⟨_, h1, _⟩ | ⟨_, _, hi, ei⟩
        · omega
        rcases hs with ⟨_, h1, _⟩ | ⟨_, _, hj, ej⟩
        · omega
        have m0 := Int.emod_nonneg ((j : Int) - i) (b := (n1 P : Int)) (by omega)
        have key : npow (inK P b) i * npow (inK P b) (((j : Int) - i) % n1 P).toNat = npow (inK P b) j := by
          rw [← npow_add]
          have := npow_int hpr (a := (i : Int) + ((j : Int) - i) % n1 P) (b := (j : Int)) (by omega) (by omega) (by rw [Int.add_emod, Int.emod_emod_of_dvd _ (Int.dvd_refl _), ← Int.add_emod]; congr 1; omega)
          rw [show ((i : Int) + ((j : Int) - i) % n1 P).toNat = i + (((j : Int) - i) % n1 P).toNat by omega, Int.toNat_natCast] at this
          exact this
        refine wc_skip (post_blockN (post_thenN (wc_seq ?_)))
        refine wc_region [0,1,2,3,4,5,6,7,8,9] rfl ?_
        refine Go.Sx.V rfl wu rfl rfl (mv rfl) ?_
        refine Go.Sx.V rfl wu rfl rfl (mv rfl) ?_
        refine Go.Sx.V rfl wu rfl rfl (mv rfl) ?_
        refine Go.Sx.V rfl wu rfl rfl (subI rfl rfl) ?_
        refine C rfl wu rfl rfl Try.call34 (tZech P v b ((j : Int) - i) _ (hT.ext hE)) ?_
        rintro r w3 hE3 hz0
        obtain ⟨z, ez, hze, hz⟩ := hz0.split
        subst hze
        replace hE := hE.trans hE3
        refine Go.Sx.V rfl wu rfl rfl (mv rfl) ?_
        refine Go.Sx.V rfl wu rfl rfl (ext rfl rfl) ?_
        refine Go.Sx.V rfl wu rfl rfl (ext rfl rfl) ?_
        refine Go.Sx.V rfl wu rfl rfl (asg rfl) ?_
        refine Go.Sx.V rfl wu rfl rfl (asg rfl) ?_
        refine wr_nil (post_thenN (wc_seq (wc_seq ?_)))
        clear hz0
        refine wc_region [0,1] rfl ?_
        refine Go.Sx.V rfl wu rfl rfl (mv rfl) ?_
        refine Go.Sx.V rfl wu rfl rfl (neqI rfl rfl) ?_
        refine wr_nil (post_thenN ?_)
        refine wc_cond rfl ?_ ?_
        · intro hk
          simp at hk
          refine wc_seq ?_
          refine wc_region [0] rfl ?_
          refine Go.Sx.V rfl wu rfl rfl (asg rfl) ?_
          refine wr_nil (post_thenN (wc_ret (post_thenR ?_)))
          refine post_ret1 rfl rfl ?_
          refine ⟨hE, ?_⟩
          rcases hz with ⟨h1, _⟩ | ⟨_, h1, _⟩
          · have : npow (inK P b) i * (1 + npow (inK P b) (((j : Int) - i) % n1 P).toNat) = 0 := by rw [h1, mul_zero]
            rw [mul_add, mul_one, key, ei, ej] at this
            rw [this]
            rfl
          · omega
        · intro hk
          simp at hk
          rcases hz with ⟨_, h1, _⟩ | ⟨_, _, hzl, ez'⟩
          · omega
          refine wc_skip (post_thenN (wc_seq ?_))
          refine wc_region [0,1,2,3,4,5] rfl ?_
          refine Go.Sx.V rfl wu rfl rfl (mv rfl) ?_
          refine Go.Sx.V rfl wu rfl rfl (mv rfl) ?_
          refine Go.Sx.V rfl wu rfl rfl (mv rfl) ?_
          refine Go.Sx.V rfl wu rfl rfl (addI rfl rfl) ?_
          refine C rfl wu rfl rfl Try.call29 (tExp P v b ((i : Int) + z) _ (hT.ext hE)) ?_
          rintro _ w4 hE4 rfl
          refine Go.Sx.V rfl wu rfl rfl (asg rfl) ?_
          refine wr_nil (post_thenN (wc_ret ?_))
          refine post_ret1 rfl rfl ?_
          refine ⟨hE.trans hE4, ?_⟩
          have e1 : npow (inK P b) (((i : Int) + z) % n1 P).toNat = npow (inK P b) ((i : Int) + z).toNat := npow_int hpr (Int.emod_nonneg _ (by omega)) (by omega) (Int.emod_emod_of_dvd _ (Int.dvd_refl _))
          rw [e1, show ((i : Int) + z).toNat = i + z by omega, npow_add, ez', mul_add, mul_one, key, ei, ej]
end Go.Proofs.Ytmookiiehfdloaa
