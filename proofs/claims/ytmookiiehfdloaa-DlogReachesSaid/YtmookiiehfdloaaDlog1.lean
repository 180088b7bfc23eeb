/-
  Orders of elements with their proofs, and the check of a proof, by contract.
-/
import Derived.Test.YtmookiiehfdloaaDlogP
import Derived.Test.YtmookiiehfdloaaNum2
import Derived.Test.YtmookiiehfdloaaGF2
import Derived.Test.YtmookiiehfdloaaRef7
namespace Go.Proofs.Ytmookiiehfdloaa
open Go Go.Sx Go.Pl Go.RowKit Go.Fd Go.Alg Go.Nm

theorem infoOP : Try.prog.info? 26 = some Try.t26 := by kernel_rfl
theorem zv26 : ZV Try.prog 26 [.int .i64 0, .slice none 0 0] := fun w => ⟨_, by simp [zeroValue, typeInfo, infoOP]; rfl, rfl⟩
theorem sv26 : ∀ w, (sizeOf 26).run Try.prog w = .ok 2 w := fun w => by simp [sizeOf, typeInfo, infoOP]; rfl
theorem ag26 : AG Try.prog 26 2 := ⟨fun w => by simp [isAgg, run_underlying Try.underlying26], sv26⟩
theorem fa26_0 : FA Try.prog 26 0 0 := fun a w => by
  simp [Instr.fieldAt, run_underlying Try.underlying26, Instr.sureAddr, fieldPlace]
theorem fa26_1 : FA Try.prog 26 1 1 := fun a w => by
  simp [Instr.fieldAt, run_underlying Try.underlying26, Instr.sureAddr, fieldPlace]
theorem bdOP (n : Int) (v : Value) (hv : v.cells = #[v]) : ∀ w, (Instr.build 26 #[(0, .int .i64 n), (1, v)]).run Try.prog w = .ok (.agg #[.int .i64 n, v]) w := fun w => by
  obtain ⟨zv, h1, h2⟩ := zv26 w
  simp [Instr.build, h1, h2, run_underlying Try.underlying26, szI1, szSl, Instr.fill, cells_i, hv]
theorem bdOP0 : ∀ w, (Instr.build 26 #[]).run Try.prog w = .ok (.agg #[.int .i64 0, .slice none 0 0]) w := fun w => by
  obtain ⟨zv, h1, h2⟩ := zv26 w
  simp [Instr.build, h1, h2, run_underlying Try.underlying26, szI1, szSl, Instr.fill]
theorem bdOP1 (n : Int) : ∀ w, (Instr.build 26 #[(0, .int .i64 n)]).run Try.prog w = .ok (.agg #[.int .i64 n, .slice none 0 0]) w := fun w => by
  obtain ⟨zv, h1, h2⟩ := zv26 w
  simp [Instr.build, h1, h2, run_underlying Try.underlying26, szI1, szSl, Instr.fill, cells_i]
theorem one_ints {w : World} {v : Value} {zs : List Int} (h : Ints w v zs) : v.oneCell' = true := by
  obtain ⟨⟨a, c, rfl, _⟩, _⟩ := h
  rfl

theorem list_ne_at {a b : List Int} {i : Nat} (h : a.getD i 0 ≠ b.getD i 0) : a ≠ b := fun e => h (by rw [e])
theorem list_eq_all {a b : List Int} (hl : a.length = b.length) (h : ∀ j : Nat, j < a.length → a.getD j 0 = b.getD j 0) : a = b := by
  rw [list_tab a, list_tab b, ← hl]
  exact tab_congr h

set_option maxRecDepth 10000 in
theorem sEqual (u v : Value) (a b : List Int) (w : World) (hu : Ints w u a) (hv : Ints w v b) :
    Calls Try.prog 42 #[u, v] w (RetX w fun r _ => r = .bool (decide (a = b))) := by
  have hla := hu.le
  have hlb := hv.le
  refine calls2 Try.func42 rfl rfl ?_
  refine wc_seq ?_
  refine wc_region [0] rfl ?_
  refine Go.Sx.V rfl wu rfl rfl (asg rfl) ?_
  refine wr_nil (post_thenN (wc_seq (wc_seq ?_)))
  refine wc_region [0,1,2,3,4] rfl ?_
  refine Go.Sx.V rfl wu rfl rfl (mv rfl) ?_
  refine Go.Sx.V rfl wu rfl rfl (lenI rfl ty22) ?_
  refine Go.Sx.V rfl wu rfl rfl (mv rfl) ?_
  refine Go.Sx.V rfl wu rfl rfl (lenI rfl ty22) ?_
  refine Go.Sx.V rfl wu rfl rfl (neqI rfl rfl) ?_
  refine wr_nil (post_thenN ?_)
  refine wc_cond rfl ?_ ?_
  · intro h
    simp at h
    refine wc_seq ?_
    refine wc_region [0] rfl ?_
    refine Go.Sx.V rfl wu rfl rfl (asg rfl) ?_
    refine wr_nil (post_thenN (wc_ret (post_thenR ?_)))
    refine post_ret1 rfl rfl ?_
    have : a ≠ b := fun e => h (by rw [e])
    exact ⟨Ext.refl _, by simp [this]⟩
  · intro h
    simp at h
    refine wc_skip (post_thenN (wc_seq (wc_seq ?_)))
    refine wc_region [0,1,2] rfl ?_
    refine Go.Sx.V rfl wu rfl rfl (mv rfl) ?_
    refine Go.Sx.V rfl wu rfl rfl (lenI rfl ty22) ?_
    refine Go.Sx.V rfl wu rfl rfl (mv rfl) ?_
    refine wr_nil (post_thenN (wc_block ?_))
    refine wc_loop (fun i : Int => [(0, u), (1, v), (12, .int .i64 a.length), (13, .int .i64 i)])
      (fun i w' => 0 ≤ i ∧ i ≤ a.length ∧ Ext w w' ∧ ∀ j : Nat, (j : Int) < i → a.getD j 0 = b.getD j 0) (fun i => (a.length - i).toNat) 0 ⟨rfl, rfl, rfl, rfl, trivial⟩ ⟨by omega, by omega, Ext.refl _, fun j hj => by omega⟩ ?_
    rintro i w1 ⟨i0, i1, hE, hq⟩
    try dsimp only
    refine wc_seq ?_
    refine wc_region [0] rfl ?_
    refine Go.Sx.V rfl wu rfl rfl (lssI rfl rfl) ?_
    refine wr_nil (post_thenN (wc_seq ?_))
    refine wc_cond rfl ?_ ?_
    · intro hi
      simp at hi
      refine wc_skip (post_thenN (wc_seq (wc_block (wc_seq ?_))))
      refine wc_region [0,1] rfl ?_
      refine Go.Sx.V rfl wu rfl rfl (mv rfl) ?_
      refine Go.Sx.V rfl wu rfl rfl (asg rfl) ?_
      refine wr_nil (post_thenN (wc_seq ?_))
      refine wc_draw mixed [0,1,2,3,4,5,6,7,8] (by kernel_rfl) ?_
      intro w2 hd _
      replace hE := hE.trans hd
      refine Go.Sx.V rfl wu rfl rfl (mv rfl) ?_
      refine Go.Sx.V rfl wu rfl rfl (mv rfl) ?_
      refine Go.Sx.V rfl wu rfl rfl (iadI rfl rfl ty22) ?_
      refine Go.Sx.V rfl wu rfl rfl (ldI rfl na3) ?_
      refine Go.Sx.V rfl wu rfl rfl (mv rfl) ?_
      refine Go.Sx.V rfl wu rfl rfl (mv rfl) ?_
      refine Go.Sx.V rfl wu rfl rfl (iadI rfl rfl ty22) ?_
      refine Go.Sx.V rfl wu rfl rfl (ldI rfl na3) ?_
      refine Go.Sx.V rfl wu rfl rfl (neqI rfl rfl) ?_
      refine wr_nil (post_thenN ?_)
      refine wc_cond rfl ?_ ?_
      · intro hn
        simp at hn
        refine wc_seq ?_
        refine wc_region [0] rfl ?_
        refine Go.Sx.V rfl wu rfl rfl (asg rfl) ?_
        refine wr_nil (post_thenN (wc_ret (post_blockR (post_thenR (post_loopR (post_blockR (post_thenR ?_)))))))
        refine post_ret1 rfl rfl ?_
        have : a ≠ b := list_ne_at (i := i.toNat) hn
        exact ⟨hE, by simp [this]⟩
      · intro hn
        simp at hn
        refine wc_skip (post_blockN (post_thenN ?_))
        refine wc_region [0,1] rfl ?_
        refine Go.Sx.V rfl wu rfl rfl (addI rfl rfl) ?_
        refine Go.Sx.V rfl wu rfl rfl (mv rfl) ?_
        refine wr_nil ?_
        exact post_loopN (i + 1) ⟨rfl, rfl, rfl, rfl, trivial⟩ ⟨by omega, by omega, hE, fun j hj => (by
          by_cases e : j = i.toNat
          · rw [e]; exact hn
          · exact hq j (by omega))⟩ (by omega)
    · intro hi
      simp at hi
      refine wc_exit (post_thenE (post_loopE (post_blockX (post_thenN (wc_seq ?_)))))
      refine wc_region [0] rfl ?_
      refine Go.Sx.V rfl wu rfl rfl (asg rfl) ?_
      refine wr_nil (post_thenN (wc_ret ?_))
      refine post_ret1 rfl rfl ?_
      have : a = b := list_eq_all (by omega) fun j hj => hq j (by omega)
      exact ⟨hE, by simp [this]⟩

/-- What Order answers. -/
def OrdA (w : World) (P : FP) (x : Int) (v : Value) : Prop :=
  (inK P x = 0 ∧ v = .tuple #[.agg #[.int .i64 0, .slice none 0 0], .int .i64 7]) ∨
  (inK P x ≠ 0 ∧ ∃ (m : Nat) (s : Value), HasOrder (inK P x) m ∧ (m : Int) ≤ P.q - 1 ∧ v = .tuple #[.agg #[.int .i64 m, s], .int .i64 0] ∧ Ints w s (prs m))
theorem mul_split {P : FP} {x : Int} {v : Value} (h : (inK P x = 0 ∧ v = .int .i64 0) ∨ (inK P x ≠ 0 ∧ ∃ m : Nat, HasOrder (inK P x) m ∧ v = .int .i64 m)) : ∃ m : Nat, v = .int .i64 m ∧ ((inK P x = 0 ∧ m = 0) ∨ (inK P x ≠ 0 ∧ HasOrder (inK P x) m)) := by
  rcases h with ⟨h1, h2⟩ | ⟨h1, m, h2, h3⟩
  · exact ⟨0, h2, .inl ⟨h1, rfl⟩⟩
  · exact ⟨m, h3, .inr ⟨h1, h2⟩⟩
theorem isz {P : FP} {x : Int} : ((!(decide (0 ≤ x) && decide (x < P.q))) || decide (x = 0)) = true ↔ inK P x = 0 := by
  by_cases h : 0 ≤ x ∧ x < P.q
  · rw [inK_in h]
    simp only [h.1, h.2, decide_true, Bool.and_self, Bool.not_true, Bool.false_or, decide_eq_true_eq]
    exact ⟨fun e => Subtype.ext e, fun e => congrArg Subtype.val e⟩
  · rw [inK_out h]
    have : (decide (0 ≤ x) && decide (x < P.q)) = false := by
      cases hb : (decide (0 ≤ x) && decide (x < P.q))
      · rfl
      · simp at hb; exact absurd hb h
    simp [this]

set_option maxRecDepth 10000 in
theorem dOrder (P : FP) (g : Value) (x : Int) (w : World) (hG : GFV w P g) :
    Calls Try.prog 21 #[g, .int .i64 x] w (RetX w fun v w' => OrdA w' P x v) := by
  have hn1 := n1_eq (P := P)
  have hq := hG.q
  have hq2 := P.q_two
  obtain ⟨x0, hx0⟩ := hG.gen
  refine calls2 Try.func21 rfl rfl ?_
  refine wc_seq ?_
  refine wc_region [0,1] rfl ?_
  refine AL rfl wu rfl zv26 ?_
  intro b w1 hE hB hb
  refine Go.Sx.V rfl wu rfl rfl (asg rfl) ?_
  refine wr_nil (post_thenN (wc_seq (wc_seq ?_)))
  refine wc_region [0,1,2,3,4,5,6,7] rfl ?_
  refine Go.Sx.V rfl wu rfl rfl (mv rfl) ?_
  refine Go.Sx.V rfl wu rfl rfl (mv rfl) ?_
  refine C rfl wu rfl rfl Try.call40 (gIs P g x _ (hG.ext hE)) ?_
  rintro _ w2 hE2 rfl
  replace hE := hE.trans hE2
  replace hB := hB.ext hE2
  refine Go.Sx.V rfl wu rfl rfl (notB rfl) ?_
  refine Go.Sx.V rfl wu rfl rfl (mv rfl) ?_
  refine OR (π1 := [5,6,7]) (π2 := []) (tc := 15) (tp := 18) rfl rfl rfl (by
      intro _
      refine SK rfl rfl rfl rfl rfl ?_
      refine SK rfl rfl rfl rfl rfl ?_
      refine Go.Sx.V rfl wu rfl rfl (pk rfl rfl) ?_
      exact join rfl) (by
      intro hg
      simp at hg
      refine Go.Sx.V rfl (wg rfl rfl) rfl rfl (mv rfl) ?_
      refine Go.Sx.V rfl (wg rfl rfl) rfl rfl (eqlI rfl rfl) ?_
      refine Go.Sx.V rfl wu rfl rfl (pk rfl rfl) ?_
      exact join rfl) ?_
  refine wr_nil (post_thenN ?_)
  refine wc_cond rfl ?_ ?_
  · intro h
    rw [isz] at h
    refine wc_seq ?_
    refine wc_region [0,1,2] rfl ?_
    refine Go.Sx.V rfl wu rfl rfl (bld (us := []) (r := [.int .i64 0, .slice none 0 0]) rfl bdOP0) ?_
    refine STB (vs := [.int .i64 0, .slice none 0 0]) (cs' := [.int .i64 0, .slice none 0 0]) rfl wu rfl rfl rfl sv26 (by intro h; cases h) (by assumption) (by first | (simp [Value.oneCell']; done) | (intro v hv; simp only [List.mem_cons, List.not_mem_nil, or_false] at hv; rcases hv with rfl | rfl | rfl <;> first | rfl | assumption) | (intro v hv; simp only [List.mem_cons, List.not_mem_nil, or_false] at hv; rcases hv with rfl | rfl <;> first | rfl | assumption)) rfl rfl rfl ?_
    intro w3 hg hX hB2
    refine Go.Sx.V rfl wu rfl rfl (asg rfl) ?_
    refine wr_nil (post_thenN (wc_ret (post_thenR ?_)))
    refine post_retC2 rfl rfl rfl ag26 hB2 rfl ?_
    exact ⟨hX _ hb hE, .inl ⟨h, rfl⟩⟩
  · intro h
    have hX0 : inK P x ≠ 0 := fun e => by rw [isz.2 e] at h; cases h
    have hxin : 0 ≤ x ∧ x < P.q := Classical.byContradiction fun hc => hX0 (inK_out hc)
    obtain ⟨X, hX⟩ : ∃ X, X = inK P x := ⟨_, rfl⟩
    rw [← hX] at hX0
    refine wc_skip (post_thenN (wc_seq ?_))
    refine wc_region [0,1,2,3] rfl ?_
    refine Go.Sx.V rfl wu rfl rfl (mv rfl) ?_
    refine C rfl wu rfl rfl Try.call41 (gOrder P g _ (hG.ext hE)) ?_
    rintro _ w3 hE3 rfl
    replace hE := hE.trans hE3
    replace hB := hB.ext hE3
    refine Go.Sx.V rfl wu rfl rfl (subI rfl rfl) ?_
    refine Go.Sx.V rfl wu rfl rfl (asg rfl) ?_
    refine wr_nil (post_thenN (wc_seq (wc_seq ?_)))
    refine wc_region [0,1,2,3] rfl ?_
    refine Go.Sx.V rfl wu rfl rfl (mv rfl) ?_
    refine C rfl wu rfl rfl Try.call43 (dPrimes (P.q - 1) _ (by omega)) ?_
    rintro ps w4 hE4 hpso
    have hps := OwnI.ints hpso
    replace hE := hE.trans hE4
    replace hB := hB.ext hE4
    refine Go.Sx.V rfl wu rfl rfl (lenI rfl ty22) ?_
    refine Go.Sx.V rfl wu rfl rfl (mv rfl) ?_
    refine wr_nil (post_thenN (wc_block ?_))
    have hpl := prs_length (P.q - 1) (by omega)
    refine wc_loop (fun q : Int × Nat => [(0, g), (1, .int .i64 x), (4, .pointer (some ⟨b, 0, none⟩)), (6, .int .i64 q.2), (24, ps), (25, .int .i64 (prs (P.q - 1)).length), (26, .int .i64 q.1)])
      (fun q w' => 0 ≤ q.1 ∧ q.1 ≤ (prs (P.q - 1)).length ∧ 1 ≤ q.2 ∧ q.2 ∣ n1 P ∧ npow X q.2 = 1 ∧ Ext w4 w' ∧ ∀ j : Nat, (j : Int) < q.1 → GoodAt X q.2 (gi (prs (P.q - 1)) j).toNat) (fun q => ((prs (P.q - 1)).length - q.1).toNat) (0, n1 P)
      ⟨rfl, rfl, rfl, by rw [← hn1]; rfl, rfl, rfl, rfl, trivial⟩ ⟨Int.le_refl _, by show (0 : Int) ≤ (prs (P.q - 1)).length; omega, n1_pos, Nat.dvd_refl _, pow_n1 hx0 hX0, Ext.refl _, fun j hj => by have : (j : Int) < 0 := hj; omega⟩ ?_
    rintro ⟨i, n⟩ w5 ⟨i0, i1, n0, hnd, hpw, hE5, hgd⟩
    dsimp only at i0 i1 n0 hnd hpw hE5 hgd
    try dsimp only
    refine wc_seq ?_
    refine wc_region [0] rfl ?_
    refine Go.Sx.V rfl wu rfl rfl (lssI rfl rfl) ?_
    refine wr_nil (post_thenN (wc_seq ?_))
    refine wc_cond rfl ?_ ?_
    · intro hi
      simp at hi
      have hmem : gi (prs (P.q - 1)) i ∈ prs (n1 P) := by
        rw [hn1]
        have hk : i.toNat < (prs (P.q - 1)).length := by omega
        have : gi (prs (P.q - 1)) i = (prs (P.q - 1))[i.toNat] := by simp [gi, hk]
        rw [this]
        exact List.getElem_mem _
      obtain ⟨r2, rl, rd⟩ := prs_two hmem
      refine wc_skip (post_thenN (wc_seq (wc_block (wc_seq ?_))))
      refine wc_region [0,1,2] rfl ?_
      refine Go.Sx.V rfl wu rfl rfl (iadI rfl rfl ty22) ?_
      refine Go.Sx.V rfl wu rfl rfl (ldI rfl na3) ?_
      refine Go.Sx.V rfl wu rfl rfl (asg rfl) ?_
      refine wr_nil (post_thenN (wc_block ?_))
      obtain ⟨r, hr⟩ : ∃ r, r = gi (prs (P.q - 1)) i := ⟨_, rfl⟩
      rw [← hr] at hmem r2 rl rd ⊢
      refine wc_loop (fun m : Nat => [(0, g), (1, .int .i64 x), (4, .pointer (some ⟨b, 0, none⟩)), (6, .int .i64 m), (8, .int .i64 r), (24, ps), (25, .int .i64 (prs (P.q - 1)).length), (26, .int .i64 i)])
        (fun m w' => 1 ≤ m ∧ m ∣ n1 P ∧ npow X m = 1 ∧ Ext w4 w' ∧ ∀ j : Nat, (j : Int) < i → GoodAt X m (gi (prs (P.q - 1)) j).toNat) (fun m => m) n
        ⟨rfl, rfl, rfl, rfl, rfl, rfl, rfl, rfl, trivial⟩ ⟨n0, hnd, hpw, hE5, hgd⟩ ?_
      clear n0 hnd hpw hE5 hgd
      rintro m w6 ⟨m0, hmd, hpw, hE6, hgd⟩
      have hml := Nat.le_of_dvd n1_pos hmd
      have hdiv := dvd_nat (a := (m : Int)) (b := r) (by omega) (by omega)
      have hdq := div_nat (a := (m : Int)) (b := r) (by omega) (by omega)
      rw [Int.toNat_natCast] at hdiv hdq
      have next : GoodAt X m r.toNat → ∀ j : Nat, (j : Int) < i + 1 → GoodAt X m (gi (prs (P.q - 1)) j).toNat := fun h j hj => by
        by_cases e : (j : Int) = i
        · rw [e, ← hr]; exact h
        · exact hgd j (by omega)
      try dsimp only
      refine wc_seq (wc_seq ?_)
      refine wc_region [0,1,2,3] rfl ?_
      refine Go.Sx.V rfl wu rfl rfl (mv rfl) ?_
      refine Go.Sx.V rfl wu rfl rfl (mv rfl) ?_
      refine Go.Sx.V rfl wu rfl rfl (remI rfl rfl) ?_
      refine Go.Sx.V rfl wu rfl rfl (eqlI rfl rfl) ?_
      refine wr_nil (post_thenN ?_)
      refine wc_cond rfl ?_ ?_
      · intro hc
        simp at hc
        have hrm := hdiv.2 hc
        have hq0 : 0 ≤ (m : Int) / r := Int.ediv_nonneg (by omega) (by omega)
        have hql : (m : Int) / r ≤ m := Int.ediv_le_self _ (by omega)
        have hpa := powA_nat hx0 hX0 hq0
        refine wc_skip (post_thenN (wc_block (wc_seq (wc_seq ?_))))
        refine wc_region [0,1,2,3,4,5,6,7,8,9,10] rfl ?_
        refine Go.Sx.V rfl wu rfl rfl (mv rfl) ?_
        refine Go.Sx.V rfl wu rfl rfl (mv rfl) ?_
        refine Go.Sx.V rfl wu rfl rfl (mv rfl) ?_
        refine Go.Sx.V rfl wu rfl rfl (mv rfl) ?_
        refine Go.Sx.V rfl wu rfl rfl (quoI rfl rfl) ?_
        refine C rfl wu rfl rfl Try.call16 (gPow P g x ((m : Int) / r) _ (hG.ext ((hE.trans hE6)))) ?_
        rintro _ w7 hE7 rfl
        rw [← hX, hpa]
        replace hE6 := hE6.trans hE7
        refine Go.Sx.V rfl wu rfl rfl (mv rfl) ?_
        refine Go.Sx.V rfl wu rfl rfl (ext rfl rfl) ?_
        refine Go.Sx.V rfl wu rfl rfl (ext rfl rfl) ?_
        refine Go.Sx.V rfl wu rfl rfl (asg rfl) ?_
        refine Go.Sx.V rfl wu rfl rfl (asg rfl) ?_
        refine wr_nil (post_thenN (wc_seq ?_))
        refine wc_region [0,1] rfl ?_
        refine Go.Sx.V rfl wu rfl rfl (mv rfl) ?_
        refine Go.Sx.V rfl wu rfl rfl (neqI rfl rfl) ?_
        refine wr_nil (post_thenN ?_)
        refine wc_cond rfl ?_ ?_
        · intro hy
          simp at hy
          refine wc_exit (post_thenE (post_blockE rfl (post_loopE (post_blockX (post_blockN (post_thenN ?_))))))
          refine wc_region [0,1] rfl ?_
          refine Go.Sx.V rfl wu rfl rfl (addI rfl rfl) ?_
          refine Go.Sx.V rfl wu rfl rfl (mv rfl) ?_
          refine wr_nil ?_
          refine post_loopN (i + 1, m) ⟨rfl, rfl, rfl, rfl, rfl, rfl, rfl, trivial⟩ ⟨by show 0 ≤ i + 1; omega, by show i + 1 ≤ _; omega, m0, hmd, hpw, hE6, next fun _ he => hy ?_⟩ (by show ((prs (P.q - 1)).length - (i + 1)).toNat < ((prs (P.q - 1)).length - i).toNat; omega)
          rw [show ((m : Int) / r).toNat = m / r.toNat by omega, he]
          rfl
        · intro hy
          simp at hy
          have hy1 : npow X ((m : Int) / r).toNat = 1 := Subtype.ext hy
          rw [show ((m : Int) / r).toNat = m / r.toNat by omega] at hy1
          have hlt : m / r.toNat < m := Nat.div_lt_self (by omega) (by omega)
          have hpos : 1 ≤ m / r.toNat := Nat.div_pos (Nat.le_of_dvd (by omega) hrm) (by omega)
          refine wc_skip (post_thenN ?_)
          refine wc_region [0,1,2,3] rfl ?_
          refine Go.Sx.V rfl wu rfl rfl (mv rfl) ?_
          refine Go.Sx.V rfl wu rfl rfl (mv rfl) ?_
          refine Go.Sx.V rfl wu rfl rfl (quoI rfl rfl) ?_
          refine Go.Sx.V rfl wu rfl rfl (asg rfl) ?_
          refine wr_nil (post_blockN ?_)
          exact post_loopN (m / r.toNat) ⟨rfl, rfl, rfl, by rw [hdq]; rfl, rfl, rfl, rfl, rfl, trivial⟩ ⟨hpos, Nat.dvd_trans (Nat.div_dvd_of_dvd hrm) hmd, hy1, hE6, fun j hj => good_div (hgd j hj) hrm (by omega)⟩ hlt
      · intro hc
        simp at hc
        refine wc_exit (post_thenE (post_loopE (post_blockX (post_blockN (post_thenN ?_)))))
        refine wc_region [0,1] rfl ?_
        refine Go.Sx.V rfl wu rfl rfl (addI rfl rfl) ?_
        refine Go.Sx.V rfl wu rfl rfl (mv rfl) ?_
        refine wr_nil ?_
        exact post_loopN (i + 1, m) ⟨rfl, rfl, rfl, rfl, rfl, rfl, rfl, trivial⟩ ⟨by show 0 ≤ i + 1; omega, by show i + 1 ≤ _; omega, m0, hmd, hpw, hE6, next fun h => absurd (hdiv.1 h) hc⟩ (by show ((prs (P.q - 1)).length - (i + 1)).toNat < ((prs (P.q - 1)).length - i).toNat; omega)
    · intro hi
      simp at hi
      have hml := Nat.le_of_dvd n1_pos hnd
      have hho : HasOrder X n := final_order (by omega) hpw hnd n1_pos fun r hr => by
        rw [hn1] at hr
        obtain ⟨j, hj, he⟩ := List.mem_iff_getElem.1 hr
        have h1 := hgd j (by omega)
        have h2 : gi (prs (P.q - 1)) j = r := by simp [gi, hj, he]
        rw [h2, Int.toNat_natCast] at h1
        exact h1
      replace hE := hE.trans hE5
      replace hB := hB.ext hE5
      refine wc_exit (post_thenE (post_loopE (post_blockX (post_thenN (wc_seq ?_)))))
      refine wc_region [0,1,2,3,4,5] rfl ?_
      refine Go.Sx.V rfl wu rfl rfl (mv rfl) ?_
      refine Go.Sx.V rfl wu rfl rfl (mv rfl) ?_
      refine C rfl wu rfl rfl Try.call43 (dPrimes (n : Int) _ (by omega)) ?_
      rintro s w6 hE6 hso1
      have hs := OwnI.ints hso1
      have hbl := hB.lt
      replace hE := hE.trans hE6
      replace hB := hB.ext hE6
      have hso := one_ints hs
      refine Go.Sx.V rfl wu rfl rfl (bld (us := [.int .i64 n, s]) (r := [.int .i64 n, s]) rfl (bdOP _ s (cells_ints hs))) ?_
      refine STB (vs := [.int .i64 n, s]) (cs' := [.int .i64 n, s]) rfl wu rfl rfl rfl sv26 (by intro h; cases h) (by assumption) (by first | (simp [Value.oneCell']; done) | (intro v hv; simp only [List.mem_cons, List.not_mem_nil, or_false] at hv; rcases hv with rfl | rfl | rfl <;> first | rfl | assumption) | (intro v hv; simp only [List.mem_cons, List.not_mem_nil, or_false] at hv; rcases hv with rfl | rfl <;> first | rfl | assumption)) rfl rfl rfl ?_
      intro w7 hg hX7 hB2
      refine Go.Sx.V rfl wu rfl rfl (asg rfl) ?_
      refine wr_nil (post_thenN (wc_ret ?_))
      have hsn : s.ownBlock ≠ some b := fun e => by
        have := (Own.lt hso1 b e).1
        omega
      refine post_retC2 rfl rfl rfl ag26 hB2 rfl ?_
      exact ⟨hX7 _ hb hE, .inr ⟨by rw [← hX]; exact hX0, n, s, by rw [← hX]; exact hho, by omega, rfl, hs.kept hg hsn⟩⟩

/-- A proof is right. -/
def OkO (P : FP) (x o : Int) (l : List Int) : Prop := inK P x ≠ 0 ∧ 1 ≤ o ∧ HasOrder (inK P x) o.toNat ∧ l = prs o
theorem OkO.le {P : FP} {x o : Int} {l : List Int} (h : OkO P x o l) (hg : ∃ g : K P, HasOrder g (n1 P)) : o ≤ P.q - 1 := by
  obtain ⟨g, hg⟩ := hg
  have hn1 := n1_eq (P := P)
  obtain ⟨m, hm, hd⟩ := ex_order hg h.1
  have := HasOrder.unique hm h.2.2.1
  have := ord_le hd
  have := h.2.1
  omega

theorem ord_split {w : World} {P : FP} {x : Int} {v : Value} (h : OrdA w P x v) : ∃ (o : Int) (s : Value) (e : Int) (ls : List Int), v = .tuple #[.agg #[.int .i64 o, s], .int .i64 e] ∧ s.oneCell' = true ∧ Ints w s ls ∧
    ((inK P x = 0 ∧ e = 7 ∧ o = 0 ∧ ls = []) ∨ (inK P x ≠ 0 ∧ e = 0 ∧ 1 ≤ o ∧ o ≤ P.q - 1 ∧ HasOrder (inK P x) o.toNat ∧ ls = prs o)) := by
  rcases h with ⟨h1, h2⟩ | ⟨h1, m, s, h2, h3, h4, h5⟩
  · exact ⟨0, _, 7, [], h2, rfl, Ints.nil _, .inl ⟨h1, rfl, rfl, rfl⟩⟩
  · exact ⟨m, s, 0, _, h4, one_ints h5, h5, .inr ⟨h1, rfl, by have := h2.1; omega, h3, by rw [Int.toNat_natCast]; exact h2, rfl⟩⟩
set_option maxRecDepth 10000 in
theorem dCheck (P : FP) (g : Value) (x o : Int) (s : Value) (l : List Int) (w : World) (hG : GFV w P g) (hs : Ints w s l) :
    Calls Try.prog 14 #[g, .int .i64 x, .agg #[.int .i64 o, s]] w (RetX w fun v _ => (v = .int .i64 0 ∧ OkO P x o l) ∨ (v = .int .i64 13 ∧ ¬ OkO P x o l)) := by
  have hn1 := n1_eq (P := P)
  have hq := hG.q
  have hq2 := P.q_two
  have hgen := hG.gen
  obtain ⟨x0, hx0⟩ := hgen
  refine calls3 Try.func14 rfl rfl ?_
  refine wc_seq ?_
  refine wc_region [0,1] rfl ?_
  refine BXA rfl wu rfl rfl ?_
  intro b w1 hE hB hb
  refine Go.Sx.V rfl wu rfl rfl (asg rfl) ?_
  refine wr_nil (post_thenN (wc_seq (wc_seq ?_)))
  refine wc_draw mixed [0,1,2,3,4,5,6,7,8,9,10,11,12,13,14,15,16,17,18,19,20,21,22,23,24,25,26,27,28] (by kernel_rfl) ?_
  intro w2 hd _
  replace hE := hE.trans hd
  replace hB := hB.ext hd
  refine Go.Sx.V rfl wu rfl rfl (mv rfl) ?_
  refine Go.Sx.V rfl wu rfl rfl (mv rfl) ?_
  refine C rfl wu rfl rfl Try.call40 (gIs P g x _ (hG.ext hE)) ?_
  rintro _ w3 hE3 rfl
  replace hE := hE.trans hE3
  replace hB := hB.ext hE3
  refine Go.Sx.V rfl wu rfl rfl (notB rfl) ?_
  refine Go.Sx.V rfl wu rfl rfl (mv rfl) ?_
  refine OR (π1 := [5,6,7]) (π2 := [8,9,10,11,12,13,14,15,16,17,18,19,20,21,22,23,24,25,26,27,28]) (tc := 17) (tp := 20) rfl rfl rfl (by
      intro _
      refine SK rfl rfl rfl rfl rfl ?_
      refine SK rfl rfl rfl rfl rfl ?_
      refine Go.Sx.V rfl wu rfl rfl (pk rfl rfl) ?_
      exact join rfl) (by
      intro hg
      simp at hg
      refine Go.Sx.V rfl (wg rfl rfl) rfl rfl (mv rfl) ?_
      refine Go.Sx.V rfl (wg rfl rfl) rfl rfl (eqlI rfl rfl) ?_
      refine Go.Sx.V rfl wu rfl rfl (pk rfl rfl) ?_
      exact join rfl) ?_
  refine Go.Sx.V rfl wu rfl rfl (mv rfl) ?_
  refine OR (π1 := [9,10,11,12]) (π2 := [13,14,15,16,17,18,19,20,21,22,23,24,25,26,27,28]) (tc := 21) (tp := 25) rfl rfl rfl (by
      intro _
      refine SK rfl rfl rfl rfl rfl ?_
      refine SK rfl rfl rfl rfl rfl ?_
      refine SK rfl rfl rfl rfl rfl ?_
      refine Go.Sx.V rfl wu rfl rfl (pk rfl rfl) ?_
      exact join rfl) (by
      intro hg
      simp at hg
      refine Go.Sx.V rfl (wg rfl rfl) rfl rfl (fad rfl fa26_0) ?_
      refine Go.Sx.V rfl (wg rfl rfl) rfl rfl (ldB rfl na3) ?_
      refine Go.Sx.V rfl (wg rfl rfl) rfl rfl (lssI rfl rfl) ?_
      refine Go.Sx.V rfl wu rfl rfl (pk rfl rfl) ?_
      exact join rfl) ?_
  refine Go.Sx.V rfl wu rfl rfl (mv rfl) ?_
  refine ORX (π1 := [14,15,16,17,18,19]) (π2 := [20,21,22,23,24,25,26,27,28]) (tc := 26) (tp := 32) rfl rfl rfl (by
      intro _
      refine SK rfl rfl rfl rfl rfl ?_
      refine SK rfl rfl rfl rfl rfl ?_
      refine SK rfl rfl rfl rfl rfl ?_
      refine SK rfl rfl rfl rfl rfl ?_
      refine SK rfl rfl rfl rfl rfl ?_
      refine Go.Sx.V rfl wu rfl rfl (pk rfl rfl) ?_
      exact joinX rfl) (by
      intro hg
      simp at hg
      refine Go.Sx.V rfl (wg rfl rfl) rfl rfl (fad rfl fa26_0) ?_
      refine Go.Sx.V rfl (wg rfl rfl) rfl rfl (ldB rfl na3) ?_
      refine Go.Sx.V rfl (wg rfl rfl) rfl rfl (mv rfl) ?_
      refine C rfl (wg rfl rfl) rfl rfl Try.call41 (gOrder P g _ (hG.ext hE)) ?_
      rintro _ w4 hE4 rfl
      refine Go.Sx.V rfl (wg rfl rfl) rfl rfl (geqI rfl rfl) ?_
      refine Go.Sx.V rfl wu rfl rfl (pk rfl rfl) ?_
      exact joinX rfl) ?_
  intro w4 hE4
  replace hE := hE.trans hE4
  replace hB := hB.ext hE4
  refine Go.Sx.V rfl wu rfl rfl (mv rfl) ?_
  refine ORX (π1 := [21,22,23,24,25,26,27,28]) (π2 := []) (tc := 33) (tp := 41) rfl rfl rfl (by
      intro _
      refine SK rfl rfl rfl rfl rfl ?_
      refine SK rfl rfl rfl rfl rfl ?_
      refine SK rfl rfl rfl rfl rfl ?_
      refine SK rfl rfl rfl rfl rfl ?_
      refine SK rfl rfl rfl rfl rfl ?_
      refine SK rfl rfl rfl rfl rfl ?_
      refine SK rfl rfl rfl rfl rfl ?_
      refine Go.Sx.V rfl wu rfl rfl (pk rfl rfl) ?_
      exact joinX rfl) (by
      intro hg
      simp at hg
      refine Go.Sx.V rfl (wg rfl rfl) rfl rfl (fad rfl fa26_1) ?_
      refine Go.Sx.V rfl (wg rfl rfl) rfl rfl (ldB rfl na22) ?_
      refine Go.Sx.V rfl (wg rfl rfl) rfl rfl (fad rfl fa26_0) ?_
      refine Go.Sx.V rfl (wg rfl rfl) rfl rfl (ldB rfl na3) ?_
      refine C rfl (wg rfl rfl) rfl rfl Try.call43 (dPrimes o _ (by omega)) ?_
      rintro ps w5 hE5 hps
      refine C rfl (wg rfl rfl) rfl rfl Try.call42 (sEqual s ps l (prs o) _ (hs.ext (hE.trans hE5)) (OwnI.ints hps)) ?_
      rintro _ w6 hE6 rfl
      replace hE6 := hE5.trans hE6
      refine Go.Sx.V rfl (wg rfl rfl) rfl rfl (notB rfl) ?_
      refine Go.Sx.V rfl wu rfl rfl (pk rfl rfl) ?_
      exact joinX rfl) ?_
  intro w6 hE6
  replace hE := hE.trans hE6
  replace hB := hB.ext hE6
  refine wr_nil (post_thenN ?_)
  refine wc_cond rfl ?_ ?_
  · intro h
    refine wc_seq ?_
    refine wc_region [0] rfl ?_
    refine Go.Sx.V rfl wu rfl rfl (asg rfl) ?_
    refine wr_nil (post_thenN (wc_ret (post_thenR ?_)))
    refine post_ret1 rfl rfl ?_
    refine ⟨hE, .inr ⟨rfl, fun hok => ?_⟩⟩
    have hle := hok.le hG.gen
    obtain ⟨h1, h2, h3, h4⟩ := hok
    have hxin : 0 ≤ x ∧ x < P.q := Classical.byContradiction fun hc => h1 (inK_out hc)
    have hx00 : x ≠ 0 := fun e => h1 (by rw [e, inK_in (by omega)]; rfl)
    simp [h4] at h
    omega
  · intro h
    simp at h
    obtain ⟨⟨⟨⟨hin, hx00⟩, ho1⟩, ho2⟩, hl⟩ := h
    have hX0 : inK P x ≠ 0 := fun e => by
      rw [inK_in hin] at e
      exact hx00 (congrArg Subtype.val e)
    obtain ⟨X, hX⟩ : ∃ X, X = inK P x := ⟨_, rfl⟩
    have hpa := powA_nat hx0 hX0 (k := o) (by omega)
    rw [← hX] at hX0 hpa
    have hon : ((o.toNat : Nat) : Int) = o := by omega
    refine wc_skip (post_thenN (wc_seq (wc_seq ?_)))
    refine wc_region [0,1,2,3,4,5,6,7,8,9] rfl ?_
    refine Go.Sx.V rfl wu rfl rfl (mv rfl) ?_
    refine Go.Sx.V rfl wu rfl rfl (mv rfl) ?_
    refine Go.Sx.V rfl wu rfl rfl (fad rfl fa26_0) ?_
    refine Go.Sx.V rfl wu rfl rfl (ldB rfl na3) ?_
    refine C rfl wu rfl rfl Try.call16 (gPow P g x o _ (hG.ext hE)) ?_
    rintro _ w7 hE7 rfl
    rw [← hX, hpa]
    replace hE := hE.trans hE7
    replace hB := hB.ext hE7
    refine Go.Sx.V rfl wu rfl rfl (mv rfl) ?_
    refine Go.Sx.V rfl wu rfl rfl (ext rfl rfl) ?_
    refine Go.Sx.V rfl wu rfl rfl (ext rfl rfl) ?_
    refine Go.Sx.V rfl wu rfl rfl (asg rfl) ?_
    refine Go.Sx.V rfl wu rfl rfl (asg rfl) ?_
    refine wr_nil (post_thenN (wc_seq ?_))
    refine wc_region [0,1] rfl ?_
    refine Go.Sx.V rfl wu rfl rfl (mv rfl) ?_
    refine Go.Sx.V rfl wu rfl rfl (neqI rfl rfl) ?_
    refine wr_nil (post_thenN ?_)
    refine wc_cond rfl ?_ ?_
    · intro hy
      simp at hy
      refine wc_seq ?_
      refine wc_region [0] rfl ?_
      refine Go.Sx.V rfl wu rfl rfl (asg rfl) ?_
      refine wr_nil (post_thenN (wc_ret (post_thenR ?_)))
      refine post_ret1 rfl rfl ?_
      refine ⟨hE, .inr ⟨rfl, fun hok => hy ?_⟩⟩
      rw [hX, hok.2.2.1.2.1]
      rfl
    · intro hy
      simp at hy
      have hy1 : npow X o.toNat = 1 := Subtype.ext hy
      refine wc_skip (post_thenN (wc_seq (wc_seq ?_)))
      replace hs := hs.ext hE
      have hll := prs_length o (by omega)
      rw [← hl] at hll
      refine wc_region [0,1,2,3] rfl ?_
      refine Go.Sx.V rfl wu rfl rfl (fad rfl fa26_1) ?_
      refine Go.Sx.V rfl wu rfl rfl (ldB rfl na22) ?_
      refine Go.Sx.V rfl wu rfl rfl (lenI rfl ty22) ?_
      refine Go.Sx.V rfl wu rfl rfl (mv rfl) ?_
      refine wr_nil (post_thenN (wc_block ?_))
      refine wc_loop (fun i : Int => [(0, g), (1, .int .i64 x), (5, .pointer (some ⟨b, 0, none⟩)), (53, s), (54, .int .i64 l.length), (55, .int .i64 i)])
        (fun i w' => 0 ≤ i ∧ i ≤ l.length ∧ Ext w w' ∧ Ext w7 w' ∧ ∀ j : Nat, (j : Int) < i → GoodAt X o.toNat (gi l j).toNat) (fun i => (l.length - i).toNat) 0
        ⟨rfl, rfl, rfl, rfl, rfl, rfl, trivial⟩ ⟨by omega, by omega, hE, Ext.refl _, fun j hj => by omega⟩ ?_
      clear hE
      rintro i w8 ⟨i0, i1, hE, hE8, hgd⟩
      have hsi := hs.ext hE8
      have hBi := hB.ext hE8
      try dsimp only
      refine wc_seq ?_
      refine wc_region [0] rfl ?_
      refine Go.Sx.V rfl wu rfl rfl (lssI rfl rfl) ?_
      refine wr_nil (post_thenN (wc_seq ?_))
      refine wc_cond rfl ?_ ?_
      · intro hi
        simp at hi
        have hmem : gi l i ∈ prs (o.toNat : Nat) := by
          rw [hon, ← hl]
          have hk : i.toNat < l.length := by omega
          have : gi l i = l[i.toNat] := by simp [gi, hk]
          rw [this]
          exact List.getElem_mem _
        obtain ⟨r2, rl, rd⟩ := prs_two hmem
        rw [hon] at rl rd
        refine wc_skip (post_thenN (wc_seq (wc_block (wc_seq ?_))))
        refine wc_region [0,1,2] rfl ?_
        refine Go.Sx.V rfl wu rfl rfl (iadI rfl rfl ty22) ?_
        refine Go.Sx.V rfl wu rfl rfl (ldI rfl na3) ?_
        refine Go.Sx.V rfl wu rfl rfl (asg rfl) ?_
        refine wr_nil (post_thenN (wc_seq ?_))
        obtain ⟨r, hr⟩ : ∃ r, r = gi l i := ⟨_, rfl⟩
        rw [← hr] at hmem r2 rl rd ⊢
        have hq0 : 0 ≤ o / r := Int.ediv_nonneg (by omega) (by omega)
        have hql : o / r ≤ o := Int.ediv_le_self _ (by omega)
        have hpa2 := powA_nat hx0 hX0 hq0
        have hdq := div_nat (a := o) (b := r) (by omega) (by omega)
        have hdv := (dvd_nat (a := o) (b := r) (by omega) (by omega)).2 rd
        refine wc_region [0,1,2,3,4,5,6,7,8,9,10,11] rfl ?_
        refine Go.Sx.V rfl wu rfl rfl (mv rfl) ?_
        refine Go.Sx.V rfl wu rfl rfl (mv rfl) ?_
        refine Go.Sx.V rfl wu rfl rfl (fad rfl fa26_0) ?_
        refine Go.Sx.V rfl wu rfl rfl (ldB rfl na3) ?_
        refine Go.Sx.V rfl wu rfl rfl (mv rfl) ?_
        refine Go.Sx.V rfl wu rfl rfl (quoI rfl rfl) ?_
        refine C rfl wu rfl rfl Try.call16 (gPow P g x (o / r) _ (hG.ext hE)) ?_
        rintro _ w9 hE9 rfl
        rw [← hX, hpa2]
        replace hE := hE.trans hE9
        replace hE8 := hE8.trans hE9
        refine Go.Sx.V rfl wu rfl rfl (mv rfl) ?_
        refine Go.Sx.V rfl wu rfl rfl (ext rfl rfl) ?_
        refine Go.Sx.V rfl wu rfl rfl (ext rfl rfl) ?_
        refine Go.Sx.V rfl wu rfl rfl (asg rfl) ?_
        refine Go.Sx.V rfl wu rfl rfl (asg rfl) ?_
        refine wr_nil (post_thenN (wc_seq ?_))
        refine wc_region [0,1] rfl ?_
        refine Go.Sx.V rfl wu rfl rfl (mv rfl) ?_
        refine Go.Sx.V rfl wu rfl rfl (eqlI rfl rfl) ?_
        refine wr_nil (post_thenN ?_)
        refine wc_cond rfl ?_ ?_
        · intro hz
          simp at hz
          have hz1 : npow X (o / r).toNat = 1 := Subtype.ext hz
          rw [show (o / r).toNat = o.toNat / r.toNat by omega] at hz1
          refine wc_seq ?_
          refine wc_region [0] rfl ?_
          refine Go.Sx.V rfl wu rfl rfl (asg rfl) ?_
          refine wr_nil (post_thenN (wc_ret (post_blockR (post_thenR (post_loopR (post_blockR (post_thenR ?_)))))))
          refine post_ret1 rfl rfl ?_
          refine ⟨hE, .inr ⟨rfl, fun hok => ?_⟩⟩
          have := HasOrder.good hok.2.2.1 r.toNat (by omega) hdv
          rw [← hX] at this
          exact this hz1
        · intro hz
          simp at hz
          refine wc_skip (post_blockN (post_thenN ?_))
          refine wc_region [0,1] rfl ?_
          refine Go.Sx.V rfl wu rfl rfl (addI rfl rfl) ?_
          refine Go.Sx.V rfl wu rfl rfl (mv rfl) ?_
          refine wr_nil ?_
          refine post_loopN (i + 1) ⟨rfl, rfl, rfl, rfl, rfl, rfl, trivial⟩ ⟨by omega, by omega, hE, hE8, fun j hj => ?_⟩ (by omega)
          by_cases e : (j : Int) = i
          · rw [e, ← hr]
            intro _ he
            refine hz ?_
            rw [show (o / r).toNat = o.toNat / r.toNat by omega, he]
            rfl
          · exact hgd j (by omega)
      · intro hi
        simp at hi
        refine wc_exit (post_thenE (post_loopE (post_blockX (post_thenN (wc_seq ?_)))))
        refine wc_region [0] rfl ?_
        refine Go.Sx.V rfl wu rfl rfl (asg rfl) ?_
        refine wr_nil (post_thenN (wc_ret ?_))
        refine post_ret1 rfl rfl ?_
        refine ⟨hE, .inl ⟨rfl, by rw [← hX]; exact hX0, by omega, ?_, hl⟩⟩
        rw [← hX]
        refine final_order (N := o.toNat) (by omega) hy1 (Nat.dvd_refl _) (by omega) fun r hr => ?_
        rw [hon, ← hl] at hr
        obtain ⟨j, hj, he⟩ := List.mem_iff_getElem.1 hr
        have h1 := hgd j (by omega)
        have h2 : gi l j = r := by simp [gi, hj, he]
        rw [h2, Int.toNat_natCast] at h1
        exact h1

set_option maxRecDepth 10000 in
theorem dIsPrim (P : FP) (g : Value) (x : Int) (w : World) (hG : GFV w P g) :
    Calls Try.prog 19 #[g, .int .i64 x] w (RetX w fun v _ => ∃ b, v = .bool b ∧ (b = true ↔ HasOrder (inK P x) (n1 P))) := by
  have hn1 := n1_eq (P := P)
  have hq := hG.q
  have hq2 := P.q_two
  refine calls2 Try.func19 rfl rfl ?_
  refine wc_seq ?_
  refine wc_region [0] rfl ?_
  refine Go.Sx.V rfl wu rfl rfl (asg rfl) ?_
  refine wr_nil (post_thenN (wc_seq ?_))
  refine wc_region [0,1,2,3,4,5,6,7,8] rfl ?_
  refine Go.Sx.V rfl wu rfl rfl (mv rfl) ?_
  refine Go.Sx.V rfl wu rfl rfl (mv rfl) ?_
  refine C rfl wu rfl rfl Try.call21 (dOrder P g x _ hG) ?_
  rintro ov w2 hE ho
  obtain ⟨o, s, e, ls, rfl, hso, _, hc⟩ := ord_split ho
  refine Go.Sx.V rfl wu rfl rfl (mv rfl) ?_
  refine Go.Sx.V rfl wu rfl rfl (ext rfl rfl) ?_
  refine Go.Sx.V rfl wu rfl rfl (ext rfl rfl) ?_
  refine AL rfl wu rfl zv26 ?_
  intro b w3 hE3 hB hb
  have hsz := hE.size
  replace hE := hE.trans hE3
  refine STB (vs := [.int .i64 o, s]) (cs' := [.int .i64 o, s]) rfl wu rfl rfl rfl sv26 (by intro h; cases h) (by assumption) (by first | (simp [Value.oneCell']; done) | (intro v hv; simp only [List.mem_cons, List.not_mem_nil, or_false] at hv; rcases hv with rfl | rfl | rfl <;> first | rfl | assumption) | (intro v hv; simp only [List.mem_cons, List.not_mem_nil, or_false] at hv; rcases hv with rfl | rfl <;> first | rfl | assumption)) rfl rfl rfl ?_
  intro w4 hg hX hB2
  refine Go.Sx.V rfl wu rfl rfl (asg rfl) ?_
  refine wr_nil (post_thenN (wc_seq ?_))
  replace hE := hX _ (by omega) hE
  refine wc_draw mixed [0,1,2,3,4,5,6,7,8,9,10] (by kernel_rfl) ?_
  intro w5 hd _
  replace hE := hE.trans hd
  replace hB2 := hB2.ext hd
  refine Go.Sx.V rfl wu rfl rfl (mv rfl) ?_
  refine Go.Sx.V rfl wu rfl rfl (eqlI rfl rfl) ?_
  refine Go.Sx.V rfl wu rfl rfl (mv rfl) ?_
  refine ANDX (π1 := [3,4,5,6,7,8,9]) (π2 := [10]) (tc := 15) (tp := 22) rfl rfl rfl (by
      intro hg
      simp at hg
      refine Go.Sx.V rfl (wg rfl rfl) rfl rfl (fad rfl fa26_0) ?_
      refine Go.Sx.V rfl (wg rfl rfl) rfl rfl (ldB rfl na3) ?_
      refine Go.Sx.V rfl (wg rfl rfl) rfl rfl (mv rfl) ?_
      refine C rfl (wg rfl rfl) rfl rfl Try.call41 (gOrder P g _ (hG.ext hE)) ?_
      rintro _ w6 hE6 rfl
      refine Go.Sx.V rfl (wg rfl rfl) rfl rfl (subI rfl rfl) ?_
      refine Go.Sx.V rfl (wg rfl rfl) rfl rfl (eqlI rfl rfl) ?_
      refine Go.Sx.V rfl wu rfl rfl (pk rfl rfl) ?_
      exact joinX rfl) (by
      intro _
      refine SK rfl rfl rfl rfl rfl ?_
      refine SK rfl rfl rfl rfl rfl ?_
      refine SK rfl rfl rfl rfl rfl ?_
      refine SK rfl rfl rfl rfl rfl ?_
      refine SK rfl rfl rfl rfl rfl ?_
      refine SK rfl rfl rfl rfl rfl ?_
      refine Go.Sx.V rfl wu rfl rfl (pk rfl rfl) ?_
      exact joinX rfl) ?_
  intro w6 hE6
  refine Go.Sx.V rfl wu rfl rfl (asg rfl) ?_
  refine wr_nil (post_thenN (wc_ret ?_))
  refine post_ret1 rfl rfl ?_
  refine ⟨hE.trans hE6, _, rfl, ?_⟩
  rcases hc with ⟨h1, rfl, rfl, _⟩ | ⟨h1, rfl, h2, h3, h4, _⟩
  · refine ⟨fun h => by simp at h, fun h => ?_⟩
    rw [h1] at h
    have := h.2.1
    rw [zero_npow n1_pos] at this
    exact absurd this.symm one_ne_zero
  · simp only [decide_true, Bool.true_and, decide_eq_true_eq]
    constructor
    · intro h
      rw [show n1 P = o.toNat by omega]
      exact h4
    · intro h
      have := HasOrder.unique h h4
      omega

set_option maxRecDepth 10000 in
theorem rOrd (P : FP) (mo : Value) (md : List Int) (x : Int) (w : World) (hF : FV w P mo md) (hgen : ∃ g : K P, HasOrder g (n1 P)) :
    Calls Try.prog 22 #[fv P mo, .int .i64 x] w (RetX w fun v w' => OrdA w' P x v) := by
  have hn1 := n1_eq (P := P)
  have hq := hF.q
  have hq2 := P.q_two
  refine calls2 Try.func22 rfl rfl ?_
  refine wc_seq ?_
  refine wc_region [0,1,2] rfl ?_
  refine BXA rfl wu rfl rfl ?_
  intro fb w0 hE0 hB0 hg0
  refine AL rfl wu rfl zv26 ?_
  intro b w1 hE01 hB hb
  refine Go.Sx.V rfl wu rfl rfl (asg rfl) ?_
  refine wr_nil (post_thenN (wc_seq ?_))
  have hsz := hE0.size
  have hE1 := hE0.trans hE01
  refine wc_region [0,1,2,3] rfl ?_
  refine Go.Sx.V rfl wu rfl rfl (ldA rfl ag24 hB0) ?_
  refine Go.Sx.V rfl wu rfl rfl (mv rfl) ?_
  refine C rfl wu rfl rfl Try.call46 (rMulOrder P mo md x _ (hF.ext hE1) hgen) ?_
  rintro mv w2 hE2 hm
  replace hB := hB.ext hE2
  refine Go.Sx.V rfl wu rfl rfl (asg rfl) ?_
  refine wr_nil (post_thenN (wc_seq (wc_seq ?_)))
  have hE := hE1.trans hE2
  obtain ⟨m, rfl, hc⟩ : ∃ m : Nat, mv = .int .i64 m ∧ ((inK P x = 0 ∧ m = 0) ∨ (inK P x ≠ 0 ∧ HasOrder (inK P x) m)) := mul_split hm
  refine wc_region [0,1] rfl ?_
  refine Go.Sx.V rfl wu rfl rfl (mv rfl) ?_
  refine Go.Sx.V rfl wu rfl rfl (eqlI rfl rfl) ?_
  refine wr_nil (post_thenN ?_)
  refine wc_cond rfl ?_ ?_
  · intro h
    simp at h
    subst h
    refine wc_seq ?_
    refine wc_region [0,1,2] rfl ?_
    refine Go.Sx.V rfl wu rfl rfl (bld (us := []) (r := [.int .i64 0, .slice none 0 0]) rfl bdOP0) ?_
    refine STB (vs := [.int .i64 0, .slice none 0 0]) (cs' := [.int .i64 0, .slice none 0 0]) rfl wu rfl rfl rfl sv26 (by intro h; cases h) (by assumption) (by first | (simp [Value.oneCell']; done) | (intro v hv; simp only [List.mem_cons, List.not_mem_nil, or_false] at hv; rcases hv with rfl | rfl | rfl <;> first | rfl | assumption) | (intro v hv; simp only [List.mem_cons, List.not_mem_nil, or_false] at hv; rcases hv with rfl | rfl <;> first | rfl | assumption)) rfl rfl rfl ?_
    intro w3 hg hX hB2
    refine Go.Sx.V rfl wu rfl rfl (asg rfl) ?_
    refine wr_nil (post_thenN (wc_ret (post_thenR ?_)))
    refine post_retC2 rfl rfl rfl ag26 hB2 rfl ?_
    refine ⟨hX _ (by omega) hE, .inl ⟨?_, rfl⟩⟩
    rcases hc with ⟨h1, _⟩ | ⟨_, h2⟩
    · exact h1
    · exact absurd h2.1 (by omega)
  · intro h
    simp at h
    rcases hc with ⟨_, h1⟩ | ⟨hX0, hho⟩
    · exact absurd h1 h
    obtain ⟨g0, hg0⟩ := hgen
    obtain ⟨m', hm', hmd⟩ := ex_order hg0 hX0
    have hmm := HasOrder.unique hm' hho
    have hml := ord_le hmd
    refine wc_skip (post_thenN (wc_seq ?_))
    refine wc_region [0,1,2,3,4,5] rfl ?_
    refine Go.Sx.V rfl wu rfl rfl (mv rfl) ?_
    refine Go.Sx.V rfl wu rfl rfl (mv rfl) ?_
    refine C rfl wu rfl rfl Try.call47 (rPrimes (m : Int) _ (by omega)) ?_
    rintro s w6 hE6 hso1
    have hs := OwnI.ints hso1
    have hbl := hB.lt
    replace hE := hE.trans hE6
    replace hB := hB.ext hE6
    have hso := one_ints hs
    refine Go.Sx.V rfl wu rfl rfl (bld (us := [.int .i64 m, s]) (r := [.int .i64 m, s]) rfl (bdOP _ s (cells_ints hs))) ?_
    refine STB (vs := [.int .i64 m, s]) (cs' := [.int .i64 m, s]) rfl wu rfl rfl rfl sv26 (by intro h; cases h) (by assumption) (by first | (simp [Value.oneCell']; done) | (intro v hv; simp only [List.mem_cons, List.not_mem_nil, or_false] at hv; rcases hv with rfl | rfl | rfl <;> first | rfl | assumption) | (intro v hv; simp only [List.mem_cons, List.not_mem_nil, or_false] at hv; rcases hv with rfl | rfl <;> first | rfl | assumption)) rfl rfl rfl ?_
    intro w7 hg hX7 hB2
    refine Go.Sx.V rfl wu rfl rfl (asg rfl) ?_
    refine wr_nil (post_thenN (wc_ret ?_))
    have hsn : s.ownBlock ≠ some b := fun e => by
      have := (Own.lt hso1 b e).1
      omega
    refine post_retC2 rfl rfl rfl ag26 hB2 rfl ?_
    exact ⟨hX7 _ (by omega) hE, .inr ⟨hX0, m, s, hho, by omega, rfl, hs.kept hg hsn⟩⟩

set_option maxRecDepth 10000 in
theorem rSame8 (o o' : Int) (s s' : Value) (l l' : List Int) (w : World) (hs : Ints w s l) (hs' : Ints w s' l') :
    Calls Try.prog 23 #[.agg #[.int .i64 o, s], .agg #[.int .i64 o', s']] w (RetX w fun v _ => v = .bool (decide (o = o' ∧ l = l'))) := by
  have hla := hs.le
  have hlb := hs'.le
  refine calls2 Try.func23 rfl rfl ?_
  refine wc_seq ?_
  refine wc_region [0,1,2] rfl ?_
  refine BXA rfl wu rfl rfl ?_
  intro b1 w1 hE1 hB1 hb1
  refine BXA rfl wu rfl rfl ?_
  intro b2 w2 hE2 hB2 hb2
  refine Go.Sx.V rfl wu rfl rfl (asg rfl) ?_
  refine wr_nil (post_thenN (wc_seq (wc_seq ?_)))
  have hE := hE1.trans hE2
  replace hB1 := hB1.ext hE2
  replace hs := hs.ext hE
  replace hs' := hs'.ext hE
  refine wc_region [0,1,2,3,4,5,6,7,8,9,10,11,12,13] rfl ?_
  refine Go.Sx.V rfl wu rfl rfl (fad rfl fa26_0) ?_
  refine Go.Sx.V rfl wu rfl rfl (ldB rfl na3 hB1) ?_
  refine Go.Sx.V rfl wu rfl rfl (fad rfl fa26_0) ?_
  refine Go.Sx.V rfl wu rfl rfl (ldB rfl na3 hB2) ?_
  refine Go.Sx.V rfl wu rfl rfl (neqI rfl rfl) ?_
  refine Go.Sx.V rfl wu rfl rfl (mv rfl) ?_
  refine OR (π1 := [6,7,8,9,10,11,12,13]) (π2 := []) (tc := 11) (tp := 19) rfl rfl rfl (by
      intro _
      refine SK rfl rfl rfl rfl rfl ?_
      refine SK rfl rfl rfl rfl rfl ?_
      refine SK rfl rfl rfl rfl rfl ?_
      refine SK rfl rfl rfl rfl rfl ?_
      refine SK rfl rfl rfl rfl rfl ?_
      refine SK rfl rfl rfl rfl rfl ?_
      refine SK rfl rfl rfl rfl rfl ?_
      refine Go.Sx.V rfl wu rfl rfl (pk rfl rfl) ?_
      exact join rfl) (by
      intro hg
      simp at hg
      refine Go.Sx.V rfl (wg rfl rfl) rfl rfl (fad rfl fa26_1) ?_
      refine Go.Sx.V rfl (wg rfl rfl) rfl rfl (ldB rfl na22 hB1) ?_
      refine Go.Sx.V rfl (wg rfl rfl) rfl rfl (lenI rfl ty22) ?_
      refine Go.Sx.V rfl (wg rfl rfl) rfl rfl (fad rfl fa26_1) ?_
      refine Go.Sx.V rfl (wg rfl rfl) rfl rfl (ldB rfl na22 hB2) ?_
      refine Go.Sx.V rfl (wg rfl rfl) rfl rfl (lenI rfl ty22) ?_
      refine Go.Sx.V rfl (wg rfl rfl) rfl rfl (neqI rfl rfl) ?_
      refine Go.Sx.V rfl wu rfl rfl (pk rfl rfl) ?_
      exact join rfl) ?_
  refine wr_nil (post_thenN ?_)
  refine wc_cond rfl ?_ ?_
  · intro h
    simp at h
    refine wc_seq ?_
    refine wc_region [0] rfl ?_
    refine Go.Sx.V rfl wu rfl rfl (asg rfl) ?_
    refine wr_nil (post_thenN (wc_ret (post_thenR ?_)))
    refine post_ret1 rfl rfl ?_
    refine ⟨hE, ?_⟩
    have : ¬ (o = o' ∧ l = l') := fun ⟨h1, h2⟩ => by
      rcases h with h | h
      · exact h h1
      · exact h (by rw [h2])
    simp [this]
  · intro h
    simp at h
    refine wc_skip (post_thenN (wc_seq (wc_seq ?_)))
    refine wc_region [0] rfl ?_
    refine Go.Sx.V rfl wu rfl rfl (asg rfl) ?_
    refine wr_nil (post_thenN (wc_block ?_))
    refine wc_loop (fun i : Int => [(2, .pointer (some ⟨b1, 0, none⟩)), (3, .pointer (some ⟨b2, 0, none⟩)), (5, .int .i64 i)])
      (fun i w' => 0 ≤ i ∧ i ≤ l.length ∧ Ext w2 w' ∧ ∀ j : Nat, (j : Int) < i → l.getD j 0 = l'.getD j 0) (fun i => (l.length - i).toNat) 0 ⟨rfl, rfl, rfl, trivial⟩ ⟨by omega, by omega, Ext.refl _, fun j hj => by omega⟩ ?_
    rintro i w3 ⟨i0, i1, hE3, hq⟩
    try dsimp only
    refine wc_seq (wc_seq ?_)
    refine wc_region [0,1,2,3,4] rfl ?_
    refine Go.Sx.V rfl wu rfl rfl (mv rfl) ?_
    refine Go.Sx.V rfl wu rfl rfl (fad rfl fa26_1) ?_
    refine Go.Sx.V rfl wu rfl rfl (ldB rfl na22 hB1) ?_
    refine Go.Sx.V rfl wu rfl rfl (lenI rfl ty22) ?_
    refine Go.Sx.V rfl wu rfl rfl (lssI rfl rfl) ?_
    refine wr_nil (post_thenN ?_)
    refine wc_cond rfl ?_ ?_
    · intro hi
      simp at hi
      refine wc_skip (post_thenN (wc_seq (wc_block (wc_seq ?_))))
      refine wc_draw mixed [0,1,2,3,4,5,6,7,8,9,10] (by kernel_rfl) ?_
      intro w4 hd _
      replace hE3 := hE3.trans hd
      refine Go.Sx.V rfl wu rfl rfl (fad rfl fa26_1) ?_
      refine Go.Sx.V rfl wu rfl rfl (ldB rfl na22 hB1) ?_
      refine Go.Sx.V rfl wu rfl rfl (mv rfl) ?_
      refine Go.Sx.V rfl wu rfl rfl (iadI rfl rfl ty22) ?_
      refine Go.Sx.V rfl wu rfl rfl (ldI rfl na3) ?_
      refine Go.Sx.V rfl wu rfl rfl (fad rfl fa26_1) ?_
      refine Go.Sx.V rfl wu rfl rfl (ldB rfl na22 hB2) ?_
      refine Go.Sx.V rfl wu rfl rfl (mv rfl) ?_
      refine Go.Sx.V rfl wu rfl rfl (iadI rfl rfl ty22) ?_
      refine Go.Sx.V rfl wu rfl rfl (ldI rfl na3) ?_
      refine Go.Sx.V rfl wu rfl rfl (neqI rfl rfl) ?_
      refine wr_nil (post_thenN ?_)
      refine wc_cond rfl ?_ ?_
      · intro hn
        simp at hn
        refine wc_seq ?_
        refine wc_region [0] rfl ?_
        refine Go.Sx.V rfl wu rfl rfl (asg rfl) ?_
        refine wr_nil (post_thenN (wc_ret (post_blockR (post_thenR (post_loopR (post_blockR (post_thenR ?_)))))))
        refine post_ret1 rfl rfl ?_
        have : l ≠ l' := list_ne_at (i := i.toNat) hn
        exact ⟨hE.trans hE3, by simp [this]⟩
      · intro hn
        simp at hn
        refine wc_skip (post_blockN (post_thenN ?_))
        refine wc_region [0,1,2] rfl ?_
        refine Go.Sx.V rfl wu rfl rfl (mv rfl) ?_
        refine Go.Sx.V rfl wu rfl rfl (addI rfl rfl) ?_
        refine Go.Sx.V rfl wu rfl rfl (asg rfl) ?_
        refine wr_nil ?_
        exact post_loopN (i + 1) ⟨rfl, rfl, rfl, trivial⟩ ⟨by omega, by omega, hE3, fun j hj => (by
          by_cases e : j = i.toNat
          · rw [e]; exact hn
          · exact hq j (by omega))⟩ (by omega)
    · intro hi
      simp at hi
      refine wc_exit (post_thenE (post_loopE (post_blockX (post_thenN (wc_seq ?_)))))
      refine wc_region [0] rfl ?_
      refine Go.Sx.V rfl wu rfl rfl (asg rfl) ?_
      refine wr_nil (post_thenN (wc_ret ?_))
      refine post_ret1 rfl rfl ?_
      have : l = l' := list_eq_all (by omega) fun j hj => hq j (by omega)
      exact ⟨hE.trans hE3, by simp [h.1, this]⟩

set_option maxRecDepth 10000 in
theorem rCheck8 (P : FP) (mo : Value) (md : List Int) (x o : Int) (s : Value) (l : List Int) (w : World) (hF : FV w P mo md) (hgen : ∃ g : K P, HasOrder g (n1 P)) (hs : Ints w s l) :
    Calls Try.prog 15 #[fv P mo, .int .i64 x, .agg #[.int .i64 o, s]] w (RetX w fun v _ => (v = .int .i64 0 ∧ OkO P x o l) ∨ (v = .int .i64 13 ∧ ¬ OkO P x o l)) := by
  refine calls3 Try.func15 rfl rfl ?_
  refine wc_seq ?_
  refine wc_region [0,1,2] rfl ?_
  refine BXA rfl wu rfl rfl ?_
  intro fb w0 hE0 hB0 hg0
  refine BXA rfl wu rfl rfl ?_
  intro b w1 hE1 hB hb
  refine Go.Sx.V rfl wu rfl rfl (asg rfl) ?_
  refine wr_nil (post_thenN (wc_seq ?_))
  have hE := hE0.trans hE1
  refine wc_region [0,1,2,3,4,5,6,7,8] rfl ?_
  refine Go.Sx.V rfl wu rfl rfl (ldA rfl ag24 hB0) ?_
  refine Go.Sx.V rfl wu rfl rfl (mv rfl) ?_
  refine C rfl wu rfl rfl Try.call22 (rOrd P mo md x _ (hF.ext hE) hgen) ?_
  rintro ov w2 hE2 ho
  obtain ⟨o', s', e, l', rfl, hso, hs', hc⟩ := ord_split ho
  replace hE := hE.trans hE2
  replace hB := hB.ext hE2
  refine Go.Sx.V rfl wu rfl rfl (mv rfl) ?_
  refine Go.Sx.V rfl wu rfl rfl (ext rfl rfl) ?_
  refine Go.Sx.V rfl wu rfl rfl (ext rfl rfl) ?_
  refine AL rfl wu rfl zv26 ?_
  intro b2 w3 hE3 hB3 hb3
  refine STB (vs := [.int .i64 o', s']) (cs' := [.int .i64 o', s']) rfl wu rfl rfl rfl sv26 (by intro h; cases h) (by assumption) (by first | (simp [Value.oneCell']; done) | (intro v hv; simp only [List.mem_cons, List.not_mem_nil, or_false] at hv; rcases hv with rfl | rfl | rfl <;> first | rfl | assumption) | (intro v hv; simp only [List.mem_cons, List.not_mem_nil, or_false] at hv; rcases hv with rfl | rfl <;> first | rfl | assumption)) rfl rfl rfl ?_
  intro w4 hg hX hB2
  refine Go.Sx.V rfl wu rfl rfl (asg rfl) ?_
  refine wr_nil (post_thenN (wc_seq (wc_seq ?_)))
  have h24 := hX _ hb3 hE3
  replace hE := hE.trans h24
  replace hB := hB.ext h24
  refine wc_region [0,1,2,3,4,5,6,7] rfl ?_
  refine Go.Sx.V rfl wu rfl rfl (mv rfl) ?_
  refine Go.Sx.V rfl wu rfl rfl (neqI rfl rfl) ?_
  refine Go.Sx.V rfl wu rfl rfl (mv rfl) ?_
  refine ORX (π1 := [3,4,5,6,7]) (π2 := []) (tc := 17) (tp := 22) rfl rfl rfl (by
      intro _
      refine SK rfl rfl rfl rfl rfl ?_
      refine SK rfl rfl rfl rfl rfl ?_
      refine SK rfl rfl rfl rfl rfl ?_
      refine SK rfl rfl rfl rfl rfl ?_
      refine Go.Sx.V rfl wu rfl rfl (pk rfl rfl) ?_
      exact joinX rfl) (by
      intro hg
      simp at hg
      refine Go.Sx.V rfl (wg rfl rfl) rfl rfl (ldA rfl ag26) ?_
      refine Go.Sx.V rfl (wg rfl rfl) rfl rfl (ldA rfl ag26) ?_
      refine C rfl (wg rfl rfl) rfl rfl Try.call23 (rSame8 o o' s s' l l' _ (hs.ext hE) (hs'.ext h24)) ?_
      rintro _ w5 hE5 rfl
      refine Go.Sx.V rfl (wg rfl rfl) rfl rfl (notB rfl) ?_
      refine Go.Sx.V rfl wu rfl rfl (pk rfl rfl) ?_
      exact joinX rfl) ?_
  intro w5 hE5
  refine wr_nil (post_thenN ?_)
  replace hE := hE.trans hE5
  have key : (decide (e ≠ 0) || !decide (o = o' ∧ l = l')) = false ↔ OkO P x o l := by
    rcases hc with ⟨h1, rfl, rfl, rfl⟩ | ⟨h1, rfl, h2, h3, h4, rfl⟩
    · simp [OkO, h1]
    · simp only [ne_eq, not_true_eq_false, decide_false, Bool.false_or, Bool.not_eq_false', decide_eq_true_eq]
      constructor
      · rintro ⟨rfl, rfl⟩
        exact ⟨h1, h2, h4, rfl⟩
      · rintro ⟨_, h5, h6, h7⟩
        have := HasOrder.unique h6 h4
        have ho : o = o' := by omega
        exact ⟨ho, by rw [h7, ho]⟩
  refine wc_cond rfl ?_ ?_
  · intro h
    refine wc_seq ?_
    refine wc_region [0] rfl ?_
    refine Go.Sx.V rfl wu rfl rfl (asg rfl) ?_
    refine wr_nil (post_thenN (wc_ret (post_thenR ?_)))
    refine post_ret1 rfl rfl ?_
    exact ⟨hE, .inr ⟨rfl, fun hok => by rw [key.2 hok] at h; cases h⟩⟩
  · intro h
    refine wc_skip (post_thenN (wc_seq ?_))
    refine wc_region [0] rfl ?_
    refine Go.Sx.V rfl wu rfl rfl (asg rfl) ?_
    refine wr_nil (post_thenN (wc_ret ?_))
    refine post_ret1 rfl rfl ?_
    exact ⟨hE, .inl ⟨rfl, key.1 h⟩⟩

set_option maxRecDepth 10000 in
theorem rIsPrim (P : FP) (mo : Value) (md : List Int) (x : Int) (w : World) (hF : FV w P mo md) (hgen : ∃ g : K P, HasOrder g (n1 P)) :
    Calls Try.prog 20 #[fv P mo, .int .i64 x] w (RetX w fun v _ => ∃ b, v = .bool b ∧ (b = true ↔ HasOrder (inK P x) (n1 P))) := by
  have hn1 := n1_eq (P := P)
  have hord := hF.ord
  have hq := hF.q
  have hq2 := P.q_two
  refine calls2 Try.func20 rfl rfl ?_
  refine wc_seq ?_
  refine wc_region [0,1] rfl ?_
  refine BXA rfl wu rfl rfl ?_
  intro fb w0 hE hB hg
  refine Go.Sx.V rfl wu rfl rfl (asg rfl) ?_
  refine wr_nil (post_thenN (wc_seq ?_))
  refine wc_draw mixed [0,1,3,2,4,5,6,7] (by kernel_rfl) ?_
  intro w1 hd _
  replace hE := hE.trans hd
  replace hB := hB.ext hd
  refine Go.Sx.V rfl wu rfl rfl (ldA rfl ag24) ?_
  refine Go.Sx.V rfl wu rfl rfl (mv rfl) ?_
  refine Go.Sx.V rfl wu rfl rfl (ldA rfl ag24) ?_
  refine C rfl wu rfl rfl Try.call46 (rMulOrder P mo md x _ (hF.ext hE) hgen) ?_
  rintro mv w2 hE2 hm
  replace hE := hE.trans hE2
  obtain ⟨m, rfl, hc⟩ := mul_split hm
  refine C rfl wu rfl rfl Try.call33 (rOrder P.p P.M mo _) ?_
  rintro _ w3 hE3 rfl
  rw [hord]
  refine Go.Sx.V rfl wu rfl rfl (subI rfl rfl) ?_
  refine Go.Sx.V rfl wu rfl rfl (eqlI rfl rfl) ?_
  refine Go.Sx.V rfl wu rfl rfl (asg rfl) ?_
  refine wr_nil (post_thenN (wc_ret ?_))
  refine post_ret1 rfl rfl ?_
  refine ⟨hE.trans hE3, _, rfl, ?_⟩
  rw [decide_eq_true_eq]
  rcases hc with ⟨h1, rfl⟩ | ⟨h1, h2⟩
  · constructor
    · intro h; have := n1_pos (P := P); omega
    · intro h
      rw [h1] at h
      have := h.2.1
      rw [zero_npow n1_pos] at this
      exact absurd this.symm one_ne_zero
  · constructor
    · intro h
      rw [show n1 P = m by omega]
      exact h2
    · intro h
      have := HasOrder.unique h h2
      omega
end Go.Proofs.Ytmookiiehfdloaa
