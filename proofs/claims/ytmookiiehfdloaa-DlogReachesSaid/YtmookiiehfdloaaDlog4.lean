/-
  dlog.Solve by contract: baby steps in a map, giant steps.
-/
import Derived.Test.YtmookiiehfdloaaDlog3
import Derived.Test.YtmookiiehfdloaaSxMap
namespace Go.Proofs.Ytmookiiehfdloaa
open Go Go.Sx Go.Pl Go.RowKit Go.Fd Go.Alg Go.Nm Go.Fr
theorem infoI4 : Try.prog.info? 3 = some Try.t3 := by kernel_rfl
theorem mt72 : MapT Try.prog 72 := ⟨⟨3, 3, by kernel_rfl, by kernel_rfl, fun w => by simp [zeroValue, typeInfo, infoI4]; rfl⟩⟩

/-- The map of the baby steps: for each value the least exponent below i. -/
def Baby {P : FP} (X : K P) (i : Nat) (zs : List (Int × Int)) : Prop :=
  (∀ k j, mget zs k = some j → 0 ≤ j ∧ j < i ∧ (npow X j.toNat).1 = k ∧ ∀ m, m < j.toNat → (npow X m).1 ≠ k) ∧ ∀ k, mget zs k = none → ∀ m, m < i → (npow X m).1 ≠ k
theorem Baby.zero {P : FP} (X : K P) : Baby X 0 [] := ⟨fun k j h => (by cases h), fun k _ m hm => by omega⟩
theorem Baby.push {P : FP} {X : K P} {i : Nat} {zs : List (Int × Int)} (h : Baby X i zs) (hn : mget zs (npow X i).1 = none) : Baby X (i + 1) (zs ++ [((npow X i).1, (i : Int))]) := by
  refine ⟨fun k j hj => ?_, fun k hk m hm => ?_⟩
  · rw [mget_push] at hj
    cases hz : mget zs k with
    | some u =>
      rw [hz] at hj
      obtain rfl : u = j := by simpa using hj
      obtain ⟨h1, h2, h3, h4⟩ := h.1 k u hz
      exact ⟨h1, by omega, h3, h4⟩
    | none =>
      rw [hz] at hj
      by_cases hk : k = (npow X i).1
      · rw [if_pos hk] at hj
        obtain rfl : (i : Int) = j := by simpa using hj
        exact ⟨by omega, by omega, by rw [Int.toNat_natCast, hk], fun m hm => h.2 k hz m (by omega)⟩
      · rw [if_neg hk] at hj
        simp at hj
  · rw [mget_push] at hk
    cases hz : mget zs k with
    | some u => simp [hz] at hk
    | none =>
      by_cases hk2 : k = (npow X i).1
      · simp [hz, hk2] at hk
      · by_cases e : m = i
        · subst e; exact fun hc => hk2 hc.symm
        · exact h.2 k hz m (by omega)
theorem Baby.skip {P : FP} {X : K P} {i : Nat} {zs : List (Int × Int)} (h : Baby X i zs) (hs : mget zs (npow X i).1 ≠ none) : Baby X (i + 1) zs := by
  refine ⟨fun k j hj => ?_, fun k hk m hm => ?_⟩
  · obtain ⟨h1, h2, h3, h4⟩ := h.1 k j hj
    exact ⟨h1, by omega, h3, h4⟩
  · by_cases e : m = i
    · subst e
      exact fun hc => hs (by rw [hc]; exact hk)
    · exact h.2 k hk m (by omega)
theorem step_iff {P : FP} {X Y G : K P} {s : Nat} (hG : npow X s * G = 1) (a c : Nat) : npow X (a * s + c) = Y ↔ npow X c = Y * npow G a := by
  have h1 : npow X (a * s) * npow G a = 1 := by rw [Nat.mul_comm, npow_mul, ← mul_npow, hG, one_npow]
  constructor
  · intro h
    rw [← h, npow_add, mul_comm (npow X (a * s)), mul_assoc, h1, mul_one]
  · intro h
    rw [npow_add, h, mul_comm Y, ← mul_assoc, h1, one_mul]
theorem solve_found {P : FP} {X Y G : K P} {s i j : Nat} (hs : 0 < s) (hG : npow X s * G = 1) (hno : ∀ a c, a < i → c < s → npow X c ≠ Y * npow G a) (hj : j < s) (hx : npow X j = Y * npow G i) (hl : ∀ m, m < j → npow X m ≠ Y * npow G i) :
    npow X (i * s + j) = Y ∧ ∀ m, m < i * s + j → npow X m ≠ Y := by
  refine ⟨(step_iff hG i j).2 hx, fun m hm he => ?_⟩
  have e : m = (m / s) * s + m % s := (Nat.div_add_mod' m s).symm
  rw [e] at he
  have h2 := (step_iff hG _ _).1 he
  have hr := Nat.mod_lt m hs
  rcases Nat.lt_or_ge (m / s) i with h | h
  · exact hno _ _ h hr h2
  · have h4 : m / s < i + 1 := Nat.div_lt_of_lt_mul (by rw [Nat.mul_comm, Nat.add_mul]; omega)
    have h3 : m / s = i := by omega
    rw [h3] at e h2
    exact hl _ (by omega) h2
theorem solve_none {P : FP} {X Y G : K P} {s i m : Nat} (hs : 0 < s) (hX : HasOrder X m) (hi : m ≤ i * s) (hG : npow X s * G = 1) (hno : ∀ a c, a < i → c < s → npow X c ≠ Y * npow G a) (n : Nat) : npow X n ≠ Y := fun h => by
  rw [npow_mod hX.2.1] at h
  have h1 := Nat.mod_lt n hX.1
  have e : n % m = (n % m / s) * s + n % m % s := (Nat.div_add_mod' _ s).symm
  rw [e] at h
  exact hno _ _ (Nat.div_lt_of_lt_mul (by rw [Nat.mul_comm]; omega)) (Nat.mod_lt _ hs) ((step_iff hG _ _).1 h)
theorem npowK_ne {P : FP} {g X : K P} (hg : HasOrder g (n1 P)) (hX : X ≠ 0) : ∀ n, npow X n ≠ 0
  | 0 => fun h => hX (by rw [← one_mul X, ← npow_zero X, h, zero_mul])
  | n + 1 => fun h => by
    rw [npow_succ] at h
    rcases no_zero_div hg h with h | h
    · exact npowK_ne hg hX n h
    · exact hX h
theorem isz2 {P : FP} {b x : Int} : ((((!(decide (0 ≤ b) && decide (b < P.q))) || decide (b = 0)) || !(decide (0 ≤ x) && decide (x < P.q))) || decide (x = 0)) = true ↔ inK P b = 0 ∨ inK P x = 0 := by
  rw [Bool.or_assoc, Bool.or_eq_true, isz, isz]
theorem sq16 {s : Int} (h0 : 1 ≤ s) (h : s * s < 256) : s ≤ 15 := Classical.byContradiction fun hc => by
  have := Int.mul_le_mul (show (16 : Int) ≤ s by omega) (show (16 : Int) ≤ s by omega) (by omega) (by omega)
  omega
theorem le_prod {i s : Int} (h0 : 0 ≤ i) (h1 : 1 ≤ s) : i ≤ i * s := by
  have := Int.mul_le_mul_of_nonneg_left h1 h0
  omega
theorem prod_le {i s : Int} (h0 : 0 ≤ i) (h1 : i ≤ 256) (h2 : 0 ≤ s) (h3 : s ≤ 16) : 0 ≤ i * s ∧ i * s ≤ 256 * 16 := ⟨Int.mul_nonneg h0 h2, Int.mul_le_mul h1 h3 h2 (by omega)⟩

set_option maxRecDepth 10000 in
theorem dSolve (P : FP) (g : Value) (b x : Int) (w : World) (hG : GFV w P g) :
    Calls Try.prog 24 #[g, .int .i64 b, .int .i64 x] w (RetX w fun v _ => SolA P (inK P b) (inK P x) v) := by
  have hn1 := n1_eq (P := P)
  have hq := hG.q
  have hq2 := P.q_two
  obtain ⟨x0, hx0⟩ := hG.gen
  have hE := Ext.refl w
  refine calls3 Try.func24 rfl rfl ?_
  refine wc_seq ?_
  refine wc_region [0,1] rfl ?_
  refine Go.Sx.V rfl wu rfl rfl (asg rfl) ?_
  refine Go.Sx.V rfl wu rfl rfl (asg rfl) ?_
  refine wr_nil (post_thenN (wc_seq (wc_seq ?_)))
  refine wc_region [0,1,2,3,4,5,6,7,8,9,10,11,12,13,14,15,16,17] rfl ?_
  refine Go.Sx.V rfl wu rfl rfl (mv rfl) ?_
  refine Go.Sx.V rfl wu rfl rfl (mv rfl) ?_
  refine C rfl wu rfl rfl Try.call40 (gIs P g b _ (hG.ext hE)) ?_
  rintro _ w1 hE1 rfl
  replace hE := hE.trans hE1
  refine Go.Sx.V rfl wu rfl rfl (notB rfl) ?_
  refine Go.Sx.V rfl wu rfl rfl (mv rfl) ?_
  refine OR (π1 := [5,6,7]) (π2 := [8,9,10,11,12,13,14,15,16,17]) (tc := 25) (tp := 28) rfl rfl rfl (by
      intro _
      refine SK rfl rfl rfl rfl rfl ?_
      refine SK rfl rfl rfl rfl rfl ?_
      refine Go.Sx.V rfl wu rfl rfl (pk rfl rfl) ?_
      exact join rfl) (by
      intro hg
      simp at hg
      refine Go.Sx.V rfl (wg rfl rfl) rfl rfl (mv rfl) ?_
      refine Go.Sx.V rfl (wg rfl rfl) rfl rfl (eqlI rfl rfl) ?_
      refine Go.Sx.V rfl wu rfl rfl (pk rfl rfl) ?_
      exact join rfl) ?_
  refine Go.Sx.V rfl wu rfl rfl (mv rfl) ?_
  refine ORX (π1 := [9,10,11,12,13]) (π2 := [14,15,16,17]) (tc := 29) (tp := 34) rfl rfl rfl (by
      intro _
      refine SK rfl rfl rfl rfl rfl ?_
      refine SK rfl rfl rfl rfl rfl ?_
      refine SK rfl rfl rfl rfl rfl ?_
      refine SK rfl rfl rfl rfl rfl ?_
      refine Go.Sx.V rfl wu rfl rfl (pk rfl rfl) ?_
      exact joinX rfl) (by
      intro hg
      simp at hg
      refine Go.Sx.V rfl (wg rfl rfl) rfl rfl (mv rfl) ?_
      refine Go.Sx.V rfl (wg rfl rfl) rfl rfl (mv rfl) ?_
      refine C rfl (wg rfl rfl) rfl rfl Try.call40 (gIs P g x _ (hG.ext hE)) ?_
      rintro _ w2 hE2 rfl
      replace hE := hE.trans hE2
      refine Go.Sx.V rfl (wg rfl rfl) rfl rfl (notB rfl) ?_
      refine Go.Sx.V rfl wu rfl rfl (pk rfl rfl) ?_
      exact joinX rfl) ?_
  intro w2 hE2
  replace hE := hE.trans hE2
  refine Go.Sx.V rfl wu rfl rfl (mv rfl) ?_
  refine OR (π1 := [15,16,17]) (π2 := []) (tc := 35) (tp := 38) rfl rfl rfl (by
      intro _
      refine SK rfl rfl rfl rfl rfl ?_
      refine SK rfl rfl rfl rfl rfl ?_
      refine Go.Sx.V rfl wu rfl rfl (pk rfl rfl) ?_
      exact join rfl) (by
      intro hg
      simp at hg
      refine Go.Sx.V rfl (wg rfl rfl) rfl rfl (mv rfl) ?_
      refine Go.Sx.V rfl (wg rfl rfl) rfl rfl (eqlI rfl rfl) ?_
      refine Go.Sx.V rfl wu rfl rfl (pk rfl rfl) ?_
      exact join rfl) ?_
  refine wr_nil (post_thenN ?_)
  refine wc_cond rfl ?_ ?_
  · intro h
    rw [isz2] at h
    refine wc_seq ?_
    refine wc_region [0,1] rfl ?_
    refine Go.Sx.V rfl wu rfl rfl (asg rfl) ?_
    refine Go.Sx.V rfl wu rfl rfl (asg rfl) ?_
    refine wr_nil (post_thenN (wc_ret (post_thenR ?_)))
    refine post_ret2 rfl rfl rfl ?_
    exact ⟨hE, .inl ⟨h, rfl⟩⟩
  · intro h
    have hb0 : inK P b ≠ 0 := fun e => by rw [isz2.2 (.inl e)] at h; cases h
    have hy0 : inK P x ≠ 0 := fun e => by rw [isz2.2 (.inr e)] at h; cases h
    have hxin : 0 ≤ x ∧ x < P.q := Classical.byContradiction fun hc => hy0 (inK_out hc)
    obtain ⟨X, hX⟩ : ∃ X, X = inK P b := ⟨_, rfl⟩
    obtain ⟨Y, hY⟩ : ∃ Y, Y = inK P x := ⟨_, rfl⟩
    have hYx : Y.1 = x := by rw [hY, inK_in hxin]
    rw [← hX] at hb0
    rw [← hY] at hy0
    refine wc_skip (post_thenN (wc_seq ?_))
    refine wc_region [0,1,2,3,4,5,6,7,8] rfl ?_
    refine Go.Sx.V rfl wu rfl rfl (mv rfl) ?_
    refine Go.Sx.V rfl wu rfl rfl (mv rfl) ?_
    refine C rfl wu rfl rfl Try.call21 (dOrder P g b _ (hG.ext hE)) ?_
    rintro ov w3 hE3 ho1
    obtain ⟨o, s, e, l, hre, hso, hs, hc⟩ := ord_split ho1
    subst hre
    replace hE := hE.trans hE3
    refine Go.Sx.V rfl wu rfl rfl (mv rfl) ?_
    refine Go.Sx.V rfl wu rfl rfl (ext rfl rfl) ?_
    refine Go.Sx.V rfl wu rfl rfl (ext rfl rfl) ?_
    refine AL rfl wu rfl zv26 ?_
    intro pb w4 hE4 hBp hpb
    refine STB (vs := [.int .i64 o, s]) (cs' := [.int .i64 o, s]) rfl wu rfl rfl rfl sv26 (by intro h; cases h) (by assumption) (by first | (simp [Value.oneCell']; done) | (intro v hv; simp only [List.mem_cons, List.not_mem_nil, or_false] at hv; rcases hv with rfl | rfl | rfl <;> first | rfl | assumption) | (intro v hv; simp only [List.mem_cons, List.not_mem_nil, or_false] at hv; rcases hv with rfl | rfl <;> first | rfl | assumption)) rfl rfl rfl ?_
    intro w5 hg5 hX5 hBo
    refine Go.Sx.V rfl wu rfl rfl (asg rfl) ?_
    refine wr_nil (post_thenN (wc_seq ?_))
    have h5 := hX5 _ hpb hE4
    replace hE := hE.trans h5
    clear hBp hg5 hX5 hE4 ho1 hs h5
    rw [← hX] at hc
    rcases hc with ⟨h1, _⟩ | ⟨_, _, o1, o2, hord, _⟩
    · exact absurd h1 hb0
    refine wc_region [0] rfl ?_
    refine Go.Sx.V rfl wu rfl rfl (asg rfl) ?_
    refine wr_nil (post_thenN (wc_seq (wc_block ?_)))
    refine wc_loop (fun s : Int => [(0, g), (1, .int .i64 b), (2, .int .i64 x), (8, .pointer (some ⟨pb, 0, none⟩)), (10, .int .i64 s)])
      (fun s w' => 1 ≤ s ∧ s ≤ 16 ∧ Ext w5 w') (fun s => (16 - s).toNat) 1 ⟨rfl, rfl, rfl, rfl, rfl, trivial⟩ ⟨by omega, by omega, Ext.refl _⟩ ?_
    rintro st w6 ⟨s1, s2, hE6⟩
    have hss := prod_le (i := st) (s := st) (by omega) (by omega) (by omega) s2
    replace hBo := hBo.ext hE6
    try dsimp only
    refine wc_seq (wc_seq ?_)
    refine wc_region [0,1,2,3,4,5] rfl ?_
    refine Go.Sx.V rfl wu rfl rfl (mv rfl) ?_
    refine Go.Sx.V rfl wu rfl rfl (mv rfl) ?_
    refine Go.Sx.V rfl wu rfl rfl (mulI rfl rfl) ?_
    refine Go.Sx.V rfl wu rfl rfl (fad rfl fa26_0) ?_
    refine Go.Sx.V rfl wu rfl rfl (ldB rfl na3) ?_
    refine Go.Sx.V rfl wu rfl rfl (lssI rfl rfl) ?_
    refine wr_nil (post_thenN ?_)
    refine wc_cond rfl ?_ ?_
    · intro hl
      simp at hl
      have := sq16 s1 (by omega)
      refine wc_skip (post_thenN (wc_block ?_))
      refine wc_region [0,1,2] rfl ?_
      refine Go.Sx.V rfl wu rfl rfl (mv rfl) ?_
      refine Go.Sx.V rfl wu rfl rfl (addI rfl rfl) ?_
      refine Go.Sx.V rfl wu rfl rfl (asg rfl) ?_
      refine wr_nil (post_blockN ?_)
      exact post_loopN (st + 1) ⟨rfl, rfl, rfl, rfl, rfl, trivial⟩ ⟨by omega, by omega, hE6⟩ (by omega)
    · intro hl
      simp at hl
      clear hl hss
      replace hE := hE.trans hE6
      refine wc_exit (post_thenE (post_loopE (post_blockX (post_thenN (wc_seq ?_)))))
      have hsn : (st.toNat : Int) = st := by omega
      obtain ⟨n, hn⟩ : ∃ n, n = st.toNat := ⟨_, rfl⟩
      rw [← hn] at hsn
      have hn0 : 0 < n := by omega
      refine wc_region [0,1,2] rfl ?_
      refine Go.Sx.V rfl wu rfl rfl (mv rfl) ?_
      refine MM rfl wu rfl rfl mt72 ?_
      intro bm w7 hE7 hM hbm
      refine Go.Sx.V rfl wu rfl rfl (asg rfl) ?_
      refine wr_nil (post_thenN (wc_seq ?_))
      refine wc_region [0] rfl ?_
      refine Go.Sx.V rfl wu rfl rfl (asg rfl) ?_
      refine wr_nil (post_thenN (wc_seq (wc_seq ?_)))
      refine wc_region [0,1] rfl ?_
      refine Go.Sx.V rfl wu rfl rfl (mv rfl) ?_
      refine Go.Sx.V rfl wu rfl rfl (mv rfl) ?_
      refine wr_nil (post_thenN (wc_block ?_))
      refine wc_loop (fun s : Nat × List (Int × Int) => [(0, g), (1, .int .i64 b), (2, .int .i64 x), (8, .pointer (some ⟨pb, 0, none⟩)), (10, .int .i64 st), (11, .map (some bm)), (12, .int .i64 (npow X s.1).1), (55, .int .i64 st), (56, .int .i64 s.1)])
        (fun s w' => s.1 ≤ n ∧ Ext w6 w' ∧ MapI w' bm s.2 ∧ Baby X s.1 s.2) (fun s => n - s.1) (0, []) ⟨rfl, rfl, rfl, rfl, rfl, rfl, rfl, rfl, rfl, trivial⟩ ⟨by show 0 ≤ n; omega, hE7, hM, Baby.zero X⟩ ?_
      clear hE7 hM
      rintro ⟨i, zs⟩ w8 ⟨i1, hX8, hM, hZ⟩
      dsimp only at i1 hX8 hM hZ
      try dsimp only
      refine wc_seq ?_
      refine wc_region [0] rfl ?_
      refine Go.Sx.V rfl wu rfl rfl (lssI rfl rfl) ?_
      refine wr_nil (post_thenN (wc_seq ?_))
      refine wc_cond rfl ?_ ?_
      · intro hl
        simp at hl
        refine wc_skip (post_thenN (wc_seq (wc_block (wc_seq ?_))))
        refine wc_region [0,1] rfl ?_
        refine Go.Sx.V rfl wu rfl rfl (mv rfl) ?_
        refine Go.Sx.V rfl wu rfl rfl (asg rfl) ?_
        refine wr_nil (post_thenN (wc_seq (wc_seq ?_)))
        refine wc_region [0,1,2,3,4,5,6,7] rfl ?_
        refine Go.Sx.V rfl wu rfl rfl (mv rfl) ?_
        refine Go.Sx.V rfl wu rfl rfl (mv rfl) ?_
        refine Go.Sx.V rfl wu rfl rfl (lkM rfl rfl mt72 (by assumption)) ?_
        refine Go.Sx.V rfl wu rfl rfl (mv rfl) ?_
        refine Go.Sx.V rfl wu rfl rfl (ext rfl rfl) ?_
        refine Go.Sx.V rfl wu rfl rfl (ext rfl rfl) ?_
        refine Go.Sx.V rfl wu rfl rfl (asg rfl) ?_
        refine Go.Sx.V rfl wu rfl rfl (asg rfl) ?_
        refine wr_nil (post_thenN (wc_seq ?_))
        refine wc_region [0,1] rfl ?_
        refine Go.Sx.V rfl wu rfl rfl (mv rfl) ?_
        refine Go.Sx.V rfl wu rfl rfl (notB rfl) ?_
        refine wr_nil (post_thenN ?_)
        have hmul : (inK P (npow X i).1 * inK P b).1 = (npow X (i + 1)).1 := by rw [inK_val, ← hX, npow_succ]
        refine wc_cond rfl ?_ ?_
        · intro hc
          simp at hc
          refine wc_region [0,1,2,3] rfl ?_
          refine Go.Sx.V rfl wu rfl rfl (mv rfl) ?_
          refine Go.Sx.V rfl wu rfl rfl (mv rfl) ?_
          refine Go.Sx.V rfl wu rfl rfl (mv rfl) ?_
          refine MU rfl wu rfl rfl rfl mt72 (by intro h; cases h) (by assumption) (hc) ?_
          intro w9 hg9 hX9 hM9
          refine wr_nil (post_thenN ?_)
          replace hX8 := hX9 _ hbm hX8
          refine wc_region [0,1,2,3,4] rfl ?_
          refine Go.Sx.V rfl wu rfl rfl (mv rfl) ?_
          refine Go.Sx.V rfl wu rfl rfl (mv rfl) ?_
          refine Go.Sx.V rfl wu rfl rfl (mv rfl) ?_
          refine C rfl wu rfl rfl Try.call48 (gMul P g (npow X i).1 b _ (hG.ext (hE.trans hX8))) ?_
          rintro _ w10 hE10 rfl
          rw [hmul]
          refine Go.Sx.V rfl wu rfl rfl (asg rfl) ?_
          refine wr_nil (post_blockN (post_thenN ?_))
          refine wc_region [0,1] rfl ?_
          refine Go.Sx.V rfl wu rfl rfl (addI rfl rfl) ?_
          refine Go.Sx.V rfl wu rfl rfl (mv rfl) ?_
          refine wr_nil ?_
          exact post_loopN (i + 1, zs ++ [((npow X i).1, (i : Int))]) ⟨rfl, rfl, rfl, rfl, rfl, rfl, rfl, rfl, rfl, trivial⟩ ⟨by show i + 1 ≤ n; omega, hX8.trans hE10, hM9.ext hE10, hZ.push hc⟩ (by show n - (i + 1) < n - i; omega)
        · intro hc
          simp at hc
          refine wc_skip (post_thenN ?_)
          refine wc_region [0,1,2,3,4] rfl ?_
          refine Go.Sx.V rfl wu rfl rfl (mv rfl) ?_
          refine Go.Sx.V rfl wu rfl rfl (mv rfl) ?_
          refine Go.Sx.V rfl wu rfl rfl (mv rfl) ?_
          refine C rfl wu rfl rfl Try.call48 (gMul P g (npow X i).1 b _ (hG.ext (hE.trans hX8))) ?_
          rintro _ w10 hE10 rfl
          rw [hmul]
          refine Go.Sx.V rfl wu rfl rfl (asg rfl) ?_
          refine wr_nil (post_blockN (post_thenN ?_))
          refine wc_region [0,1] rfl ?_
          refine Go.Sx.V rfl wu rfl rfl (addI rfl rfl) ?_
          refine Go.Sx.V rfl wu rfl rfl (mv rfl) ?_
          refine wr_nil ?_
          exact post_loopN (i + 1, zs) ⟨rfl, rfl, rfl, rfl, rfl, rfl, rfl, rfl, rfl, trivial⟩ ⟨by show i + 1 ≤ n; omega, hX8.trans hE10, hM.ext hE10, hZ.skip (by intro e; rw [e] at hc; cases hc)⟩ (by show n - (i + 1) < n - i; omega)
      · intro hl
        simp at hl
        obtain rfl : i = n := by omega
        refine wc_exit (post_thenE (post_loopE (post_blockX (post_thenN (wc_seq ?_)))))
        have hin : inK P (npow X i).1 = npow X i := inK_val _
        have hnz := npowK_ne hx0 hb0 i
        obtain ⟨G, hG'⟩ : ∃ G, G = invK P (npow X i) := ⟨_, rfl⟩
        have hXG : npow X i * G = 1 := by rw [hG']; exact mul_invK hx0 hnz
        refine wc_region [0,1,2,3,4,5,6,7] rfl ?_
        refine Go.Sx.V rfl wu rfl rfl (mv rfl) ?_
        refine Go.Sx.V rfl wu rfl rfl (mv rfl) ?_
        refine C rfl wu rfl rfl Try.call49 (gInv P g (npow X i).1 _ (hG.ext (hE.trans hX8))) ?_
        rintro _ w9 hE9 rfl
        rw [hin, if_neg hnz, ← hG']
        replace hX8 := hX8.trans hE9
        replace hM := hM.ext hE9
        refine Go.Sx.V rfl wu rfl rfl (mv rfl) ?_
        refine Go.Sx.V rfl wu rfl rfl (ext rfl rfl) ?_
        refine Go.Sx.V rfl wu rfl rfl (ext rfl rfl) ?_
        refine Go.Sx.V rfl wu rfl rfl (asg rfl) ?_
        refine Go.Sx.V rfl wu rfl rfl (asg rfl) ?_
        refine wr_nil (post_thenN (wc_seq (wc_seq ?_)))
        refine wc_region [0] rfl ?_
        refine Go.Sx.V rfl wu rfl rfl (asg rfl) ?_
        refine wr_nil (post_thenN (wc_block ?_))
        refine wc_loop (fun k : Nat => [(0, g), (1, .int .i64 b), (2, .int .i64 (Y * npow G k).1), (8, .pointer (some ⟨pb, 0, none⟩)), (10, .int .i64 st), (11, .map (some bm)), (16, .int .i64 G.1), (18, .int .i64 k)])
          (fun k w' => (k : Int) ≤ o ∧ Ext w6 w' ∧ MapI w' bm zs ∧ ∀ a c, a < k → c < i → npow X c ≠ Y * npow G a) (fun k => o.toNat - k) 0
          ⟨rfl, rfl, by show _ = some (Value.int .i64 (Y * npow G 0).1); rw [npow_zero, mul_one, hYx]; rfl, rfl, rfl, rfl, rfl, rfl, trivial⟩ ⟨by show (0 : Int) ≤ o; omega, hX8, hM, fun a c ha => by omega⟩ ?_
        clear hX8 hM hE9
        rintro k w10 ⟨k1, hX8, hM, hno⟩
        try dsimp only at k1 hX8 hM hno
        have hks := prod_le (i := (k : Int)) (s := st) (by omega) (by omega) (by omega) s2
        have hkl := le_prod (i := (k : Int)) (s := st) (by omega) s1
        have hcast : ((k * i : Nat) : Int) = (k : Int) * st := by rw [Int.natCast_mul, hsn]
        try dsimp only
        refine wc_seq (wc_seq ?_)
        refine wc_region [0,1,2,3,4,5] rfl ?_
        refine Go.Sx.V rfl wu rfl rfl (mv rfl) ?_
        refine Go.Sx.V rfl wu rfl rfl (mv rfl) ?_
        refine Go.Sx.V rfl wu rfl rfl (mulI rfl rfl) ?_
        refine Go.Sx.V rfl wu rfl rfl (fad rfl fa26_0) ?_
        refine Go.Sx.V rfl wu rfl rfl (ldB rfl na3) ?_
        refine Go.Sx.V rfl wu rfl rfl (lssI rfl rfl) ?_
        refine wr_nil (post_thenN ?_)
        refine wc_cond rfl ?_ ?_
        · intro hl
          simp at hl
          refine wc_skip (post_thenN (wc_seq (wc_block (wc_seq (wc_seq ?_)))))
          refine wc_region [0,1,2,3,4,5,6,7] rfl ?_
          refine Go.Sx.V rfl wu rfl rfl (mv rfl) ?_
          refine Go.Sx.V rfl wu rfl rfl (mv rfl) ?_
          refine Go.Sx.V rfl wu rfl rfl (lkM rfl rfl mt72 (by assumption)) ?_
          refine Go.Sx.V rfl wu rfl rfl (mv rfl) ?_
          refine Go.Sx.V rfl wu rfl rfl (ext rfl rfl) ?_
          refine Go.Sx.V rfl wu rfl rfl (ext rfl rfl) ?_
          refine Go.Sx.V rfl wu rfl rfl (asg rfl) ?_
          refine Go.Sx.V rfl wu rfl rfl (asg rfl) ?_
          refine wr_nil (post_thenN (wc_seq ?_))
          refine wc_region [0] rfl ?_
          refine Go.Sx.V rfl wu rfl rfl (mv rfl) ?_
          refine wr_nil (post_thenN ?_)
          refine wc_cond rfl ?_ ?_
          · intro hc
            obtain ⟨j, hj⟩ := Option.isSome_iff_exists.1 hc
            obtain ⟨j0, j1, j2, j3⟩ := hZ.1 _ _ hj
            rw [hj, Option.getD_some]
            refine wc_seq ?_
            refine wc_region [0,1,2,3,4,5,6] rfl ?_
            refine Go.Sx.V rfl wu rfl rfl (mv rfl) ?_
            refine Go.Sx.V rfl wu rfl rfl (mv rfl) ?_
            refine Go.Sx.V rfl wu rfl rfl (mulI rfl rfl) ?_
            refine Go.Sx.V rfl wu rfl rfl (mv rfl) ?_
            refine Go.Sx.V rfl wu rfl rfl (addI rfl rfl) ?_
            refine Go.Sx.V rfl wu rfl rfl (asg rfl) ?_
            refine Go.Sx.V rfl wu rfl rfl (asg rfl) ?_
            refine wr_nil (post_thenN (wc_ret (post_thenR (post_blockR (post_thenR (post_loopR (post_blockR (post_thenR ?_))))))))
            refine post_ret2 rfl rfl rfl ?_
            have hf := solve_found (Y := Y) hn0 hXG hno (show j.toNat < i by omega) (Subtype.ext j2) (fun m hm he => j3 m hm (congrArg Subtype.val he))
            refine ⟨hE.trans hX8, .inr ⟨by rw [← hX]; exact hb0, by rw [← hY]; exact hy0, .inl ⟨k * i + j.toNat, ?_, ?_, ?_⟩⟩⟩
            · rw [← hX, ← hY]; exact hf.1
            · rw [← hX, ← hY]; exact hf.2
            · rw [show ((k * i + j.toNat : Nat) : Int) = (k : Int) * st + j by rw [Int.natCast_add, hcast]; omega]
          · intro hc
            have hj : mget zs (Y * npow G k).1 = none := by
              cases hm : mget zs (Y * npow G k).1 with
              | none => rfl
              | some u => rw [hm] at hc; cases hc
            have hmul : (inK P (Y * npow G k).1 * inK P G.1).1 = (Y * npow G (k + 1)).1 := by rw [inK_val, inK_val, npow_succ, mul_assoc]
            refine wc_skip (post_thenN ?_)
            refine wc_region [0,1,2,3,4] rfl ?_
            refine Go.Sx.V rfl wu rfl rfl (mv rfl) ?_
            refine Go.Sx.V rfl wu rfl rfl (mv rfl) ?_
            refine Go.Sx.V rfl wu rfl rfl (mv rfl) ?_
            refine C rfl wu rfl rfl Try.call48 (gMul P g (Y * npow G k).1 G.1 _ (hG.ext (hE.trans hX8))) ?_
            rintro _ w11 hE11 rfl
            rw [hmul]
            refine Go.Sx.V rfl wu rfl rfl (asg rfl) ?_
            refine wr_nil (post_blockN (post_thenN ?_))
            refine wc_region [0,1,2] rfl ?_
            refine Go.Sx.V rfl wu rfl rfl (mv rfl) ?_
            refine Go.Sx.V rfl wu rfl rfl (addI rfl rfl) ?_
            refine Go.Sx.V rfl wu rfl rfl (asg rfl) ?_
            refine wr_nil ?_
            refine post_loopN (k + 1) ⟨rfl, rfl, rfl, rfl, rfl, rfl, rfl, rfl, trivial⟩ ⟨by show ((k + 1 : Nat) : Int) ≤ o; omega, hX8.trans hE11, hM.ext hE11, fun a c ha hci => ?_⟩ (by show o.toNat - (k + 1) < o.toNat - k; omega)
            by_cases e : a = k
            · subst e
              exact fun he => hZ.2 _ hj c hci (congrArg Subtype.val he)
            · exact hno a c (by omega) hci
        · intro hl
          simp at hl
          refine wc_exit (post_thenE (post_loopE (post_blockX (post_thenN (wc_seq ?_)))))
          refine wc_region [0,1] rfl ?_
          refine Go.Sx.V rfl wu rfl rfl (asg rfl) ?_
          refine Go.Sx.V rfl wu rfl rfl (asg rfl) ?_
          refine wr_nil (post_thenN (wc_ret ?_))
          refine post_ret2 rfl rfl rfl ?_
          refine ⟨hE.trans hX8, .inr ⟨by rw [← hX]; exact hb0, by rw [← hY]; exact hy0, .inr ⟨fun m => ?_, rfl⟩⟩⟩
          rw [← hX, ← hY]
          exact solve_none hn0 hord (show o.toNat ≤ k * i by omega) hXG hno m
end Go.Proofs.Ytmookiiehfdloaa
