/-
  The package bivariate, by contract, part 5: args, pascal, gap.
-/
import Derived.Test.YtmnojknfjbimdaaGreatUBiv1
import Derived.Test.YtmnojknfjbimdaaGreatUMPa
import Derived.Test.YtmnojknfjbimdaaGreatUGF1
import Derived.Test.YtmnojknfjbimdaaGreatUMSxa
namespace Go.Proofs.YtmnojknfjbimdaaGreat
open Go Go.Sx Go.Pl Go.RowKit Go.Fd Go.Alg
def sn (P : FP) (xs : List Int) (i : Nat) (t : Int) : Bool := (xs.take i).any fun z => decide ((inK P z).1 = t)
theorem sn_succ {P : FP} {xs : List Int} {i : Nat} (h : i < xs.length) (t : Int) : sn P xs (i + 1) t = (sn P xs i t || decide ((inK P (gi xs i)).1 = t)) := by
  rw [sn, sn, List.take_add_one, List.getElem?_eq_getElem h, List.any_append]
  simp [gi, List.getD_eq_getElem?_getD, List.getElem?_eq_getElem h]
def dif (P : FP) (xs : List Int) : Nat → Bool
  | 0 => true
  | i + 1 => dif P xs i && !sn P xs i (inK P (gi xs i)).1
theorem dif_less {P : FP} {xs : List Int} {i : Nat} : ∀ n, i ≤ n → dif P xs n = true → dif P xs i = true
  | 0, h, k => by rw [show i = 0 by omega]; rfl
  | n + 1, h, k => by
    by_cases e : i = n + 1
    · rw [e]; exact k
    · rw [dif, Bool.and_eq_true] at k
      exact dif_less n (by omega) k.1
def seenB (P : FP) (xs : List Int) (i : Nat) : List Value := (List.range P.q.toNat).map fun (t : Nat) => .bool (sn P xs i t)
theorem seenB_length (P : FP) (xs : List Int) (i : Nat) : (seenB P xs i).length = P.q.toNat := by simp [seenB]
theorem seenB_zero (P : FP) (xs : List Int) : List.replicate P.q.toNat (.bool false) = seenB P xs 0 := by
  apply List.ext_getElem
  · simp [seenB]
  · intro i h1 h2
    simp [seenB, sn]
theorem seenB_get {P : FP} {xs : List Int} {i : Nat} (z : K P) : (seenB P xs i)[(z.1).toNat]? = some (.bool (sn P xs i z.1)) := by
  have := z.2
  rw [seenB, List.getElem?_map, List.getElem?_range (by omega)]
  simp only [Option.map_some]
  rw [show ((z.1.toNat : Nat) : Int) = z.1 by omega]
theorem seenB_step {P : FP} {xs : List Int} {i : Nat} (h : i < xs.length) : (seenB P xs i).set ((inK P (gi xs i)).1).toNat (.bool true) = seenB P xs (i + 1) := by
  have hz := (inK P (gi xs i)).2
  apply List.ext_getElem
  · simp [seenB]
  · intro t h1 h2
    rw [List.getElem_set]
    simp only [seenB, List.getElem_map, List.getElem_range, sn_succ h]
    by_cases e : (inK P (gi xs i)).1.toNat = t
    · rw [if_pos e, decide_eq_true (show (inK P (gi xs i)).1 = (t : Int) by omega)]; simp
    · rw [if_neg e, decide_eq_false (show ¬ (inK P (gi xs i)).1 = (t : Int) by omega)]; simp
def argsA (P : FP) (xs : List Int) (ny : Nat) (m w l : Int) : Int :=
  if xs.length ≠ ny then 3 else if dif P xs xs.length = false then 18 else if m < 1 ∨ 16 < m ∨ w < 0 ∨ 64 < w ∨ l < 0 ∨ 64 < l then 6 else if 4096 < ((xs.length : Int) * m * (m + 1)) / 2 then 8 else 0
theorem sn_false {P : FP} {xs : List Int} {t : Int} : ∀ {i : Nat}, i ≤ xs.length → (∀ j, j < i → (inK P (gi xs j)).1 ≠ t) → sn P xs i t = false
  | 0, _, _ => by simp [sn]
  | i + 1, hi, h => by
    rw [sn_succ (by omega), sn_false (by omega) (fun j hj => h j (by omega)), decide_eq_false (h i (by omega))]; rfl
theorem args_zero {P : FP} {xs : List Int} {ny : Nat} {m w l : Int} : argsA P xs ny m w l = 0 ↔ xs.length = ny ∧ dif P xs xs.length = true ∧ 1 ≤ m ∧ m ≤ 16 ∧ 0 ≤ w ∧ w ≤ 64 ∧ 0 ≤ l ∧ l ≤ 64 ∧ ((xs.length : Int) * m * (m + 1)) / 2 ≤ 4096 := by
  rw [argsA]
  constructor
  · intro h
    split at h
    · omega
    · split at h
      · omega
      · split at h
        · omega
        · split at h
          · omega
          · rename_i h1 h2 h3 h4
            exact ⟨by omega, by simpa using h2, by omega, by omega, by omega, by omega, by omega, by omega, by omega⟩
  · rintro ⟨h1, h2, h3, h4, h5, h6, h7, h8, h9⟩
    rw [if_neg (by omega), if_neg (by rw [h2]; simp), if_neg (by omega), if_neg (by omega)]
set_option maxRecDepth 10000 in
theorem bArgs (P : FP) (g u v : Value) (xs ys : List Int) (m wt l : Int) (w : World) (hG : GFV w P g) (hu : Ints w u xs) (hv : Ints w v ys) :
    Calls Tryz.prog 111 #[g, u, v, .int .i64 m, .int .i64 wt, .int .i64 l] w (RetX w fun r _ => r = .int .i64 (argsA P xs ys.length m wt l)) := by
  have hq := hG.q
  have hq2 := P.q_two
  have hle := hu.le
  refine calls6 Tryz.func111 rfl rfl ?_
  refine wc_seq ?_
  refine wc_region [0] rfl ?_
  refine Go.Sx.V rfl wu rfl rfl (asg rfl) ?_
  refine wr_nil (post_thenN (wc_seq (wc_seq ?_)))
  refine wc_region [0,1,2,3,4] rfl ?_
  refine Go.Sx.V rfl wu rfl rfl (mv rfl) ?_
  refine Go.Sx.V rfl wu rfl rfl (lenI rfl ty22) ?_
  refine Go.Sx.V rfl wu rfl rfl (mv rfl) ?_
  refine Go.Sx.V rfl wu rfl rfl (lenI rfl ty22) ?_
  refine Go.Sx.V rfl wu rfl rfl (neqI rfl rfl) ?_
  refine wr_nil (post_thenN ?_)
  refine wc_cond rfl ?_ ?_
  · intro h
    simp at h
    refine wc_seq ?_
    refine wc_region [0] rfl ?_
    refine Go.Sx.V rfl wu rfl rfl (asg rfl) ?_
    refine wr_nil (post_thenN (wc_ret (post_thenR ?_)))
    refine post_ret1 rfl rfl ?_
    exact ⟨Ext.refl _, by rw [argsA, if_pos (by omega)]⟩
  · intro h
    simp at h
    refine wc_skip (post_thenN (wc_seq ?_))
    refine wc_region [0,1,2,3] rfl ?_
    refine Go.Sx.V rfl wu rfl rfl (mv rfl) ?_
    refine C rfl wu rfl rfl Tryz.call149 (gOrder P g _ hG) ?_
    rintro _ w1 hE1 rfl
    refine MK (n := P.q.toNat) rfl wu rfl rfl ty90 rfl ?_
    intro seen w3 hE3 hs hsb
    rw [seenB_zero P xs] at hs
    refine Go.Sx.V rfl wu rfl rfl (asg rfl) ?_
    refine wr_nil (post_thenN (wc_seq (wc_seq ?_)))
    have hE := hE1.trans hE3
    replace hs := hs.mono (B' := w.heap.size) hE1.size
    refine wc_region [0,1,2] rfl ?_
    refine Go.Sx.V rfl wu rfl rfl (mv rfl) ?_
    refine Go.Sx.V rfl wu rfl rfl (lenI rfl ty22) ?_
    refine Go.Sx.V rfl wu rfl rfl (mv rfl) ?_
    refine wr_nil (post_thenN (wc_block ?_))
    refine wc_loop (fun i : Nat => [(0, g), (1, u), (3, .int .i64 m), (4, .int .i64 wt), (5, .int .i64 l), (13, seen), (24, u), (25, .int .i64 xs.length), (26, .int .i64 i)])
      (fun i w' => i ≤ xs.length ∧ Ext w w' ∧ dif P xs i = true ∧ Sx.Own w.heap.size w' seen 4 (seenB P xs i)) (fun i => xs.length - i) 0 ⟨rfl, rfl, rfl, rfl, rfl, rfl, rfl, rfl, rfl, trivial⟩ ⟨by omega, hE, rfl, hs⟩ ?_
    clear hE hs hE1 hE3
    rintro i w4 ⟨i1, hE, hd, hs⟩
    have hui := hu.ext hE
    have hsl := seenB_length P xs i
    try dsimp only
    refine wc_seq ?_
    refine wc_region [0] rfl ?_
    refine Go.Sx.V rfl wu rfl rfl (lssI rfl rfl) ?_
    refine wr_nil (post_thenN (wc_seq ?_))
    refine wc_cond rfl ?_ ?_
    · intro hc
      simp at hc
      have hz : (inK P (gi xs i) + inK P 0).1 = (inK P (gi xs i)).1 := by rw [inK0, add_zero]
      have hr := (inK P (gi xs i)).2
      refine wc_skip (post_thenN (wc_seq (wc_block (wc_seq ?_))))
      refine wc_region [0,1,2] rfl ?_
      refine Go.Sx.V rfl wu rfl rfl (iadI rfl rfl ty22 hui (by omega) (by omega)) ?_
      refine Go.Sx.V rfl wu rfl rfl (ldI rfl na3 hui) ?_
      refine Go.Sx.V rfl wu rfl rfl (asg rfl) ?_
      refine wr_nil (post_thenN (wc_seq ?_))
      refine wc_region [0,1,2,3] rfl ?_
      refine Go.Sx.V rfl wu rfl rfl (mv rfl) ?_
      refine Go.Sx.V rfl wu rfl rfl (mv rfl) ?_
      refine C rfl wu rfl rfl Tryz.call124 (gAdd P g _ _ _ (hG.ext hE)) ?_
      rintro _ w5 hE5 rfl
      replace hE := hE.trans hE5
      replace hs := hs.ext hE5
      rw [hz]
      refine Go.Sx.V rfl wu rfl rfl (asg rfl) ?_
      refine wr_nil (post_thenN (wc_seq (wc_seq ?_)))
      refine wc_region [0,1,2,3] rfl ?_
      refine Go.Sx.V rfl wu rfl rfl (mv rfl) ?_
      refine Go.Sx.V rfl wu rfl rfl (mv rfl) ?_
      refine Go.Sx.V rfl wu rfl rfl (iad rfl rfl ty90 hs.sl (by omega) (by omega)) ?_
      refine Go.Sx.V rfl wu rfl rfl (ldE rfl na4 hs.sl (seenB_get (inK P (gi xs i)))) ?_
      refine wr_nil (post_thenN ?_)
      refine wc_cond rfl ?_ ?_
      · intro hc2
        refine wc_seq ?_
        refine wc_region [0] rfl ?_
        refine Go.Sx.V rfl wu rfl rfl (asg rfl) ?_
        refine wr_nil (post_thenN (wc_ret (post_thenR (post_blockR (post_thenR (post_loopR (post_blockR (post_thenR ?_))))))))
        refine post_ret1 rfl rfl ?_
        have hnd : dif P xs xs.length = false := by
          cases hdd : dif P xs xs.length
          · rfl
          · have h2 := dif_less (i := i + 1) xs.length (by omega) hdd
            rw [dif, Bool.and_eq_true, hc2] at h2
            simp at h2
        exact ⟨hE, by rw [argsA, if_neg (by omega), if_pos hnd]⟩
      · intro hc2
        refine wc_skip (post_thenN ?_)
        refine wc_region [0,1,2,3] rfl ?_
        refine Go.Sx.V rfl wu rfl rfl (mv rfl) ?_
        refine Go.Sx.V rfl wu rfl rfl (mv rfl) ?_
        refine Go.Sx.V rfl wu rfl rfl (iad rfl rfl ty90 hs.sl (by omega) (by omega)) ?_
        refine ST rfl wu rfl rfl sz4 rfl (by intro h; cases h) ?_ hs (by omega) (by omega)
        intro w6 hg6 hs6
        rw [seenB_step hc] at hs6
        replace hE := hE.grown hg6 hs (Nat.le_refl _)
        refine wr_nil (post_blockN (post_thenN ?_))
        refine wc_region [0,1] rfl ?_
        refine Go.Sx.V rfl wu rfl rfl (addI rfl rfl) ?_
        refine Go.Sx.V rfl wu rfl rfl (mv rfl) ?_
        refine wr_nil ?_
        exact post_loopN (i + 1) ⟨rfl, rfl, rfl, rfl, rfl, rfl, rfl, rfl, rfl, trivial⟩ ⟨by omega, hE, by rw [dif, hd, hc2]; rfl, hs6⟩ (by omega)
    · intro hc
      simp at hc
      obtain rfl : i = xs.length := by omega
      refine wc_exit (post_thenE (post_loopE (post_blockX (post_thenN (wc_seq (wc_seq ?_))))))
      refine wc_region [0,1,2,3,4,5,6,7,8,9,10,11,12,13,14,15,16,17,18,19,20,21] rfl ?_
      refine Go.Sx.V rfl wu rfl rfl (mv rfl) ?_
      refine Go.Sx.V rfl wu rfl rfl (lssI rfl rfl) ?_
      refine Go.Sx.V rfl wu rfl rfl (mv rfl) ?_
      refine OR (π1 := [3,4,5]) (π2 := [6,7,8,9,10,11,12,13,14,15,16,17,18,19,20,21]) (tc := 43) (tp := 46) rfl rfl rfl (by
          intro _
          refine SK rfl rfl rfl rfl rfl ?_
          refine SK rfl rfl rfl rfl rfl ?_
          refine Go.Sx.V rfl wu rfl rfl (pk rfl rfl) ?_
          exact join rfl) (by
          intro hg
          simp at hg
          refine Go.Sx.V rfl (wg rfl rfl) rfl rfl (mv rfl) ?_
          refine Go.Sx.V rfl (wg rfl rfl) rfl rfl (gtrI rfl rfl) ?_
          refine Go.Sx.V rfl wu rfl rfl (pk rfl rfl) ?_
          exact join rfl) ?_
      refine Go.Sx.V rfl wu rfl rfl (mv rfl) ?_
      refine OR (π1 := [7,8,9]) (π2 := [10,11,12,13,14,15,16,17,18,19,20,21]) (tc := 47) (tp := 50) rfl rfl rfl (by
          intro _
          refine SK rfl rfl rfl rfl rfl ?_
          refine SK rfl rfl rfl rfl rfl ?_
          refine Go.Sx.V rfl wu rfl rfl (pk rfl rfl) ?_
          exact join rfl) (by
          intro hg
          simp at hg
          refine Go.Sx.V rfl (wg rfl rfl) rfl rfl (mv rfl) ?_
          refine Go.Sx.V rfl (wg rfl rfl) rfl rfl (lssI rfl rfl) ?_
          refine Go.Sx.V rfl wu rfl rfl (pk rfl rfl) ?_
          exact join rfl) ?_
      refine Go.Sx.V rfl wu rfl rfl (mv rfl) ?_
      refine OR (π1 := [11,12,13]) (π2 := [14,15,16,17,18,19,20,21]) (tc := 51) (tp := 54) rfl rfl rfl (by
          intro _
          refine SK rfl rfl rfl rfl rfl ?_
          refine SK rfl rfl rfl rfl rfl ?_
          refine Go.Sx.V rfl wu rfl rfl (pk rfl rfl) ?_
          exact join rfl) (by
          intro hg
          simp at hg
          refine Go.Sx.V rfl (wg rfl rfl) rfl rfl (mv rfl) ?_
          refine Go.Sx.V rfl (wg rfl rfl) rfl rfl (gtrI rfl rfl) ?_
          refine Go.Sx.V rfl wu rfl rfl (pk rfl rfl) ?_
          exact join rfl) ?_
      refine Go.Sx.V rfl wu rfl rfl (mv rfl) ?_
      refine OR (π1 := [15,16,17]) (π2 := [18,19,20,21]) (tc := 55) (tp := 58) rfl rfl rfl (by
          intro _
          refine SK rfl rfl rfl rfl rfl ?_
          refine SK rfl rfl rfl rfl rfl ?_
          refine Go.Sx.V rfl wu rfl rfl (pk rfl rfl) ?_
          exact join rfl) (by
          intro hg
          simp at hg
          refine Go.Sx.V rfl (wg rfl rfl) rfl rfl (mv rfl) ?_
          refine Go.Sx.V rfl (wg rfl rfl) rfl rfl (lssI rfl rfl) ?_
          refine Go.Sx.V rfl wu rfl rfl (pk rfl rfl) ?_
          exact join rfl) ?_
      refine Go.Sx.V rfl wu rfl rfl (mv rfl) ?_
      refine OR (π1 := [19,20,21]) (π2 := []) (tc := 59) (tp := 62) rfl rfl rfl (by
          intro _
          refine SK rfl rfl rfl rfl rfl ?_
          refine SK rfl rfl rfl rfl rfl ?_
          refine Go.Sx.V rfl wu rfl rfl (pk rfl rfl) ?_
          exact join rfl) (by
          intro hg
          simp at hg
          refine Go.Sx.V rfl (wg rfl rfl) rfl rfl (mv rfl) ?_
          refine Go.Sx.V rfl (wg rfl rfl) rfl rfl (gtrI rfl rfl) ?_
          refine Go.Sx.V rfl wu rfl rfl (pk rfl rfl) ?_
          exact join rfl) ?_
      refine wr_nil (post_thenN ?_)
      refine wc_cond rfl ?_ ?_
      · intro h3
        simp at h3
        refine wc_seq ?_
        refine wc_region [0] rfl ?_
        refine Go.Sx.V rfl wu rfl rfl (asg rfl) ?_
        refine wr_nil (post_thenN (wc_ret (post_thenR ?_)))
        refine post_ret1 rfl rfl ?_
        exact ⟨hE, by rw [argsA, if_neg (by omega), if_neg (by rw [hd]; simp), if_pos (by omega)]⟩
      · intro h3
        simp at h3
        have m1 : (xs.length : Int) * m ≤ 140737488355328 * 16 := Int.mul_le_mul (by omega) (by omega) (by omega) (by omega)
        have m0 : 0 ≤ (xs.length : Int) * m := Int.mul_nonneg (by omega) (by omega)
        have m2 : (xs.length : Int) * m * (m + 1) ≤ 140737488355328 * 16 * 17 := Int.mul_le_mul m1 (by omega) (by omega) (by omega)
        have m3 : 0 ≤ (xs.length : Int) * m * (m + 1) := Int.mul_nonneg m0 (by omega)
        refine wc_skip (post_thenN (wc_seq (wc_seq ?_)))
        refine wc_region [0,1,2,3,4,5,6,7,8] rfl ?_
        refine Go.Sx.V rfl wu rfl rfl (mv rfl) ?_
        refine Go.Sx.V rfl wu rfl rfl (lenI rfl ty22) ?_
        refine Go.Sx.V rfl wu rfl rfl (mv rfl) ?_
        refine Go.Sx.V rfl wu rfl rfl (mulI rfl rfl) ?_
        refine Go.Sx.V rfl wu rfl rfl (mv rfl) ?_
        refine Go.Sx.V rfl wu rfl rfl (addI rfl rfl) ?_
        refine Go.Sx.V rfl wu rfl rfl (mulI rfl rfl) ?_
        refine Go.Sx.V rfl wu rfl rfl (quoI rfl rfl) ?_
        refine Go.Sx.V rfl wu rfl rfl (gtrI rfl rfl) ?_
        refine wr_nil (post_thenN ?_)
        refine wc_cond rfl ?_ ?_
        · intro h4
          simp at h4
          refine wc_seq ?_
          refine wc_region [0] rfl ?_
          refine Go.Sx.V rfl wu rfl rfl (asg rfl) ?_
          refine wr_nil (post_thenN (wc_ret (post_thenR ?_)))
          refine post_ret1 rfl rfl ?_
          exact ⟨hE, by rw [argsA, if_neg (by omega), if_neg (by rw [hd]; simp), if_neg (by omega), if_pos (by omega)]⟩
        · intro h4
          simp at h4
          refine wc_skip (post_thenN (wc_seq ?_))
          refine wc_region [0] rfl ?_
          refine Go.Sx.V rfl wu rfl rfl (asg rfl) ?_
          refine wr_nil (post_thenN (wc_ret ?_))
          refine post_ret1 rfl rfl ?_
          exact ⟨hE, by rw [argsA, if_neg (by omega), if_neg (by rw [hd]; simp), if_neg (by omega), if_neg (by omega)]⟩
set_option maxRecDepth 10000 in
theorem bGap (P : FP) (g u tb : Value) (F : Pol (Pol (K P))) (x y : Int) (a b rows cols nx : Nat) (w : World) (hG : GFV w P g) (hu : LL w u (bcl F)) (ht : LL w tb (pcT P.p rows cols)) (hx : XB nx F) (hnx : nx ≤ rows) (hny : (bcl F).length ≤ rows) (ha : a < cols) (hb : b < cols) (hrows : rows ≤ 1048576) (hcols : cols ≤ 1048576) :
    Calls Tryz.prog 150 #[g, u, .int .i64 x, .int .i64 y, .int .i64 a, .int .i64 b, tb] w (RetX w fun r _ => r = .int .i64 (dd (inK P x) (inK P y) a b F).1) := by
  obtain ⟨prs, hs, hsl, hsr⟩ := hu.row
  obtain ⟨trs, hts, htl, htr⟩ := ht.row
  rw [pcT_length] at htl htr
  obtain ⟨n, hn⟩ : ∃ n, n = (bcl F).length := ⟨_, rfl⟩
  rw [← hn] at hsl hsr hny
  refine calls7 Tryz.func150 rfl rfl ?_
  refine wc_seq ?_
  refine wc_region [0] rfl ?_
  refine Go.Sx.V rfl wu rfl rfl (asg rfl) ?_
  refine wr_nil (post_thenN (wc_seq ?_))
  refine wc_region [0,1] rfl ?_
  refine Go.Sx.V rfl wu rfl rfl (asg rfl) ?_
  refine Go.Sx.V rfl wu rfl rfl (asg rfl) ?_
  refine wr_nil (post_thenN (wc_seq (wc_seq ?_)))
  refine wc_region [0,1] rfl ?_
  refine Go.Sx.V rfl wu rfl rfl (mv rfl) ?_
  refine Go.Sx.V rfl wu rfl rfl (asg rfl) ?_
  refine wr_nil (post_thenN (wc_block ?_))
  refine wc_loop (fun t : Nat => [(0, g), (1, u), (2, .int .i64 x), (3, .int .i64 y), (4, .int .i64 a), (5, .int .i64 b), (6, tb), (15, .int .i64 (gsm (inK P x) (inK P y) a b F t).1), (16, .int .i64 (npow (inK P y) t).1), (17, .int .i64 ((t : Int) + b))])
    (fun t w' => t ≤ n - b ∧ Ext w w') (fun t => n - b - t) 0 ⟨rfl, rfl, rfl, rfl, rfl, rfl, rfl, rfl, by show _ = some (Value.int .i64 (1 : K P).1); rw [← inK1 (P := P), inK_in ⟨by omega, by have := P.q_two; omega⟩]; rfl, by show _ = some (Value.int .i64 (((0 : Nat) : Int) + b)); rw [show (((0 : Nat) : Int) + b) = (b : Int) by omega]; rfl, trivial⟩ ⟨by omega, Ext.refl _⟩ ?_
  rintro t w4 ⟨t1, hE⟩
  have hsi := hs.ext hE
  have hti := hts.ext hE
  try dsimp only
  refine wc_seq (wc_seq ?_)
  refine wc_region [0,1,2,3] rfl ?_
  refine Go.Sx.V rfl wu rfl rfl (mv rfl) ?_
  refine Go.Sx.V rfl wu rfl rfl (mv rfl) ?_
  refine Go.Sx.V rfl wu rfl rfl (lenS rfl ty30 hsi) ?_
  refine Go.Sx.V rfl wu rfl rfl (lssI rfl rfl) ?_
  refine wr_nil (post_thenN ?_)
  rw [hsl]
  refine wc_cond rfl ?_ ?_
  · intro hc
    simp at hc
    obtain ⟨tr, htr1, htr2⟩ := htr (t + b) (by omega)
    rw [pcT_row (by omega)] at htr2
    have htr1' : trs[((t : Int) + b).toNat]? = some tr := by rw [show ((t : Int) + b).toNat = t + b by omega]; exact htr1
    have hpl := pct_length P.p cols (t + b)
    have hcv := pct_get (p := P.p) (n := t + b) hb
    refine wc_skip (post_thenN (wc_seq (wc_block (wc_seq (wc_seq ?_)))))
    refine wc_region [0,1,2,3,4,5,6,7] rfl ?_
    refine Go.Sx.V rfl wu rfl rfl (mv rfl) ?_
    refine Go.Sx.V rfl wu rfl rfl (mv rfl) ?_
    refine Go.Sx.V rfl wu rfl rfl (iad rfl rfl ty29 hti (by omega) (by omega)) ?_
    refine Go.Sx.V rfl wu rfl rfl (ldE rfl na22 hti htr1') ?_
    refine Go.Sx.V rfl wu rfl rfl (mv rfl) ?_
    refine Go.Sx.V rfl wu rfl rfl (iadI rfl rfl ty22 (htr2.ext hE) (by omega) (by omega)) ?_
    refine Go.Sx.V rfl wu rfl rfl (ldI rfl na3 (htr2.ext hE)) ?_
    refine Go.Sx.V rfl wu rfl rfl (asg rfl) ?_
    refine wr_nil (post_thenN (wc_seq ?_))
    rw [hcv]
    refine wc_region [0,1] rfl ?_
    refine Go.Sx.V rfl wu rfl rfl (mv rfl) ?_
    refine Go.Sx.V rfl wu rfl rfl (neqI rfl rfl) ?_
    refine wr_nil (post_thenN ?_)
    refine wc_cut (σ := Unit) (fun _ => [(0, g), (1, u), (2, .int .i64 x), (3, .int .i64 y), (4, .int .i64 a), (5, .int .i64 b), (6, tb), (15, .int .i64 (gsm (inK P x) (inK P y) a b F (t + 1)).1), (16, .int .i64 (npow (inK P y) t).1), (17, .int .i64 ((t : Int) + b))]) (fun _ w' => Ext w w') ?_ ?_
    · skip
      refine wc_cond rfl ?_ ?_
      · intro hc1
        simp at hc1
        obtain ⟨r, hr, hri⟩ := hsr (t + b) (by omega)
        have hr' : prs[((t : Int) + b).toNat]? = some r := by rw [show ((t : Int) + b).toNat = t + b by omega]; exact hr
        rw [bcl_row] at hri
        obtain ⟨f, hf⟩ : ∃ f, f = F.co (t + b) := ⟨_, rfl⟩
        rw [← hf] at hri
        have hfl : (cl f).length ≤ nx := by rw [hf]; exact cl_len (hx _)
        refine wc_seq ?_
        refine wc_region [0] rfl ?_
        refine Go.Sx.V rfl wu rfl rfl (asg rfl) ?_
        refine wr_nil (post_thenN (wc_seq (wc_seq ?_)))
        refine wc_region [0,1,2,3,4,5,6] rfl ?_
        refine Go.Sx.V rfl wu rfl rfl (mv rfl) ?_
        refine Go.Sx.V rfl wu rfl rfl (mv rfl) ?_
        refine Go.Sx.V rfl wu rfl rfl (iad rfl rfl ty30 hsi (by omega) (by omega)) ?_
        refine Go.Sx.V rfl wu rfl rfl (ldE rfl na22 hsi hr') ?_
        refine Go.Sx.V rfl wu rfl rfl (lenI rfl ty22 (hri.ext hE)) ?_
        refine Go.Sx.V rfl wu rfl rfl (subI rfl rfl) ?_
        refine Go.Sx.V rfl wu rfl rfl (asg rfl) ?_
        refine wr_nil (post_thenN (wc_block ?_))
        refine wc_loop (fun i : Int => [(0, g), (1, u), (2, .int .i64 x), (3, .int .i64 y), (4, .int .i64 a), (5, .int .i64 b), (6, tb), (15, .int .i64 (gsm (inK P x) (inK P y) a b F t).1), (16, .int .i64 (npow (inK P y) t).1), (17, .int .i64 ((t : Int) + b)), (18, .int .i64 ((bc (t + b) b : Int) % P.p)), (19, .int .i64 (grow (inK P x) a f (i + 1 - a).toNat).1), (20, .int .i64 i)])
          (fun i w' => -1 ≤ i ∧ i < (cl f).length ∧ Ext w w') (fun i => (i + 1).toNat) ((cl f).length - 1) ⟨rfl, rfl, rfl, rfl, rfl, rfl, rfl, rfl, rfl, rfl, rfl, by
            rw [show ((cl f).length - 1 + 1 - (a : Int)).toNat = (cl f).length - a by omega, grow_last (fun j hj => cl_over f hj)]; rfl, rfl, trivial⟩ ⟨by omega, by omega, hE⟩ ?_
        clear hE
        rintro i w5 ⟨i0, i1, hE⟩
        have hsi := hs.ext hE
        have hti := hts.ext hE
        replace hri := hri.ext hE
        try dsimp only
        refine wc_seq (wc_seq ?_)
        refine wc_region [0,1,2] rfl ?_
        refine Go.Sx.V rfl wu rfl rfl (mv rfl) ?_
        refine Go.Sx.V rfl wu rfl rfl (mv rfl) ?_
        refine Go.Sx.V rfl wu rfl rfl (geqI rfl rfl) ?_
        refine wr_nil (post_thenN ?_)
        refine wc_cond rfl ?_ ?_
        · intro hc2
          simp at hc2
          obtain ⟨ir, hir1, hir2⟩ := htr i.toNat (by omega)
          rw [pcT_row (by omega)] at hir2
          have hpl2 := pct_length P.p cols i.toNat
          have hcv2 := pct_get (p := P.p) (n := i.toNat) ha
          have hcf : inK P (gi (cl f) i) = f.co i.toNat := cl_at f i.toNat
          refine wc_skip (post_thenN (wc_seq (wc_block ?_)))
          refine wc_draw mixed [0,1,2,3,5,6,7,8,9,10,11,12,13,14,15,16,17,18,19,4,20,21,22] (by kernel_rfl) ?_
          intro w6 hd _
          replace hE := hE.trans hd
          replace hsi := hsi.ext hd
          replace hti := hti.ext hd
          replace hri := hri.ext hd
          refine Go.Sx.V rfl wu rfl rfl (mv rfl) ?_
          refine Go.Sx.V rfl wu rfl rfl (mv rfl) ?_
          refine Go.Sx.V rfl wu rfl rfl (mv rfl) ?_
          refine Go.Sx.V rfl wu rfl rfl (mv rfl) ?_
          refine Go.Sx.V rfl wu rfl rfl (mv rfl) ?_
          refine Go.Sx.V rfl wu rfl rfl (mv rfl) ?_
          refine Go.Sx.V rfl wu rfl rfl (mv rfl) ?_
          refine Go.Sx.V rfl wu rfl rfl (iad rfl rfl ty29 hti (by omega) (by omega)) ?_
          refine Go.Sx.V rfl wu rfl rfl (ldE rfl na22 hti hir1) ?_
          refine Go.Sx.V rfl wu rfl rfl (mv rfl) ?_
          refine Go.Sx.V rfl wu rfl rfl (iadI rfl rfl ty22 (hir2.ext hE) (by omega) (by omega)) ?_
          refine Go.Sx.V rfl wu rfl rfl (ldI rfl na3 (hir2.ext hE)) ?_
          refine Go.Sx.V rfl wu rfl rfl (mv rfl) ?_
          refine Go.Sx.V rfl wu rfl rfl (mv rfl) ?_
          refine Go.Sx.V rfl wu rfl rfl (iad rfl rfl ty30 hsi (by omega) (by omega)) ?_
          refine Go.Sx.V rfl wu rfl rfl (ldE rfl na22 hsi hr') ?_
          refine Go.Sx.V rfl wu rfl rfl (mv rfl) ?_
          refine Go.Sx.V rfl wu rfl rfl (iadI rfl rfl ty22 hri (by omega) (by omega)) ?_
          refine Go.Sx.V rfl wu rfl rfl (ldI rfl na3 hri) ?_
          refine C rfl wu rfl rfl Tryz.call87 (gMul P g _ _ _ (hG.ext hE)) ?_
          rintro _ w7 hE7 rfl
          replace hE := hE.trans hE7
          refine C rfl wu rfl rfl Tryz.call87 (gMul P g _ _ _ (hG.ext hE)) ?_
          rintro _ w8 hE8 rfl
          replace hE := hE.trans hE8
          refine C rfl wu rfl rfl Tryz.call124 (gAdd P g _ _ _ (hG.ext hE)) ?_
          rintro _ w9 hE9 rfl
          replace hE := hE.trans hE9
          refine Go.Sx.V rfl wu rfl rfl (asg rfl) ?_
          refine wr_nil (post_blockN (post_thenN ?_))
          refine wc_region [0,1,2] rfl ?_
          refine Go.Sx.V rfl wu rfl rfl (mv rfl) ?_
          refine Go.Sx.V rfl wu rfl rfl (subI rfl rfl) ?_
          refine Go.Sx.V rfl wu rfl rfl (asg rfl) ?_
          refine wr_nil ?_
          refine post_loopN (i - 1) ⟨rfl, rfl, rfl, rfl, rfl, rfl, rfl, rfl, rfl, rfl, rfl, ?_, rfl, trivial⟩ ⟨by omega, by omega, hE⟩ (by omega)
          have hst := grow_step (x := inK P x) (a := a) (i := (i - a).toNat) (f := f)
          rw [show (i - 1 + 1 - (a : Int)).toNat = (i - a).toNat by omega, hst, show (i - (a : Int)).toNat + 1 = (i + 1 - a).toNat by omega, show (i - (a : Int)).toNat + a = i.toNat by omega, hcv2]
          simp only [inK_val]
          rw [hcf]; rfl
        · intro hc2
          simp at hc2
          have hga : grow (inK P x) a f (i + 1 - a).toNat = val1 (hsP a f) (inK P x) := by
            rw [show (i + 1 - (a : Int)).toNat = 0 by omega, grow_all]
          rw [hga]
          refine wc_exit (post_thenE (post_loopE (post_blockX (post_thenN ?_))))
          refine wc_region [0,1,2,3,4,5,6,7,8,9,10] rfl ?_
          refine Go.Sx.V rfl wu rfl rfl (mv rfl) ?_
          refine Go.Sx.V rfl wu rfl rfl (mv rfl) ?_
          refine Go.Sx.V rfl wu rfl rfl (mv rfl) ?_
          refine Go.Sx.V rfl wu rfl rfl (mv rfl) ?_
          refine Go.Sx.V rfl wu rfl rfl (mv rfl) ?_
          refine Go.Sx.V rfl wu rfl rfl (mv rfl) ?_
          refine C rfl wu rfl rfl Tryz.call87 (gMul P g _ _ _ (hG.ext hE)) ?_
          rintro _ w7 hE7 rfl
          replace hE := hE.trans hE7
          refine Go.Sx.V rfl wu rfl rfl (mv rfl) ?_
          refine C rfl wu rfl rfl Tryz.call87 (gMul P g _ _ _ (hG.ext hE)) ?_
          rintro _ w8 hE8 rfl
          replace hE := hE.trans hE8
          refine C rfl wu rfl rfl Tryz.call124 (gAdd P g _ _ _ (hG.ext hE)) ?_
          rintro _ w9 hE9 rfl
          replace hE := hE.trans hE9
          refine Go.Sx.V rfl wu rfl rfl (asg rfl) ?_
          exact wr_nil (post_cutN () ⟨rfl, rfl, rfl, rfl, rfl, rfl, rfl, by rw [gsm_row, ← hf]; simp only [inK_val]; rfl, rfl, rfl, trivial⟩ hE)
      · intro hc1
        simp at hc1
        exact wc_skip (post_cutN () ⟨rfl, rfl, rfl, rfl, rfl, rfl, rfl, by rw [gsm_skip hc1]; rfl, rfl, rfl, trivial⟩ hE)
    · rintro _ w9 hE9
      refine wc_region [0,1,2,3,4] rfl ?_
      refine Go.Sx.V rfl wu rfl rfl (mv rfl) ?_
      refine Go.Sx.V rfl wu rfl rfl (mv rfl) ?_
      refine Go.Sx.V rfl wu rfl rfl (mv rfl) ?_
      refine C rfl wu rfl rfl Tryz.call87 (gMul P g _ _ _ (hG.ext hE9)) ?_
      rintro _ w10 hE10 rfl
      replace hE9 := hE9.trans hE10
      refine Go.Sx.V rfl wu rfl rfl (asg rfl) ?_
      refine wr_nil (post_blockN (post_thenN ?_))
      refine wc_region [0,1,2] rfl ?_
      refine Go.Sx.V rfl wu rfl rfl (mv rfl) ?_
      refine Go.Sx.V rfl wu rfl rfl (addI rfl rfl) ?_
      refine Go.Sx.V rfl wu rfl rfl (asg rfl) ?_
      refine wr_nil ?_
      exact post_loopN (t + 1) ⟨rfl, rfl, rfl, rfl, rfl, rfl, rfl, rfl, by rw [inK_val, npow_succ, mul_comm]; rfl, by show _ = some (Value.int .i64 (((t + 1 : Nat) : Int) + b)); rw [show ((t + 1 : Nat) : Int) + b = ((t : Int) + b) + 1 by omega]; rfl, trivial⟩ ⟨by omega, hE9⟩ (by omega)
  · intro hc
    simp at hc
    refine wc_exit (post_thenE (post_loopE (post_blockX (post_thenN (wc_seq ?_)))))
    refine wc_region [0,1] rfl ?_
    refine Go.Sx.V rfl wu rfl rfl (mv rfl) ?_
    refine Go.Sx.V rfl wu rfl rfl (asg rfl) ?_
    refine wr_nil (post_thenN (wc_ret ?_))
    refine post_ret1 rfl rfl ?_
    have h1 := gsm_all (x := inK P x) (y := inK P y) (a := a) (b := b) (n := n) (F := F) (fun j hj => bcl_over F (by omega))
    exact ⟨hE, by rw [← h1, show n - b = t by omega]⟩
set_option maxRecDepth 10000 in
theorem bPascal (p : Int) (rows cols : Nat) (w : World) (hp : 2 ≤ p ∧ p ≤ 256) (hrows : rows ≤ 1048576) (hcols : cols ≤ 1048576) (hc0 : 0 < cols) :
    Calls Tryz.prog 112 #[.int .i64 rows, .int .i64 cols, .int .i64 p] w (RetX w fun r w' => LO w.heap.size w' r 22 (pcT p rows cols)) := by
  refine calls3 Tryz.func112 rfl rfl ?_
  refine wc_seq ?_
  refine wc_region [0] rfl ?_
  refine Go.Sx.V rfl wu rfl rfl (asg rfl) ?_
  refine wr_nil (post_thenN (wc_seq ?_))
  refine wc_region [0,1,2] rfl ?_
  refine Go.Sx.V rfl wu rfl rfl (mv rfl) ?_
  refine MKL (n := rows) rfl wu rfl rfl ty29 ?_
  intro out w2 hE ho
  refine Go.Sx.V rfl wu rfl rfl (asg rfl) ?_
  refine wr_nil (post_thenN (wc_seq (wc_seq ?_)))
  obtain ⟨orows, hos, hol, hx⟩ := ho.ll.row
  clear hx
  rw [tab_length] at hol
  refine wc_region [0,1,2] rfl ?_
  refine Go.Sx.V rfl wu rfl rfl (mv rfl) ?_
  refine Go.Sx.V rfl wu rfl rfl (lenS rfl ty29 hos) ?_
  refine Go.Sx.V rfl wu rfl rfl (mv rfl) ?_
  refine wr_nil (post_thenN (wc_block ?_))
  rw [hol]
  rw [← updB_zero rows (fun n => pct p cols n) (fun _ => [])] at ho
  refine wc_loop (fun n : Nat => [(1, .int .i64 cols), (2, .int .i64 p), (7, out), (13, .int .i64 rows), (14, .int .i64 n)])
    (fun n w' => n ≤ rows ∧ Ext w w' ∧ LO w.heap.size w' out 22 (updB rows (fun n => pct p cols n) (fun _ => []) n)) (fun n => rows - n) 0 ⟨rfl, rfl, rfl, rfl, rfl, trivial⟩ ⟨by omega, hE, ho⟩ ?_
  clear hE ho hos hol
  clear orows
  rintro n w4 ⟨n1, hE, ho⟩
  have hul := updB_length rows (fun n => pct p cols n) (fun _ => []) n
  have hsz := hE.size
  try dsimp only
  refine wc_seq ?_
  refine wc_region [0] rfl ?_
  refine Go.Sx.V rfl wu rfl rfl (lssI rfl rfl) ?_
  refine wr_nil (post_thenN (wc_seq ?_))
  refine wc_cond rfl ?_ ?_
  · intro hc
    simp at hc
    obtain ⟨hB0, us, ho1, ho2, ho3⟩ := ho
    have hlt := ho1.lt
    refine wc_skip (post_thenN (wc_seq (wc_block (wc_seq ?_))))
    refine wc_region [0,1] rfl ?_
    refine Go.Sx.V rfl wu rfl rfl (mv rfl) ?_
    refine Go.Sx.V rfl wu rfl rfl (asg rfl) ?_
    refine wr_nil (post_thenN (wc_seq ?_))
    refine wc_region [0,1,2,3,4,5] rfl ?_
    refine Go.Sx.V rfl wu rfl rfl (mv rfl) ?_
    refine Go.Sx.V rfl wu rfl rfl (mv rfl) ?_
    refine Go.Sx.V rfl wu rfl rfl (mv rfl) ?_
    refine MKI (n := cols) rfl wu rfl rfl ty22 ?_
    intro r w5 hE5 hr5 hri5 hrb5
    replace ho1 := ho1.ext hE5
    have hri5' := hri5
    refine Go.Sx.V rfl wu rfl rfl (iad rfl rfl ty29 ho1.sl (by omega) (by omega)) ?_
    refine ST rfl wu rfl rfl sz22 hri5.one (by intro h; cases h) ?_ ho1 (by omega) (by omega)
    intro w6 hg6 ho6
    refine wr_nil (post_thenN (wc_seq ?_))
    have hne : r.ownBlock ≠ out.ownBlock := fun e => by
      rw [hrb5] at e
      have := (hlt _ e.symm).2
      omega
    have hE6 := (hE.trans hE5).grown hg6 ho1 (Nat.le_refl _)
    have hr6 : OwnI w4.heap.size w6 r 3 (tab cols fun _ => 0) := Own.kept hr5 hg6 (.inl hne)
    have hold : ∀ (i : Nat) u, i < n → us[i]? = some u → Ints w6 u (pct p cols i) ∧ u.ownBlock ≠ out.ownBlock ∧ (∀ k, u.ownBlock = some k → w.heap.size ≤ k) ∧ u.ownBlock ≠ r.ownBlock := fun i u hi hu => by
      have hLi : (updB rows (fun n => pct p cols n) (fun _ => []) n)[i]? = some (pct p cols i) := by
        rw [updB, tab_get (by omega), if_pos hi]
      obtain ⟨h1, h2⟩ := ho3 i u _ hu hLi
      have hpos : 0 < (pct p cols i).length := by rw [pct_length]; exact hc0
      have h2' := h2.resolve_left (fun e => by rw [e] at hpos; simp at hpos)
      have h3 := (h1.ext hE5).kept hg6 h2'.1
      refine ⟨h3, h2'.1, h2'.2, fun e => ?_⟩
      obtain ⟨k, hk, hkl⟩ := h1.lt hpos
      rw [hrb5, hk] at e
      have := Option.some.inj e
      omega
    obtain ⟨vs, hvs⟩ : ∃ vs, vs = us.set ((n : Int)).toNat r := ⟨_, rfl⟩
    have hvl : vs.length = rows := by rw [hvs, List.length_set, ho2, hul]
    have hvn : vs[((n : Int)).toNat]? = some r := by rw [hvs, List.getElem?_set_self (by omega)]
    have hvo : ∀ i, i ≠ n → vs[i]? = us[i]? := fun i hi => by rw [hvs, List.getElem?_set_ne (by omega)]
    rw [← hvs] at ho6
    have hone : (1 : Int) % p = (bc n 0 : Int) % p := by rw [bc_zero]; rfl
    rw [← pctU_zero p cols n] at hr6
    have hpu0 := pctU_length p cols n 0
    refine wc_draw mixed [0,1,2,3,4,5,6,7] (by kernel_rfl) ?_
    intro w7 hd _
    replace hE6 := hE6.trans hd
    replace hr6 := hr6.ext hd
    replace ho6 := ho6.ext hd
    refine Go.Sx.V rfl wu rfl rfl (mv rfl) ?_
    refine Go.Sx.V rfl wu rfl rfl (mv rfl) ?_
    refine Go.Sx.V rfl wu rfl rfl (iad rfl rfl ty29 ho6.sl (by omega) (by omega)) ?_
    refine Go.Sx.V rfl wu rfl rfl (ldE rfl na22 ho6.sl hvn) ?_
    refine Go.Sx.V rfl wu rfl rfl (mv rfl) ?_
    refine Go.Sx.V rfl wu rfl rfl (remI rfl rfl) ?_
    refine Go.Sx.V rfl wu rfl rfl (iadI rfl rfl ty22 (OwnI.ints hr6) (by omega) (by omega)) ?_
    refine STI rfl wu rfl rfl sz3 (by intro h; kernel_rfl) ?_
    intro w8 hg8 hX8 ho8 hi8
    refine wr_nil (post_thenN (wc_seq ?_))
    rw [hone, show (0 : Int) = ((0 : Nat) : Int) from rfl, pctU_step] at ho8
    have hE8 := hX8 _ (by omega) hE6
    have hout8 : Sx.Own w.heap.size w8 out 22 vs := Own.kept ho6 hg8 (.inl (Ne.symm hne))
    have hold8 : ∀ (i : Nat) u, i < n → us[i]? = some u → Ints w8 u (pct p cols i) ∧ u.ownBlock ≠ out.ownBlock ∧ (∀ k, u.ownBlock = some k → w.heap.size ≤ k) ∧ u.ownBlock ≠ r.ownBlock := fun i u hi hu => by
      obtain ⟨h1, h2, h3, h4⟩ := hold i u hi hu
      exact ⟨(h1.ext hd).kept hg8 h4, h2, h3, h4⟩
    clear hold hi8 hg8 hX8 ho6 hr6 ho1 hg6 hr5 hri5' hri5
    refine wc_region [0] rfl ?_
    refine Go.Sx.V rfl wu rfl rfl (asg rfl) ?_
    refine wr_nil (post_thenN (wc_block ?_))
    refine wc_loop (fun k : Nat => [(1, .int .i64 cols), (2, .int .i64 p), (7, out), (8, .int .i64 n), (9, .int .i64 k), (13, .int .i64 rows), (14, .int .i64 n)])
      (fun k w' => 1 ≤ k ∧ k ≤ cols ∧ Ext w w' ∧ OwnI w4.heap.size w' r 3 (pctU p cols n k) ∧ Sx.Own w.heap.size w' out 22 vs ∧ ∀ (i : Nat) u, i < n → us[i]? = some u → Ints w' u (pct p cols i) ∧ u.ownBlock ≠ out.ownBlock ∧ (∀ k, u.ownBlock = some k → w.heap.size ≤ k) ∧ u.ownBlock ≠ r.ownBlock) (fun k => cols - k) 1 ⟨rfl, rfl, rfl, rfl, rfl, rfl, rfl, trivial⟩ ⟨by omega, by omega, hE8, ho8, hout8, hold8⟩ ?_
    clear hE8 ho8 hout8 hold8
    rintro k w9 ⟨k0, k1, hE9, hr9, ho9, hold9⟩
    have hpu := pctU_length p cols n k
    try dsimp only
    refine wc_seq (wc_seq ?_)
    refine wc_region [0,1,2,3,4,5,6] rfl ?_
    refine Go.Sx.V rfl wu rfl rfl (mv rfl) ?_
    refine Go.Sx.V rfl wu rfl rfl (mv rfl) ?_
    refine Go.Sx.V rfl wu rfl rfl (lssI rfl rfl) ?_
    refine Go.Sx.V rfl wu rfl rfl (mv rfl) ?_
    refine AND (π1 := [4,5,6]) (π2 := []) (tc := 32) (tp := 35) rfl rfl rfl (by
        intro hg
        simp at hg
        refine Go.Sx.V rfl (wg rfl rfl) rfl rfl (mv rfl) ?_
        refine Go.Sx.V rfl (wg rfl rfl) rfl rfl (gtrI rfl rfl) ?_
        refine Go.Sx.V rfl wu rfl rfl (pk rfl rfl) ?_
        exact join rfl) (by
        intro _
        refine SK rfl rfl rfl rfl rfl ?_
        refine SK rfl rfl rfl rfl rfl ?_
        refine Go.Sx.V rfl wu rfl rfl (pk rfl rfl) ?_
        exact join rfl) ?_
    refine wr_nil (post_thenN ?_)
    refine wc_cond rfl ?_ ?_
    · intro hc2
      simp at hc2
      obtain ⟨q, hq⟩ : ∃ q, us[n - 1]? = some q := ⟨us[n - 1]'(by omega), List.getElem?_eq_getElem (by omega)⟩
      obtain ⟨hq1, _⟩ := hold9 (n - 1) q (by omega) hq
      have hqv : vs[((n : Int) - 1).toNat]? = some q := by rw [show ((n : Int) - 1).toNat = n - 1 by omega, hvo _ (by omega)]; exact hq
      have hql := pct_length p cols (n - 1)
      have g1 := pct_get (p := p) (n := n - 1) hc2.1
      have g2 := pct_get (p := p) (n := n - 1) (k := k - 1) (cols := cols) (by omega)
      rw [show ((k - 1 : Nat) : Int) = (k : Int) - 1 by omega] at g2
      have hv0 := pasc_add (p := p) (n - 1) (k - 1)
      rw [show n - 1 + 1 = n by omega, show k - 1 + 1 = k by omega] at hv0
      have b1 := Int.emod_nonneg ((bc (n - 1) k : Nat) : Int) (b := p) (by omega)
      have b2 := Int.emod_lt_of_pos ((bc (n - 1) k : Nat) : Int) (b := p) (by omega)
      have b3 := Int.emod_nonneg ((bc (n - 1) (k - 1) : Nat) : Int) (b := p) (by omega)
      have b4 := Int.emod_lt_of_pos ((bc (n - 1) (k - 1) : Nat) : Int) (b := p) (by omega)
      refine wc_skip (post_thenN (wc_seq (wc_block ?_)))
      refine wc_draw mixed [0,1,2,3,4,5,6,7,8,9,10,11,12,13,14,15,16,17,18,19,20,21,22,23,24,25,26] (by kernel_rfl) ?_
      intro w10 hd10 _
      replace hE9 := hE9.trans hd10
      replace hr9 := hr9.ext hd10
      replace ho9 := ho9.ext hd10
      replace hq1 := hq1.ext hd10
      refine Go.Sx.V rfl wu rfl rfl (mv rfl) ?_
      refine Go.Sx.V rfl wu rfl rfl (mv rfl) ?_
      refine Go.Sx.V rfl wu rfl rfl (iad rfl rfl ty29 ho9.sl (by omega) (by omega)) ?_
      refine Go.Sx.V rfl wu rfl rfl (ldE rfl na22 ho9.sl hvn) ?_
      refine Go.Sx.V rfl wu rfl rfl (mv rfl) ?_
      refine Go.Sx.V rfl wu rfl rfl (mv rfl) ?_
      refine Go.Sx.V rfl wu rfl rfl (mv rfl) ?_
      refine Go.Sx.V rfl wu rfl rfl (subI rfl rfl) ?_
      refine Go.Sx.V rfl wu rfl rfl (iad rfl rfl ty29 ho9.sl (by omega) (by omega)) ?_
      refine Go.Sx.V rfl wu rfl rfl (ldE rfl na22 ho9.sl hqv) ?_
      refine Go.Sx.V rfl wu rfl rfl (mv rfl) ?_
      refine Go.Sx.V rfl wu rfl rfl (iadI rfl rfl ty22 hq1 (by omega) (by omega)) ?_
      refine Go.Sx.V rfl wu rfl rfl (ldI rfl na3 hq1) ?_
      refine Go.Sx.V rfl wu rfl rfl (mv rfl) ?_
      refine Go.Sx.V rfl wu rfl rfl (mv rfl) ?_
      refine Go.Sx.V rfl wu rfl rfl (subI rfl rfl) ?_
      refine Go.Sx.V rfl wu rfl rfl (iad rfl rfl ty29 ho9.sl (by omega) (by omega)) ?_
      refine Go.Sx.V rfl wu rfl rfl (ldE rfl na22 ho9.sl hqv) ?_
      refine Go.Sx.V rfl wu rfl rfl (mv rfl) ?_
      refine Go.Sx.V rfl wu rfl rfl (subI rfl rfl) ?_
      refine Go.Sx.V rfl wu rfl rfl (iadI rfl rfl ty22 hq1 (by omega) (by omega)) ?_
      refine Go.Sx.V rfl wu rfl rfl (ldI rfl na3 hq1) ?_
      rw [g1, g2]
      refine Go.Sx.V rfl wu rfl rfl (addI rfl rfl) ?_
      refine Go.Sx.V rfl wu rfl rfl (mv rfl) ?_
      refine Go.Sx.V rfl wu rfl rfl (remI rfl rfl) ?_
      rw [hv0]
      refine Go.Sx.V rfl wu rfl rfl (iadI rfl rfl ty22 (OwnI.ints hr9) (by omega) (by omega)) ?_
      refine STI rfl wu rfl rfl sz3 (by intro h; kernel_rfl) ?_
      intro w11 hg11 hX11 ho11 hi11
      refine wr_nil (post_blockN (post_thenN ?_))
      rw [pctU_step] at ho11
      refine wc_region [0,1,2] rfl ?_
      refine Go.Sx.V rfl wu rfl rfl (mv rfl) ?_
      refine Go.Sx.V rfl wu rfl rfl (addI rfl rfl) ?_
      refine Go.Sx.V rfl wu rfl rfl (asg rfl) ?_
      refine wr_nil ?_
      exact post_loopN (k + 1) ⟨rfl, rfl, rfl, rfl, rfl, rfl, rfl, trivial⟩ ⟨by omega, by omega, hX11 _ (by omega) hE9, ho11, Own.kept ho9 hg11 (.inl (Ne.symm hne)), fun i u hi hu => by
        obtain ⟨h1, h2, h3, h4⟩ := hold9 i u hi hu
        exact ⟨(h1.ext hd10).kept hg11 h4, h2, h3, h4⟩⟩ (by omega)
    · intro hc2
      simp at hc2
      rw [pctU_last (fun t h1 h2 => by
        rw [bc_over (by omega)]; rfl)] at hr9
      have hri := OwnI.ints hr9
      refine wc_exit (post_thenE (post_loopE (post_blockX (post_blockN (post_thenN ?_)))))
      refine wc_region [0,1] rfl ?_
      refine Go.Sx.V rfl wu rfl rfl (addI rfl rfl) ?_
      refine Go.Sx.V rfl wu rfl rfl (mv rfl) ?_
      refine wr_nil ?_
      refine post_loopN (n + 1) ⟨rfl, rfl, rfl, rfl, rfl, trivial⟩ ⟨by omega, hE9, ⟨hE9.size, vs, ho9, by rw [hvl, updB_length], fun i u zs a b => ?_⟩⟩ (by omega)
      have hil : i < rows := by
        have := (List.getElem?_eq_some_iff.1 a).1
        omega
      rw [updB, tab_get hil] at b
      cases b
      by_cases e : i = n
      · subst e
        rw [Int.toNat_natCast] at hvn
        rw [hvn] at a
        cases a
        rw [if_pos (by omega)]
        exact ⟨hri, .inr ⟨hne, fun k hk => by rw [hrb5] at hk; cases hk; omega⟩⟩
      · rw [hvo i e] at a
        by_cases e2 : i < n
        · rw [if_pos (by omega)]
          obtain ⟨h1, h2, h3, h4⟩ := hold9 i u e2 a
          exact ⟨h1, .inr ⟨h2, h3⟩⟩
        · rw [if_neg (by omega)]
          have hLi : (updB rows (fun n => pct p cols n) (fun _ => []) n)[i]? = some [] := by
            rw [updB, tab_get (by omega), if_neg (by omega)]
          exact ⟨ints_empty (ho3 i u _ a hLi).1, .inl rfl⟩
  · intro hc
    simp at hc
    refine wc_exit (post_thenE (post_loopE (post_blockX (post_thenN (wc_seq ?_)))))
    rw [show n = rows by omega, updB_last] at ho
    refine wc_region [0,1] rfl ?_
    refine Go.Sx.V rfl wu rfl rfl (mv rfl) ?_
    refine Go.Sx.V rfl wu rfl rfl (asg rfl) ?_
    refine wr_nil (post_thenN (wc_ret ?_))
    refine post_ret1 rfl rfl ?_
    exact ⟨hE, ho⟩
end Go.Proofs.YtmnojknfjbimdaaGreat

