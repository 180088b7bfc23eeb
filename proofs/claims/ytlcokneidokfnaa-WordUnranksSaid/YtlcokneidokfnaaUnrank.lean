/-
  Unrank, the program's and the reference's, by contract.
-/
import Derived.Test.YtlcokneidokfnaaRank
namespace Go.Proofs.Ytlcokneidokfnaa
open Go Go.Sx Go.Pl Go.RowKit

theorem unrankAns_bad {n k r : Int} (h : n < 0 ∨ 64 < n ∨ k < 0 ∨ n < k ∨ r < 0 ∨ binZ n k ≤ r) : unrankAns n k r = ([], 6) := if_pos h
theorem unrankAns_ok {n k r : Int} (h : ¬ (n < 0 ∨ 64 < n ∨ k < 0 ∨ n < k ∨ r < 0 ∨ binZ n k ≤ r)) : unrankAns n k r = (ur n.toNat 0 k.toNat r.toNat, 0) := if_neg h
/-- The state of the loop: x, what is left of r, the slice and what it holds. -/
structure UI (n k r0 : Int) (w : World) (x r : Int) (out : Value) (acc : List Int) (w' : World) : Prop where
  x0 : 0 ≤ x
  x1 : x ≤ n
  r0' : 0 ≤ r
  len : acc.length ≤ k
  lt : r < binZ (n - x) (k - acc.length)
  eq : acc ++ ur (n - x).toNat x (k - acc.length).toNat r.toNat = ur n.toNat 0 k.toNat r0.toNat
  ext : Ext w w'
  own : OwnI w.heap.size w' out 3 acc
theorem UI.x_lt {n k r0 : Int} {w : World} {x r : Int} {out : Value} {acc : List Int} {w' : World} (h : UI n k r0 w x r out acc w') (hc : acc.length < k) : x < n := by
  have h1 := h.lt
  have h2 := h.r0'
  have h3 := h.x1
  by_cases e : x = n
  · subst e
    rw [binZ, if_neg (by omega), bin_big _ _ (by omega)] at h1
    omega
  · omega
theorem UI.take {n k r0 : Int} {w : World} {x r : Int} {out out' : Value} {acc : List Int} {w' w2 : World} (h : UI n k r0 w x r out acc w') (hc : acc.length < k) (hr : r < binZ (n - 1 - x) (k - 1 - acc.length)) (hE : Ext w w2) (ho : OwnI w.heap.size w2 out' 3 (acc ++ [x])) :
    UI n k r0 w (x + 1) r out' (acc ++ [x]) w2 := by
  have hx := h.x_lt hc
  obtain ⟨a1, a2, a3, a4, a5, a6, _, _⟩ := h
  obtain ⟨j, hj⟩ : ∃ j : Nat, k - acc.length = j + 1 := ⟨(k - acc.length - 1).toNat, by omega⟩
  have e1 : (k - acc.length).toNat = j + 1 := by omega
  have e2 : k - 1 - acc.length = (j : Int) := by omega
  rw [e2] at hr
  rw [e1, ur_step hx a3 hr] at a6
  have e3 : k - ((acc ++ [x]).length : Int) = j := by simp; omega
  refine ⟨by omega, by omega, a3, by simp; omega, ?_, ?_, hE, ho⟩
  · rw [e3]
    have : n - (x + 1) = n - 1 - x := by omega
    rw [this]; exact hr
  · rw [e3]
    simpa using a6
theorem UI.skip {n k r0 : Int} {w : World} {x r : Int} {out : Value} {acc : List Int} {w' w2 : World} (h : UI n k r0 w x r out acc w') (hc : acc.length < k) (hr : binZ (n - 1 - x) (k - 1 - acc.length) ≤ r) (hE : Ext w' w2) :
    UI n k r0 w (x + 1) (r - binZ (n - 1 - x) (k - 1 - acc.length)) out acc w2 := by
  have hx := h.x_lt hc
  obtain ⟨a1, a2, a3, a4, a5, a6, a7, a8⟩ := h
  obtain ⟨j, hj⟩ : ∃ j : Nat, k - acc.length = j + 1 := ⟨(k - acc.length - 1).toNat, by omega⟩
  have e1 : (k - acc.length).toNat = j + 1 := by omega
  have e2 : k - 1 - acc.length = (j : Int) := by omega
  have hp := binZ_pascal (k := k - acc.length) hx (by omega)
  have e4 : k - acc.length - 1 = (j : Int) := by omega
  rw [e4] at hp
  rw [e2] at hr ⊢
  rw [e1, ur_skip hx a3 hr] at a6
  refine ⟨by omega, by omega, by omega, a4, by omega, ?_, a7.trans hE, a8.ext hE⟩
  rw [e1]
  exact a6
theorem UI.done {n k r0 : Int} {w : World} {x r : Int} {out : Value} {acc : List Int} {w' : World} (h : UI n k r0 w x r out acc w') (hc : k ≤ acc.length) : acc = ur n.toNat 0 k.toNat r0.toNat := by
  have h1 := h.eq
  have h2 := h.len
  have e : (k - acc.length).toNat = 0 := by omega
  rw [e, ur_nil, List.append_nil] at h1
  exact h1
theorem UI.start {n k r : Int} {w w' : World} {out : Value} (h : ¬ (n < 0 ∨ 64 < n ∨ k < 0 ∨ n < k ∨ r < 0 ∨ binZ n k ≤ r)) (hE : Ext w w') (ho : OwnI w.heap.size w' out 3 []) : UI n k r w 0 r out [] w' :=
  ⟨by omega, by omega, by omega, by simp; omega, by simp; omega, by simp, hE, ho⟩

set_option maxRecDepth 10000 in
theorem wUnrank (n k r : Int) (w : World) :
    Calls Try.prog 23 #[.int .i64 n, .int .i64 k, .int .i64 r] w (RetX w (LE (unrankAns n k r).1 (unrankAns n k r).2)) := by
  refine calls3 Try.func23 rfl rfl ?_
  refine wc_seq ?_
  refine wc_region [0,1] rfl ?_
  refine V rfl wu rfl rfl (asg rfl) ?_
  refine V rfl wu rfl rfl (asg rfl) ?_
  refine wr_nil (post_thenN (wc_seq (wc_seq ?_)))
  refine wc_region [0,1,2,3,4,5,6,7,8,9,10,11,12,13,14,15,16,17,18,19,20,21,22,23,24,25] rfl ?_
  refine V rfl wu rfl rfl (mv rfl) ?_
  refine V rfl wu rfl rfl (lssI rfl rfl) ?_
  refine V rfl wu rfl rfl (mv rfl) ?_
  refine OR (π1 := [3,4,5]) (π2 := [6,7,8,9,10,11,12,13,14,15,16,17,18,19,20,21,22,23,24,25]) (tc := 13) (tp := 16) rfl rfl rfl (by
      intro _
      refine SK rfl rfl rfl rfl rfl ?_
      refine SK rfl rfl rfl rfl rfl ?_
      refine V rfl wu rfl rfl (pk rfl rfl) ?_
      exact join rfl) (by
      intro hg
      simp at hg
      refine V rfl (wg rfl rfl) rfl rfl (mv rfl) ?_
      refine V rfl (wg rfl rfl) rfl rfl (gtrI rfl rfl) ?_
      refine V rfl wu rfl rfl (pk rfl rfl) ?_
      exact join rfl) ?_
  refine V rfl wu rfl rfl (mv rfl) ?_
  refine OR (π1 := [7,8,9]) (π2 := [10,11,12,13,14,15,16,17,18,19,20,21,22,23,24,25]) (tc := 17) (tp := 20) rfl rfl rfl (by
      intro _
      refine SK rfl rfl rfl rfl rfl ?_
      refine SK rfl rfl rfl rfl rfl ?_
      refine V rfl wu rfl rfl (pk rfl rfl) ?_
      exact join rfl) (by
      intro hg
      simp at hg
      refine V rfl (wg rfl rfl) rfl rfl (mv rfl) ?_
      refine V rfl (wg rfl rfl) rfl rfl (lssI rfl rfl) ?_
      refine V rfl wu rfl rfl (pk rfl rfl) ?_
      exact join rfl) ?_
  refine V rfl wu rfl rfl (mv rfl) ?_
  refine OR (π1 := [11,12,13,14]) (π2 := [15,16,17,18,19,20,21,22,23,24,25]) (tc := 21) (tp := 25) rfl rfl rfl (by
      intro _
      refine SK rfl rfl rfl rfl rfl ?_
      refine SK rfl rfl rfl rfl rfl ?_
      refine SK rfl rfl rfl rfl rfl ?_
      refine V rfl wu rfl rfl (pk rfl rfl) ?_
      exact join rfl) (by
      intro hg
      simp at hg
      refine V rfl (wg rfl rfl) rfl rfl (mv rfl) ?_
      refine V rfl (wg rfl rfl) rfl rfl (mv rfl) ?_
      refine V rfl (wg rfl rfl) rfl rfl (gtrI rfl rfl) ?_
      refine V rfl wu rfl rfl (pk rfl rfl) ?_
      exact join rfl) ?_
  refine V rfl wu rfl rfl (mv rfl) ?_
  refine OR (π1 := [16,17,18]) (π2 := [19,20,21,22,23,24,25]) (tc := 26) (tp := 29) rfl rfl rfl (by
      intro _
      refine SK rfl rfl rfl rfl rfl ?_
      refine SK rfl rfl rfl rfl rfl ?_
      refine V rfl wu rfl rfl (pk rfl rfl) ?_
      exact join rfl) (by
      intro hg
      simp at hg
      refine V rfl (wg rfl rfl) rfl rfl (mv rfl) ?_
      refine V rfl (wg rfl rfl) rfl rfl (lssI rfl rfl) ?_
      refine V rfl wu rfl rfl (pk rfl rfl) ?_
      exact join rfl) ?_
  refine V rfl wu rfl rfl (mv rfl) ?_
  refine ORX (π1 := [20,21,22,23,24,25]) (π2 := []) (tc := 30) (tp := 36) rfl rfl rfl (by
      intro _
      refine SK rfl rfl rfl rfl rfl ?_
      refine SK rfl rfl rfl rfl rfl ?_
      refine SK rfl rfl rfl rfl rfl ?_
      refine SK rfl rfl rfl rfl rfl ?_
      refine SK rfl rfl rfl rfl rfl ?_
      refine V rfl wu rfl rfl (pk rfl rfl) ?_
      exact joinX rfl) (by
      intro hg
      simp at hg
      refine V rfl (wg rfl rfl) rfl rfl (mv rfl) ?_
      refine V rfl (wg rfl rfl) rfl rfl (mv rfl) ?_
      refine V rfl (wg rfl rfl) rfl rfl (mv rfl) ?_
      refine C rfl (wg rfl rfl) rfl rfl Try.call54 (choose_int n k _ (by omega) (by omega)) ?_
      rintro _ w1 hE1 rfl
      refine V rfl (wg rfl rfl) rfl rfl (geqI rfl rfl) ?_
      refine V rfl wu rfl rfl (pk rfl rfl) ?_
      exact joinX rfl) ?_
  intro w1 hE
  refine wr_nil (post_thenN ?_)
  refine wc_cond rfl ?_ ?_
  · intro h
    simp at h
    refine wc_seq ?_
    refine wc_region [0,1] rfl ?_
    refine V rfl wu rfl rfl (asg rfl) ?_
    refine V rfl wu rfl rfl (asg rfl) ?_
    refine wr_nil (post_thenN (wc_ret (post_thenR ?_)))
    refine post_ret2 rfl rfl rfl ?_
    rw [unrankAns_bad (by omega)]
    exact ⟨hE, _, rfl, Ints.nil _⟩
  · intro h
    simp at h
    refine wc_skip (post_thenN (wc_seq ?_))
    have hb : ¬ (n < 0 ∨ 64 < n ∨ k < 0 ∨ n < k ∨ r < 0 ∨ binZ n k ≤ r) := by omega
    rw [unrankAns_ok hb]
    refine wc_region [0,1,2] rfl ?_
    refine V rfl wu rfl rfl (mv rfl) ?_
    refine MKC (n := k.toNat) rfl wu rfl rfl rfl ty26 ?_
    intro out w2 hE2 ho _
    refine V rfl wu rfl rfl (asg rfl) ?_
    refine wr_nil (post_thenN (wc_seq (wc_seq ?_)))
    replace ho : OwnI w1.heap.size w2 out 3 [] := ho
    replace ho := Own.mono ho hE.size
    replace hE := hE.trans hE2
    refine wc_region [0] rfl ?_
    refine V rfl wu rfl rfl (asg rfl) ?_
    refine wr_nil (post_thenN (wc_block ?_))
    refine wc_loop (fun q : Int × Int × Value × List Int => [(0, .int .i64 n), (1, .int .i64 k), (2, .int .i64 q.2.1), (8, q.2.2.1), (9, .int .i64 q.1)])
      (fun q w' => UI n k r w q.1 q.2.1 q.2.2.1 q.2.2.2 w') (fun q => (n - q.1).toNat) (0, r, out, []) ⟨rfl, rfl, rfl, rfl, rfl, trivial⟩ (UI.start hb hE ho) ?_
    rintro ⟨x, r', out, acc⟩ w3 hI
    simp only at hI
    have hx0 := hI.x0
    have hx1 := hI.x1
    have hr0 := hI.r0'
    have hE := hI.ext
    have ho := hI.own
    have hi := ho.ints
    have hlen := hI.len
    try dsimp only
    refine wc_seq (wc_seq ?_)
    refine wc_region [0,1,2,3] rfl ?_
    refine V rfl wu rfl rfl (mv rfl) ?_
    refine V rfl wu rfl rfl (lenI rfl ty26) ?_
    refine V rfl wu rfl rfl (mv rfl) ?_
    refine V rfl wu rfl rfl (lssI rfl rfl) ?_
    refine wr_nil (post_thenN ?_)
    refine wc_cond rfl ?_ ?_
    · intro hc
      simp at hc
      refine wc_skip (post_thenN (wc_seq (wc_block (wc_seq ?_))))
      have hx := hI.x_lt hc
      have hbz := binZ_bounds (n - 1 - x) (k - 1 - acc.length) (by omega)
      have hb2 := binZ_bounds (n - x) (k - acc.length) (by omega)
      have hlt := hI.lt
      refine wc_region [0,1,2,3,4,5,6,7,8,9,10] rfl ?_
      refine V rfl wu rfl rfl (mv rfl) ?_
      refine V rfl wu rfl rfl (subI rfl rfl) ?_
      refine V rfl wu rfl rfl (mv rfl) ?_
      refine V rfl wu rfl rfl (subI rfl rfl) ?_
      refine V rfl wu rfl rfl (mv rfl) ?_
      refine V rfl wu rfl rfl (subI rfl rfl) ?_
      refine V rfl wu rfl rfl (mv rfl) ?_
      refine V rfl wu rfl rfl (lenI rfl ty26) ?_
      refine V rfl wu rfl rfl (subI rfl rfl) ?_
      refine C rfl wu rfl rfl Try.call54 (choose_int (n - 1 - x) _ _ (by omega) (by omega)) ?_
      rintro _ w4 hE4 rfl
      refine V rfl wu rfl rfl (asg rfl) ?_
      refine wr_nil (post_thenN (wc_seq (wc_seq ?_)))
      refine wc_region [0,1,2] rfl ?_
      refine V rfl wu rfl rfl (mv rfl) ?_
      refine V rfl wu rfl rfl (mv rfl) ?_
      refine V rfl wu rfl rfl (lssI rfl rfl) ?_
      refine wr_nil (post_thenN ?_)
      refine wc_cond rfl ?_ ?_
      · intro hr
        simp at hr
        refine wc_seq ?_
        replace ho := ho.ext hE4
        replace hi := hi.ext hE4
        replace hE := hE.trans hE4
        refine wc_region [0,1,2,3,4] rfl ?_
        refine V rfl wu rfl rfl (mv rfl) ?_
        refine V rfl wu rfl rfl (mv rfl) ?_
        refine BSI (zs := [x]) rfl wu rfl rfl rfl rfl ty26 ?_
        intro s w5 hE5 _ hs _
        replace ho := ho.ext hE5
        replace hE := hE.trans hE5
        refine API rfl wu rfl rfl rfl ty26 (by intro h h2; cases h) ?_
        intro out2 w6 hg hX ho hi _
        replace hE := hX _ (Nat.le_refl _) hE
        refine V rfl wu rfl rfl (asg rfl) ?_
        refine wr_nil (post_thenN (wc_exit (post_thenE (post_blockX (post_thenN ?_)))))
        refine wc_region [0,1,2] rfl ?_
        refine V rfl wu rfl rfl (mv rfl) ?_
        refine V rfl wu rfl rfl (addI rfl rfl) ?_
        refine V rfl wu rfl rfl (asg rfl) ?_
        refine wr_nil ?_
        exact post_loopN (x + 1, r', out2, acc ++ [x]) ⟨rfl, rfl, rfl, rfl, rfl, trivial⟩ (hI.take hc hr hE ho) (by simp; omega)
      · intro hr
        simp at hr
        refine wc_skip (post_thenN ?_)
        refine wc_region [0,1,2,3] rfl ?_
        refine V rfl wu rfl rfl (mv rfl) ?_
        refine V rfl wu rfl rfl (mv rfl) ?_
        refine V rfl wu rfl rfl (subI rfl rfl) ?_
        refine V rfl wu rfl rfl (asg rfl) ?_
        refine wr_nil (post_blockN (post_thenN ?_))
        refine wc_region [0,1,2] rfl ?_
        refine V rfl wu rfl rfl (mv rfl) ?_
        refine V rfl wu rfl rfl (addI rfl rfl) ?_
        refine V rfl wu rfl rfl (asg rfl) ?_
        refine wr_nil ?_
        exact post_loopN (x + 1, _, out, acc) ⟨rfl, rfl, rfl, rfl, rfl, trivial⟩ (hI.skip hc hr hE4) (by simp; omega)
    · intro hc
      simp at hc
      refine wc_exit (post_thenE (post_loopE (post_blockX (post_thenN (wc_seq ?_)))))
      refine wc_region [0,1,2] rfl ?_
      refine V rfl wu rfl rfl (mv rfl) ?_
      refine V rfl wu rfl rfl (asg rfl) ?_
      refine V rfl wu rfl rfl (asg rfl) ?_
      refine wr_nil (post_thenN (wc_ret ?_))
      refine post_ret2 rfl rfl rfl ?_
      exact ⟨hE, _, rfl, by rw [← hI.done hc]; exact hi⟩

set_option maxRecDepth 10000 in
theorem rUnrank (n k r : Int) (w : World) :
    Calls Try.prog 25 #[.int .i64 n, .int .i64 k, .int .i64 r] w (RetX w (LE (unrankAns n k r).1 (unrankAns n k r).2)) := by
  refine calls3 Try.func25 rfl rfl ?_
  refine wc_seq ?_
  refine wc_region [0,1] rfl ?_
  refine V rfl wu rfl rfl (asg rfl) ?_
  refine V rfl wu rfl rfl (asg rfl) ?_
  refine wr_nil (post_thenN (wc_seq ?_))
  refine wc_region [0,1,2,3,4,5,6,7] rfl ?_
  refine V rfl wu rfl rfl (mv rfl) ?_
  refine V rfl wu rfl rfl (mv rfl) ?_
  refine C rfl wu rfl rfl Try.call18 (rBinomial n k _) ?_
  rintro _ w1 hE rfl
  refine V rfl wu rfl rfl (mv rfl) ?_
  refine V rfl wu rfl rfl (ext rfl rfl) ?_
  refine V rfl wu rfl rfl (ext rfl rfl) ?_
  refine V rfl wu rfl rfl (asg rfl) ?_
  refine V rfl wu rfl rfl (asg rfl) ?_
  refine wr_nil (post_thenN (wc_seq (wc_seq ?_)))
  by_cases hn : n < 0 ∨ 64 < n
  · rw [binAns_bad k hn, unrankAns_bad (by omega)]
    refine wc_region [0,1] rfl ?_
    refine V rfl wu rfl rfl (mv rfl) ?_
    refine V rfl wu rfl rfl (neqI rfl rfl) ?_
    refine wr_nil (post_thenN ?_)
    refine wc_condT rfl (by simp) ?_
    refine wc_seq ?_
    refine wc_region [0,1,2] rfl ?_
    refine V rfl wu rfl rfl (mv rfl) ?_
    refine V rfl wu rfl rfl (asg rfl) ?_
    refine V rfl wu rfl rfl (asg rfl) ?_
    refine wr_nil (post_thenN (wc_ret (post_thenR ?_)))
    refine post_ret2 rfl rfl rfl ?_
    exact ⟨hE, _, rfl, Ints.nil _⟩
  · rw [binAns_ok k (by omega)]
    refine wc_region [0,1] rfl ?_
    refine V rfl wu rfl rfl (mv rfl) ?_
    refine V rfl wu rfl rfl (neqI rfl rfl) ?_
    refine wr_nil (post_thenN ?_)
    refine wc_condF rfl (by simp) ?_
    refine wc_skip (post_thenN (wc_seq (wc_seq ?_)))
    refine wc_region [0,1,2,3,4,5,6,7,8,9,10,11,12,13,14,15] rfl ?_
    refine V rfl wu rfl rfl (mv rfl) ?_
    refine V rfl wu rfl rfl (lssI rfl rfl) ?_
    refine V rfl wu rfl rfl (mv rfl) ?_
    refine OR (π1 := [3,4,5,6]) (π2 := [7,8,9,10,11,12,13,14,15]) (tc := 25) (tp := 29) rfl rfl rfl (by
        intro _
        refine SK rfl rfl rfl rfl rfl ?_
        refine SK rfl rfl rfl rfl rfl ?_
        refine SK rfl rfl rfl rfl rfl ?_
        refine V rfl wu rfl rfl (pk rfl rfl) ?_
        exact join rfl) (by
        intro hg
        simp at hg
        refine V rfl (wg rfl rfl) rfl rfl (mv rfl) ?_
        refine V rfl (wg rfl rfl) rfl rfl (mv rfl) ?_
        refine V rfl (wg rfl rfl) rfl rfl (gtrI rfl rfl) ?_
        refine V rfl wu rfl rfl (pk rfl rfl) ?_
        exact join rfl) ?_
    refine V rfl wu rfl rfl (mv rfl) ?_
    refine OR (π1 := [8,9,10]) (π2 := [11,12,13,14,15]) (tc := 30) (tp := 33) rfl rfl rfl (by
        intro _
        refine SK rfl rfl rfl rfl rfl ?_
        refine SK rfl rfl rfl rfl rfl ?_
        refine V rfl wu rfl rfl (pk rfl rfl) ?_
        exact join rfl) (by
        intro hg
        simp at hg
        refine V rfl (wg rfl rfl) rfl rfl (mv rfl) ?_
        refine V rfl (wg rfl rfl) rfl rfl (lssI rfl rfl) ?_
        refine V rfl wu rfl rfl (pk rfl rfl) ?_
        exact join rfl) ?_
    refine V rfl wu rfl rfl (mv rfl) ?_
    refine OR (π1 := [12,13,14,15]) (π2 := []) (tc := 34) (tp := 38) rfl rfl rfl (by
        intro _
        refine SK rfl rfl rfl rfl rfl ?_
        refine SK rfl rfl rfl rfl rfl ?_
        refine SK rfl rfl rfl rfl rfl ?_
        refine V rfl wu rfl rfl (pk rfl rfl) ?_
        exact join rfl) (by
        intro hg
        simp at hg
        refine V rfl (wg rfl rfl) rfl rfl (mv rfl) ?_
        refine V rfl (wg rfl rfl) rfl rfl (mv rfl) ?_
        refine V rfl (wg rfl rfl) rfl rfl (geqI rfl rfl) ?_
        refine V rfl wu rfl rfl (pk rfl rfl) ?_
        exact join rfl) ?_
    refine wr_nil (post_thenN ?_)
    refine wc_cond rfl ?_ ?_
    · intro h
      simp at h
      refine wc_seq ?_
      refine wc_region [0,1] rfl ?_
      refine V rfl wu rfl rfl (asg rfl) ?_
      refine V rfl wu rfl rfl (asg rfl) ?_
      refine wr_nil (post_thenN (wc_ret (post_thenR ?_)))
      refine post_ret2 rfl rfl rfl ?_
      rw [unrankAns_bad (by omega)]
      exact ⟨hE, _, rfl, Ints.nil _⟩
    · intro h
      simp at h
      refine wc_skip (post_thenN (wc_seq ?_))
      have hb : ¬ (n < 0 ∨ 64 < n ∨ k < 0 ∨ n < k ∨ r < 0 ∨ binZ n k ≤ r) := by omega
      rw [unrankAns_ok hb]
      refine wc_region [0,1] rfl ?_
      refine BSI (zs := []) rfl wu rfl rfl rfl rfl ty26 ?_
      intro out w2 hE2 ho _ _
      refine V rfl wu rfl rfl (asg rfl) ?_
      refine wr_nil (post_thenN (wc_seq (wc_seq ?_)))
      replace ho := Own.mono ho hE.size
      replace hE := hE.trans hE2
      refine wc_region [0] rfl ?_
      refine V rfl wu rfl rfl (asg rfl) ?_
      refine wr_nil (post_thenN (wc_block ?_))
      refine wc_loop (fun q : Int × Int × Value × List Int => [(0, .int .i64 n), (1, .int .i64 k), (2, .int .i64 q.2.1), (10, q.2.2.1), (11, .int .i64 q.1)])
        (fun q w' => UI n k r w q.1 q.2.1 q.2.2.1 q.2.2.2 w') (fun q => (n - q.1).toNat) (0, r, out, []) ⟨rfl, rfl, rfl, rfl, rfl, trivial⟩ (UI.start hb hE ho) ?_
      rintro ⟨x, r', out, acc⟩ w3 hI
      simp only at hI
      have hx0 := hI.x0
      have hx1 := hI.x1
      have hr0 := hI.r0'
      have hE := hI.ext
      have ho := hI.own
      have hi := ho.ints
      have hlen := hI.len
      try dsimp only
      refine wc_seq (wc_seq ?_)
      refine wc_region [0,1,2,3,4,5,6,7,8] rfl ?_
      refine V rfl wu rfl rfl (mv rfl) ?_
      refine V rfl wu rfl rfl (mv rfl) ?_
      refine V rfl wu rfl rfl (lssI rfl rfl) ?_
      refine V rfl wu rfl rfl (mv rfl) ?_
      refine AND (π1 := [4,5,6,7,8]) (π2 := []) (tc := 43) (tp := 48) rfl rfl rfl (by
          intro hg
          simp at hg
          refine V rfl (wg rfl rfl) rfl rfl (mv rfl) ?_
          refine V rfl (wg rfl rfl) rfl rfl (lenI rfl ty26) ?_
          refine V rfl (wg rfl rfl) rfl rfl (mv rfl) ?_
          refine V rfl (wg rfl rfl) rfl rfl (lssI rfl rfl) ?_
          refine V rfl wu rfl rfl (pk rfl rfl) ?_
          exact join rfl) (by
          intro _
          refine SK rfl rfl rfl rfl rfl ?_
          refine SK rfl rfl rfl rfl rfl ?_
          refine SK rfl rfl rfl rfl rfl ?_
          refine SK rfl rfl rfl rfl rfl ?_
          refine V rfl wu rfl rfl (pk rfl rfl) ?_
          exact join rfl) ?_
      refine wr_nil (post_thenN ?_)
      refine wc_cond rfl ?_ ?_
      · intro hc
        simp at hc
        obtain ⟨hx, hc⟩ := hc
        refine wc_skip (post_thenN (wc_seq (wc_block (wc_seq ?_))))
        have hbz := binZ_bounds (n - 1 - x) (k - 1 - acc.length) (by omega)
        have hb2 := binZ_bounds (n - x) (k - acc.length) (by omega)
        have hlt := hI.lt
        refine wc_region [0,1,2,3,4,5,6,7,8,9,10,11,12,13,14] rfl ?_
        refine V rfl wu rfl rfl (mv rfl) ?_
        refine V rfl wu rfl rfl (subI rfl rfl) ?_
        refine V rfl wu rfl rfl (mv rfl) ?_
        refine V rfl wu rfl rfl (subI rfl rfl) ?_
        refine V rfl wu rfl rfl (mv rfl) ?_
        refine V rfl wu rfl rfl (subI rfl rfl) ?_
        refine V rfl wu rfl rfl (mv rfl) ?_
        refine V rfl wu rfl rfl (lenI rfl ty26) ?_
        refine V rfl wu rfl rfl (subI rfl rfl) ?_
        refine C rfl wu rfl rfl Try.call18 (rBinomial (n - 1 - x) _ _) ?_
        rintro _ w4 hE4 rfl
        rw [binAns_ok _ (by omega)]
        refine V rfl wu rfl rfl (mv rfl) ?_
        refine V rfl wu rfl rfl (ext rfl rfl) ?_
        refine V rfl wu rfl rfl (ext rfl rfl) ?_
        refine V rfl wu rfl rfl (asg rfl) ?_
        refine V rfl wu rfl rfl (asg rfl) ?_
        refine wr_nil (post_thenN (wc_seq ?_))
        refine wc_region [0,1,2] rfl ?_
        refine V rfl wu rfl rfl (mv rfl) ?_
        refine V rfl wu rfl rfl (mv rfl) ?_
        refine V rfl wu rfl rfl (lssI rfl rfl) ?_
        refine wr_nil (post_thenN ?_)
        refine wc_cond rfl ?_ ?_
        · intro hr
          simp at hr
          replace ho := ho.ext hE4
          replace hi := hi.ext hE4
          replace hE := hE.trans hE4
          refine wc_region [0,1,2,3,4] rfl ?_
          refine V rfl wu rfl rfl (mv rfl) ?_
          refine V rfl wu rfl rfl (mv rfl) ?_
          refine BSI (zs := [x]) rfl wu rfl rfl rfl rfl ty26 ?_
          intro s w5 hE5 _ hs _
          replace ho := ho.ext hE5
          replace hE := hE.trans hE5
          refine API rfl wu rfl rfl rfl ty26 (by intro h h2; cases h) ?_
          intro out2 w6 hg hX ho hi _
          replace hE := hX _ (Nat.le_refl _) hE
          refine V rfl wu rfl rfl (asg rfl) ?_
          refine wr_nil (post_blockN (post_thenN ?_))
          refine wc_region [0,1,2] rfl ?_
          refine V rfl wu rfl rfl (mv rfl) ?_
          refine V rfl wu rfl rfl (addI rfl rfl) ?_
          refine V rfl wu rfl rfl (asg rfl) ?_
          refine wr_nil ?_
          exact post_loopN (x + 1, r', out2, acc ++ [x]) ⟨rfl, rfl, rfl, rfl, rfl, trivial⟩ (hI.take hc hr hE ho) (by simp; omega)
        · intro hr
          simp at hr
          refine wc_region [0,1,2,3] rfl ?_
          refine V rfl wu rfl rfl (mv rfl) ?_
          refine V rfl wu rfl rfl (mv rfl) ?_
          refine V rfl wu rfl rfl (subI rfl rfl) ?_
          refine V rfl wu rfl rfl (asg rfl) ?_
          refine wr_nil (post_blockN (post_thenN ?_))
          refine wc_region [0,1,2] rfl ?_
          refine V rfl wu rfl rfl (mv rfl) ?_
          refine V rfl wu rfl rfl (addI rfl rfl) ?_
          refine V rfl wu rfl rfl (asg rfl) ?_
          refine wr_nil ?_
          exact post_loopN (x + 1, _, out, acc) ⟨rfl, rfl, rfl, rfl, rfl, trivial⟩ (hI.skip hc hr hE4) (by simp; omega)
      · intro hc
        simp at hc
        refine wc_exit (post_thenE (post_loopE (post_blockX (post_thenN (wc_seq ?_)))))
        have hd : k ≤ acc.length := by
          by_cases hl : acc.length < k
          · have := hI.x_lt hl
            omega
          · omega
        refine wc_region [0,1,2] rfl ?_
        refine V rfl wu rfl rfl (mv rfl) ?_
        refine V rfl wu rfl rfl (asg rfl) ?_
        refine V rfl wu rfl rfl (asg rfl) ?_
        refine wr_nil (post_thenN (wc_ret ?_))
        refine post_ret2 rfl rfl rfl ?_
        exact ⟨hE, _, rfl, by rw [← hI.done hd]; exact hi⟩
end Go.Proofs.Ytlcokneidokfnaa
