/-
  Statement WordSubsets: for all n and k the law returns true: Subsets lists all subsets of a size in lexicographic order. No condition.
-/
import Derived.Test.YtlcokneidokfnaaSubs
import Derived.Test.YtlcokneidokfnaaFrame
import Derived.Test.YtlcokneidokfnaaRows
namespace Go.Proofs.Ytlcokneidokfnaa
open Go Go.Sx Go.Pl Go.RowKit Go.Fr

set_option maxRecDepth 10000 in
theorem rSubsets (n k : Int) (w : World) :
    Calls Try.prog 27 #[.int .i64 n, .int .i64 k] w (RetX w (LLE (subsAns n k))) := by
  refine calls2 Try.func27 rfl rfl ?_
  refine wc_seq ?_
  refine wc_region [0,1] rfl ?_
  refine V rfl wu rfl rfl (asg rfl) ?_
  refine V rfl wu rfl rfl (asg rfl) ?_
  refine wr_nil (post_thenN (wc_seq ?_))
  refine wc_region [0,1,2,3,4,5,6,7] rfl ?_
  refine V rfl wu rfl rfl (mv rfl) ?_
  refine V rfl wu rfl rfl (mv rfl) ?_
  refine C rfl wu rfl rfl Try.call18 (rBinomial n k _) ?_
  rintro _ w1 hE rfl
  refine V rfl wu rfl rfl (mv rfl) ?_
  refine V rfl wu rfl rfl (ext rfl rfl) ?_
  refine V rfl wu rfl rfl (ext rfl rfl) ?_
  refine V rfl wu rfl rfl (asg rfl) ?_
  refine V rfl wu rfl rfl (asg rfl) ?_
  refine wr_nil (post_thenN (wc_seq (wc_seq ?_)))
  refine wc_region [0,1] rfl ?_
  refine V rfl wu rfl rfl (mv rfl) ?_
  refine V rfl wu rfl rfl (neqI rfl rfl) ?_
  refine wr_nil (post_thenN ?_)
  refine wc_cond rfl ?_ ?_
  · intro h
    simp at h
    have hn : n < 0 ∨ 64 < n := by
      apply Classical.byContradiction
      intro hc
      rw [binAns_ok k (by omega)] at h
      exact h rfl
    rw [binAns_bad k hn]
    refine wc_seq ?_
    refine wc_region [0,1,2] rfl ?_
    refine V rfl wu rfl rfl (mv rfl) ?_
    refine V rfl wu rfl rfl (asg rfl) ?_
    refine V rfl wu rfl rfl (asg rfl) ?_
    refine wr_nil (post_thenN (wc_ret (post_thenR ?_)))
    refine post_ret2 rfl rfl rfl ?_
    refine ⟨hE, ?_⟩
    rw [subsAns, if_pos (by omega)]
    exact ⟨_, rfl, LL.nil _⟩
  · intro h
    simp at h
    have hn : 0 ≤ n ∧ n ≤ 64 := by
      apply Classical.byContradiction
      intro hc
      rw [binAns_bad k (by omega)] at h
      exact absurd h (by simp)
    rw [binAns_ok k hn]
    refine wc_skip (post_thenN (wc_seq (wc_seq ?_)))
    refine wc_region [0,1,2,3,4,5,6] rfl ?_
    refine V rfl wu rfl rfl (mv rfl) ?_
    refine V rfl wu rfl rfl (lssI rfl rfl) ?_
    refine V rfl wu rfl rfl (mv rfl) ?_
    refine OR (π1 := [3,4,5,6]) (π2 := []) (tc := 25) (tp := 29) rfl rfl rfl (by
        intro _
        refine SK rfl rfl rfl rfl rfl ?_
        refine SK rfl rfl rfl rfl rfl ?_
        refine SK rfl rfl rfl rfl rfl ?_
        refine V rfl wu rfl rfl (pk rfl rfl) ?_
        exact join rfl) (by
        intro hg
        simp at hg
        refine V rfl (wg rfl rfl) rfl rfl (mv rfl) ?_
        refine V rfl (wg rfl rfl) rfl rfl (mv rfl) ?_
        refine V rfl (wg rfl rfl) rfl rfl (gtrI rfl rfl) ?_
        refine V rfl wu rfl rfl (pk rfl rfl) ?_
        exact join rfl) ?_
    refine wr_nil (post_thenN ?_)
    refine wc_cond rfl ?_ ?_
    · intro hk
      simp at hk
      refine wc_seq ?_
      refine wc_region [0,1] rfl ?_
      refine V rfl wu rfl rfl (asg rfl) ?_
      refine V rfl wu rfl rfl (asg rfl) ?_
      refine wr_nil (post_thenN (wc_ret (post_thenR ?_)))
      refine post_ret2 rfl rfl rfl ?_
      refine ⟨hE, ?_⟩
      rw [subsAns, if_pos (by omega)]
      exact ⟨_, rfl, LL.nil _⟩
    · intro hk
      simp at hk
      refine wc_skip (post_thenN (wc_seq (wc_seq ?_)))
      have hb : binZ n k = bin n.toNat k.toNat := by rw [binZ, if_neg (by omega)]
      refine wc_region [0,1] rfl ?_
      refine V rfl wu rfl rfl (mv rfl) ?_
      refine V rfl wu rfl rfl (gtrI rfl rfl) ?_
      refine wr_nil (post_thenN ?_)
      refine wc_cond rfl ?_ ?_
      · intro hc
        simp at hc
        refine wc_seq ?_
        refine wc_region [0,1] rfl ?_
        refine V rfl wu rfl rfl (asg rfl) ?_
        refine V rfl wu rfl rfl (asg rfl) ?_
        refine wr_nil (post_thenN (wc_ret (post_thenR ?_)))
        refine post_ret2 rfl rfl rfl ?_
        refine ⟨hE, ?_⟩
        rw [subsAns, if_neg (by omega), if_pos hc]
        exact ⟨_, rfl, LL.nil _⟩
      · intro hc
        simp at hc
        refine wc_skip (post_thenN (wc_seq ?_))
        have hans : subsAns n k = (subs n n.toNat k.toNat, 0) := by rw [subsAns, if_neg (by omega), if_neg (by omega)]
        rw [hans]
        have hsz0 := hE.size
        refine wc_region [0,1] rfl ?_
        refine BS (us := []) rfl wu rfl rfl rfl rfl ty35 (by simp) ?_
        intro out w2 hE2 ho hob
        replace hE := hE.trans hE2
        refine V rfl wu rfl rfl (asg rfl) ?_
        refine wr_nil (post_thenN (wc_seq ?_))
        refine wc_region [0,1,2] rfl ?_
        refine V rfl wu rfl rfl (mv rfl) ?_
        refine MKI (n := k.toNat) rfl wu rfl rfl ty26 ?_
        intro s w3 hE3 hs hsi hsb
        refine V rfl wu rfl rfl (asg rfl) ?_
        refine wr_nil (post_thenN (wc_seq (wc_seq ?_)))
        have hSI : SI w w3 out [] s (fst k.toNat 0) [] := by
          refine ⟨hE.trans hE3, (ho.mono hsz0).ext hE3, Apart.nil _ _, ?_, ?_, ⟨_, hsb⟩⟩
          · rw [← fst_zero]; exact Own.mono hs (by have := hE.size; omega)
          · rw [hob, hsb]
            intro e
            have e := Option.some.inj e
            have := (ho.lt _ hob).2
            omega
        clear hs hsi ho hE
        refine wc_region [0] rfl ?_
        refine V rfl wu rfl rfl (asg rfl) ?_
        refine wr_nil (post_thenN (wc_block ?_))
        refine wc_loop (fun i : Int => [(0, .int .i64 n), (1, .int .i64 k), (6, .int .i64 (binZ n k)), (8, out), (9, s), (10, .int .i64 i)])
          (fun i w' => 0 ≤ i ∧ i ≤ k ∧ SI w w' out [] s (fst k.toNat i) []) (fun i => (k - i).toNat) 0 ⟨rfl, rfl, rfl, rfl, rfl, rfl, trivial⟩ ⟨by omega, by omega, hSI⟩ ?_
        clear hSI
        rintro i w4 ⟨h0, h1, hSI⟩
        have hs := hSI.own
        have hsi := hs.ints
        have hl := fst_length k.toNat i
        try dsimp only
        refine wc_seq (wc_seq ?_)
        refine wc_region [0,1,2] rfl ?_
        refine V rfl wu rfl rfl (mv rfl) ?_
        refine V rfl wu rfl rfl (mv rfl) ?_
        refine V rfl wu rfl rfl (lssI rfl rfl) ?_
        refine wr_nil (post_thenN ?_)
        refine wc_cond rfl ?_ ?_
        · intro hi
          simp at hi
          refine wc_skip (post_thenN (wc_seq (wc_block ?_)))
          refine wc_region [0,1,2,3,4] rfl ?_
          refine V rfl wu rfl rfl (mv rfl) ?_
          refine V rfl wu rfl rfl (mv rfl) ?_
          refine V rfl wu rfl rfl (mv rfl) ?_
          refine V rfl wu rfl rfl (iadI rfl rfl ty26) ?_
          refine STI rfl wu rfl rfl sz3 (by intro h; cases h) ?_
          intro w5 hg hX hs5 hsi5
          refine wr_nil (post_blockN (post_thenN ?_))
          rw [fst_step _ _ h0] at hs5
          refine wc_region [0,1,2] rfl ?_
          refine V rfl wu rfl rfl (mv rfl) ?_
          refine V rfl wu rfl rfl (addI rfl rfl) ?_
          refine V rfl wu rfl rfl (asg rfl) ?_
          refine wr_nil ?_
          exact post_loopN (i + 1) ⟨rfl, rfl, rfl, rfl, rfl, rfl, trivial⟩ ⟨by omega, by omega, hSI.st hg hs5⟩ (by omega)
        · intro hi
          simp at hi
          refine wc_exit (post_thenE (post_loopE (post_blockX (post_thenN (wc_seq (wc_seq ?_))))))
          have hi' : i = (k.toNat : Int) := by omega
          subst hi'
          rw [fst_last] at hSI
          refine wc_region [0] rfl ?_
          refine V rfl wu rfl rfl (asg rfl) ?_
          refine wr_nil (post_thenN (wc_block ?_))
          refine wc_loop (fun q : Int × Value × List Value × List Int × List (List Int) × List (List Int) => [(0, .int .i64 n), (1, .int .i64 k), (6, .int .i64 (binZ n k)), (8, q.2.1), (9, s), (11, .int .i64 q.1)])
            (fun q w' => SI w w' q.2.1 q.2.2.1 s q.2.2.2.1 q.2.2.2.2.1 ∧ (q.1 : Int) = q.2.2.2.2.1.length ∧ ((q.2.2.2.2.2 = [] ∧ q.2.2.2.2.1 = subs n n.toNat k.toNat) ∨ St n k q.2.2.2.1 q.2.2.2.2.1 q.2.2.2.2.2)) (fun q => q.2.2.2.2.2.length) (0, out, [], run 0 k.toNat, [], subs n n.toNat k.toNat)
            ⟨rfl, rfl, rfl, rfl, rfl, rfl, trivial⟩ ⟨hSI, rfl, .inr (St.first (by omega))⟩ ?_
          clear hSI hs hsi hl
          rintro ⟨t, out, rows, cur, dn, rest⟩ w4 ⟨hSI, ht, hSt⟩
          dsimp only at hSI hSt ht
          try dsimp only
          refine wc_seq (wc_seq ?_)
          refine wc_region [0,1,2] rfl ?_
          refine V rfl wu rfl rfl (mv rfl) ?_
          refine V rfl wu rfl rfl (mv rfl) ?_
          refine V rfl wu rfl rfl (lssI rfl rfl) ?_
          refine wr_nil (post_thenN ?_)
          refine wc_cond rfl ?_ ?_
          · intro htc
            simp at htc
            have hSt : St n k cur dn rest := by
              rcases hSt with ⟨_, hd⟩ | hSt
              · rw [hd, subs_length] at ht
                omega
              · exact hSt
            have hlen := hSt.len
            have hcnt := hSt.count
            have hsm := hSt.small (by omega)
            have hrl := hSI.ap.1
            have hSI0 := hSI
            obtain ⟨hE, ho, hap, hs, hne, _⟩ := hSI
            have hsi := hs.ints
            have hsz := hE.size
            refine wc_skip (post_thenN (wc_seq (wc_block (wc_seq ?_))))
            refine wc_region [0,1,2,3,4,5,6] rfl ?_
            refine V rfl wu rfl rfl (mv rfl) ?_
            refine BSI (zs := []) rfl wu rfl rfl rfl rfl ty26 ?_
            intro v0 w5 hE5 hv hvi hvb
            refine V rfl wu rfl rfl (mv rfl) ?_
            refine API rfl wu rfl rfl rfl ty26 (by intro h h2; cases h) ?_
            intro c w6 hg6 hX6 hc hci hcb
            have hE6 := hX6 _ (Nat.le_refl _) hE5
            have hgc : ∃ gc, c.ownBlock = some gc := by rcases hcb with e | e; exact ⟨_, e.trans hvb⟩; exact ⟨_, e⟩
            obtain ⟨gc, hgc⟩ := hgc
            refine BS (us := [c]) rfl wu rfl rfl rfl rfl ty35 (by obtain ⟨⟨a, cc, hcv, _⟩, _⟩ := hci; simp [hcv, Value.oneCell']) ?_
            intro lit w7 hE7 hlo hlb
            have hsz6 := hE6.size
            have hsz7 := hE7.size
            refine AP (xs := rows) (ys := [c]) rfl wu rfl rfl rfl ty35 rfl (by intro h; cases h) ((ho.ext hE6).ext hE7) (by omega) hlo.sl (Ext.refl _) (by obtain ⟨⟨a, cc, hcv, _⟩, _⟩ := hci; simp [hcv, Value.oneCell']) (by simp; omega) (by simp; omega) ?_
            intro out' w8 hg8 hX8 ho8 hb8
            refine V rfl wu rfl rfl (asg rfl) ?_
            refine wr_nil (post_thenN (wc_seq ?_))
            have hSI := hSI0.app (hE6.trans hE7) (hci.ext hE7) hgc (hc.lt gc hgc).1 (by have := (hc.lt gc hgc).2; omega) hg8 hb8 ho8
            clear hSI0 ho hap hs hne hsi hE hg8 hX8 ho8 hb8 hlo hlb hc hci hgc hv hvi hX6 hg6
            refine wc_region [0,1,2] rfl ?_
            refine V rfl wu rfl rfl (mv rfl) ?_
            refine V rfl wu rfl rfl (subI rfl rfl) ?_
            refine V rfl wu rfl rfl (asg rfl) ?_
            refine wr_nil (post_thenN (wc_seq (wc_block ?_)))
            refine wc_loop (fun i : Int => [(0, .int .i64 n), (1, .int .i64 k), (6, .int .i64 (binZ n k)), (8, out'), (9, s), (11, .int .i64 t), (12, .int .i64 i)])
              (fun i w' => -1 ≤ i ∧ i < k ∧ (∀ j : Int, i < j → j < k → gi cur j = n - k + j) ∧ SI w w' out' (rows ++ [c]) s cur (dn ++ [cur])) (fun i => (i + 1).toNat) (k - 1) ⟨rfl, rfl, rfl, rfl, rfl, rfl, rfl, trivial⟩ ⟨by omega, by omega, fun j _ _ => by omega, hSI⟩ ?_
            clear hSI
            rintro i w8 ⟨h0, h1, hm, hSI⟩
            have hs := hSI.own
            have hsi := hs.ints
            try dsimp only
            refine wc_seq (wc_seq ?_)
            refine wc_region [0,1,2,3,4,5,6,7,8,9,10,11,12,13] rfl ?_
            refine V rfl wu rfl rfl (mv rfl) ?_
            refine V rfl wu rfl rfl (geqI rfl rfl) ?_
            refine V rfl wu rfl rfl (mv rfl) ?_
            refine AND (π1 := [3,4,5,6,7,8,9,10,11,12,13]) (π2 := []) (tc := 59) (tp := 70) rfl rfl rfl (by
                intro hg
                simp at hg
                refine V rfl (wg rfl rfl) rfl rfl (mv rfl) ?_
                refine V rfl (wg rfl rfl) rfl rfl (mv rfl) ?_
                refine V rfl (wg rfl rfl) rfl rfl (iadI rfl rfl ty26) ?_
                refine V rfl (wg rfl rfl) rfl rfl (ldI rfl na3) ?_
                refine V rfl (wg rfl rfl) rfl rfl (mv rfl) ?_
                refine V rfl (wg rfl rfl) rfl rfl (mv rfl) ?_
                refine V rfl (wg rfl rfl) rfl rfl (subI rfl rfl) ?_
                refine V rfl (wg rfl rfl) rfl rfl (mv rfl) ?_
                refine V rfl (wg rfl rfl) rfl rfl (addI rfl rfl) ?_
                refine V rfl (wg rfl rfl) rfl rfl (eqlI rfl rfl) ?_
                refine V rfl wu rfl rfl (pk rfl rfl) ?_
                exact join rfl) (by
                intro _
                refine SK rfl rfl rfl rfl rfl ?_
                refine SK rfl rfl rfl rfl rfl ?_
                refine SK rfl rfl rfl rfl rfl ?_
                refine SK rfl rfl rfl rfl rfl ?_
                refine SK rfl rfl rfl rfl rfl ?_
                refine SK rfl rfl rfl rfl rfl ?_
                refine SK rfl rfl rfl rfl rfl ?_
                refine SK rfl rfl rfl rfl rfl ?_
                refine SK rfl rfl rfl rfl rfl ?_
                refine SK rfl rfl rfl rfl rfl ?_
                refine V rfl wu rfl rfl (pk rfl rfl) ?_
                exact join rfl) ?_
            refine wr_nil (post_thenN ?_)
            refine wc_cond rfl ?_ ?_
            · intro hi
              simp at hi
              refine wc_skip (post_thenN (wc_block ?_))
              refine wc_region [0,1,2] rfl ?_
              refine V rfl wu rfl rfl (mv rfl) ?_
              refine V rfl wu rfl rfl (subI rfl rfl) ?_
              refine V rfl wu rfl rfl (asg rfl) ?_
              refine wr_nil (post_blockN ?_)
              exact post_loopN (i - 1) ⟨rfl, rfl, rfl, rfl, rfl, rfl, rfl, trivial⟩ ⟨by omega, by omega, fun j hj1 hj2 => (by
                by_cases e : j = i
                · rw [e]; exact hi.2
                · exact hm j (by omega) hj2), hSI⟩ (by omega)
            · intro hi
              simp at hi
              refine wc_exit (post_thenE (post_loopE (post_blockX (post_thenN (wc_seq ?_)))))
              refine wc_region [0,1] rfl ?_
              refine V rfl wu rfl rfl (mv rfl) ?_
              refine V rfl wu rfl rfl (geqI rfl rfl) ?_
              refine wr_nil (post_thenN ?_)
              refine wc_cond rfl ?_ ?_
              · intro hi0
                simp at hi0
                refine wc_seq ?_
                have hne := hi hi0
                obtain ⟨rest', hr, hSt'⟩ := hSt.go ⟨hi0, h1⟩ hm hne
                have hgb := gi_all hsm hi0 (by omega)
                refine wc_region [0,1,2,3,4,5,6] rfl ?_
                refine V rfl wu rfl rfl (mv rfl) ?_
                refine V rfl wu rfl rfl (mv rfl) ?_
                refine V rfl wu rfl rfl (iadI rfl rfl ty26) ?_
                refine V rfl wu rfl rfl (ldI rfl na3) ?_
                refine V rfl wu rfl rfl (addI rfl rfl) ?_
                refine V rfl wu rfl rfl (iadI rfl rfl ty26) ?_
                refine STI rfl wu rfl rfl sz3 (by intro h; cases h) ?_
                intro w9 hg hX hs9 hsi9
                refine wr_nil (post_thenN (wc_seq ?_))
                rw [fil_first _ _ _ hi0 (by omega)] at hs9
                replace hSI := hSI.st hg hs9
                clear hs hsi hs9 hsi9 hg hX
                refine wc_region [0,1,2] rfl ?_
                refine V rfl wu rfl rfl (mv rfl) ?_
                refine V rfl wu rfl rfl (addI rfl rfl) ?_
                refine V rfl wu rfl rfl (asg rfl) ?_
                refine wr_nil (post_thenN (wc_block ?_))
                refine wc_loop (fun j : Int => [(0, .int .i64 n), (1, .int .i64 k), (6, .int .i64 (binZ n k)), (8, out'), (9, s), (11, .int .i64 t), (12, .int .i64 i), (13, .int .i64 j)])
                  (fun j w' => i < j ∧ j ≤ k ∧ SI w w' out' (rows ++ [c]) s (fil cur i (gi cur i + 1) j) (dn ++ [cur])) (fun j => (k - j).toNat) (i + 1) ⟨rfl, rfl, rfl, rfl, rfl, rfl, rfl, rfl, trivial⟩ ⟨by omega, by omega, hSI⟩ ?_
                clear hSI
                rintro j w10 ⟨j0, j1, hSI⟩
                have hs := hSI.own
                have hsi := hs.ints
                have hfl := fil_length cur i (gi cur i + 1) j
                have hfg := fil_get cur i (gi cur i + 1) j hi0 j0 (by omega)
                try dsimp only
                refine wc_seq (wc_seq ?_)
                refine wc_region [0,1,2] rfl ?_
                refine V rfl wu rfl rfl (mv rfl) ?_
                refine V rfl wu rfl rfl (mv rfl) ?_
                refine V rfl wu rfl rfl (lssI rfl rfl) ?_
                refine wr_nil (post_thenN ?_)
                refine wc_cond rfl ?_ ?_
                · intro hj
                  simp at hj
                  refine wc_skip (post_thenN (wc_seq (wc_block ?_)))
                  refine wc_region [0,1,2,3,4,5,6,7,8,9] rfl ?_
                  refine V rfl wu rfl rfl (mv rfl) ?_
                  refine V rfl wu rfl rfl (mv rfl) ?_
                  refine V rfl wu rfl rfl (mv rfl) ?_
                  refine V rfl wu rfl rfl (mv rfl) ?_
                  refine V rfl wu rfl rfl (subI rfl rfl) ?_
                  refine V rfl wu rfl rfl (iadI rfl rfl ty26) ?_
                  refine V rfl wu rfl rfl (ldI rfl na3) ?_
                  refine V rfl wu rfl rfl (addI rfl rfl) ?_
                  refine V rfl wu rfl rfl (iadI rfl rfl ty26) ?_
                  refine STI rfl wu rfl rfl sz3 (by intro h; cases h) ?_
                  intro w11 hg hX hs11 hsi11
                  refine wr_nil (post_blockN (post_thenN ?_))
                  rw [hfg, fil_step _ _ _ _ hi0 j0 (by omega)] at hs11
                  refine wc_region [0,1,2] rfl ?_
                  refine V rfl wu rfl rfl (mv rfl) ?_
                  refine V rfl wu rfl rfl (addI rfl rfl) ?_
                  refine V rfl wu rfl rfl (asg rfl) ?_
                  refine wr_nil ?_
                  exact post_loopN (j + 1) ⟨rfl, rfl, rfl, rfl, rfl, rfl, rfl, rfl, trivial⟩ ⟨by omega, by omega, hSI.st hg hs11⟩ (by omega)
                · intro hj
                  simp at hj
                  refine wc_exit (post_thenE (post_loopE (post_blockX (post_blockN (post_thenN ?_)))))
                  have hjk : j = k := by omega
                  subst hjk
                  refine wc_region [0,1,2] rfl ?_
                  refine V rfl wu rfl rfl (mv rfl) ?_
                  refine V rfl wu rfl rfl (addI rfl rfl) ?_
                  refine V rfl wu rfl rfl (asg rfl) ?_
                  refine wr_nil ?_
                  exact post_loopN (t + 1, out', rows ++ [c], fil cur i (gi cur i + 1) j, dn ++ [cur], rest') ⟨rfl, rfl, rfl, rfl, rfl, rfl, trivial⟩ ⟨hSI, by simp [ht], .inr hSt'⟩ (by rw [hr]; simp)
              · intro hi0
                simp at hi0
                refine wc_skip (post_blockN (post_thenN ?_))
                have hr := hSt.stop (fun j hj1 hj2 => hm j (by omega) hj2)
                have ha := hSt.all
                rw [hr] at ha
                refine wc_region [0,1,2] rfl ?_
                refine V rfl wu rfl rfl (mv rfl) ?_
                refine V rfl wu rfl rfl (addI rfl rfl) ?_
                refine V rfl wu rfl rfl (asg rfl) ?_
                refine wr_nil ?_
                exact post_loopN (t + 1, out', rows ++ [c], cur, dn ++ [cur], []) ⟨rfl, rfl, rfl, rfl, rfl, rfl, trivial⟩ ⟨hSI, by simp [ht], .inl ⟨rfl, ha⟩⟩ (by rw [hr]; simp)
          · intro htc
            simp at htc
            refine wc_exit (post_thenE (post_loopE (post_blockX (post_thenN (wc_seq ?_)))))
            have hd : dn = subs n n.toNat k.toNat := by
              rcases hSt with ⟨_, hd⟩ | hSt
              · exact hd
              · have h1 := hSt.count
                have h2 : rest.length = 0 := by omega
                have h3 := hSt.all
                rw [List.eq_nil_of_length_eq_zero h2, List.append_nil] at h3
                exact h3
            refine wc_region [0,1,2] rfl ?_
            refine V rfl wu rfl rfl (mv rfl) ?_
            refine V rfl wu rfl rfl (asg rfl) ?_
            refine V rfl wu rfl rfl (asg rfl) ?_
            refine wr_nil (post_thenN (wc_ret ?_))
            refine post_ret2 rfl rfl rfl ?_
            refine ⟨hSI.ext, _, rfl, ?_⟩
            have h := hSI.ap.ll hSI.row.sl
            rw [hd] at h
            exact h

set_option maxRecDepth 10000 in
theorem rSameLists (a b : Value) (L : List (List Int)) (w : World) (ha : LL w a L) (hb : LL w b L) (hL : L.length ≤ 65536) :
    Calls Try.prog 28 #[a, b] w (RetX w fun v _ => v = .bool true) := by
  obtain ⟨ra, sa, la, ga⟩ := ha.row
  obtain ⟨rb, sb, lb, gb⟩ := hb.row
  refine calls2 Try.func28 rfl rfl ?_
  refine wc_seq ?_
  refine wc_region [0] rfl ?_
  refine V rfl wu rfl rfl (asg rfl) ?_
  refine wr_nil (post_thenN (wc_seq (wc_seq ?_)))
  refine wc_region [0,1,2,3,4] rfl ?_
  refine V rfl wu rfl rfl (mv rfl) ?_
  refine V rfl wu rfl rfl (lenS rfl ty35 sa) ?_
  refine V rfl wu rfl rfl (mv rfl) ?_
  refine V rfl wu rfl rfl (lenS rfl ty35 sb) ?_
  refine V rfl wu rfl rfl (neqI rfl rfl) ?_
  refine wr_nil (post_thenN ?_)
  refine wc_condF rfl (by simp [la, lb]) ?_
  refine wc_skip (post_thenN (wc_seq (wc_seq ?_)))
  refine wc_region [0] rfl ?_
  refine V rfl wu rfl rfl (asg rfl) ?_
  refine wr_nil (post_thenN (wc_block ?_))
  refine wc_loop (fun i : Int => [(0, a), (1, b), (5, .int .i64 i)])
    (fun i w' => 0 ≤ i ∧ i ≤ L.length ∧ Ext w w') (fun i => (L.length - i).toNat) 0 ⟨rfl, rfl, rfl, trivial⟩ ⟨by omega, by omega, Ext.refl _⟩ ?_
  rintro i w1 ⟨h0, h1, hE⟩
  try dsimp only
  refine wc_seq (wc_seq ?_)
  refine wc_region [0,1,2,3] rfl ?_
  refine V rfl wu rfl rfl (mv rfl) ?_
  refine V rfl wu rfl rfl (mv rfl) ?_
  refine V rfl wu rfl rfl (lenS rfl ty35 sa) ?_
  refine V rfl wu rfl rfl (lssI rfl rfl) ?_
  refine wr_nil (post_thenN ?_)
  refine wc_cond rfl ?_ ?_
  · intro hi
    simp at hi
    refine wc_skip (post_thenN (wc_seq (wc_block (wc_seq ?_))))
    obtain ⟨x, hx, ix⟩ := ga i.toNat (by omega)
    obtain ⟨y, hy, iy⟩ := gb i.toNat (by omega)
    refine wc_draw mixed [0,1,2,3,4,5,6,7,8,9] (by kernel_rfl) ?_
    intro w2 hd _
    replace hE := hE.trans hd
    refine V rfl wu rfl rfl (mv rfl) ?_
    refine V rfl wu rfl rfl (mv rfl) ?_
    refine V rfl wu rfl rfl (iad rfl rfl ty35 sa) ?_
    refine V rfl wu rfl rfl (ldE rfl na26 sa hx) ?_
    refine V rfl wu rfl rfl (mv rfl) ?_
    refine V rfl wu rfl rfl (mv rfl) ?_
    refine V rfl wu rfl rfl (iad rfl rfl ty35 sb) ?_
    refine V rfl wu rfl rfl (ldE rfl na26 sb hy) ?_
    refine C rfl wu rfl rfl Try.call20 (rCompare x y _ _ _ (ix.ext hE) (iy.ext hE)) ?_
    rintro _ w3 hE3 rfl
    replace hE := hE.trans hE3
    refine V rfl wu rfl rfl (neqI rfl rfl) ?_
    refine wr_nil (post_thenN ?_)
    refine wc_condF rfl (by simp [cmpL_self]) ?_
    refine wc_skip (post_blockN (post_thenN ?_))
    refine wc_region [0,1,2] rfl ?_
    refine V rfl wu rfl rfl (mv rfl) ?_
    refine V rfl wu rfl rfl (addI rfl rfl) ?_
    refine V rfl wu rfl rfl (asg rfl) ?_
    refine wr_nil ?_
    exact post_loopN (i + 1) ⟨rfl, rfl, rfl, trivial⟩ ⟨by omega, by omega, hE⟩ (by omega)
  · intro hi
    simp at hi
    refine wc_exit (post_thenE (post_loopE (post_blockX (post_thenN (wc_seq ?_)))))
    refine wc_region [0] rfl ?_
    refine V rfl wu rfl rfl (asg rfl) ?_
    refine wr_nil (post_thenN (wc_ret ?_))
    refine post_ret1 rfl rfl ?_
    exact ⟨hE, rfl⟩

theorem subs32 : subsAns 3 2 = ([[0, 1], [0, 2], [1, 2]], 0) := by decide +kernel
theorem subsAns_len (n k : Int) : (subsAns n k).1.length ≤ 65536 := by
  unfold subsAns
  split
  · simp
  · split
    · simp
    · rename_i h1 h2
      rw [subs_length]
      have hb : binZ n k = bin n.toNat k.toNat := by rw [binZ, if_neg (by omega)]
      omega
set_option maxRecDepth 10000 in
theorem law_WordSubsets {w : World} (n : Int) (_ : Fits n) (k : Int) (_ : Fits k) :
    Calls Try.prog 7 #[.int .i64 n, .int .i64 k] w (RetX w fun v _ => v = .bool true) := by
  refine calls2 Try.func7 rfl rfl ?_
  refine wc_seq ?_
  refine wc_region [0] rfl ?_
  refine V rfl wu rfl rfl (asg rfl) ?_
  refine wr_nil (post_thenN (wc_seq ?_))
  refine wc_region [0,1,2,3,4,5,6,7] rfl ?_
  refine V rfl wu rfl rfl (mv rfl) ?_
  refine V rfl wu rfl rfl (mv rfl) ?_
  refine C rfl wu rfl rfl Try.call26 (wSubsets n k _) ?_
  rintro _ w1 hE ⟨l, rfl, hl⟩
  refine V rfl wu rfl rfl (mv rfl) ?_
  refine V rfl wu rfl rfl (ext rfl rfl) ?_
  refine V rfl wu rfl rfl (ext rfl rfl) ?_
  refine V rfl wu rfl rfl (asg rfl) ?_
  refine V rfl wu rfl rfl (asg rfl) ?_
  refine wr_nil (post_thenN (wc_seq ?_))
  refine wc_region [0,1,2,3,4,5,6,7] rfl ?_
  refine V rfl wu rfl rfl (mv rfl) ?_
  refine V rfl wu rfl rfl (mv rfl) ?_
  refine C rfl wu rfl rfl Try.call27 (rSubsets n k _) ?_
  rintro _ w2 hE2 ⟨m, rfl, hm⟩
  replace hl := hl.ext hE2
  replace hE := hE.trans hE2
  refine V rfl wu rfl rfl (mv rfl) ?_
  refine V rfl wu rfl rfl (ext rfl rfl) ?_
  refine V rfl wu rfl rfl (ext rfl rfl) ?_
  refine V rfl wu rfl rfl (asg rfl) ?_
  refine V rfl wu rfl rfl (asg rfl) ?_
  refine wr_nil (post_thenN (wc_seq (wc_seq ?_)))
  refine wc_region [0,1,2,3,4,5,6,7,8] rfl ?_
  refine V rfl wu rfl rfl (mv rfl) ?_
  refine V rfl wu rfl rfl (mv rfl) ?_
  refine V rfl wu rfl rfl (neqI rfl rfl) ?_
  refine V rfl wu rfl rfl (mv rfl) ?_
  refine KB 26 false rfl (by simp) ?_
  refine V rfl (wg rfl rfl) rfl rfl (mv rfl) ?_
  refine V rfl (wg rfl rfl) rfl rfl (mv rfl) ?_
  refine C rfl (wg rfl rfl) rfl rfl Try.call28 (rSameLists l m _ _ hl hm (subsAns_len n k)) ?_
  rintro _ w3 hE3 rfl
  replace hE := hE.trans hE3
  refine V rfl (wg rfl rfl) rfl rfl (notB rfl) ?_
  refine V rfl wu rfl rfl (pk rfl rfl) ?_
  refine wr_nil (post_thenN ?_)
  refine wc_condF rfl (by simp) ?_
  refine wc_skip (post_thenN (wc_seq ?_))
  clear hl hm
  refine wc_region [0,1,2,3,4,5] rfl ?_
  refine C rfl wu rfl rfl Try.call26 (wSubsets 3 2 _) ?_
  rintro _ w4 hE4 ⟨o, rfl, ho⟩
  replace hE := hE.trans hE4
  rw [subs32] at ho ⊢
  refine V rfl wu rfl rfl (mv rfl) ?_
  refine V rfl wu rfl rfl (ext rfl rfl) ?_
  refine V rfl wu rfl rfl (ext rfl rfl) ?_
  refine V rfl wu rfl rfl (asg rfl) ?_
  refine V rfl wu rfl rfl (asg rfl) ?_
  refine wr_nil (post_thenN (wc_seq ?_))
  obtain ⟨ro, so, lo, go⟩ := ho.row
  obtain ⟨x, hx, ix⟩ := go 1 (by simp)
  simp at lo
  refine wc_region [0,1,2,3,4,5,6,7,8,9,10,11,12,13,14] rfl ?_
  refine V rfl wu rfl rfl (mv rfl) ?_
  refine V rfl wu rfl rfl (eqlI rfl rfl) ?_
  refine V rfl wu rfl rfl (mv rfl) ?_
  refine KB 38 true rfl (by simp) ?_
  refine V rfl (wg rfl rfl) rfl rfl (mv rfl) ?_
  refine V rfl (wg rfl rfl) rfl rfl (lenS rfl ty35 so) ?_
  refine V rfl (wg rfl rfl) rfl rfl (eqlI rfl rfl) ?_
  refine V rfl wu rfl rfl (pk rfl rfl) ?_
  refine V rfl wu rfl rfl (mv rfl) ?_
  refine KB 43 true rfl (by simp [lo]) ?_
  refine V rfl (wg rfl rfl) rfl rfl (mv rfl) ?_
  refine V rfl (wg rfl rfl) rfl rfl (iad rfl rfl ty35 so) ?_
  refine V rfl (wg rfl rfl) rfl rfl (ldE rfl na26 so hx) ?_
  refine BSI (zs := [0, 2]) rfl (wg rfl rfl) rfl rfl rfl rfl ty26 ?_
  intro s w5 hE5 hs hsi hsb
  refine C rfl (wg rfl rfl) rfl rfl Try.call24 (rSame x s [0, 2] [0, 2] _ (ix.ext hE5) hsi) ?_
  rintro _ w6 hE6 rfl
  replace hE := (hE.trans hE5).trans hE6
  refine V rfl wu rfl rfl (pk rfl rfl) ?_
  refine V rfl wu rfl rfl (asg rfl) ?_
  refine wr_nil (post_thenN (wc_ret ?_))
  refine post_ret1 rfl rfl ?_
  exact ⟨hE, by simp⟩
namespace FWordSubsets
open Go.ChangeShapes Go.WideShapes Go.ChangeAt Go.RowKit Go.Fr
theorem own : ownKnob Try.prog.godebug = none := by kernel_rfl
theorem laidOut : laidOutB Try.prog = true := by kernel_rfl
set_option maxRecDepth 100000 in
theorem lifted (os : Os) (started : os.Started) (H : Type) (enc : TypeId × Value → H) :
    ReturnsInHanded {} Try.checked os 7 .any (Rows.wordSubsetsSpec.pre6 enc Try.prog Try.f7 Rows.wordSubsetsRow.domain false) (Rows.wordSubsetsSpec.post enc Try.prog Try.f7 false true false false) := by
  refine returnsInHanded_of_change_sized (C := Try.checked) own started (by kernel_rfl) Try.func7
    (ChangeSpec.witness6 (enc := enc) (C := Try.checked) false ⟨#[], #[.int .i64 0, .int .i64 0], []⟩ 8 (by kernel_rfl) (by kernel_rfl) (by kernel_rfl) (by kernel_rfl)) ?_
  intro W base args ds gs before hval0 hW _ hsz0 _
  have hval : ∀ (j : Nat) t v, Try.f7.params[j]? = some t → args[j]? = some v → Value.okWide Try.prog W .any base t v := hval0
  have hW' := hW
  obtain ⟨p, q, hA0, hV, rfl, hfz, hnd⟩ := hW
  have hA : DataW.TrodAll enc Try.prog W 0 (fun _ => true) true Try.f7.params.toList args.toList ds p := hA0
  have hsz : (DataW.weightsEach Try.prog (Try.f7.params.toList ++ Rows.wordSubsetsSpec.plain.varTypes Try.prog) (ds ++ gs)).all (· ≤ reachBytes) = true := hsz0
  rw [Try.params7] at hA hval hsz
  obtain ⟨v0, vs0, d0, ds0, p0, q0, hargs, rfl, rfl, h0, r0⟩ := trodAll_cons hA
  obtain ⟨v1, vs1, d1, ds1, p1, q1, rfl, rfl, rfl, h1, r1⟩ := trodAll_cons r0
  obtain ⟨rfl, rfl, rfl⟩ := trodAll_nil r1
  obtain rfl : args = #[v0, v1] := by cases args; simp_all
  obtain ⟨rfl, rfl⟩ := trodVars_none hV
  have k0 := h0
  have lt0 : ∀ x ∈ p0, x.block < W.heap.size := by obtain ⟨m, hm⟩ := k0; exact DataW.trod_lt m _ _ _ hm
  have w0 : WOK Try.prog 3 d0 := wok_arg hsz (j := 0) rfl rfl
  obtain ⟨n0, rfl, b0⟩ := op_int Try.underlying3 (hval 0 3 v0 rfl rfl) h0
  have k1 := h1
  have lt1 : ∀ x ∈ p1, x.block < W.heap.size := by obtain ⟨m, hm⟩ := k1; exact DataW.trod_lt m _ _ _ hm
  have w1 : WOK Try.prog 3 d1 := wok_arg hsz (j := 1) rfl rfl
  obtain ⟨n1, rfl, b1⟩ := op_int Try.underlying3 (hval 1 3 v1 rfl rfl) h1
  refine (law_WordSubsets (w := W) n0 b0 n1 b1).mono fun e W' he => ?_
  cases e with
  | panicked c => exact he.elim
  | outgrown => exact he.elim
  | returned v =>
    obtain ⟨bel, rfl⟩ := he
    exact ⟨_, rfl, _, _, _, [], _, [], hW', trodAll_mk1 (shut_bool Try.underlying4 _), (trodAll_cons_mk (Below.trod laidOut (by kernel_rfl) (of_decide_eq_true (by kernel_rfl)) k0 bel lt0) (trodAll_cons_mk (Below.trod laidOut (by kernel_rfl) (of_decide_eq_true (by kernel_rfl)) k1 bel lt1) trodAll_mk0)), rfl, bel.frame _, fun h => by cases h⟩
theorem over : Rows.wordSubsetsRow.holds Try.pinned (OpenSpec.ofChange Rows.wordSubsetsSpec) :=
  OpenClaim.holds_of_wide 7 Try.f7 rfl rfl rfl rfl rfl rfl rfl ⟨rfl, rfl, rfl, rfl, rfl⟩ rfl rfl rfl rfl rfl (by kernel_rfl) Try.func7 (by kernel_rfl)
    (of_decide_eq_true (by kernel_rfl)) (by unfold Func.isWrapper; first | (rw [if_pos (by decide +kernel)]; kernel_rfl) | (rw [if_neg (by decide +kernel)]; exact ⟨rfl, rfl⟩))
    (fun os started H enc _ => lifted os started H enc)
end FWordSubsets
/-- The statement. -/
theorem wordSubsets_holds : Rows.WordSubsetsSaid := FWordSubsets.over
end Go.Proofs.Ytlcokneidokfnaa
