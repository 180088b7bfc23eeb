/-
  Subsets, the program's and the reference's, by contract: the list of all subsets of a size in lexicographic order.
-/
import Derived.Test.YtlcokneidokfnaaRank
import Derived.Test.YtlcokneidokfnaaPlainSub
import Derived.Test.YtlcokneidokfnaaSxLists
namespace Go.Proofs.Ytlcokneidokfnaa
open Go Go.Sx Go.Pl Go.RowKit

theorem ty35 : SlT Try.prog 35 26 (.slice none 0 0) 1 24 := ⟨by kernel_rfl, by kernel_rfl⟩
theorem na26 : NA Try.prog 26 := fun w => Try.isAgg26 w

/-- The list that is filled (out, its cells, what they read as), and the list s that is turned, in blocks of the call's own. -/
structure SI (w w' : World) (out : Value) (rows : List Value) (s : Value) (cur : List Int) (dn : List (List Int)) : Prop where
  ext : Ext w w'
  row : Own w.heap.size w' out 26 rows
  ap : Apart w' rows dn [out.ownBlock, s.ownBlock]
  own : OwnI w.heap.size w' s 3 cur
  ne : out.ownBlock ≠ s.ownBlock
  sm : ∃ g, s.ownBlock = some g
theorem SI.grow {w w' w'' : World} {out s : Value} {rows : List Value} {cur : List Int} {dn : List (List Int)} (h : SI w w' out rows s cur dn) (hE : Ext w' w'') : SI w w'' out rows s cur dn :=
  ⟨h.ext.trans hE, h.row.ext hE, h.ap.ext hE, h.own.ext hE, h.ne, h.sm⟩
theorem SI.st {w w' w'' : World} {out s : Value} {rows : List Value} {cur cur' : List Int} {dn : List (List Int)} (h : SI w w' out rows s cur dn) (hg : w'.grownBy w'' s.ownBlock) (ho : OwnI w.heap.size w'' s 3 cur') : SI w w'' out rows s cur' dn :=
  ⟨h.ext.grownI hg h.own (Nat.le_refl _), h.row.kept hg (.inl h.ne), h.ap.kept hg (by simp), ho, h.ne, h.sm⟩
theorem SI.app {w w1 w2 w3 : World} {out out' s c : Value} {rows : List Value} {cur : List Int} {dn : List (List Int)} {gc : Nat} (h : SI w w1 out rows s cur dn) (hE : Ext w1 w2) (hc : Ints w2 c cur) (hcb : c.ownBlock = some gc) (hc1 : w1.heap.size ≤ gc) (hc2 : gc < w2.heap.size)
    (hg : w2.grownBy w3 out.ownBlock) (hb : out'.ownBlock = out.ownBlock ∨ out'.ownBlock = some w2.heap.size) (ho : Own w.heap.size w3 out' 26 (rows ++ [c])) : SI w w3 out' (rows ++ [c]) s cur (dn ++ [cur]) := by
  have h' := h.grow hE
  obtain ⟨gs, hgs⟩ := h.sm
  have hs := (h'.own.row.lt gs hgs).2
  have hs1 := (h.own.row.lt gs hgs).2
  have hn : some gc ∉ [out.ownBlock, s.ownBlock] := by
    intro hm
    simp at hm
    rcases hm with e | e
    · have := (h.row.lt gc e.symm).2
      omega
    · rw [hgs] at e
      cases e
      omega
  have a3 := ((h'.ap.snoc hc hcb hc2 hn).fresh).kept hg (by simp)
  refine ⟨h'.ext.grown hg h'.row (Nat.le_refl _), ho, a3.weak ?_, Own.kept h'.own hg (.inl (Ne.symm h.ne)), ?_, h.sm⟩
  · intro x hx
    simp at hx
    rcases hx with rfl | rfl
    · rcases hb with e | e <;> simp [e]
    · simp
  · rcases hb with e | e
    · rw [e]; exact h.ne
    · rw [e, hgs]
      intro e'
      cases e'
      omega

theorem gi_all {zs : List Int} {p : Int → Prop} (h : ∀ z ∈ zs, p z) {i : Int} (h0 : 0 ≤ i) (h1 : i < zs.length) : p (gi zs i) := by
  have hk : i.toNat < zs.length := by omega
  simp only [gi, List.getD, List.getElem?_eq_getElem hk, Option.getD_some]
  exact h _ (List.getElem_mem hk)
theorem subs_mem (n : Int) : ∀ (r k : Nat), ∀ x ∈ subs n r k, ∀ z ∈ x, n - r ≤ z ∧ z < n
  | 0, 0, x, h, z, hz => by simp [subs] at h; simp [h] at hz
  | _ + 1, 0, x, h, z, hz => by simp [subs] at h; simp [h] at hz
  | 0, _ + 1, x, h, z, hz => by simp [subs] at h
  | r + 1, k + 1, x, h, z, hz => by
    simp only [subs, List.mem_append, List.mem_map] at h
    rcases h with ⟨y, hy, rfl⟩ | h
    · simp only [List.mem_cons] at hz
      rcases hz with rfl | hz
      · omega
      · have := subs_mem n r k y hy z hz
        omega
    · have := subs_mem n r (k + 1) x h z hz
      omega
def subsAns (n k : Int) : List (List Int) × Int := if n < 0 ∨ 64 < n ∨ k < 0 ∨ n < k then ([], 6) else if 65536 < binZ n k then ([], 8) else (subs n n.toNat k.toNat, 0)
/-- A list of lists and an error. -/
def LLE (r : List (List Int) × Int) (v : Value) (w : World) : Prop := ∃ s, v = .tuple #[s, .int .i64 r.2] ∧ LL w s r.1

theorem sClone (s : Value) (zs : List Int) (w : World) (g0 : Nat) (hs : Ints w s zs) (hg : s.ownBlock = some g0) (hl : zs.length ≤ 64) :
    Calls Try.prog 57 #[s] w (RetX w fun v w' => OwnI w.heap.size w' v 3 zs ∧ ∃ g, v.ownBlock = some g) := by
  have hsl : ∃ a n c, s = .slice a n c := by obtain ⟨⟨a, c, h, _⟩, _⟩ := hs; exact ⟨a, _, c, h⟩
  refine calls1 Try.func57 rfl rfl ?_
  refine wc_seq ?_
  refine wc_region [0] rfl ?_
  refine V rfl wu rfl rfl (asg rfl) ?_
  refine wr_nil (post_thenN (wc_seq (wc_seq ?_)))
  refine wc_region [0,1] rfl ?_
  refine V rfl wu rfl rfl (mv rfl) ?_
  refine V rfl wu rfl rfl (eqlN rfl rfl Try.underlying26 hsl) ?_
  refine wr_nil (post_thenN ?_)
  refine wc_condF rfl (by simp [hg]) ?_
  refine wc_skip (post_thenN (wc_seq ?_))
  refine wc_region [0,1,2,3] rfl ?_
  refine BSI (zs := []) rfl wu rfl rfl rfl rfl ty26 ?_
  intro v0 w1 hE ho hi hb
  refine V rfl wu rfl rfl (mv rfl) ?_
  refine API rfl wu rfl rfl rfl ty26 (by intro h h2; cases h) ?_
  intro v w2 hg2 hX ho2 hi2 hb2
  refine V rfl wu rfl rfl (asg rfl) ?_
  refine wr_nil (post_thenN (wc_ret ?_))
  refine post_ret1 rfl rfl ?_
  refine ⟨hX _ (Nat.le_refl _) hE, ho2, ?_⟩
  rcases hb2 with e | e
  · exact ⟨_, e.trans hb⟩
  · exact ⟨_, e⟩

/-- The state of the outer loops: what is done and what is still to come are the subsets. -/
structure St (n k : Int) (cur : List Int) (dn rest : List (List Int)) : Prop where
  len : (cur.length : Int) = k
  gen : Gen n cur rest
  all : dn ++ rest = subs n n.toNat k.toNat
theorem St.first {n k : Int} (hn : 0 ≤ k ∧ k ≤ n) : St n k (run 0 k.toNat) [] (subs n n.toNat k.toNat) :=
  ⟨by rw [run_length]; omega, by have h := gen_subs n n.toNat k.toNat (by omega); rw [show n - (n.toNat : Int) = 0 by omega] at h; exact h, rfl⟩
theorem St.small {n k : Int} {cur : List Int} {dn rest : List (List Int)} (h : St n k cur dn rest) (hn : 0 ≤ n) : ∀ z ∈ cur, 0 ≤ z ∧ z < n := by
  obtain ⟨L', hL⟩ := h.gen.head
  intro z hz
  have := subs_mem n n.toNat k.toNat cur (by rw [← h.all, hL]; simp) z hz
  omega
theorem St.count {n k : Int} {cur : List Int} {dn rest : List (List Int)} (h : St n k cur dn rest) : dn.length + rest.length = bin n.toNat k.toNat := by
  rw [← List.length_append, h.all, subs_length]
theorem St.stop {n k : Int} {cur : List Int} {dn rest : List (List Int)} (h : St n k cur dn rest) (hm : ∀ j : Int, 0 ≤ j → j < k → gi cur j = n - k + j) : rest = [cur] := by
  have hx : nxt n cur = none := nxt_max cur (fun j hj => by rw [h.len]; exact hm j (by omega) (by have := h.len; omega))
  have hg := h.gen
  match rest, hg with
  | [x], hg => obtain ⟨rfl, _⟩ := hg; rfl
  | x :: y :: L, hg => obtain ⟨_, h1, _⟩ := hg; rw [hx] at h1; cases h1
theorem St.go {n k i : Int} {cur : List Int} {dn rest : List (List Int)} (h : St n k cur dn rest) (hi : 0 ≤ i ∧ i < k) (hm : ∀ j : Int, i < j → j < k → gi cur j = n - k + j) (hne : gi cur i ≠ n - k + i) :
    ∃ rest', rest = cur :: rest' ∧ St n k (fil cur i (gi cur i + 1) k) (dn ++ [cur]) rest' := by
  have hl := h.len
  have e : ((i.toNat : Nat) : Int) = i := by omega
  have hx := nxt_at (n := n) cur i.toNat (by omega) (fun j h1 h2 => by rw [hl]; exact hm j (by omega) (by omega)) (by rw [e, hl]; exact hne)
  have hf := fil_last cur i.toNat (gi cur i + 1) (by omega)
  rw [e, hl] at hf
  rw [e, ← hf] at hx
  have hg := h.gen
  have ha := h.all
  match rest, hg, ha with
  | [x], hg, _ => obtain ⟨rfl, h1⟩ := hg; rw [hx] at h1; cases h1
  | x :: y :: L, hg, ha =>
    obtain ⟨rfl, h1, h2⟩ := hg
    rw [hx] at h1
    cases h1
    exact ⟨_, rfl, by rw [fil_length, hl], h2, by rw [← ha]; simp⟩
def fst (m : Nat) (i : Int) : List Int := tab m (fun t => if (t : Int) < i then (t : Int) else 0)
theorem fst_length (m : Nat) (i : Int) : (fst m i).length = m := tab_length _ _
theorem fst_zero (m : Nat) : tab m (fun _ => (0 : Int)) = fst m 0 := tab_congr (fun t _ => by rw [if_neg (by omega)])
theorem fst_step (m : Nat) (i : Int) (h : 0 ≤ i) : si (fst m i) i i = fst m (i + 1) := by
  rw [fst, si_tab]
  refine tab_congr (fun t _ => ?_)
  by_cases e : t = i.toNat
  · rw [if_pos e, if_pos (by omega)]; omega
  · rw [if_neg e]
    by_cases h' : (t : Int) < i
    · rw [if_pos h', if_pos (by omega)]
    · rw [if_neg h', if_neg (by omega)]
theorem fst_last (m : Nat) : fst m m = run 0 m := by
  rw [run_tab]
  exact tab_congr (fun t ht => by rw [if_pos (by omega)]; omega)

set_option maxRecDepth 10000 in
theorem wSubsets (n k : Int) (w : World) :
    Calls Try.prog 26 #[.int .i64 n, .int .i64 k] w (RetX w (LLE (subsAns n k))) := by
  refine calls2 Try.func26 rfl rfl ?_
  refine wc_seq ?_
  refine wc_region [0,1] rfl ?_
  refine V rfl wu rfl rfl (asg rfl) ?_
  refine V rfl wu rfl rfl (asg rfl) ?_
  refine wr_nil (post_thenN (wc_seq (wc_seq ?_)))
  refine wc_region [0,1,2,3,4,5,6,7,8,9,10,11,12,13,14] rfl ?_
  refine V rfl wu rfl rfl (mv rfl) ?_
  refine V rfl wu rfl rfl (lssI rfl rfl) ?_
  refine V rfl wu rfl rfl (mv rfl) ?_
  refine OR (π1 := [3,4,5]) (π2 := [6,7,8,9,10,11,12,13,14]) (tc := 14) (tp := 17) rfl rfl rfl (by
      intro _
      refine SK rfl rfl rfl rfl rfl ?_
      refine SK rfl rfl rfl rfl rfl ?_
      refine V rfl wu rfl rfl (pk rfl rfl) ?_
      exact join rfl) (by
      intro hg
      simp at hg
      refine V rfl (wg rfl rfl) rfl rfl (mv rfl) ?_
      refine V rfl (wg rfl rfl) rfl rfl (gtrI rfl rfl) ?_
      refine V rfl wu rfl rfl (pk rfl rfl) ?_
      exact join rfl) ?_
  refine V rfl wu rfl rfl (mv rfl) ?_
  refine OR (π1 := [7,8,9]) (π2 := [10,11,12,13,14]) (tc := 18) (tp := 21) rfl rfl rfl (by
      intro _
      refine SK rfl rfl rfl rfl rfl ?_
      refine SK rfl rfl rfl rfl rfl ?_
      refine V rfl wu rfl rfl (pk rfl rfl) ?_
      exact join rfl) (by
      intro hg
      simp at hg
      refine V rfl (wg rfl rfl) rfl rfl (mv rfl) ?_
      refine V rfl (wg rfl rfl) rfl rfl (lssI rfl rfl) ?_
      refine V rfl wu rfl rfl (pk rfl rfl) ?_
      exact join rfl) ?_
  refine V rfl wu rfl rfl (mv rfl) ?_
  refine OR (π1 := [11,12,13,14]) (π2 := []) (tc := 22) (tp := 26) rfl rfl rfl (by
      intro _
      refine SK rfl rfl rfl rfl rfl ?_
      refine SK rfl rfl rfl rfl rfl ?_
      refine SK rfl rfl rfl rfl rfl ?_
      refine V rfl wu rfl rfl (pk rfl rfl) ?_
      exact join rfl) (by
      intro hg
      simp at hg
      refine V rfl (wg rfl rfl) rfl rfl (mv rfl) ?_
      refine V rfl (wg rfl rfl) rfl rfl (mv rfl) ?_
      refine V rfl (wg rfl rfl) rfl rfl (gtrI rfl rfl) ?_
      refine V rfl wu rfl rfl (pk rfl rfl) ?_
      exact join rfl) ?_
  refine wr_nil (post_thenN ?_)
  refine wc_cond rfl ?_ ?_
  · intro h
    simp at h
    refine wc_seq ?_
    refine wc_region [0,1] rfl ?_
    refine V rfl wu rfl rfl (asg rfl) ?_
    refine V rfl wu rfl rfl (asg rfl) ?_
    refine wr_nil (post_thenN (wc_ret (post_thenR ?_)))
    refine post_ret2 rfl rfl rfl ?_
    refine ⟨Ext.refl _, ?_⟩
    rw [subsAns, if_pos (by omega)]
    exact ⟨_, rfl, LL.nil _⟩
  · intro h
    simp at h
    refine wc_skip (post_thenN (wc_seq ?_))
    have hb : binZ n k = bin n.toNat k.toNat := by rw [binZ, if_neg (by omega)]
    refine wc_region [0,1,2,3] rfl ?_
    refine V rfl wu rfl rfl (mv rfl) ?_
    refine V rfl wu rfl rfl (mv rfl) ?_
    refine C rfl wu rfl rfl Try.call54 (choose_int n k _ (by omega) (by omega)) ?_
    rintro _ w1 hE rfl
    refine V rfl wu rfl rfl (asg rfl) ?_
    refine wr_nil (post_thenN (wc_seq (wc_seq ?_)))
    refine wc_region [0,1] rfl ?_
    refine V rfl wu rfl rfl (mv rfl) ?_
    refine V rfl wu rfl rfl (gtrI rfl rfl) ?_
    refine wr_nil (post_thenN ?_)
    refine wc_cond rfl ?_ ?_
    · intro hc
      simp at hc
      refine wc_seq ?_
      refine wc_region [0,1] rfl ?_
      refine V rfl wu rfl rfl (asg rfl) ?_
      refine V rfl wu rfl rfl (asg rfl) ?_
      refine wr_nil (post_thenN (wc_ret (post_thenR ?_)))
      refine post_ret2 rfl rfl rfl ?_
      refine ⟨hE, ?_⟩
      rw [subsAns, if_neg (by omega), if_pos hc]
      exact ⟨_, rfl, LL.nil _⟩
    · intro hc
      simp at hc
      refine wc_skip (post_thenN (wc_seq ?_))
      have hans : subsAns n k = (subs n n.toNat k.toNat, 0) := by rw [subsAns, if_neg (by omega), if_neg (by omega)]
      rw [hans]
      have hsz0 := hE.size
      refine wc_region [0,1,2] rfl ?_
      refine V rfl wu rfl rfl (mv rfl) ?_
      refine MKC (n := bin n.toNat k.toNat) rfl wu rfl rfl rfl ty35 ?_
      intro out w2 hE2 ho hob
      replace hE := hE.trans hE2
      refine V rfl wu rfl rfl (asg rfl) ?_
      refine wr_nil (post_thenN (wc_seq ?_))
      refine wc_region [0,1,2] rfl ?_
      refine V rfl wu rfl rfl (mv rfl) ?_
      refine MKI (n := k.toNat) rfl wu rfl rfl ty26 ?_
      intro s w3 hE3 hs hsi hsb
      refine V rfl wu rfl rfl (asg rfl) ?_
      refine wr_nil (post_thenN (wc_seq (wc_seq ?_)))
      have hSI : SI w w3 out [] s (fst k.toNat 0) [] := by
        refine ⟨hE.trans hE3, (ho.mono hsz0).ext hE3, Apart.nil _ _, ?_, ?_, ⟨_, hsb⟩⟩
        · rw [← fst_zero]; exact Own.mono hs (by have := hE.size; omega)
        · rw [hob, hsb]
          intro e
          have e := Option.some.inj e
          have := (ho.lt _ hob).2
          omega
      have hsi' : Ints w3 s (fst k.toNat 0) := hSI.own.ints
      clear hs hsi ho hE
      refine wc_region [0,1,2] rfl ?_
      refine V rfl wu rfl rfl (mv rfl) ?_
      refine V rfl wu rfl rfl (lenI rfl ty26) ?_
      refine V rfl wu rfl rfl (mv rfl) ?_
      refine wr_nil (post_thenN (wc_block ?_))
      rw [fst_length]
      refine wc_loop (fun i : Int => [(0, .int .i64 n), (1, .int .i64 k), (7, out), (8, s), (37, .int .i64 (k.toNat : Int)), (38, .int .i64 i)])
        (fun i w' => 0 ≤ i ∧ i ≤ k ∧ SI w w' out [] s (fst k.toNat i) []) (fun i => (k - i).toNat) 0 ⟨rfl, rfl, rfl, rfl, rfl, rfl, trivial⟩ ⟨by omega, by omega, hSI⟩ ?_
      clear hSI hsi'
      rintro i w4 ⟨h0, h1, hSI⟩
      have hs := hSI.own
      have hsi := hs.ints
      have hl := fst_length k.toNat i
      try dsimp only
      refine wc_seq ?_
      refine wc_region [0] rfl ?_
      refine V rfl wu rfl rfl (lssI rfl rfl) ?_
      refine wr_nil (post_thenN (wc_seq ?_))
      refine wc_cond rfl ?_ ?_
      · intro hi
        simp at hi
        refine wc_skip (post_thenN (wc_seq (wc_block (wc_seq ?_))))
        refine wc_region [0,1] rfl ?_
        refine V rfl wu rfl rfl (mv rfl) ?_
        refine V rfl wu rfl rfl (asg rfl) ?_
        refine wr_nil (post_thenN ?_)
        refine wc_region [0,1,2,3,4] rfl ?_
        refine V rfl wu rfl rfl (mv rfl) ?_
        refine V rfl wu rfl rfl (mv rfl) ?_
        refine V rfl wu rfl rfl (mv rfl) ?_
        refine V rfl wu rfl rfl (iadI rfl rfl ty26) ?_
        refine STI rfl wu rfl rfl sz3 (by intro h; cases h) ?_
        intro w5 hg hX hs5 hsi5
        refine wr_nil (post_blockN (post_thenN ?_))
        rw [fst_step _ _ h0] at hs5
        refine wc_region [0,1] rfl ?_
        refine V rfl wu rfl rfl (addI rfl rfl) ?_
        refine V rfl wu rfl rfl (mv rfl) ?_
        refine wr_nil ?_
        exact post_loopN (i + 1) ⟨rfl, rfl, rfl, rfl, rfl, rfl, trivial⟩ ⟨by omega, by omega, hSI.st hg hs5⟩ (by omega)
      · intro hi
        simp at hi
        refine wc_exit (post_thenE (post_loopE (post_blockX (post_thenN (wc_block ?_)))))
        have hi' : i = (k.toNat : Int) := by omega
        subst hi'
        rw [fst_last] at hSI
        refine wc_loop (fun q : Value × List Value × List Int × List (List Int) × List (List Int) => [(0, .int .i64 n), (1, .int .i64 k), (7, q.1), (8, s)])
          (fun q w' => SI w w' q.1 q.2.1 s q.2.2.1 q.2.2.2.1 ∧ St n k q.2.2.1 q.2.2.2.1 q.2.2.2.2) (fun q => q.2.2.2.2.length) (out, [], run 0 k.toNat, [], subs n n.toNat k.toNat) ⟨rfl, rfl, rfl, rfl, trivial⟩ ⟨hSI, St.first (by omega)⟩ ?_
        clear hSI hs hsi hl
        rintro ⟨out, rows, cur, dn, rest⟩ w4 ⟨hSI, hSt⟩
        dsimp only at hSI hSt
        have hlen := hSt.len
        have hcnt := hSt.count
        have hsm := hSt.small (by omega)
        have hrl := hSI.ap.1
        obtain ⟨gs, hgs⟩ := hSI.sm
        have hSI0 := hSI
        obtain ⟨hE, ho, hap, hs, hne, _⟩ := hSI
        have hsi := hs.ints
        have hsz := hE.size
        try dsimp only
        refine wc_block (wc_seq ?_)
        refine wc_region [0,1,2,3,4,5] rfl ?_
        refine V rfl wu rfl rfl (mv rfl) ?_
        refine V rfl wu rfl rfl (mv rfl) ?_
        refine C rfl wu rfl rfl Try.call57 (sClone s cur _ gs hsi hgs (by omega)) ?_
        rintro c w5 hE5 ⟨hco, gc, hgc⟩
        refine BS (us := [c]) rfl wu rfl rfl rfl rfl ty35 (by obtain ⟨⟨a, cc, hcv, _⟩, _⟩ := hco.ints; simp [hcv, Value.oneCell']) ?_
        intro lit w6 hE6 hlo hlb
        have hsz5 := hE5.size
        have hsz6 := hE6.size
        refine AP (xs := rows) (ys := [c]) rfl wu rfl rfl rfl ty35 rfl (by intro h; cases h) ((ho.ext hE5).ext hE6) (by omega) hlo.sl (Ext.refl _) (by obtain ⟨⟨a, cc, hcv, _⟩, _⟩ := hco.ints; simp [hcv, Value.oneCell']) (by simp; omega) (by simp; omega) ?_
        intro out' w7 hg7 hX7 ho7 hb7
        refine V rfl wu rfl rfl (asg rfl) ?_
        refine wr_nil (post_thenN (wc_seq ?_))
        have hSI := hSI0.app (hE5.trans hE6) (hco.ints.ext hE6) hgc (hco.lt gc hgc).1 (by have := (hco.lt gc hgc).2; omega) hg7 hb7 ho7
        clear hSI0 ho hap hs hne hsi hE hg7 hX7 ho7 hb7 hlo hlb hco hgc
        refine wc_region [0,1,2] rfl ?_
        refine V rfl wu rfl rfl (mv rfl) ?_
        refine V rfl wu rfl rfl (subI rfl rfl) ?_
        refine V rfl wu rfl rfl (asg rfl) ?_
        refine wr_nil (post_thenN (wc_seq (wc_block ?_)))
        refine wc_loop (fun i : Int => [(0, .int .i64 n), (1, .int .i64 k), (7, out'), (8, s), (10, .int .i64 i)])
          (fun i w' => -1 ≤ i ∧ i < k ∧ (∀ j : Int, i < j → j < k → gi cur j = n - k + j) ∧ SI w w' out' (rows ++ [c]) s cur (dn ++ [cur])) (fun i => (i + 1).toNat) (k - 1) ⟨rfl, rfl, rfl, rfl, rfl, trivial⟩ ⟨by omega, by omega, fun j _ _ => by omega, hSI⟩ ?_
        clear hSI
        rintro i w8 ⟨h0, h1, hm, hSI⟩
        have hs := hSI.own
        have hsi := hs.ints
        try dsimp only
        refine wc_seq (wc_seq ?_)
        refine wc_region [0,1,2,3,4,5,6,7,8,9,10,11,12,13] rfl ?_
        refine V rfl wu rfl rfl (mv rfl) ?_
        refine V rfl wu rfl rfl (geqI rfl rfl) ?_
        refine V rfl wu rfl rfl (mv rfl) ?_
        refine AND (π1 := [3,4,5,6,7,8,9,10,11,12,13]) (π2 := []) (tc := 55) (tp := 66) rfl rfl rfl (by
            intro hg
            simp at hg
            refine V rfl (wg rfl rfl) rfl rfl (mv rfl) ?_
            refine V rfl (wg rfl rfl) rfl rfl (mv rfl) ?_
            refine V rfl (wg rfl rfl) rfl rfl (iadI rfl rfl ty26) ?_
            refine V rfl (wg rfl rfl) rfl rfl (ldI rfl na3) ?_
            refine V rfl (wg rfl rfl) rfl rfl (mv rfl) ?_
            refine V rfl (wg rfl rfl) rfl rfl (mv rfl) ?_
            refine V rfl (wg rfl rfl) rfl rfl (subI rfl rfl) ?_
            refine V rfl (wg rfl rfl) rfl rfl (mv rfl) ?_
            refine V rfl (wg rfl rfl) rfl rfl (addI rfl rfl) ?_
            refine V rfl (wg rfl rfl) rfl rfl (eqlI rfl rfl) ?_
            refine V rfl wu rfl rfl (pk rfl rfl) ?_
            exact join rfl) (by
            intro _
            refine SK rfl rfl rfl rfl rfl ?_
            refine SK rfl rfl rfl rfl rfl ?_
            refine SK rfl rfl rfl rfl rfl ?_
            refine SK rfl rfl rfl rfl rfl ?_
            refine SK rfl rfl rfl rfl rfl ?_
            refine SK rfl rfl rfl rfl rfl ?_
            refine SK rfl rfl rfl rfl rfl ?_
            refine SK rfl rfl rfl rfl rfl ?_
            refine SK rfl rfl rfl rfl rfl ?_
            refine SK rfl rfl rfl rfl rfl ?_
            refine V rfl wu rfl rfl (pk rfl rfl) ?_
            exact join rfl) ?_
        refine wr_nil (post_thenN ?_)
        refine wc_cond rfl ?_ ?_
        · intro hi
          simp at hi
          refine wc_skip (post_thenN (wc_block ?_))
          refine wc_region [0,1,2] rfl ?_
          refine V rfl wu rfl rfl (mv rfl) ?_
          refine V rfl wu rfl rfl (subI rfl rfl) ?_
          refine V rfl wu rfl rfl (asg rfl) ?_
          refine wr_nil (post_blockN ?_)
          exact post_loopN (i - 1) ⟨rfl, rfl, rfl, rfl, rfl, trivial⟩ ⟨by omega, by omega, fun j hj1 hj2 => (by
            by_cases e : j = i
            · rw [e]; exact hi.2
            · exact hm j (by omega) hj2), hSI⟩ (by omega)
        · intro hi
          simp at hi
          refine wc_exit (post_thenE (post_loopE (post_blockX (post_thenN (wc_seq (wc_seq ?_))))))
          refine wc_region [0,1] rfl ?_
          refine V rfl wu rfl rfl (mv rfl) ?_
          refine V rfl wu rfl rfl (lssI rfl rfl) ?_
          refine wr_nil (post_thenN ?_)
          refine wc_cond rfl ?_ ?_
          · intro hi0
            simp at hi0
            refine wc_seq ?_
            refine wc_region [0,1,2] rfl ?_
            refine V rfl wu rfl rfl (mv rfl) ?_
            refine V rfl wu rfl rfl (asg rfl) ?_
            refine V rfl wu rfl rfl (asg rfl) ?_
            refine wr_nil (post_thenN (wc_ret (post_thenR (post_blockR (post_loopR (post_blockR ?_))))))
            refine post_ret2 rfl rfl rfl ?_
            have hr := hSt.stop (fun j hj1 hj2 => hm j (by omega) hj2)
            refine ⟨hSI.ext, _, rfl, ?_⟩
            have h := hSI.ap.ll hSI.row.sl
            have ha := hSt.all
            rw [hr] at ha
            rw [ha] at h
            exact h
          · intro hi0
            simp at hi0
            refine wc_skip (post_thenN (wc_seq ?_))
            have hne := hi hi0
            obtain ⟨rest', hr, hSt'⟩ := hSt.go ⟨hi0, h1⟩ hm hne
            have hgb := gi_all hsm hi0 (by omega)
            refine wc_region [0,1,2,3,4,5,6] rfl ?_
            refine V rfl wu rfl rfl (mv rfl) ?_
            refine V rfl wu rfl rfl (mv rfl) ?_
            refine V rfl wu rfl rfl (iadI rfl rfl ty26) ?_
            refine V rfl wu rfl rfl (ldI rfl na3) ?_
            refine V rfl wu rfl rfl (addI rfl rfl) ?_
            refine V rfl wu rfl rfl (iadI rfl rfl ty26) ?_
            refine STI rfl wu rfl rfl sz3 (by intro h; cases h) ?_
            intro w9 hg hX hs9 hsi9
            refine wr_nil (post_thenN (wc_seq ?_))
            rw [fil_first _ _ _ hi0 (by omega)] at hs9
            replace hSI := hSI.st hg hs9
            clear hs hsi hs9 hsi9 hg hX
            refine wc_region [0,1,2] rfl ?_
            refine V rfl wu rfl rfl (mv rfl) ?_
            refine V rfl wu rfl rfl (addI rfl rfl) ?_
            refine V rfl wu rfl rfl (asg rfl) ?_
            refine wr_nil (post_thenN (wc_block ?_))
            refine wc_loop (fun j : Int => [(0, .int .i64 n), (1, .int .i64 k), (7, out'), (8, s), (10, .int .i64 i), (11, .int .i64 j)])
              (fun j w' => i < j ∧ j ≤ k ∧ SI w w' out' (rows ++ [c]) s (fil cur i (gi cur i + 1) j) (dn ++ [cur])) (fun j => (k - j).toNat) (i + 1) ⟨rfl, rfl, rfl, rfl, rfl, rfl, trivial⟩ ⟨by omega, by omega, hSI⟩ ?_
            clear hSI
            rintro j w10 ⟨j0, j1, hSI⟩
            have hs := hSI.own
            have hsi := hs.ints
            have hfl := fil_length cur i (gi cur i + 1) j
            have hfg := fil_get cur i (gi cur i + 1) j hi0 j0 (by omega)
            try dsimp only
            refine wc_seq (wc_seq ?_)
            refine wc_region [0,1,2] rfl ?_
            refine V rfl wu rfl rfl (mv rfl) ?_
            refine V rfl wu rfl rfl (mv rfl) ?_
            refine V rfl wu rfl rfl (lssI rfl rfl) ?_
            refine wr_nil (post_thenN ?_)
            refine wc_cond rfl ?_ ?_
            · intro hj
              simp at hj
              refine wc_skip (post_thenN (wc_seq (wc_block ?_)))
              refine wc_region [0,1,2,3,4,5,6,7,8,9] rfl ?_
              refine V rfl wu rfl rfl (mv rfl) ?_
              refine V rfl wu rfl rfl (mv rfl) ?_
              refine V rfl wu rfl rfl (mv rfl) ?_
              refine V rfl wu rfl rfl (mv rfl) ?_
              refine V rfl wu rfl rfl (subI rfl rfl) ?_
              refine V rfl wu rfl rfl (iadI rfl rfl ty26) ?_
              refine V rfl wu rfl rfl (ldI rfl na3) ?_
              refine V rfl wu rfl rfl (addI rfl rfl) ?_
              refine V rfl wu rfl rfl (iadI rfl rfl ty26) ?_
              refine STI rfl wu rfl rfl sz3 (by intro h; cases h) ?_
              intro w11 hg hX hs11 hsi11
              refine wr_nil (post_blockN (post_thenN ?_))
              rw [hfg, fil_step _ _ _ _ hi0 j0 (by omega)] at hs11
              refine wc_region [0,1,2] rfl ?_
              refine V rfl wu rfl rfl (mv rfl) ?_
              refine V rfl wu rfl rfl (addI rfl rfl) ?_
              refine V rfl wu rfl rfl (asg rfl) ?_
              refine wr_nil ?_
              exact post_loopN (j + 1) ⟨rfl, rfl, rfl, rfl, rfl, rfl, trivial⟩ ⟨by omega, by omega, hSI.st hg hs11⟩ (by omega)
            · intro hj
              simp at hj
              refine wc_exit (post_thenE (post_loopE (post_blockX (post_blockN ?_))))
              have hjk : j = k := by omega
              subst hjk
              exact post_loopN (out', rows ++ [c], fil cur i (gi cur i + 1) j, dn ++ [cur], rest') ⟨rfl, rfl, rfl, rfl, trivial⟩ ⟨hSI, hSt'⟩ (by rw [hr]; simp)
end Go.Proofs.Ytlcokneidokfnaa
