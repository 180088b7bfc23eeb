/-
  The reference's elimination, by contract: reduced rows of the same span.
-/
import Derived.Test.YtmnojknfjbimdaaGreatWRLin1
namespace Go.Sx
open Go Go.RowKit Go.Pl
def Dj (u v : Value) : Prop := ∀ k, u.ownBlock = some k → v.ownBlock ≠ some k
theorem Dj.left {u v : Value} (h : Dj u v) : u.ownBlock ≠ v.ownBlock ∨ u.ownBlock = none := by
  rcases hu : u.ownBlock with _ | k
  · exact .inr rfl
  · exact .inl fun e => h k hu e.symm
theorem Dj.right {u v : Value} (h : Dj u v) : v.ownBlock ≠ u.ownBlock ∨ v.ownBlock = none := by
  rcases hv : v.ownBlock with _ | k
  · exact .inr rfl
  · exact .inl fun e => h k e.symm hv
theorem dj_nil (v : Value) : Dj (.slice none 0 0) v := fun k hk => by cases hk
theorem LOX.rowsN {X : List Nat} {B : Nat} {w : World} {v : Value} {E : TypeId} {L : List (List Int)} (h : LOX X B w v E L) : ∃ rows, Sl w v rows ∧ rows.length = L.length ∧ ∀ i : Nat, i < L.length → ∃ r, rows[i]? = some r ∧ Ints w r (L.getD i []) ∧ (L.getD i [] = [] ∨ (r.ownBlock ≠ v.ownBlock ∧ NB X r)) := by
  obtain ⟨rows, h1, h2, h3⟩ := h
  refine ⟨rows, h1.sl, h2, fun i hi => ?_⟩
  have hr : rows[i]? = some (rows[i]'(by omega)) := List.getElem?_eq_getElem (by omega)
  have hz : L[i]? = some (L.getD i []) := by rw [List.getD_eq_getElem?_getD, List.getElem?_eq_getElem hi]; rfl
  exact ⟨_, hr, (h3 i _ _ hr hz).1, (h3 i _ _ hr hz).2⟩
theorem keepRowX {X : List Nat} {w w' : World} {v r : Value} {z : List Int} (hg : w.grownBy w' v.ownBlock) (h : Ints w r z) (hd : z = [] ∨ (r.ownBlock ≠ v.ownBlock ∧ NB X r)) : Ints w' r z := by
  rcases hd with rfl | hd
  · exact ints_empty h
  · exact h.kept hg hd.1
theorem LOX.move {R : List Nat} {B : Nat} {w w' : World} {v p p' : Value} {E : TypeId} {L : List (List Int)} (h : LOX (R ++ p.ownBlock.toList) B w v E L) (hg : w.grownBy w' p.ownBlock) (hp : p'.ownBlock = p.ownBlock ∨ p'.ownBlock = some w.heap.size) (hv : Dj p v) : LOX (R ++ p'.ownBlock.toList) B w' v E L := by
  obtain ⟨rows, h1, h2, h3⟩ := h
  refine ⟨rows, Own.kept h1 hg hv.right, h2, fun i r zs a b => ?_⟩
  obtain ⟨h4, h5⟩ := h3 i r zs a b
  rcases h5 with rfl | ⟨h6, h7⟩
  · exact ⟨ints_empty h4, .inl rfl⟩
  · rcases Nat.eq_zero_or_pos zs.length with h0 | h0
    · obtain rfl := List.eq_nil_of_length_eq_zero h0
      exact ⟨ints_empty h4, .inl rfl⟩
    · obtain ⟨k, hk, hkl⟩ := Ints.lt h4 h0
      have hne : r.ownBlock ≠ p.ownBlock := fun e => h7 k hk (List.mem_append.2 (.inr (by rw [← e, hk]; simp)))
      refine ⟨h4.kept hg hne, .inr ⟨h6, fun q hq hm => ?_⟩⟩
      rw [hk] at hq
      obtain rfl := Option.some.inj hq
      rcases List.mem_append.1 hm with hm | hm
      · exact h7 k hk (List.mem_append.2 (.inl hm))
      · rcases hp with e | e
        · rw [e] at hm
          exact h7 k hk (List.mem_append.2 (.inr hm))
        · rw [e] at hm
          have : k = w.heap.size := by simpa using hm
          omega
theorem LOX.weak {X X' : List Nat} {B : Nat} {w : World} {v : Value} {E : TypeId} {L : List (List Int)} (h : LOX X' B w v E L) (hX : ∀ k ∈ X, k ∈ X') : LOX X B w v E L := by
  obtain ⟨rows, h1, h2, h3⟩ := h
  exact ⟨rows, h1, h2, fun i r zs a b => ⟨(h3 i r zs a b).1, (h3 i r zs a b).2.imp id fun h => ⟨h.1, fun k hk hx => h.2 k hk (hX k hx)⟩⟩⟩
theorem LLX.cut {X : List Nat} {w : World} {v : Value} {L : List (List Int)} (h : LLX X w v L) {n : Nat} (hn : n ≤ L.length) : LLX X w (cutTo v n) (L.take n) := by
  obtain ⟨rows, h1, h2, h0, h3⟩ := h
  refine ⟨rows.take n, h1.cut (by omega), by simp [h2], ?_, fun i r zs a b => ?_⟩
  · rcases h0 with rfl | h0
    · exact .inl (by simp)
    · exact .inr fun k hk => h0 k (by rwa [cut_block] at hk)
  · rw [List.getElem?_take] at a b
    split at a
    · rename_i hi
      rw [if_pos hi] at b
      exact h3 i r zs a b
    · cases a
theorem xlt {B n : Nat} {w : World} {p : Value} {E : TypeId} {xs : List Value} (hp : Own B w p E xs) (h : n ≤ w.heap.size) : ∀ q ∈ List.range n ++ p.ownBlock.toList, q < w.heap.size := fun q hq => by
  rcases List.mem_append.1 hq with h1 | h1
  · have := List.mem_range.1 h1; omega
  · exact (hp.lt q (by simpa using h1)).2
theorem row_newN {X : List Nat} {B B' : Nat} {w w' : World} {v r : Value} {E E' : TypeId} {L : List (List Int)} {zs : List Int} (ho : LOX X B w v E L) (hr : OwnI B' w' r E' zs) (hB : w.heap.size ≤ B') (hX : ∀ k ∈ X, k < B') : zs = [] ∨ (r.ownBlock ≠ v.ownBlock ∧ NB X r) := by
  rcases Nat.eq_zero_or_pos zs.length with h0 | h0
  · exact .inl (List.eq_nil_of_length_eq_zero h0)
  · obtain ⟨k, hk, _⟩ := (OwnI.ints hr).lt h0
    have h1 := (Own.lt hr k hk).1
    refine .inr ⟨fun e => ?_, fun q hq hx => ?_⟩
    · have := (ho.lt k (e.symm.trans hk)).2
      omega
    · rw [hk] at hq
      obtain rfl := Option.some.inj hq
      have := hX k hx
      omega
end Go.Sx
namespace Go.Fd
open Go.Pl Go.Alg
variable {P : FP}
theorem matL_sw {m n a k : Nat} {M : Nat → Nat → K P} : ((matL P m n M).set a (rowL P n (M k))).set k (rowL P n (M a)) = matL P m n (swR M a k) := by
  rw [matL_set, matL_set]
  refine matL_congr fun i j _ _ => ?_
  rw [swR]
  by_cases e1 : i = k
  · by_cases e2 : i = a
    · rw [if_pos e1, if_pos e2, ← e1, ← e2]
    · rw [if_pos e1, if_neg e2, if_pos e1]
  · rw [if_neg e1]
    by_cases e2 : i = a
    · rw [if_pos e2, if_pos e2]
    · rw [if_neg e2, if_neg e2, if_neg e1]
noncomputable def midR (M : Nat → Nat → K P) (a k c : Nat) (s : K P) (i t j : Nat) : K P := if t < i then elR M a k c s t j else if t = a then s * M k j else swR M a k t j
theorem midR_lo {M : Nat → Nat → K P} {a k c : Nat} {s : K P} {i t j : Nat} (h : t < i) : midR M a k c s i t j = elR M a k c s t j := if_pos h
theorem midR_hi {M : Nat → Nat → K P} {a k c : Nat} {s : K P} {i t j : Nat} (h : ¬ t < i) : midR M a k c s i t j = if t = a then s * M k j else swR M a k t j := if_neg h
theorem midR_a {M : Nat → Nat → K P} {a k c : Nat} {s : K P} {i : Nat} : midR M a k c s i a = fun j => s * M k j := by
  funext j
  by_cases e : a < i
  · rw [midR_lo e, elR, if_pos rfl]
  · rw [midR_hi e, if_pos rfl]
theorem midR_i {M : Nat → Nat → K P} {a k c : Nat} {s : K P} {i : Nat} (h : i ≠ a) : midR M a k c s i i = swR M a k i := by
  funext j
  rw [midR_hi (Nat.lt_irrefl i), if_neg h]
theorem midR_keep {m n : Nat} {M : Nat → Nat → K P} {a k c : Nat} {s : K P} {i : Nat} (h : i = a ∨ swR M a k i c = 0) : matL P m n (midR M a k c s i) = matL P m n (midR M a k c s (i + 1)) := matL_congr fun t j _ _ => by
  by_cases e : t < i
  · rw [midR_lo e, midR_lo (by omega)]
  · by_cases e2 : t = i
    · rw [midR_hi e, midR_lo (show t < i + 1 by omega), elR]
      by_cases e3 : t = a
      · rw [if_pos e3, if_pos e3]
      · rw [if_neg e3, if_neg e3]
        rcases h with h | h
        · omega
        · rw [e2, h, neg_zero, zero_mul, add_zero]
    · rw [midR_hi e, midR_hi (by omega)]
theorem midR_set {m n : Nat} {M : Nat → Nat → K P} {a k c : Nat} {s : K P} {i : Nat} (h : i ≠ a) : (matL P m n (midR M a k c s i)).set i (rowL P n fun j => swR M a k i j + -(swR M a k i c) * (s * M k j)) = matL P m n (midR M a k c s (i + 1)) := by
  rw [matL_set]
  refine matL_congr fun t j _ _ => ?_
  by_cases e2 : t = i
  · rw [if_pos e2, midR_lo (show t < i + 1 by omega), elR, if_neg (show t ≠ a by omega), e2]
  · rw [if_neg e2]
    by_cases e : t < i
    · rw [midR_lo e, midR_lo (show t < i + 1 by omega)]
    · rw [midR_hi e, midR_hi (show ¬ t < i + 1 by omega)]
theorem midR_last {m n : Nat} {M : Nat → Nat → K P} {a k c : Nat} {s : K P} : matL P m n (midR M a k c s m) = matL P m n (elR M a k c s) := matL_congr fun _ _ ht _ => midR_lo ht
end Go.Fd
namespace Go.Proofs.YtmnojknfjbimdaaGreat
open Go Go.Sx Go.Pl Go.RowKit Go.Fd Go.Alg Go.Ld
set_option maxRecDepth 10000 in
theorem rElim (P : FP) (mo : Value) (md : List Int) (u : Value) (m n : Nat) (M0 : Nat → Nat → K P) (w : World) (hF : FV w P mo md) (hgen : ∃ g : K P, HasOrder g (n1 P)) (hu : LL w u (matL P m n M0)) (hm : m ≤ 65536) (hn : n ≤ 65536) :
    Calls Tryz.prog 148 #[fv P mo, u, .int .i64 n] w (RetX w fun r w' => ∃ lv pvv a M pv, r = .tuple #[lv, pvv] ∧ LLX (List.range w.heap.size) w' lv (matL P m n M) ∧ Ints w' pvv (tab a fun i => ((pv i : Nat) : Int)) ∧ Red P m n M0 a M pv) := by
  have hml := matL_length (P := P) m n M0
  refine calls3 Tryz.func148 rfl rfl ?_
  refine wc_seq ?_
  refine wc_region [0,1,2] rfl ?_
  refine BXA rfl wu rfl rfl ?_
  intro fb w1 hE hB hg
  refine Go.Sx.V rfl wu rfl rfl (asg rfl) ?_
  refine Go.Sx.V rfl wu rfl rfl (asg rfl) ?_
  refine wr_nil (post_thenN (wc_seq ?_))
  have hsz := hE.size
  have hlt := hB.lt
  refine wc_region [0,1,2] rfl ?_
  refine Go.Sx.V rfl wu rfl rfl (mv rfl) ?_
  refine C rfl wu rfl rfl Tryz.call170 (rCopy u (matL P m n M0) n _ (hu.ext hE) (fun i hi => by rw [matL_row (by omega), rowL_length]; exact hn) (by omega)) ?_
  intro lv w2 hE2 ho
  have hz2 := hE2.size
  replace hE := hE.trans hE2
  replace hB := hB.ext hE2
  refine Go.Sx.V rfl wu rfl rfl (asg rfl) ?_
  refine wr_nil (post_thenN (wc_seq ?_))
  have hne : lv.ownBlock ≠ some fb := fun e => by have := (ho.lt fb e).1; omega
  refine wc_region [0] rfl ?_
  refine Go.Sx.V rfl wu rfl rfl (asg rfl) ?_
  refine wr_nil (post_thenN (wc_seq ?_))
  refine wc_region [0] rfl ?_
  refine Go.Sx.V rfl wu rfl rfl (asg rfl) ?_
  refine wr_nil (post_thenN (wc_seq (wc_seq ?_)))
  refine wc_region [0] rfl ?_
  refine Go.Sx.V rfl wu rfl rfl (asg rfl) ?_
  refine wr_nil (post_thenN (wc_block ?_))
  obtain ⟨B, hBB⟩ : ∃ B, B = w1.heap.size := ⟨_, rfl⟩
  rw [← hBB] at ho hz2 hlt hsz
  clear hBB
  refine wc_loop (fun p : (Nat × Nat) × Value => [(3, .pointer (some ⟨fb, 0, none⟩)), (2, .int .i64 n), (8, lv), (9, p.2), (10, .int .i64 p.1.2), (11, .int .i64 p.1.1)])
    (fun p w' => p.1.1 ≤ n ∧ B ≤ w'.heap.size ∧ Ext w w' ∧ Blk w' fb 24 #[.int .i64 P.p, .int .i64 P.M, mo] ∧ Dj p.2 lv ∧ ∃ M pv, LOX (List.range w.heap.size ++ p.2.ownBlock.toList) B w' lv 22 (matL P m n M) ∧ OwnI B w' p.2 3 (tab p.1.2 fun i => ((pv i : Nat) : Int)) ∧ El m n M0 M p.1.2 pv p.1.1) (fun p => n - p.1.1) ((0, 0), .slice none 0 0)
    ⟨rfl, rfl, rfl, rfl, rfl, rfl, trivial⟩ ⟨by simp, hz2, hE, hB, dj_nil lv, M0, fun _ => 0, ho.weak (fun k hk => by (rcases List.mem_append.1 hk with h | h; exact List.mem_range.2 (by have := List.mem_range.1 h; omega); cases h)), Own.nil _ _ _, El.first _ _⟩ ?_
  clear hE hB ho hE2 hg hz2
  clear w2 w1
  rintro ⟨⟨c, a⟩, pvv⟩ w2 ⟨c1, hz2, hE, hB, hdj, M, pv, ho, hp, hEl⟩
  dsimp only at c1 hdj ho hp hEl
  have hml2 := matL_length (P := P) m n M
  have ham := hEl.am
  obtain ⟨rows, hs, hrl, hrr⟩ := ho.rowsN
  try dsimp only
  refine wc_seq (wc_seq ?_)
  have done : (c = n ∨ a = m) → ∃ lv' pvv' a' M' pv', Value.tuple #[lv, pvv] = .tuple #[lv', pvv'] ∧ LLX (List.range w.heap.size) w2 lv' (matL P m n M') ∧ Ints w2 pvv' (tab a' fun i => ((pv' i : Nat) : Int)) ∧ Red P m n M0 a' M' pv' := fun hc => ⟨lv, pvv, a, M, pv, rfl, (ho.weak fun k hk => List.mem_append.2 (.inl hk)).llx (fun k hk => Nat.lt_of_lt_of_le (List.mem_range.1 hk) hsz), OwnI.ints hp, ham, hEl.last hc (by omega)⟩
  by_cases hcn : c < n
  · skip
    refine wc_region [0,1,2,3,4,5,6,7,8] rfl ?_
    refine Go.Sx.V rfl wu rfl rfl (mv rfl) ?_
    refine Go.Sx.V rfl wu rfl rfl (mv rfl) ?_
    refine Go.Sx.V rfl wu rfl rfl (lssI rfl rfl) ?_
    refine Go.Sx.V rfl wu rfl rfl (mv rfl) ?_
    refine KB 19 true rfl (by simp; omega) ?_
    refine Go.Sx.V rfl (wg rfl rfl) rfl rfl (mv rfl) ?_
    refine Go.Sx.V rfl (wg rfl rfl) rfl rfl (mv rfl) ?_
    refine Go.Sx.V rfl (wg rfl rfl) rfl rfl (lenS rfl ty29 hs) ?_
    refine Go.Sx.V rfl (wg rfl rfl) rfl rfl (lssI rfl rfl) ?_
    refine Go.Sx.V rfl wu rfl rfl (pk rfl rfl) ?_
    refine wr_nil (post_thenN ?_)
    rw [hrl, hml2]
    refine wc_cond rfl ?_ ?_
    · intro ha
      simp at ha
      refine wc_skip (post_thenN (wc_seq (wc_block (wc_seq ?_))))
      refine wc_region [0,1] rfl ?_
      refine Go.Sx.V rfl wu rfl rfl (mv rfl) ?_
      refine Go.Sx.V rfl wu rfl rfl (asg rfl) ?_
      refine wr_nil (post_thenN (wc_seq (wc_block ?_)))
      refine wc_loop (fun k : Nat => [(3, .pointer (some ⟨fb, 0, none⟩)), (2, .int .i64 n), (8, lv), (9, pvv), (10, .int .i64 a), (11, .int .i64 c), (12, .int .i64 k)])
        (fun k w' => k ≤ m ∧ a ≤ k ∧ w' = w2 ∧ ∀ i, a ≤ i → i < k → M i c = 0) (fun k => m - k) a ⟨rfl, rfl, rfl, rfl, rfl, rfl, rfl, trivial⟩ ⟨by omega, by omega, rfl, fun i h1 h2 => by omega⟩ ?_
      rintro k w2' ⟨k1, k2, rfl, hk0⟩
      try dsimp only
      refine wc_seq (wc_seq ?_)
      by_cases hkm : k < m
      · obtain ⟨rk, hrk, hik, hdk⟩ := hrr k (by omega)
        rw [matL_row hkm] at hik hdk
        have hrkl := rowL_length (P := P) n (M k)
        refine wc_region [0,1,2,3,4,5,6,7,8,9,10,11,12,13] rfl ?_
        refine Go.Sx.V rfl wu rfl rfl (mv rfl) ?_
        refine Go.Sx.V rfl wu rfl rfl (mv rfl) ?_
        refine Go.Sx.V rfl wu rfl rfl (lenS rfl ty29 hs) ?_
        refine Go.Sx.V rfl wu rfl rfl (lssI rfl rfl) ?_
        refine Go.Sx.V rfl wu rfl rfl (mv rfl) ?_
        refine KB 32 true rfl (by rw [hrl, hml2]; simp; omega) ?_
        refine Go.Sx.V rfl (wg rfl rfl) rfl rfl (mv rfl) ?_
        refine Go.Sx.V rfl (wg rfl rfl) rfl rfl (mv rfl) ?_
        refine Go.Sx.V rfl (wg rfl rfl) rfl rfl (iad rfl rfl ty29 hs (by omega) (by omega)) ?_
        refine Go.Sx.V rfl (wg rfl rfl) rfl rfl (ldE rfl na22 hs (by rw [Int.toNat_natCast]; exact hrk)) ?_
        refine Go.Sx.V rfl (wg rfl rfl) rfl rfl (mv rfl) ?_
        refine Go.Sx.V rfl (wg rfl rfl) rfl rfl (iadI rfl rfl ty22 hik (by omega) (by omega)) ?_
        refine Go.Sx.V rfl (wg rfl rfl) rfl rfl (ldI rfl na3 hik) ?_
        refine Go.Sx.V rfl (wg rfl rfl) rfl rfl (eqlI rfl rfl) ?_
        refine Go.Sx.V rfl wu rfl rfl (pk rfl rfl) ?_
        refine wr_nil (post_thenN ?_)
        rw [rowL_gi hcn]
        refine wc_cond rfl ?_ ?_
        · intro hc1
          simp at hc1
          refine wc_skip (post_thenN (wc_block ?_))
          refine wc_region [0,1,2] rfl ?_
          refine Go.Sx.V rfl wu rfl rfl (mv rfl) ?_
          refine Go.Sx.V rfl wu rfl rfl (addI rfl rfl) ?_
          refine Go.Sx.V rfl wu rfl rfl (asg rfl) ?_
          refine wr_nil (post_blockN ?_)
          exact post_loopN (k + 1) ⟨rfl, rfl, rfl, rfl, rfl, rfl, rfl, trivial⟩ ⟨by omega, by omega, rfl, fun i h1 h2 => by
            by_cases e : i = k
            · rw [e]; exact Subtype.ext hc1
            · exact hk0 i h1 (by omega)⟩ (by omega)
        · intro hc1
          simp at hc1
          have hMk : M k c ≠ 0 := fun e => hc1 (by rw [e]; rfl)
          refine wc_exit (post_thenE (post_loopE (post_blockX (post_thenN (wc_seq (wc_seq ?_))))))
          refine wc_region [0,1,2,3] rfl ?_
          refine Go.Sx.V rfl wu rfl rfl (mv rfl) ?_
          refine Go.Sx.V rfl wu rfl rfl (mv rfl) ?_
          refine Go.Sx.V rfl wu rfl rfl (lenS rfl ty29 hs) ?_
          refine Go.Sx.V rfl wu rfl rfl (eqlI rfl rfl) ?_
          refine wr_nil (post_thenN ?_)
          refine wc_condF rfl (by rw [hrl, hml2]; simp; omega) ?_
          refine wc_skip (post_thenN (wc_seq ?_))
          obtain ⟨ra, hra, hia, hda⟩ := hrr a (by omega)
          rw [matL_row ha] at hia hda
          refine wc_draw mixed [0,1,2,3,4,5,6,7,8,9,10,11,12,13,14,15] (by kernel_rfl) ?_
          intro w4 hd _
          replace hE := hE.trans hd
          replace hB := hB.ext hd
          replace ho := ho.ext hd
          replace hs := hs.ext hd
          replace hik := hik.ext hd
          replace hia := hia.ext hd
          replace hp := hp.ext hd
          refine Go.Sx.V rfl wu rfl rfl (mv rfl) ?_
          refine Go.Sx.V rfl wu rfl rfl (mv rfl) ?_
          refine Go.Sx.V rfl wu rfl rfl (mv rfl) ?_
          refine Go.Sx.V rfl wu rfl rfl (mv rfl) ?_
          refine Go.Sx.V rfl wu rfl rfl (mv rfl) ?_
          refine Go.Sx.V rfl wu rfl rfl (mv rfl) ?_
          refine Go.Sx.V rfl wu rfl rfl (iad rfl rfl ty29 hs (by omega) (by omega)) ?_
          refine Go.Sx.V rfl wu rfl rfl (ldE rfl na22 hs (by rw [Int.toNat_natCast]; exact hrk)) ?_
          refine Go.Sx.V rfl wu rfl rfl (mv rfl) ?_
          refine Go.Sx.V rfl wu rfl rfl (mv rfl) ?_
          refine Go.Sx.V rfl wu rfl rfl (iad rfl rfl ty29 hs (by omega) (by omega)) ?_
          refine Go.Sx.V rfl wu rfl rfl (ldE rfl na22 hs (by rw [Int.toNat_natCast]; exact hra)) ?_
          refine Go.Sx.V rfl wu rfl rfl (iad rfl rfl ty29 hs (by omega) (by omega)) ?_
          refine STX rfl wu rfl rfl sz22 (by intro h; kernel_rfl) (hik) (hdk) ?_
          intro w5 hg5 hX5 ho5
          have hia' := keepRowX hg5 hia hda
          refine Go.Sx.V rfl wu rfl rfl (iad rfl rfl ty29 hs (by omega) (by omega)) ?_
          refine STX rfl wu rfl rfl sz22 (by intro h; kernel_rfl) hia' hda ?_ ho5 (by omega) (by rw [List.length_set]; omega)
          intro w6 hg6 hX6 ho6
          refine wr_nil (post_thenN (wc_seq (wc_seq ?_)))
          rw [Int.toNat_natCast, Int.toNat_natCast, matL_sw] at ho6
          have hz4 := hd.size
          have hz5 := hg5.size
          have hz6 := hg6.size
          replace hp : OwnI B w6 pvv 3 (tab a fun i => ((pv i : Nat) : Int)) := Own.kept (Own.kept hp hg5 hdj.left) hg6 hdj.left
          replace hB := (hB.grown hg5 hne).grown hg6 hne
          replace hE := hX6 w (by omega) (hX5 w (by omega) hE)
          clear ho ho5 hs hrl hrr hik hia hia' hdk hda hrk hra hg5 hX5 hg6 hX6 done hd
          have hml3 := matL_length (P := P) m n (swR M a k)
          obtain ⟨rows, hs, hrl, hrr⟩ := ho6.rowsN
          obtain ⟨ra, hra, hia, hda⟩ := hrr a (by omega)
          have hswa : swR M a k a = M k := by rw [swR, if_pos rfl]
          rw [matL_row ha, hswa] at hia
          refine wc_region [0,1,2,3,4,5,6,7] rfl ?_
          refine Go.Sx.V rfl wu rfl rfl (mv rfl) ?_
          refine Go.Sx.V rfl wu rfl rfl (mv rfl) ?_
          refine Go.Sx.V rfl wu rfl rfl (iad rfl rfl ty29 hs (by omega) (by omega)) ?_
          refine Go.Sx.V rfl wu rfl rfl (ldE rfl na22 hs (by rw [Int.toNat_natCast]; exact hra)) ?_
          refine Go.Sx.V rfl wu rfl rfl (mv rfl) ?_
          refine Go.Sx.V rfl wu rfl rfl (iadI rfl rfl ty22 hia (by omega) (by omega)) ?_
          refine Go.Sx.V rfl wu rfl rfl (ldI rfl na3 hia) ?_
          refine Go.Sx.V rfl wu rfl rfl (neqI rfl rfl) ?_
          refine wr_nil (post_thenN ?_)
          rw [rowL_gi hcn]
          refine wc_cut (σ := K P) (fun _ => [(3, .pointer (some ⟨fb, 0, none⟩)), (2, .int .i64 n), (8, lv), (9, pvv), (10, .int .i64 a), (11, .int .i64 c)])
            (fun s w' => s * M k c = 1 ∧ B ≤ w'.heap.size ∧ Ext w w' ∧ Blk w' fb 24 #[.int .i64 P.p, .int .i64 P.M, mo] ∧ LOX (List.range w.heap.size ++ pvv.ownBlock.toList) B w' lv 22 (matL P m n (midR M a k c s 0)) ∧ OwnI B w' pvv 3 (tab a fun i => ((pv i : Nat) : Int))) ?_ ?_
          · skip
            refine wc_cond rfl ?_ ?_
            · intro h3
              simp at h3
              obtain ⟨gen, hgen'⟩ := hgen
              have hmul := mul_invK hgen' hMk
              refine wc_draw mixed [0,1,2,3,4,5,6,7,8,9,10,12,13,14,15,11,16,17,18] (by kernel_rfl) ?_
              intro w7 hd _
              replace hE := hE.trans hd
              replace hB := hB.ext hd
              replace ho6 := ho6.ext hd
              replace hs := hs.ext hd
              replace hia := hia.ext hd
              replace hp := hp.ext hd
              refine Go.Sx.V rfl wu rfl rfl (mv rfl) ?_
              refine Go.Sx.V rfl wu rfl rfl (mv rfl) ?_
              refine Go.Sx.V rfl wu rfl rfl (ldA rfl ag24 hB) ?_
              refine Go.Sx.V rfl wu rfl rfl (ldA rfl ag24 hB) ?_
              refine Go.Sx.V rfl wu rfl rfl (mv rfl) ?_
              refine Go.Sx.V rfl wu rfl rfl (mv rfl) ?_
              refine Go.Sx.V rfl wu rfl rfl (iad rfl rfl ty29 hs (by omega) (by omega)) ?_
              refine Go.Sx.V rfl wu rfl rfl (ldE rfl na22 hs (by rw [Int.toNat_natCast]; exact hra)) ?_
              refine Go.Sx.V rfl wu rfl rfl (mv rfl) ?_
              refine Go.Sx.V rfl wu rfl rfl (iadI rfl rfl ty22 hia (by omega) (by omega)) ?_
              refine Go.Sx.V rfl wu rfl rfl (ldI rfl na3 hia) ?_
              refine Go.Sx.V rfl wu rfl rfl (mv rfl) ?_
              refine Go.Sx.V rfl wu rfl rfl (mv rfl) ?_
              refine Go.Sx.V rfl wu rfl rfl (iad rfl rfl ty29 hs (by omega) (by omega)) ?_
              refine Go.Sx.V rfl wu rfl rfl (ldE rfl na22 hs (by rw [Int.toNat_natCast]; exact hra)) ?_
              refine C rfl wu rfl rfl Tryz.call72 (rInv P mo md _ _ (hF.ext hE) ⟨gen, hgen'⟩ (by rw [rowL_in hcn]; exact hMk)) ?_
              rintro _ w8 hE8 rfl
              replace hE := hE.trans hE8
              replace hB := hB.ext hE8
              replace ho6 := ho6.ext hE8
              replace hia := hia.ext hE8
              replace hp := Own.ext hp hE8
              refine C rfl wu rfl rfl Tryz.call171 (rScale P mo md _ _ n (M k) _ (hF.ext hE) hia hn) ?_
              intro z w9 hE9 hz
              have hnew := row_newN ho6 hz (Nat.le_refl _) (xlt hp hE.size)
              replace hE := hE.trans hE9
              replace hB := hB.ext hE9
              replace ho6 := ho6.ext hE9
              replace hp := Own.ext hp hE9
              refine Go.Sx.V rfl wu rfl rfl (iad rfl rfl ty29 hs (by omega) (by omega)) ?_
              refine STX rfl wu rfl rfl sz22 (by intro h; kernel_rfl) (OwnI.ints hz) (hnew) ?_
              intro wa hga hXa hoa
              rw [rowL_in hcn, inK_val] at hoa
              rw [Int.toNat_natCast, matL_set] at hoa
              exact wr_nil (post_cutN (invK P (M k c)) ⟨rfl, rfl, rfl, rfl, rfl, rfl, trivial⟩ ⟨(mul_comm _ _).trans hmul, by have := hd.size; have := hE8.size; have := hE9.size; have := hga.size; omega, hXa w (by omega) hE, hB.grown hga hne, by
                rw [matL_congr (M' := midR M a k c (invK P (M k c)) 0) (fun t _ _ _ => by
                  rw [midR_hi (Nat.not_lt_zero t)]
                  by_cases e : t = a
                  · rw [if_pos e, if_pos e]
                  · rw [if_neg e, if_neg e])] at hoa
                exact hoa, Own.kept hp hga hdj.left⟩)
            · intro h3
              simp at h3
              have h1 : M k c = 1 := Subtype.ext (h3.trans k_one_val.symm)
              exact wc_skip (post_cutN 1 ⟨rfl, rfl, rfl, rfl, rfl, rfl, trivial⟩ ⟨by rw [one_mul]; exact h1, by omega, hE, hB, by
                rw [matL_congr (M' := midR M a k c 1 0) (fun t _ _ _ => by
                  rw [midR_hi (Nat.not_lt_zero t)]
                  by_cases e : t = a
                  · rw [if_pos e, e, hswa, one_mul]
                  · rw [if_neg e])] at ho6
                exact ho6, hp⟩)
          · clear hE hB ho6 hs hrl hrr hia hda hra hp hz4 hz5 hz6 hz2
            rintro s w7 ⟨hsm, hz2, hE, hB, ho, hp⟩
            refine wc_seq (wc_seq ?_)
            refine wc_region [0] rfl ?_
            refine Go.Sx.V rfl wu rfl rfl (asg rfl) ?_
            refine wr_nil (post_thenN (wc_block ?_))
            refine wc_loop (fun i : Nat => [(3, .pointer (some ⟨fb, 0, none⟩)), (2, .int .i64 n), (8, lv), (9, pvv), (10, .int .i64 a), (11, .int .i64 c), (13, .int .i64 i)])
              (fun i w' => i ≤ m ∧ B ≤ w'.heap.size ∧ Ext w w' ∧ Blk w' fb 24 #[.int .i64 P.p, .int .i64 P.M, mo] ∧ LOX (List.range w.heap.size ++ pvv.ownBlock.toList) B w' lv 22 (matL P m n (midR M a k c s i)) ∧ OwnI B w' pvv 3 (tab a fun i => ((pv i : Nat) : Int))) (fun i => m - i) 0 ⟨rfl, rfl, rfl, rfl, rfl, rfl, rfl, trivial⟩ ⟨by omega, hz2, hE, hB, ho, hp⟩ ?_
            clear hE hB ho hp hz2
            clear w7
            rintro i w2 ⟨i1, hz2, hE, hB, ho, hp⟩
            have hml3 := matL_length (P := P) m n (midR M a k c s i)
            obtain ⟨rows, hs, hrl, hrr⟩ := ho.rowsN
            try dsimp only
            refine wc_seq (wc_seq ?_)
            refine wc_region [0,1,2,3] rfl ?_
            refine Go.Sx.V rfl wu rfl rfl (mv rfl) ?_
            refine Go.Sx.V rfl wu rfl rfl (mv rfl) ?_
            refine Go.Sx.V rfl wu rfl rfl (lenS rfl ty29 hs) ?_
            refine Go.Sx.V rfl wu rfl rfl (lssI rfl rfl) ?_
            refine wr_nil (post_thenN ?_)
            rw [hrl, hml3]
            refine wc_cond rfl ?_ ?_
            · intro hc4
              simp at hc4
              refine wc_skip (post_thenN (wc_seq (wc_block (wc_seq ?_))))
              by_cases hia : i = a
              · skip
                refine wc_region [0,1,2,3,4,5,6,7,8,9,10,11,12] rfl ?_
                refine Go.Sx.V rfl wu rfl rfl (mv rfl) ?_
                refine Go.Sx.V rfl wu rfl rfl (mv rfl) ?_
                refine Go.Sx.V rfl wu rfl rfl (neqI rfl rfl) ?_
                refine Go.Sx.V rfl wu rfl rfl (mv rfl) ?_
                refine KB 97 false rfl (by simp; omega) ?_
                refine SK rfl rfl rfl rfl rfl ?_
                refine SK rfl rfl rfl rfl rfl ?_
                refine SK rfl rfl rfl rfl rfl ?_
                refine SK rfl rfl rfl rfl rfl ?_
                refine SK rfl rfl rfl rfl rfl ?_
                refine SK rfl rfl rfl rfl rfl ?_
                refine SK rfl rfl rfl rfl rfl ?_
                refine SK rfl rfl rfl rfl rfl ?_
                refine Go.Sx.V rfl wu rfl rfl (pk rfl rfl) ?_
                refine wr_nil (post_thenN ?_)
                refine wc_condF rfl (by rfl) ?_
                refine wc_skip (post_blockN (post_thenN ?_))
                refine wc_region [0,1,2] rfl ?_
                refine Go.Sx.V rfl wu rfl rfl (mv rfl) ?_
                refine Go.Sx.V rfl wu rfl rfl (addI rfl rfl) ?_
                refine Go.Sx.V rfl wu rfl rfl (asg rfl) ?_
                refine wr_nil ?_
                rw [midR_keep (.inl hia)] at ho
                exact post_loopN (i + 1) ⟨rfl, rfl, rfl, rfl, rfl, rfl, rfl, trivial⟩ ⟨by omega, hz2, hE, hB, ho, hp⟩ (by omega)
              · obtain ⟨ri, hri, hii, hdi⟩ := hrr i (by omega)
                rw [matL_row hc4, midR_i hia] at hii
                have hrl1 := rowL_length (P := P) n (swR M a k i)
                refine wc_region [0,1,2,3,4,5,6,7,8,9,10,11,12] rfl ?_
                refine Go.Sx.V rfl wu rfl rfl (mv rfl) ?_
                refine Go.Sx.V rfl wu rfl rfl (mv rfl) ?_
                refine Go.Sx.V rfl wu rfl rfl (neqI rfl rfl) ?_
                refine Go.Sx.V rfl wu rfl rfl (mv rfl) ?_
                refine KB 97 true rfl (by simp; omega) ?_
                refine Go.Sx.V rfl (wg rfl rfl) rfl rfl (mv rfl) ?_
                refine Go.Sx.V rfl (wg rfl rfl) rfl rfl (mv rfl) ?_
                refine Go.Sx.V rfl (wg rfl rfl) rfl rfl (iad rfl rfl ty29 hs (by omega) (by omega)) ?_
                refine Go.Sx.V rfl (wg rfl rfl) rfl rfl (ldE rfl na22 hs (by rw [Int.toNat_natCast]; exact hri)) ?_
                refine Go.Sx.V rfl (wg rfl rfl) rfl rfl (mv rfl) ?_
                refine Go.Sx.V rfl (wg rfl rfl) rfl rfl (iadI rfl rfl ty22 hii (by omega) (by omega)) ?_
                refine Go.Sx.V rfl (wg rfl rfl) rfl rfl (ldI rfl na3 hii) ?_
                refine Go.Sx.V rfl (wg rfl rfl) rfl rfl (neqI rfl rfl) ?_
                refine Go.Sx.V rfl wu rfl rfl (pk rfl rfl) ?_
                refine wr_nil (post_thenN ?_)
                rw [rowL_gi hcn]
                refine wc_cond rfl ?_ ?_
                · intro h5
                  simp at h5
                  obtain ⟨ra, hra, hia2, hda⟩ := hrr a (by omega)
                  rw [matL_row ha, midR_a] at hia2
                  refine wc_draw mixed [0,1,2,3,4,5,6,7,8,9,10,11,12,13,14,16,17,18,19,15,20,21,22] (by kernel_rfl) ?_
                  intro w7 hd _
                  replace hE := hE.trans hd
                  replace hB := hB.ext hd
                  replace ho := ho.ext hd
                  replace hs := hs.ext hd
                  replace hii := hii.ext hd
                  replace hia2 := hia2.ext hd
                  replace hp := hp.ext hd
                  refine Go.Sx.V rfl wu rfl rfl (mv rfl) ?_
                  refine Go.Sx.V rfl wu rfl rfl (mv rfl) ?_
                  refine Go.Sx.V rfl wu rfl rfl (ldA rfl ag24 hB) ?_
                  refine Go.Sx.V rfl wu rfl rfl (mv rfl) ?_
                  refine Go.Sx.V rfl wu rfl rfl (mv rfl) ?_
                  refine Go.Sx.V rfl wu rfl rfl (iad rfl rfl ty29 hs (by omega) (by omega)) ?_
                  refine Go.Sx.V rfl wu rfl rfl (ldE rfl na22 hs (by rw [Int.toNat_natCast]; exact hri)) ?_
                  refine Go.Sx.V rfl wu rfl rfl (ldA rfl ag24 hB) ?_
                  refine Go.Sx.V rfl wu rfl rfl (mv rfl) ?_
                  refine Go.Sx.V rfl wu rfl rfl (mv rfl) ?_
                  refine Go.Sx.V rfl wu rfl rfl (iad rfl rfl ty29 hs (by omega) (by omega)) ?_
                  refine Go.Sx.V rfl wu rfl rfl (ldE rfl na22 hs (by rw [Int.toNat_natCast]; exact hri)) ?_
                  refine Go.Sx.V rfl wu rfl rfl (mv rfl) ?_
                  refine Go.Sx.V rfl wu rfl rfl (iadI rfl rfl ty22 hii (by omega) (by omega)) ?_
                  refine Go.Sx.V rfl wu rfl rfl (ldI rfl na3 hii) ?_
                  refine Go.Sx.V rfl wu rfl rfl (mv rfl) ?_
                  refine Go.Sx.V rfl wu rfl rfl (mv rfl) ?_
                  refine Go.Sx.V rfl wu rfl rfl (iad rfl rfl ty29 hs (by omega) (by omega)) ?_
                  refine Go.Sx.V rfl wu rfl rfl (ldE rfl na22 hs (by rw [Int.toNat_natCast]; exact hra)) ?_
                  refine C rfl wu rfl rfl Tryz.call147 (rNeg P mo md _ _ (hF.ext hE)) ?_
                  rintro _ w8 hE8 rfl
                  replace hE := hE.trans hE8
                  replace hB := hB.ext hE8
                  replace ho := ho.ext hE8
                  replace hii := hii.ext hE8
                  replace hia2 := hia2.ext hE8
                  replace hp := Own.ext hp hE8
                  refine C rfl wu rfl rfl Tryz.call146 (rAddTo P mo md _ _ _ n (swR M a k i) (fun j => s * M k j) _ (hF.ext hE) hii hia2 hn) ?_
                  intro z w9 hE9 hz
                  have hnew := row_newN ho hz (Nat.le_refl _) (xlt hp hE.size)
                  replace hE := hE.trans hE9
                  replace hB := hB.ext hE9
                  replace ho := ho.ext hE9
                  replace hp := Own.ext hp hE9
                  refine Go.Sx.V rfl wu rfl rfl (iad rfl rfl ty29 hs (by omega) (by omega)) ?_
                  refine STX rfl wu rfl rfl sz22 (by intro h; kernel_rfl) (OwnI.ints hz) (hnew) ?_
                  intro wa hga hXa hoa
                  refine wr_nil (post_blockN (post_thenN ?_))
                  rw [rowL_in hcn, inK_val, Int.toNat_natCast, midR_set hia] at hoa
                  refine wc_region [0,1,2] rfl ?_
                  refine Go.Sx.V rfl wu rfl rfl (mv rfl) ?_
                  refine Go.Sx.V rfl wu rfl rfl (addI rfl rfl) ?_
                  refine Go.Sx.V rfl wu rfl rfl (asg rfl) ?_
                  refine wr_nil ?_
                  exact post_loopN (i + 1) ⟨rfl, rfl, rfl, rfl, rfl, rfl, rfl, trivial⟩ ⟨by omega, by have := hd.size; have := hE8.size; have := hE9.size; have := hga.size; omega, hXa w (by omega) hE, hB.grown hga hne, hoa, Own.kept hp hga hdj.left⟩ (by omega)
                · intro h5
                  simp at h5
                  refine wc_skip (post_blockN (post_thenN ?_))
                  refine wc_region [0,1,2] rfl ?_
                  refine Go.Sx.V rfl wu rfl rfl (mv rfl) ?_
                  refine Go.Sx.V rfl wu rfl rfl (addI rfl rfl) ?_
                  refine Go.Sx.V rfl wu rfl rfl (asg rfl) ?_
                  refine wr_nil ?_
                  rw [midR_keep (.inr (Subtype.ext h5))] at ho
                  exact post_loopN (i + 1) ⟨rfl, rfl, rfl, rfl, rfl, rfl, rfl, trivial⟩ ⟨by omega, hz2, hE, hB, ho, hp⟩ (by omega)
            · intro hc4
              simp at hc4
              obtain rfl : i = m := by omega
              rw [midR_last] at ho
              have hpl : (tab a fun i => ((pv i : Nat) : Int)).length = a := tab_length _ _
              refine wc_exit (post_thenE (post_loopE (post_blockX (post_thenN (wc_seq ?_)))))
              refine wc_region [0,1,2,3,4] rfl ?_
              refine Go.Sx.V rfl wu rfl rfl (mv rfl) ?_
              refine Go.Sx.V rfl wu rfl rfl (mv rfl) ?_
              refine BSI (zs := [(c : Int)]) rfl wu rfl rfl rfl rfl ty22 ?_
              intro cv w4 hE4 _ hci _
              replace hE := hE.trans hE4
              replace hB := hB.ext hE4
              replace ho := ho.ext hE4
              replace hp := Own.ext hp hE4
              refine API rfl wu rfl rfl rfl ty22 (by intro h; cases h) ?_ hp (by have := hE4.size; omega) hci (Ext.refl _) (by simp; omega)
              intro pv2 w5 hg5 hX5 hp5 _ hb5
              refine Go.Sx.V rfl wu rfl rfl (asg rfl) ?_
              refine wr_nil (post_thenN ?_)
              have hz4 := hE4.size
              have hz5 := hg5.size
              have ho5 := ho.move hg5 hb5 hdj
              have hdj5 : Dj pv2 lv := fun q hq e => by
                rcases hb5 with h | h
                · exact hdj q (h.symm.trans hq) e
                · have h1 := (ho.lt q e).2
                  rw [h] at hq
                  have := Option.some.inj hq
                  omega
              have hfb : pvv.ownBlock ≠ some fb := fun e => by have := (Own.lt hp fb e).1; omega
              replace hB := hB.grown hg5 hfb
              replace hE := hX5 w (by omega) hE
              have hpe : (tab a fun i => ((pv i : Nat) : Int)) ++ [(c : Int)] = tab (a + 1) fun i => (((if i = a then c else pv i) : Nat) : Int) := by
                rw [tab_succ, if_pos rfl]
                congr 1
                exact tab_congr fun t ht => by rw [if_neg (by omega)]
              rw [hpe] at hp5
              refine wc_region [0,1,2] rfl ?_
              refine Go.Sx.V rfl wu rfl rfl (mv rfl) ?_
              refine Go.Sx.V rfl wu rfl rfl (addI rfl rfl) ?_
              refine Go.Sx.V rfl wu rfl rfl (asg rfl) ?_
              refine wr_nil (post_blockN (post_thenN ?_))
              refine wc_region [0,1,2] rfl ?_
              refine Go.Sx.V rfl wu rfl rfl (mv rfl) ?_
              refine Go.Sx.V rfl wu rfl rfl (addI rfl rfl) ?_
              refine Go.Sx.V rfl wu rfl rfl (asg rfl) ?_
              refine wr_nil ?_
              exact post_loopN ((c + 1, a + 1), pv2) ⟨rfl, rfl, rfl, rfl, rfl, rfl, trivial⟩ ⟨by (try dsimp only); omega, by omega, hE, hB, hdj5, _, _, ho5, hp5, hEl.step k2 hkm hsm⟩ (by (try dsimp only); omega)
      · obtain rfl : k = m := by omega
        refine wc_region [0,1,2,3,4,5,6,7,8,9,10,11,12,13] rfl ?_
        refine Go.Sx.V rfl wu rfl rfl (mv rfl) ?_
        refine Go.Sx.V rfl wu rfl rfl (mv rfl) ?_
        refine Go.Sx.V rfl wu rfl rfl (lenS rfl ty29 hs) ?_
        refine Go.Sx.V rfl wu rfl rfl (lssI rfl rfl) ?_
        refine Go.Sx.V rfl wu rfl rfl (mv rfl) ?_
        refine KB 32 false rfl (by rw [hrl, hml2]; simp) ?_
        refine SK rfl rfl rfl rfl rfl ?_
        refine SK rfl rfl rfl rfl rfl ?_
        refine SK rfl rfl rfl rfl rfl ?_
        refine SK rfl rfl rfl rfl rfl ?_
        refine SK rfl rfl rfl rfl rfl ?_
        refine SK rfl rfl rfl rfl rfl ?_
        refine SK rfl rfl rfl rfl rfl ?_
        refine SK rfl rfl rfl rfl rfl ?_
        refine Go.Sx.V rfl wu rfl rfl (pk rfl rfl) ?_
        refine wr_nil (post_thenN ?_)
        refine wc_condF rfl (by rfl) ?_
        refine wc_exit (post_thenE (post_loopE (post_blockX (post_thenN (wc_seq (wc_seq ?_))))))
        refine wc_region [0,1,2,3] rfl ?_
        refine Go.Sx.V rfl wu rfl rfl (mv rfl) ?_
        refine Go.Sx.V rfl wu rfl rfl (mv rfl) ?_
        refine Go.Sx.V rfl wu rfl rfl (lenS rfl ty29 hs) ?_
        refine Go.Sx.V rfl wu rfl rfl (eqlI rfl rfl) ?_
        refine wr_nil (post_thenN ?_)
        refine wc_condT rfl (by rw [hrl, hml2]; simp) ?_
        refine wc_exit (post_thenE (post_blockX (post_thenN ?_)))
        refine wc_region [0,1,2] rfl ?_
        refine Go.Sx.V rfl wu rfl rfl (mv rfl) ?_
        refine Go.Sx.V rfl wu rfl rfl (addI rfl rfl) ?_
        refine Go.Sx.V rfl wu rfl rfl (asg rfl) ?_
        refine wr_nil ?_
        exact post_loopN ((c + 1, a), pvv) ⟨rfl, rfl, rfl, rfl, rfl, rfl, trivial⟩ ⟨by (try dsimp only); omega, hz2, hE, hB, hdj, M, pv, ho, hp, hEl.skip fun i h1 h2 => hk0 i h1 h2⟩ (by (try dsimp only); omega)
    · intro ha
      simp at ha
      refine wc_exit (post_thenE (post_loopE (post_blockX (post_thenN (wc_seq ?_)))))
      refine wc_region [0,1,2,3] rfl ?_
      refine Go.Sx.V rfl wu rfl rfl (mv rfl) ?_
      refine Go.Sx.V rfl wu rfl rfl (mv rfl) ?_
      refine Go.Sx.V rfl wu rfl rfl (asg rfl) ?_
      refine Go.Sx.V rfl wu rfl rfl (asg rfl) ?_
      refine wr_nil (post_thenN (wc_ret ?_))
      refine post_ret2 rfl rfl rfl ?_
      exact ⟨hE, done (.inr (by omega))⟩
  · skip
    refine wc_region [0,1,2,3,4,5,6,7,8] rfl ?_
    refine Go.Sx.V rfl wu rfl rfl (mv rfl) ?_
    refine Go.Sx.V rfl wu rfl rfl (mv rfl) ?_
    refine Go.Sx.V rfl wu rfl rfl (lssI rfl rfl) ?_
    refine Go.Sx.V rfl wu rfl rfl (mv rfl) ?_
    refine KB 19 false rfl (by simp; omega) ?_
    refine SK rfl rfl rfl rfl rfl ?_
    refine SK rfl rfl rfl rfl rfl ?_
    refine SK rfl rfl rfl rfl rfl ?_
    refine SK rfl rfl rfl rfl rfl ?_
    refine Go.Sx.V rfl wu rfl rfl (pk rfl rfl) ?_
    refine wr_nil (post_thenN ?_)
    refine wc_condF rfl (by rfl) ?_
    refine wc_exit (post_thenE (post_loopE (post_blockX (post_thenN (wc_seq ?_)))))
    refine wc_region [0,1,2,3] rfl ?_
    refine Go.Sx.V rfl wu rfl rfl (mv rfl) ?_
    refine Go.Sx.V rfl wu rfl rfl (mv rfl) ?_
    refine Go.Sx.V rfl wu rfl rfl (asg rfl) ?_
    refine Go.Sx.V rfl wu rfl rfl (asg rfl) ?_
    refine wr_nil (post_thenN (wc_ret ?_))
    refine post_ret2 rfl rfl rfl ?_
    exact ⟨hE, done (.inl (by omega))⟩
set_option maxRecDepth 10000 in
theorem rCanon (P : FP) (mo : Value) (md : List Int) (u : Value) (m n : Nat) (M0 : Nat → Nat → K P) (w : World) (hF : FV w P mo md) (hgen : ∃ g : K P, HasOrder g (n1 P)) (hu : LL w u (matL P m n M0)) (hm : m ≤ 65536) (hn : n ≤ 65536) :
    Calls Tryz.prog 108 #[fv P mo, u, .int .i64 n] w (RetX w fun r w' => ∃ lv pvv a M pv, r = .tuple #[lv, pvv] ∧ LLX (List.range w.heap.size) w' lv (matL P a n M) ∧ Ints w' pvv (tab a fun i => ((pv i : Nat) : Int)) ∧ Red P m n M0 a M pv) := by
  refine calls3 Tryz.func108 rfl rfl ?_
  refine wc_seq ?_
  refine wc_region [0,1,2] rfl ?_
  refine BXA rfl wu rfl rfl ?_
  intro fb w1 hE hB hg
  refine Go.Sx.V rfl wu rfl rfl (asg rfl) ?_
  refine Go.Sx.V rfl wu rfl rfl (asg rfl) ?_
  refine wr_nil (post_thenN (wc_seq ?_))
  have hsz := hE.size
  refine wc_region [0,1,2,3,4,5,6,7,8] rfl ?_
  refine Go.Sx.V rfl wu rfl rfl (ldA rfl ag24 hB) ?_
  refine Go.Sx.V rfl wu rfl rfl (mv rfl) ?_
  refine Go.Sx.V rfl wu rfl rfl (mv rfl) ?_
  refine C rfl wu rfl rfl Tryz.call148 (rElim P mo md u m n M0 _ (hF.ext hE) hgen (hu.ext hE) hm hn) ?_
  rintro _ w2 hE2 ⟨lv, pvv, a, M, pv, rfl, hL, hp, hR⟩
  replace hE := hE.trans hE2
  refine Go.Sx.V rfl wu rfl rfl (mv rfl) ?_
  refine Go.Sx.V rfl wu rfl rfl (ext rfl rfl) ?_
  refine Go.Sx.V rfl wu rfl rfl (ext rfl rfl) ?_
  refine Go.Sx.V rfl wu rfl rfl (asg rfl) ?_
  refine Go.Sx.V rfl wu rfl rfl (asg rfl) ?_
  refine wr_nil (post_thenN (wc_seq ?_))
  have hpl : (tab a fun i => ((pv i : Nat) : Int)).length = a := tab_length _ _
  have hml := matL_length (P := P) m n M
  have ham := hR.1
  obtain ⟨rows, hs, hrl, hrr⟩ := hL.ll.row
  refine wc_region [0,1,2,3,4,5,6] rfl ?_
  refine Go.Sx.V rfl wu rfl rfl (mv rfl) ?_
  refine Go.Sx.V rfl wu rfl rfl (mv rfl) ?_
  refine Go.Sx.V rfl wu rfl rfl (lenI rfl ty22 hp) ?_
  refine Go.Sx.V rfl wu rfl rfl (slH rfl rfl ty29 hs) ?_
  refine Go.Sx.V rfl wu rfl rfl (mv rfl) ?_
  refine Go.Sx.V rfl wu rfl rfl (asg rfl) ?_
  refine Go.Sx.V rfl wu rfl rfl (asg rfl) ?_
  refine wr_nil (post_thenN (wc_ret ?_))
  refine post_ret2 rfl rfl rfl ?_
  refine ⟨hE, slv lv 0 (tab a fun i => ((pv i : Nat) : Int)).length, pvv, a, M, pv, rfl, ?_, hp, hR⟩
  rw [hs.part0, hpl, Int.toNat_natCast, ← matL_take ham]
  exact (hL.cut (n := a) (by omega)).less fun k hk => List.mem_range.2 (by have := List.mem_range.1 hk; omega)
end Go.Proofs.YtmnojknfjbimdaaGreat

