import Derived.Test.YtcfbigmjjpknfaaGreatDoorW34
import Derived.Test.YtcfbigmjjpknfaaGreatDoorW33
namespace Go.Sx
open Go Go.RowKit Go.Pl
def Dj (u v : Value) : Prop := ∀ k, u.ownBlock = some k → v.ownBlock ≠ some k
theorem Dj.left {u v : Value} (h : Dj u v) : u.ownBlock ≠ v.ownBlock ∨ u.ownBlock = none := by
 rcases hu : u.ownBlock with _ | k
 ·exact .inr rfl
 ·exact .inl fun e => h k hu e.symm
theorem Dj.right {u v : Value} (h : Dj u v) : v.ownBlock ≠ u.ownBlock ∨ v.ownBlock = none := by
 rcases hv : v.ownBlock with _ | k
 ·exact .inr rfl
 ·exact .inl fun e => h k e.symm hv
theorem dj_nil (v : Value) : Dj (.slice none 0 0) v := fun k hk => by cases hk
theorem LOX.rowsN {X : List Nat} {B : Nat} {w : World} {v : Value} {E : TypeId} {L : List (List Int)} (h : LOX X B w v E L) : ∃ rows, Sl w v rows ∧ rows.length = L.length ∧ ∀ i : Nat, i < L.length → ∃ r, rows[i]? = some r ∧ Ints w r (L.getD i []) ∧ (L.getD i [] = [] ∨ (r.ownBlock ≠ v.ownBlock ∧ NB X r)) := by
 obtain ⟨rows, h1, h2, h3⟩ := h
 refine ⟨rows, h1.sl, h2, fun i hi => ?_⟩
 have hr : rows[i]? = some (rows[i]'(by omega)) := List.getElem?_eq_getElem (by omega)
 have hz : L[i]? = some (L.getD i []) := by rw [List.getD_eq_getElem?_getD, List.getElem?_eq_getElem hi]; rfl
 exact ⟨_, hr, (h3 i _ _ hr hz).1, (h3 i _ _ hr hz).2⟩
theorem keepRowX {X : List Nat} {w w' : World} {v r : Value} {z : List Int} (hg : w.grownBy w' v.ownBlock) (h : Ints w r z) (hd : z = [] ∨ (r.ownBlock ≠ v.ownBlock ∧ NB X r)) : Ints w' r z := by
 rcases hd with rfl | hd
 ·exact Jl h
 ·exact h.kept hg hd.1
theorem LOX.move {R : List Nat} {B : Nat} {w w' : World} {v p p' : Value} {E : TypeId} {L : List (List Int)} (h : LOX (R ++ p.ownBlock.toList) B w v E L) (hg : w.grownBy w' p.ownBlock) (hp : p'.ownBlock = p.ownBlock ∨ p'.ownBlock = some w.heap.size) (hv : Dj p v) : LOX (R ++ p'.ownBlock.toList) B w' v E L := by
 obtain ⟨rows, h1, h2, h3⟩ := h
 refine ⟨rows, Own.kept h1 hg hv.right, h2, fun i r zs a b => ?_⟩
 obtain ⟨h4, h5⟩ := h3 i r zs a b
 rcases h5 with rfl | ⟨h6, h7⟩
 ·exact ⟨Jl h4, .inl rfl⟩
 ·rcases Nat.eq_zero_or_pos zs.length with h0 | h0
  ·obtain rfl := List.eq_nil_of_length_eq_zero h0
   exact ⟨Jl h4, .inl rfl⟩
  ·obtain ⟨k, hk, hkl⟩ := Ints.lt h4 h0
   have hne : r.ownBlock ≠ p.ownBlock := fun e => h7 k hk (List.mem_append.2 (.inr (by rw [← e, hk]; simp)))
   refine ⟨h4.kept hg hne, .inr ⟨h6, fun q hq hm => ?_⟩⟩
   rw [hk] at hq
   obtain rfl := Option.some.inj hq
   rcases List.mem_append.1 hm with hm | hm
   ·exact h7 k hk (List.mem_append.2 (.inl hm))
   ·rcases hp with e | e
    ·rw [e] at hm
     exact h7 k hk (List.mem_append.2 (.inr hm))
    ·rw [e] at hm
     have : k = w.heap.size := by simpa using hm
     omega
theorem LOX.weak {X X' : List Nat} {B : Nat} {w : World} {v : Value} {E : TypeId} {L : List (List Int)} (h : LOX X' B w v E L) (hX : ∀ k ∈ X, k ∈ X') : LOX X B w v E L := by
 obtain ⟨rows, h1, h2, h3⟩ := h
 exact ⟨rows, h1, h2, fun i r zs a b => ⟨(h3 i r zs a b).1, (h3 i r zs a b).2.imp id fun h => ⟨h.1, fun k hk hx => h.2 k hk (hX k hx)⟩⟩⟩
theorem LLX.cut {X : List Nat} {w : World} {v : Value} {L : List (List Int)} (h : LLX X w v L) {n : Nat} (hn : n ≤ L.length) : LLX X w (cutTo v n) (L.take n) := by
 obtain ⟨rows, h1, h2, h0, h3⟩ := h
 refine ⟨rows.take n, h1.cut (by omega), by simp [h2], ?_, fun i r zs a b => ?_⟩
 ·rcases h0 with rfl | h0
  ·exact .inl (by simp)
  ·exact .inr fun k hk => h0 k (by rwa [cut_block] at hk)
 ·rw [List.getElem?_take] at a b
  split at a
  ·rename_i hi
   rw [if_pos hi] at b
   exact h3 i r zs a b
  ·cases a
theorem xlt {B n : Nat} {w : World} {p : Value} {E : TypeId} {xs : List Value} (hp : Own B w p E xs) (h : n ≤ w.heap.size) : ∀ q ∈ List.range n ++ p.ownBlock.toList, q < w.heap.size := fun q hq => by
 rcases List.mem_append.1 hq with h1 | h1
 ·have := List.mem_range.1 h1; omega
 ·exact (hp.lt q (by simpa using h1)).2
theorem QcD {X : List Nat} {B B' : Nat} {w w' : World} {v r : Value} {E E' : TypeId} {L : List (List Int)} {zs : List Int} (ho : LOX X B w v E L) (hr : OwnI B' w' r E' zs) (hB : w.heap.size ≤ B') (hX : ∀ k ∈ X, k < B') : zs = [] ∨ (r.ownBlock ≠ v.ownBlock ∧ NB X r) := by
 rcases Nat.eq_zero_or_pos zs.length with h0 | h0
 ·exact .inl (List.eq_nil_of_length_eq_zero h0)
 ·obtain ⟨k, hk, _⟩ := (OwnI.ints hr).lt h0
  have h1 := (Own.lt hr k hk).1
  refine .inr ⟨fun e => ?_, fun q hq hx => ?_⟩
  ·have := (ho.lt k (e.symm.trans hk)).2
   omega
  ·rw [hk] at hq
   obtain rfl := Option.some.inj hq
   have := hX k hx
   omega
end Go.Sx
namespace Go.Fd
open Go.Pl Go.Alg
variable {P : FP}
theorem matL_sw {m n a k : Nat} {M : Nat → Nat → K P} : ((matL P m n M).set a (rowL P n (M k))).set k (rowL P n (M a)) = matL P m n (swR M a k) := by
 rw [JP, JP]
 refine Zs fun i j _ _ => ?_
 rw [swR]
 by_cases e1 : i = k
 ·by_cases e2 : i = a
  ·rw [if_pos e1, if_pos e2, ← e1, ← e2]
  ·rw [if_pos e1, if_neg e2, if_pos e1]
 ·rw [if_neg e1]
  by_cases e2 : i = a
  ·rw [if_pos e2, if_pos e2]
  ·rw [if_neg e2, if_neg e2, if_neg e1]
noncomputable def midR (M : Nat → Nat → K P) (a k c : Nat) (s : K P) (i t j : Nat) : K P := if t < i then elR M a k c s t j else if t = a then s * M k j else swR M a k t j
theorem JB {M : Nat → Nat → K P} {a k c : Nat} {s : K P} {i t j : Nat} (h : t < i) : midR M a k c s i t j = elR M a k c s t j := if_pos h
theorem Ji {M : Nat → Nat → K P} {a k c : Nat} {s : K P} {i t j : Nat} (h : ¬ t < i) : midR M a k c s i t j = if t = a then s * M k j else swR M a k t j := if_neg h
theorem midR_a {M : Nat → Nat → K P} {a k c : Nat} {s : K P} {i : Nat} : midR M a k c s i a = fun j => s * M k j := by
 funext j
 by_cases e : a < i
 ·rw [JB e, elR, if_pos rfl]
 ·rw [Ji e, if_pos rfl]
theorem midR_i {M : Nat → Nat → K P} {a k c : Nat} {s : K P} {i : Nat} (h : i ≠ a) : midR M a k c s i i = swR M a k i := by
 funext j
 rw [Ji (Nat.lt_irrefl i), if_neg h]
theorem Ky {m n : Nat} {M : Nat → Nat → K P} {a k c : Nat} {s : K P} {i : Nat} (h : i = a ∨ swR M a k i c = 0) : matL P m n (midR M a k c s i) = matL P m n (midR M a k c s (i + 1)) := Zs fun t j _ _ => by
 by_cases e : t < i
 ·rw [JB e, JB (by omega)]
 ·by_cases e2 : t = i
  ·rw [Ji e, JB (show t < i + 1 by omega), elR]
   by_cases e3 : t = a
   ·rw [if_pos e3, if_pos e3]
   ·rw [if_neg e3, if_neg e3]
    rcases h with h | h
    ·omega
    ·rw [e2, h, QcM, zero_mul, add_zero]
  ·rw [Ji e, Ji (by omega)]
theorem QcO {m n : Nat} {M : Nat → Nat → K P} {a k c : Nat} {s : K P} {i : Nat} (h : i ≠ a) : (matL P m n (midR M a k c s i)).set i (rowL P n fun j => swR M a k i j + -(swR M a k i c) * (s * M k j)) = matL P m n (midR M a k c s (i + 1)) := by
 rw [JP]
 refine Zs fun t j _ _ => ?_
 by_cases e2 : t = i
 ·rw [if_pos e2, JB (show t < i + 1 by omega), elR, if_neg (show t ≠ a by omega), e2]
 ·rw [if_neg e2]
  by_cases e : t < i
  ·rw [JB e, JB (show t < i + 1 by omega)]
  ·rw [Ji e, Ji (show ¬ t < i + 1 by omega)]
theorem Qbu {m n : Nat} {M : Nat → Nat → K P} {a k c : Nat} {s : K P} : matL P m n (midR M a k c s m) = matL P m n (elR M a k c s) := Zs fun _ _ ht _ => JB ht
end Go.Fd
namespace Go.Proofs.YtcfbigmjjpknfaaGreatDoor
open Go Go.Sx Go.Pl Go.RowKit Go.Fd Go.Alg
set_option maxRecDepth 10000 in
theorem rElim (P : FP) (mo : Value) (md : List Int) (u : Value) (m n : Nat) (M0 : Nat → Nat → K P) (w : World) (hF : FV w P mo md) (hgen : ∃ g : K P, HasOrder g (n1 P)) (hu : LL w u (matL P m n M0)) (hm : m ≤ 65536) (hn : n ≤ 65536) :
  Calls Tryz.prog 105 #[fv P mo, u, .int .i64 n] w (RetX w fun r w' => ∃ lv pvv a M pv, r = .tuple #[lv, pvv] ∧ LLX (List.range w.heap.size) w' lv (matL P m n M) ∧ Ints w' pvv (tab a fun i => ((pv i : Nat) : Int)) ∧ Red P m n M0 a M pv) := by
 have hml := QP (P := P) m n M0
 refine QS Tryz.func105 rfl rfl (Qc (Qb [0,1,2] rfl (BXA rfl wu rfl rfl ?_)))
 intro fb w1 hE hB hg
 refine Qk rfl rfl (Qk rfl rfl (Qd (Qa (Qc ?_))))
 have hsz := hE.size
 have hlt := hB.lt
 refine Qb [0,1,2] rfl (mvV rfl rfl (C rfl wu rfl rfl Tryz.call144 (rCopy u (matL P m n M0) n _ (hu.ext hE) (fun i hi => by rw [ZS (by omega), QT]; exact hn) (by omega)) ?_))
 intro lv w2 hE2 ho
 have hz2 := hE2.size
 replace hE := hE.trans hE2
 replace hB := hB.ext hE2
 refine Qk rfl rfl (Qd (Qa (Qc ?_)))
 have hne : lv.ownBlock ≠ some fb := fun e => by have := (ho.lt fb e).1; omega
 refine Qb [0] rfl (Qk rfl rfl (Qd (Qa (Qc (Qb [0] rfl (Qk rfl rfl (Qd (Qa (Qc (Qc (Qb [0] rfl (Qk rfl rfl (Qd (Qa (Qf ?_)))))))))))))))
 obtain ⟨B, hBB⟩ : ∃ B, B = w1.heap.size := ⟨_, rfl⟩
 rw [← hBB] at ho hz2 hlt hsz
 clear hBB
 refine Qv (fun p : (Nat × Nat) × Value => [(3, .pointer (some ⟨fb, 0, none⟩)), (2, .int .i64 n), (8, lv), (9, p.2), (10, .int .i64 p.1.2), (11, .int .i64 p.1.1)])
  (fun p w' => p.1.1 ≤ n ∧ B ≤ w'.heap.size ∧ Ext w w' ∧ Blk w' fb 24 #[.int .i64 P.p, .int .i64 P.M, mo] ∧ Dj p.2 lv ∧ ∃ M pv, LOX (List.range w.heap.size ++ p.2.ownBlock.toList) B w' lv 22 (matL P m n M) ∧ OwnI B w' p.2 3 (tab p.1.2 fun i => ((pv i : Nat) : Int)) ∧ El m n M0 M p.1.2 pv p.1.1) (fun p => n - p.1.1) ((0, 0), .slice none 0 0)
  ⟨rfl, rfl, rfl, rfl, rfl, rfl, trivial⟩ ⟨by simp, hz2, hE, hB, dj_nil lv, M0, fun _ => 0, ho.weak (fun k hk => by (rcases List.mem_append.1 hk with h | h; exact List.mem_range.2 (by have := List.mem_range.1 h; omega); cases h)), Own.nil _ _ _, El.first _ _⟩ ?_
 clear hE hB ho hE2 hg hz2
 clear w2 w1
 rintro ⟨⟨c, a⟩, pvv⟩ w2 ⟨c1, hz2, hE, hB, hdj, M, pv, ho, hp, hEl⟩
 dsimp only at c1 hdj ho hp hEl
 have hml2 := QP (P := P) m n M
 have ham := hEl.am
 obtain ⟨rows, hs, hrl, hrr⟩ := ho.rowsN
 try dsimp only
 refine Qc (Qc ?_)
 have done : (c = n ∨ a = m) → ∃ lv' pvv' a' M' pv', Value.tuple #[lv, pvv] = .tuple #[lv', pvv'] ∧ LLX (List.range w.heap.size) w2 lv' (matL P m n M') ∧ Ints w2 pvv' (tab a' fun i => ((pv' i : Nat) : Int)) ∧ Red P m n M0 a' M' pv' := fun hc => ⟨lv, pvv, a, M, pv, rfl, (ho.weak fun k hk => List.mem_append.2 (.inl hk)).llx (fun k hk => Nat.lt_of_lt_of_le (List.mem_range.1 hk) hsz), OwnI.ints hp, ham, hEl.last hc (by omega)⟩
 by_cases hcn : c < n
 ·skip
  refine Qb [0,1,2,3,4,5,6,7,8] rfl (mvV rfl rfl (mvV rfl rfl (Qy rfl rfl rfl (mvV rfl rfl (KB 19 true rfl (by simp; omega) (Vg rfl rfl rfl (mv rfl) (Vg rfl rfl rfl (mv rfl) (Vg rfl rfl rfl (Zt rfl QN hs) (Vg rfl rfl rfl (Qan rfl rfl) ?_)))))))))
  refine pkV rfl rfl rfl (Qd (Qa ?_))
  rw [hrl, hml2]
  refine Qo rfl ?_ ?_
  ·intro ha
   simp at ha
   refine Qe (Qa (Qc (Qf (Qc (Qb [0,1] rfl (mvV rfl rfl (Qk rfl rfl (Qd (Qa (Qc (Qf ?_)))))))))))
   refine Qv (fun k : Nat => [(3, .pointer (some ⟨fb, 0, none⟩)), (2, .int .i64 n), (8, lv), (9, pvv), (10, .int .i64 a), (11, .int .i64 c), (12, .int .i64 k)])
    (fun k w' => k ≤ m ∧ a ≤ k ∧ w' = w2 ∧ ∀ i, a ≤ i → i < k → M i c = 0) (fun k => m - k) a ⟨rfl, rfl, rfl, rfl, rfl, rfl, rfl, trivial⟩ ⟨by omega, by omega, rfl, fun i h1 h2 => by omega⟩ ?_
   rintro k w2' ⟨k1, k2, rfl, hk0⟩
   try dsimp only
   refine Qc (Qc ?_)
   by_cases hkm : k < m
   ·obtain ⟨rk, hrk, hik, hdk⟩ := hrr k (by omega)
    rw [ZS hkm] at hik hdk
    have hrkl := QT (P := P) n (M k)
    refine Qb [0,1,2,3,4,5,6,7,8,9,10,11,12,13] rfl (mvV rfl rfl (mvV rfl rfl (Vw rfl (Zt rfl QN hs) (Qy rfl rfl rfl (mvV rfl rfl (KB 32 true rfl (by rw [hrl, hml2]; simp; omega) (Vg rfl rfl rfl (mv rfl) (Vg rfl rfl rfl (mv rfl) (Vg rfl rfl rfl (iad rfl rfl QN hs (by omega) (by omega)) ?_)))))))))
    refine Vg rfl rfl rfl (ldE rfl Zk hs (by rw [Int.toNat_natCast]; exact hrk)) (Vg rfl rfl rfl (mv rfl) (Vg rfl rfl rfl (QO rfl rfl QA hik (by omega) (by omega)) (Vg rfl rfl rfl (ldI rfl na3 hik) (Vg rfl rfl rfl (KV rfl rfl) (pkV rfl rfl rfl (Qd (Qa ?_)))))))
    rw [Zu hcn]
    refine Qo rfl ?_ ?_
    ·intro hc1
     simp at hc1
     refine Qe (Qa (Qf (Qb [0,1,2] rfl (mvV rfl rfl (Qw rfl rfl rfl (Qk rfl rfl (Qd (Qg ?_))))))))
     exact Qi (k + 1) ⟨rfl, rfl, rfl, rfl, rfl, rfl, rfl, trivial⟩ ⟨by omega, by omega, rfl, fun i h1 h2 => by
      by_cases e : i = k
      ·rw [e]; exact Subtype.ext hc1
      ·exact hk0 i h1 (by omega)⟩ (by omega)
    ·intro hc1
     simp at hc1
     have hMk : M k c ≠ 0 := fun e => hc1 (by rw [e]; rfl)
     refine Qt (Ql (Qm (Qh (Qa (Qc (Qc (Qb [0,1,2,3] rfl (mvV rfl rfl (mvV rfl rfl (Vw rfl (Zt rfl QN hs) (QU rfl rfl rfl (Qd (Qa (Qn rfl (by rw [hrl, hml2]; simp; omega) (Qe (Qa (Qc ?_)))))))))))))))))
     obtain ⟨ra, hra, hia, hda⟩ := hrr a (by omega)
     rw [ZS ha] at hia hda
     refine Qx QK [0,1,2,3,4,5,6,7,8,9,10,11,12,13,14,15] (by kernel_rfl) ?_
     intro w4 hd _
     replace hE := hE.trans hd
     replace hB := hB.ext hd
     replace ho := ho.ext hd
     replace hs := hs.ext hd
     replace hik := hik.ext hd
     replace hia := hia.ext hd
     replace hp := hp.ext hd
     refine mvV rfl rfl (mvV rfl rfl (mvV rfl rfl (mvV rfl rfl (mvV rfl rfl (mvV rfl rfl (Vw rfl (iad rfl rfl QN hs (by omega) (by omega)) (Vw rfl (ldE rfl Zk hs (by rw [Int.toNat_natCast]; exact hrk)) (mvV rfl rfl (mvV rfl rfl ?_)))))))))
     refine Vw rfl (iad rfl rfl QN hs (by omega) (by omega)) (Vw rfl (ldE rfl Zk hs (by rw [Int.toNat_natCast]; exact hra)) (Vw rfl (iad rfl rfl QN hs (by omega) (by omega)) (STX rfl wu rfl rfl sz22 (by intro h; kernel_rfl) (hik) (hdk) ?_)))
     intro w5 hg5 hX5 ho5
     have hia' := keepRowX hg5 hia hda
     refine Vw rfl (iad rfl rfl QN hs (by omega) (by omega)) (STX rfl wu rfl rfl sz22 (by intro h; kernel_rfl) hia' hda ?_ ho5 (by omega) (by rw [List.length_set]; omega))
     intro w6 hg6 hX6 ho6
     refine Qd (Qa (Qc (Qc ?_)))
     rw [Int.toNat_natCast, Int.toNat_natCast, matL_sw] at ho6
     have hz4 := hd.size
     have hz5 := hg5.size
     have hz6 := hg6.size
     replace hp : OwnI B w6 pvv 3 (tab a fun i => ((pv i : Nat) : Int)) := Own.kept (Own.kept hp hg5 hdj.left) hg6 hdj.left
     replace hB := (hB.grown hg5 hne).grown hg6 hne
     replace hE := hX6 w (by omega) (hX5 w (by omega) hE)
     clear ho ho5 hs hrl hrr hik hia hia' hdk hda hrk hra hg5 hX5 hg6 hX6 done hd
     have hml3 := QP (P := P) m n (swR M a k)
     obtain ⟨rows, hs, hrl, hrr⟩ := ho6.rowsN
     obtain ⟨ra, hra, hia, hda⟩ := hrr a (by omega)
     have hswa : swR M a k a = M k := by rw [swR, if_pos rfl]
     rw [ZS ha, hswa] at hia
     refine Qb [0,1,2,3,4,5,6,7] rfl (mvV rfl rfl (mvV rfl rfl (Vw rfl (iad rfl rfl QN hs (by omega) (by omega)) (Vw rfl (ldE rfl Zk hs (by rw [Int.toNat_natCast]; exact hra)) (mvV rfl rfl (Vw rfl (QO rfl rfl QA hia (by omega) (by omega)) (Vw rfl (ldI rfl na3 hia) (QG rfl rfl rfl (Qd (Qa ?_))))))))))
     rw [Zu hcn]
     refine XO (σ := K P) (fun _ => [(3, .pointer (some ⟨fb, 0, none⟩)), (2, .int .i64 n), (8, lv), (9, pvv), (10, .int .i64 a), (11, .int .i64 c)])
      (fun s w' => s * M k c = 1 ∧ B ≤ w'.heap.size ∧ Ext w w' ∧ Blk w' fb 24 #[.int .i64 P.p, .int .i64 P.M, mo] ∧ LOX (List.range w.heap.size ++ pvv.ownBlock.toList) B w' lv 22 (matL P m n (midR M a k c s 0)) ∧ OwnI B w' pvv 3 (tab a fun i => ((pv i : Nat) : Int))) ?_ ?_
     ·skip
      refine Qo rfl ?_ ?_
      ·intro h3
       simp at h3
       obtain ⟨gen, hgen'⟩ := hgen
       have hmul := Xn hgen' hMk
       refine Qx QK [0,1,2,3,4,5,6,7,8,9,10,12,13,14,15,11,16,17,18] (by kernel_rfl) ?_
       intro w7 hd _
       replace hE := hE.trans hd
       replace hB := hB.ext hd
       replace ho6 := ho6.ext hd
       replace hs := hs.ext hd
       replace hia := hia.ext hd
       replace hp := hp.ext hd
       refine mvV rfl rfl (mvV rfl rfl (Vw rfl (ldA rfl Zf hB) (Vw rfl (ldA rfl Zf hB) (mvV rfl rfl (mvV rfl rfl (Vw rfl (iad rfl rfl QN hs (by omega) (by omega)) (Vw rfl (ldE rfl Zk hs (by rw [Int.toNat_natCast]; exact hra)) (mvV rfl rfl (Vw rfl (QO rfl rfl QA hia (by omega) (by omega)) ?_)))))))))
       refine Vw rfl (ldI rfl na3 hia) (mvV rfl rfl (mvV rfl rfl (Vw rfl (iad rfl rfl QN hs (by omega) (by omega)) (Vw rfl (ldE rfl Zk hs (by rw [Int.toNat_natCast]; exact hra)) (C rfl wu rfl rfl Tryz.call146 (rInv P mo md _ _ (hF.ext hE) ⟨gen, hgen'⟩ (by rw [JY hcn]; exact hMk)) ?_)))))
       rintro _ w8 hE8 rfl
       replace hE := hE.trans hE8
       replace hB := hB.ext hE8
       replace ho6 := ho6.ext hE8
       replace hia := hia.ext hE8
       replace hp := Own.ext hp hE8
       refine C rfl wu rfl rfl Tryz.call145 (rScale P mo md _ _ n (M k) _ (hF.ext hE) hia hn) ?_
       intro z w9 hE9 hz
       have hnew := QcD ho6 hz (Nat.le_refl _) (xlt hp hE.size)
       replace hE := hE.trans hE9
       replace hB := hB.ext hE9
       replace ho6 := ho6.ext hE9
       replace hp := Own.ext hp hE9
       refine Vw rfl (iad rfl rfl QN hs (by omega) (by omega)) (STX rfl wu rfl rfl sz22 (by intro h; kernel_rfl) (OwnI.ints hz) (hnew) ?_)
       intro wa hga hXa hoa
       rw [JY hcn, Zi] at hoa
       rw [Int.toNat_natCast, JP] at hoa
       exact Qd (Zb (invK P (M k c)) ⟨rfl, rfl, rfl, rfl, rfl, rfl, trivial⟩ ⟨(mul_comm _ _).trans hmul, by have := hd.size; have := hE8.size; have := hE9.size; have := hga.size; omega, hXa w (by omega) hE, hB.grown hga hne, by
        rw [Zs (M' := midR M a k c (invK P (M k c)) 0) (fun t _ _ _ => by
         rw [Ji (Nat.not_lt_zero t)]
         by_cases e : t = a
         ·rw [if_pos e, if_pos e]
         ·rw [if_neg e, if_neg e])] at hoa
        exact hoa, Own.kept hp hga hdj.left⟩)
      ·intro h3
       simp at h3
       have h1 : M k c = 1 := Subtype.ext (h3.trans KA.symm)
       exact Qe (Zb 1 ⟨rfl, rfl, rfl, rfl, rfl, rfl, trivial⟩ ⟨by rw [one_mul]; exact h1, by omega, hE, hB, by
        rw [Zs (M' := midR M a k c 1 0) (fun t _ _ _ => by
         rw [Ji (Nat.not_lt_zero t)]
         by_cases e : t = a
         ·rw [if_pos e, e, hswa, one_mul]
         ·rw [if_neg e])] at ho6
        exact ho6, hp⟩)
     ·clear hE hB ho6 hs hrl hrr hia hda hra hp hz4 hz5 hz6 hz2
      rintro s w7 ⟨hsm, hz2, hE, hB, ho, hp⟩
      refine Qc (Qc (Qb [0] rfl (Qk rfl rfl (Qd (Qa (Qf ?_))))))
      refine Qv (fun i : Nat => [(3, .pointer (some ⟨fb, 0, none⟩)), (2, .int .i64 n), (8, lv), (9, pvv), (10, .int .i64 a), (11, .int .i64 c), (13, .int .i64 i)])
       (fun i w' => i ≤ m ∧ B ≤ w'.heap.size ∧ Ext w w' ∧ Blk w' fb 24 #[.int .i64 P.p, .int .i64 P.M, mo] ∧ LOX (List.range w.heap.size ++ pvv.ownBlock.toList) B w' lv 22 (matL P m n (midR M a k c s i)) ∧ OwnI B w' pvv 3 (tab a fun i => ((pv i : Nat) : Int))) (fun i => m - i) 0 ⟨rfl, rfl, rfl, rfl, rfl, rfl, rfl, trivial⟩ ⟨by omega, hz2, hE, hB, ho, hp⟩ ?_
      clear hE hB ho hp hz2
      clear w7
      rintro i w2 ⟨i1, hz2, hE, hB, ho, hp⟩
      have hml3 := QP (P := P) m n (midR M a k c s i)
      obtain ⟨rows, hs, hrl, hrr⟩ := ho.rowsN
      try dsimp only
      refine Qc (Qc (Qb [0,1,2,3] rfl (mvV rfl rfl (mvV rfl rfl (Vw rfl (Zt rfl QN hs) (Qy rfl rfl rfl (Qd (Qa ?_))))))))
      rw [hrl, hml3]
      refine Qo rfl ?_ ?_
      ·intro hc4
       simp at hc4
       refine Qe (Qa (Qc (Qf (Qc ?_))))
       by_cases hia : i = a
       ·skip
        refine Qb [0,1,2,3,4,5,6,7,8,9,10,11,12] rfl (mvV rfl rfl (mvV rfl rfl (QG rfl rfl rfl (mvV rfl rfl (KB 97 false rfl (by simp; omega) (SK rfl rfl rfl rfl rfl (SK rfl rfl rfl rfl rfl (SK rfl rfl rfl rfl rfl (SK rfl rfl rfl rfl rfl ?_)))))))))
        refine SK rfl rfl rfl rfl rfl (SK rfl rfl rfl rfl rfl (SK rfl rfl rfl rfl rfl (SK rfl rfl rfl rfl rfl (pkV rfl rfl rfl (Qd (Qa (Qn rfl (by rfl) (Qe (Qg (Qa (Qb [0,1,2] rfl (mvV rfl rfl ?_))))))))))))
        refine Qw rfl rfl rfl (Qk rfl rfl (Qd ?_))
        rw [Ky (.inl hia)] at ho
        exact Qi (i + 1) ⟨rfl, rfl, rfl, rfl, rfl, rfl, rfl, trivial⟩ ⟨by omega, hz2, hE, hB, ho, hp⟩ (by omega)
       ·obtain ⟨ri, hri, hii, hdi⟩ := hrr i (by omega)
        rw [ZS hc4, midR_i hia] at hii
        have hrl1 := QT (P := P) n (swR M a k i)
        refine Qb [0,1,2,3,4,5,6,7,8,9,10,11,12] rfl (mvV rfl rfl (mvV rfl rfl (QG rfl rfl rfl (mvV rfl rfl (KB 97 true rfl (by simp; omega) (Vg rfl rfl rfl (mv rfl) (Vg rfl rfl rfl (mv rfl) (Vg rfl rfl rfl (iad rfl rfl QN hs (by omega) (by omega)) (Vg rfl rfl rfl (ldE rfl Zk hs (by rw [Int.toNat_natCast]; exact hri)) ?_)))))))))
        refine Vg rfl rfl rfl (mv rfl) (Vg rfl rfl rfl (QO rfl rfl QA hii (by omega) (by omega)) (Vg rfl rfl rfl (ldI rfl na3 hii) (Vg rfl rfl rfl (neqI rfl rfl) (pkV rfl rfl rfl (Qd (Qa ?_))))))
        rw [Zu hcn]
        refine Qo rfl ?_ ?_
        ·intro h5
         simp at h5
         obtain ⟨ra, hra, hia2, hda⟩ := hrr a (by omega)
         rw [ZS ha, midR_a] at hia2
         refine Qx QK [0,1,2,3,4,5,6,7,8,9,10,11,12,13,14,16,17,18,19,15,20,21,22] (by kernel_rfl) ?_
         intro w7 hd _
         replace hE := hE.trans hd
         replace hB := hB.ext hd
         replace ho := ho.ext hd
         replace hs := hs.ext hd
         replace hii := hii.ext hd
         replace hia2 := hia2.ext hd
         replace hp := hp.ext hd
         refine mvV rfl rfl (mvV rfl rfl (Vw rfl (ldA rfl Zf hB) (mvV rfl rfl (mvV rfl rfl (Vw rfl (iad rfl rfl QN hs (by omega) (by omega)) (Vw rfl (ldE rfl Zk hs (by rw [Int.toNat_natCast]; exact hri)) (Vw rfl (ldA rfl Zf hB) (mvV rfl rfl (mvV rfl rfl ?_)))))))))
         refine Vw rfl (iad rfl rfl QN hs (by omega) (by omega)) (Vw rfl (ldE rfl Zk hs (by rw [Int.toNat_natCast]; exact hri)) (mvV rfl rfl (Vw rfl (QO rfl rfl QA hii (by omega) (by omega)) (Vw rfl (ldI rfl na3 hii) (mvV rfl rfl (mvV rfl rfl (Vw rfl (iad rfl rfl QN hs (by omega) (by omega)) (Vw rfl (ldE rfl Zk hs (by rw [Int.toNat_natCast]; exact hra)) (C rfl wu rfl rfl Tryz.call65 (rNeg P mo md _ _ (hF.ext hE)) ?_)))))))))
         rintro _ w8 hE8 rfl
         replace hE := hE.trans hE8
         replace hB := hB.ext hE8
         replace ho := ho.ext hE8
         replace hii := hii.ext hE8
         replace hia2 := hia2.ext hE8
         replace hp := Own.ext hp hE8
         refine C rfl wu rfl rfl Tryz.call53 (rAddTo P mo md _ _ _ n (swR M a k i) (fun j => s * M k j) _ (hF.ext hE) hii hia2 hn) ?_
         intro z w9 hE9 hz
         have hnew := QcD ho hz (Nat.le_refl _) (xlt hp hE.size)
         replace hE := hE.trans hE9
         replace hB := hB.ext hE9
         replace ho := ho.ext hE9
         replace hp := Own.ext hp hE9
         refine Vw rfl (iad rfl rfl QN hs (by omega) (by omega)) (STX rfl wu rfl rfl sz22 (by intro h; kernel_rfl) (OwnI.ints hz) (hnew) ?_)
         intro wa hga hXa hoa
         refine Qd (Qg (Qa ?_))
         rw [JY hcn, Zi, Int.toNat_natCast, QcO hia] at hoa
         refine Qb [0,1,2] rfl (mvV rfl rfl (Qw rfl rfl rfl (Qk rfl rfl (Qd ?_))))
         exact Qi (i + 1) ⟨rfl, rfl, rfl, rfl, rfl, rfl, rfl, trivial⟩ ⟨by omega, by have := hd.size; have := hE8.size; have := hE9.size; have := hga.size; omega, hXa w (by omega) hE, hB.grown hga hne, hoa, Own.kept hp hga hdj.left⟩ (by omega)
        ·intro h5
         simp at h5
         refine Qe (Qg (Qa (Qb [0,1,2] rfl (mvV rfl rfl (Qw rfl rfl rfl (Qk rfl rfl (Qd ?_)))))))
         rw [Ky (.inr (Subtype.ext h5))] at ho
         exact Qi (i + 1) ⟨rfl, rfl, rfl, rfl, rfl, rfl, rfl, trivial⟩ ⟨by omega, hz2, hE, hB, ho, hp⟩ (by omega)
      ·intro hc4
       simp at hc4
       obtain rfl : i = m := by omega
       rw [Qbu] at ho
       have hpl : (tab a fun i => ((pv i : Nat) : Int)).length = a := Qs _ _
       refine Qt (Ql (Qm (Qh (Qa (Qc (Qb [0,1,2,3,4] rfl (mvV rfl rfl (mvV rfl rfl (BSI (zs := [(c : Int)]) rfl wu rfl rfl rfl rfl QA ?_)))))))))
       intro cv w4 hE4 _ hci _
       replace hE := hE.trans hE4
       replace hB := hB.ext hE4
       replace ho := ho.ext hE4
       replace hp := Own.ext hp hE4
       refine API rfl wu rfl rfl rfl QA nofun ?_ hp (by have := hE4.size; omega) hci (Ext.refl _) (by simp; omega)
       intro pv2 w5 hg5 hX5 hp5 _ hb5
       refine Qk rfl rfl (Qd (Qa ?_))
       have hz4 := hE4.size
       have hz5 := hg5.size
       have ho5 := ho.move hg5 hb5 hdj
       have hdj5 : Dj pv2 lv := fun q hq e => by
        rcases hb5 with h | h
        ·exact hdj q (h.symm.trans hq) e
        ·have h1 := (ho.lt q e).2
         rw [h] at hq
         have := Option.some.inj hq
         omega
       have hfb : pvv.ownBlock ≠ some fb := fun e => by have := (Own.lt hp fb e).1; omega
       replace hB := hB.grown hg5 hfb
       replace hE := hX5 w (by omega) hE
       have hpe : (tab a fun i => ((pv i : Nat) : Int)) ++ [(c : Int)] = tab (a + 1) fun i => (((if i = a then c else pv i) : Nat) : Int) := by
        rw [tab_succ, if_pos rfl]
        congr 1
        exact QF fun t ht => by rw [if_neg (by omega)]
       rw [hpe] at hp5
       refine Qb [0,1,2] rfl (mvV rfl rfl (Qw rfl rfl rfl (Qk rfl rfl (Qd (Qg (Qa (Qb [0,1,2] rfl (mvV rfl rfl (Qw rfl rfl rfl (Qk rfl rfl (Qd ?_)))))))))))
       exact Qi ((c + 1, a + 1), pv2) ⟨rfl, rfl, rfl, rfl, rfl, rfl, trivial⟩ ⟨by (try dsimp only); omega, by omega, hE, hB, hdj5, _, _, ho5, hp5, hEl.step k2 hkm hsm⟩ (by (try dsimp only); omega)
   ·obtain rfl : k = m := by omega
    refine Qb [0,1,2,3,4,5,6,7,8,9,10,11,12,13] rfl (mvV rfl rfl (mvV rfl rfl (Vw rfl (Zt rfl QN hs) (Qy rfl rfl rfl (mvV rfl rfl (KB 32 false rfl (by rw [hrl, hml2]; simp) (SK rfl rfl rfl rfl rfl (SK rfl rfl rfl rfl rfl (SK rfl rfl rfl rfl rfl ?_)))))))))
    refine SK rfl rfl rfl rfl rfl (SK rfl rfl rfl rfl rfl (SK rfl rfl rfl rfl rfl (SK rfl rfl rfl rfl rfl (SK rfl rfl rfl rfl rfl (pkV rfl rfl rfl (Qd (Qa (Qn rfl (by rfl) (Qt (Ql (Qm (Qh (Qa (Qc (Qc (Qb [0,1,2,3] rfl ?_))))))))))))))))
    refine mvV rfl rfl (mvV rfl rfl (Vw rfl (Zt rfl QN hs) (QU rfl rfl rfl (Qd (Qa (QC rfl (by rw [hrl, hml2]; simp) (Qt (Ql (Qh (Qa (Qb [0,1,2] rfl (mvV rfl rfl (Qw rfl rfl rfl ?_)))))))))))))
    refine Qk rfl rfl (Qd ?_)
    exact Qi ((c + 1, a), pvv) ⟨rfl, rfl, rfl, rfl, rfl, rfl, trivial⟩ ⟨by (try dsimp only); omega, hz2, hE, hB, hdj, M, pv, ho, hp, hEl.skip fun i h1 h2 => hk0 i h1 h2⟩ (by (try dsimp only); omega)
  ·intro ha
   simp at ha
   refine Qt (Ql (Qm (Qh (Qa (Qc (Qb [0,1,2,3] rfl (mvV rfl rfl (mvV rfl rfl (Qk rfl rfl (Qk rfl rfl (Qd (Qa (Qq (QH rfl rfl rfl ?_))))))))))))))
   exact ⟨hE, done (.inr (by omega))⟩
 ·skip
  refine Qb [0,1,2,3,4,5,6,7,8] rfl (mvV rfl rfl (mvV rfl rfl (Qy rfl rfl rfl (mvV rfl rfl (KB 19 false rfl (by simp; omega) (SK rfl rfl rfl rfl rfl (SK rfl rfl rfl rfl rfl (SK rfl rfl rfl rfl rfl (SK rfl rfl rfl rfl rfl ?_)))))))))
  refine pkV rfl rfl rfl (Qd (Qa (Qn rfl (by rfl) (Qt (Ql (Qm (Qh (Qa (Qc (Qb [0,1,2,3] rfl (mvV rfl rfl (mvV rfl rfl (Qk rfl rfl (Qk rfl rfl (Qd (Qa (Qq ?_)))))))))))))))))
  refine QH rfl rfl rfl ?_
  exact ⟨hE, done (.inl (by omega))⟩
set_option maxRecDepth 10000 in
theorem QcH (P : FP) (mo : Value) (md : List Int) (u : Value) (m n : Nat) (M0 : Nat → Nat → K P) (w : World) (hF : FV w P mo md) (hgen : ∃ g : K P, HasOrder g (n1 P)) (hu : LL w u (matL P m n M0)) (hm : m ≤ 65536) (hn : n ≤ 65536) :
  Calls Tryz.prog 64 #[fv P mo, u, .int .i64 n] w (RetX w fun r w' => ∃ lv pvv a M pv, r = .tuple #[lv, pvv] ∧ LLX (List.range w.heap.size) w' lv (matL P a n M) ∧ Ints w' pvv (tab a fun i => ((pv i : Nat) : Int)) ∧ Red P m n M0 a M pv) := by
 refine QS Tryz.func64 rfl rfl (Qc (Qb [0,1,2] rfl (BXA rfl wu rfl rfl ?_)))
 intro fb w1 hE hB hg
 refine Qk rfl rfl (Qk rfl rfl (Qd (Qa (Qc ?_))))
 have hsz := hE.size
 refine Qb [0,1,2,3,4,5,6,7,8] rfl (Vw rfl (ldA rfl Zf hB) (mvV rfl rfl (mvV rfl rfl (C rfl wu rfl rfl Tryz.call105 (rElim P mo md u m n M0 _ (hF.ext hE) hgen (hu.ext hE) hm hn) ?_))))
 rintro _ w2 hE2 ⟨lv, pvv, a, M, pv, rfl, hL, hp, hR⟩
 replace hE := hE.trans hE2
 refine mvV rfl rfl (QI rfl rfl rfl (QI rfl rfl rfl (Qk rfl rfl (Qk rfl rfl (Qd (Qa (Qc ?_)))))))
 have hpl : (tab a fun i => ((pv i : Nat) : Int)).length = a := Qs _ _
 have hml := QP (P := P) m n M
 have ham := hR.1
 obtain ⟨rows, hs, hrl, hrr⟩ := hL.ll.row
 refine Qb [0,1,2,3,4,5,6] rfl (mvV rfl rfl (mvV rfl rfl (Vw rfl (Zh rfl QA hp) (Vw rfl (slH rfl rfl QN hs) ?_))))
 refine mvV rfl rfl (Qk rfl rfl (Qk rfl rfl (Qd (Qa (Qq (QH rfl rfl rfl ?_))))))
 refine ⟨hE, slv lv 0 (tab a fun i => ((pv i : Nat) : Int)).length, pvv, a, M, pv, rfl, ?_, hp, hR⟩
 rw [hs.part0, hpl, Int.toNat_natCast, ← Qbx ham]
 exact (hL.cut (n := a) (by omega)).less fun k hk => List.mem_range.2 (by have := List.mem_range.1 hk; omega)
end Go.Proofs.YtcfbigmjjpknfaaGreatDoor
namespace Go.Proofs.YtcfbigmjjpknfaaGreatDoor
open Go Go.Sx Go.Pl Go.RowKit Go.Fd Go.Alg
theorem lo_si {p : Int} {l : List Int} (h : Lo p l) (k z : Int) (h0 : 0 ≤ z) (h1 : z < p) : Lo p (si l k z) := fun u hu => by
 rcases List.mem_or_eq_of_mem_set hu with hu | rfl
 ·exact h u hu
 ·exact ⟨h0, h1⟩
theorem XK (p c o : Int) (low r : List Int) : ∀ j, (dvJ p c o low r j).length = r.length
 | 0 => rfl
 | j + 1 => by rw [dvJ, Zp, XK p c o low r j]
theorem dvJ_lo {p : Int} (hp : 2 ≤ p) (c o : Int) (low : List Int) {r : List Int} (h : Lo p r) : ∀ j, Lo p (dvJ p c o low r j)
 | 0 => h
 | j + 1 => lo_si (dvJ_lo hp c o low h j) _ _ (Int.emod_nonneg _ (by omega)) (Int.emod_lt_of_pos _ (by omega))
theorem Qaq (p : Int) (low r : List Int) (top : Int) : ∀ k, (dvI p low r top k).length = r.length
 | 0 => rfl
 | k + 1 => by rw [dvI, Zp, XK, Qaq p low r top k]
theorem dvI_lo {p : Int} (hp : 2 ≤ p) (low : List Int) {r : List Int} (top : Int) (h : Lo p r) : ∀ k, Lo p (dvI p low r top k)
 | 0 => h
 | k + 1 => lo_si (dvJ_lo hp _ _ low (dvI_lo hp low top h k) _) _ _ (by omega) (by omega)
theorem Kk : ∀ (l : List Int), zeros l = true ↔ ∀ z ∈ l, z = 0
 | [] => by simp [zeros]
 | z :: l => by simp [zeros, Kk l]
set_option maxRecDepth 10000 in
theorem rDivides (a b : Value) (low md : List Int) (p : Int) (w : World) (ha : Ints w a low) (hb : Ints w b md) (hp : 2 ≤ p ∧ p ≤ 256) (hl : Lo p low) (hm : Lo p md) (hlm : low.length ≤ md.length) (hm8 : md.length ≤ 8) :
  Calls Tryz.prog 139 #[a, b, .int .i64 p] w (RetX w fun v _ => v = .bool (dv low md p)) := by
 have hr0 : Lo p (md ++ [1]) := fun z hz => by
  rcases List.mem_append.1 hz with h | h
  ·exact hm z h
  ·have : z = 1 := by simpa using h
   omega
 have hrl : (md ++ [1]).length = md.length + 1 := by simp
 refine QS Tryz.func139 rfl rfl (Qc (Qb [0] rfl (Qk rfl rfl (Qd (Qa (Qc (Qb [0,1,2] rfl (mvV rfl rfl (Vw rfl (Zh rfl QA) ?_)))))))))
 refine Qk rfl rfl (Qd (Qa (Qc (Qb [0,1,2,3] rfl (BSI (zs := []) rfl wu rfl rfl rfl rfl QA ?_)))))
 intro v0 w1 hE ho hi hob
 refine mvV rfl rfl (API rfl wu rfl rfl rfl QA nofun ?_)
 intro r0 w2 hg hX ho2 hi2 hb2
 refine Qk rfl rfl (Qd (Qa (Qc ?_)))
 replace hE := hX _ (Nat.le_refl _) hE
 rw [List.nil_append] at ho2 hi2
 clear ho hi hob hg hX hb2
 refine Qb [0,1,2,3] rfl (mvV rfl rfl (BSI (zs := [1]) rfl wu rfl rfl rfl rfl QA ?_))
 intro v1 w3 hE3 ho3 hi3 hob3
 replace ho2 := ho2.ext hE3
 replace hE := hE.trans hE3
 clear ho3 hi2
 refine API rfl wu rfl rfl rfl QA nofun ?_
 intro r w4 hg4 hX4 hr hri hb4
 refine Qk rfl rfl (Qd (Qa (Qc (Qc ?_))))
 replace hE := hX4 _ (Nat.le_refl _) hE
 clear hi3 ho2 hg4 hX4 hb4 hob3
 refine Qb [0,1,2,3] rfl (mvV rfl rfl (Vw rfl (Zh rfl QA) ?_))
 refine Zd rfl rfl rfl (Qk rfl rfl (Qd (Qa (Qf ?_))))
 rw [hrl, show ((md.length + 1 : Nat) : Int) - 1 = md.length by omega]
 refine Qv (fun i : Int => [(0, a), (2, .int .i64 p), (7, .int .i64 low.length), (8, r), (9, .int .i64 i)])
  (fun i w' => (low.length : Int) - 1 ≤ i ∧ i ≤ md.length ∧ Ext w w' ∧ OwnI w.heap.size w' r 3 (dvI p low (md ++ [1]) md.length (md.length - i).toNat)) (fun i => (i + 1).toNat) (md.length : Int)
  ⟨rfl, rfl, rfl, rfl, rfl, trivial⟩ ⟨by omega, by omega, hE, by rw [show ((md.length : Int) - md.length).toNat = 0 by omega]; exact hr⟩ ?_
 clear hE hr hri
 rintro i w5 ⟨i0, i1, hE, hr⟩
 obtain ⟨L, hL⟩ : ∃ L, L = dvI p low (md ++ [1]) md.length (md.length - i).toNat := ⟨_, rfl⟩
 rw [← hL] at hr
 have hri := hr.ints
 have hLl : L.length = md.length + 1 := by rw [hL, Qaq, hrl]
 have hLo : Lo p L := by rw [hL]; exact dvI_lo hp.1 _ _ hr0 _
 try dsimp only
 refine Qc (Qc (Qb [0,1,2] rfl (mvV rfl rfl (mvV rfl rfl (Vw rfl (Xb rfl rfl) (Qd (Qa (Qo rfl ?_ ?_))))))))
 ·intro hi
  simp at hi
  refine Qe (Qa (Qc (Qf (Qc ?_))))
  have hc := Xr hLo (i := i) (by omega) (by omega)
  refine Qb [0,1,2,3,4] rfl (mvV rfl rfl (mvV rfl rfl (Vw rfl (QO rfl rfl QA) ?_)))
  refine Vw rfl (ldI rfl na3) ?_
  refine Qk rfl rfl (Qd (Qa (Qc (Qc (Qb [0] rfl (Qk rfl rfl (Qd (Qa (Qf ?_)))))))))
  refine Qv (fun j : Int => [(0, a), (2, .int .i64 p), (7, .int .i64 low.length), (8, r), (9, .int .i64 i), (10, .int .i64 (gi L i)), (11, .int .i64 j)])
   (fun j w' => 0 ≤ j ∧ j ≤ low.length ∧ Ext w w' ∧ OwnI w.heap.size w' r 3 (dvJ p (gi L i) (i - low.length) low L j.toNat)) (fun j => (low.length - j).toNat) 0
   ⟨rfl, rfl, rfl, rfl, rfl, rfl, rfl, trivial⟩ ⟨by omega, by omega, hE, hr⟩ ?_
  clear hE hr hri
  rintro j w6 ⟨j0, j1, hE, hr⟩
  have hri := hr.ints
  have hJl := XK p (gi L i) (i - low.length) low L j.toNat
  have hJo := dvJ_lo hp.1 (gi L i) (i - low.length) low hLo j.toNat
  try dsimp only
  refine Qc (Qc (Qb [0,1,2] rfl (mvV rfl rfl (mvV rfl rfl (Qy rfl rfl rfl (Qd (Qa (Qo rfl ?_ ?_))))))))
  ·intro hj
   simp at hj
   refine Qe (Qa (Qc (Qf ?_)))
   have g1 := Xr hJo (i := i - low.length + j) (by omega) (by omega)
   have g2 := Xr hl (i := j) j0 hj
   have m1 := Jh (a := p - gi L i) (b := gi low j) (c := 256) (d := 256) (by omega) (by omega) g2.1 (by omega)
   have hstep : si (dvJ p (gi L i) (i - low.length) low L j.toNat) (i - low.length + j) ((gi (dvJ p (gi L i) (i - low.length) low L j.toNat) (i - low.length + j) + (p - gi L i) * gi low j) % p) = dvJ p (gi L i) (i - low.length) low L (j + 1).toNat := by
    rw [show (j + 1).toNat = j.toNat + 1 by omega, dvJ, show ((j.toNat : Nat) : Int) = j by omega]
   refine Qx QK [0,1,2,3,4,5,6,7,8,9,10,11,12,13,14,15,16,17,18,19,20,21,22,23,24,25,26] (by kernel_rfl) ?_
   intro w7 hd _
   replace hE := hE.trans hd
   replace hr := hr.ext hd
   replace hri := hri.ext hd
   refine mvV rfl rfl (mvV rfl rfl (mvV rfl rfl (Zd rfl rfl rfl (mvV rfl rfl (Qw rfl rfl rfl (mvV rfl rfl (mvV rfl rfl (mvV rfl rfl (Zd rfl rfl rfl ?_)))))))))
   refine mvV rfl rfl (Qw rfl rfl rfl (Vw rfl (QO rfl rfl QA) ?_))
   refine Vw rfl (ldI rfl na3) ?_
   refine mvV rfl rfl (mvV rfl rfl (Zd rfl rfl rfl (mvV rfl rfl (mvV rfl rfl (Vw rfl (QO rfl rfl QA) ?_)))))
   refine Vw rfl (ldI rfl na3 ha) (Vw rfl (Kx rfl rfl) (Qw rfl rfl rfl (mvV rfl rfl (Vw rfl (Qbe rfl rfl) (Vw rfl (QO rfl rfl QA) ?_)))))
   refine STI rfl wu rfl rfl sz3 (by intro h; kernel_rfl) ?_
   intro w8 hg8 hX8 hr8 hri8
   refine Qd (Qg (Qa ?_))
   rw [hstep] at hr8
   refine Qb [0,1,2] rfl (mvV rfl rfl (Qw rfl rfl rfl (Qk rfl rfl (Qd ?_))))
   exact Qi (j + 1) ⟨rfl, rfl, rfl, rfl, rfl, rfl, rfl, trivial⟩ ⟨by omega, by omega, hX8 _ (Nat.le_refl _) hE, hr8⟩ (by omega)
  ·intro hj
   simp at hj
   refine Qt (Ql (Qm (Qh (Qa ?_))))
   have ej : j.toNat = low.length := by omega
   rw [ej] at hr hri hJl
   refine Qb [0,1,2,3] rfl (mvV rfl rfl (mvV rfl rfl (Vw rfl (QO rfl rfl QA) ?_)))
   refine STI rfl wu rfl rfl sz3 nofun ?_
   intro w8 hg8 hX8 hr8 hri8
   refine Qd (Qg (Qa (Qb [0,1,2] rfl (mvV rfl rfl (Zd rfl rfl rfl (Qk rfl rfl (Qd (Qi (i - 1) ⟨rfl, rfl, rfl, rfl, rfl, trivial⟩ ⟨by omega, by omega, hX8 _ (Nat.le_refl _) hE, ?_⟩ (by omega)))))))))
   rw [show ((md.length : Int) - (i - 1)).toNat = (md.length - i).toNat + 1 by omega, dvI, show ((md.length : Int) - ((md.length - i).toNat : Nat)) = i by omega, ← hL]
   exact hr8
 ·intro hi
  simp at hi
  refine Qt (Ql (Qm (Qh (Qa (Qc (Qc ?_))))))
  have hdv : dv low md p = zeros L := by
   rw [Go.Fd.dv, hL, show ((md.length : Int) - i).toNat = md.length + 1 - low.length by omega]
  refine Qb [0] rfl (Qk rfl rfl (Qd (Qa (Qf ?_))))
  refine Qv (fun j : Int => [(8, r), (12, .int .i64 j)])
   (fun j w' => 0 ≤ j ∧ j ≤ L.length ∧ w' = w5 ∧ ∀ k : Int, 0 ≤ k → k < j → gi L k = 0) (fun j => (L.length - j).toNat) 0 ⟨rfl, rfl, trivial⟩ ⟨by omega, by omega, rfl, fun k _ _ => by omega⟩ ?_
  rintro j _ ⟨j0, j1, rfl, hz⟩
  try dsimp only
  refine Qc (Qc (Qb [0,1,2,3] rfl (mvV rfl rfl (mvV rfl rfl (Vw rfl (Zh rfl QA) ?_)))))
  refine Qy rfl rfl rfl (Qd (Qa (Qo rfl ?_ ?_)))
  ·intro hj
   simp at hj
   refine Qe (Qa (Qc (Qf (Qc (Qb [0,1,2,3,4] rfl (mvV rfl rfl (mvV rfl rfl (Vw rfl (QO rfl rfl QA) ?_))))))))
   refine Vw rfl (ldI rfl na3) ?_
   refine QG rfl rfl rfl (Qd (Qa (Qo rfl ?_ ?_)))
   ·intro hne
    simp at hne
    refine Qc (Qb [0] rfl (Qk rfl rfl (Qd (Qa (Qq (Qu (Qp (QE (Qu (Qp (Qj rfl rfl ?_)))))))))))
    refine ⟨hE, ?_⟩
    rw [hdv]
    cases hzz : zeros L
    ·rfl
    ·exfalso
     have hk : j.toNat < L.length := by omega
     have := (Kk L).1 hzz _ (List.getElem_mem hk)
     apply hne
     simpa [gi, hk] using this
   ·intro he
    simp at he
    refine Qe (Qg (Qa (Qb [0,1,2] rfl (mvV rfl rfl (Qw rfl rfl rfl (Qk rfl rfl (Qd ?_)))))))
    exact Qi (j + 1) ⟨rfl, rfl, trivial⟩ ⟨by omega, by omega, rfl, fun k hk0 hk1 => (by
     by_cases e : k = j
     ·rw [e]; exact he
     ·exact hz k hk0 (by omega))⟩ (by omega)
  ·intro hj
   simp at hj
   refine Qt (Ql (Qm (Qh (Qa (Qc (Qb [0] rfl (Qk rfl rfl (Qd (Qa (Qq (Qj rfl rfl ?_)))))))))))
   refine ⟨hE, ?_⟩
   have : zeros L = true := (Kk L).2 fun z hz' => by
    obtain ⟨k, hk, rfl⟩ := List.mem_iff_getElem.1 hz'
    have := hz k (by omega) (by omega)
    simpa [gi, hk] using this
   rw [hdv, this]
end Go.Proofs.YtcfbigmjjpknfaaGreatDoor
