/-
  The powers of a residue until one repeats or is 0. No program in sight.
-/
import Derived.Test.YtjpcgjllmpdmhaaZFieldGen
import Derived.Test.YtjpcgjllmpdmhaaZMSxa
namespace Go.Fd
open Go.Pl Go.Alg Go Go.Sx
variable {P : FP}
/-- The powers below n are different, and none is 0. -/
def Dist (x : K P) (n : Nat) : Prop := (∀ i, i < n → npow x i ≠ 0) ∧ ∀ i j, i < j → j < n → npow x i ≠ npow x j
/-- A power below n has the value k. -/
def sn (x : K P) (n : Nat) (k : Int) : Bool := (List.range n).any fun i => decide ((npow x i).1 = k)
theorem sn_iff {x : K P} {n : Nat} {k : Int} : sn x n k = true ↔ ∃ i, i < n ∧ (npow x i).1 = k := by
  simp [sn]
theorem Dist.one (x : K P) : Dist x 1 := ⟨fun i hi => by
    have : i = 0 := by omega
    subst this
    exact one_ne_zero, fun i j h1 h2 => by omega⟩
theorem Dist.succ {x : K P} {n : Nat} (h : Dist x n) (h0 : npow x n ≠ 0) (hs : sn x n (npow x n).1 = false) : Dist x (n + 1) := by
  refine ⟨fun i hi => ?_, fun i j hij hj he => ?_⟩
  · by_cases e : i = n
    · rw [e]; exact h0
    · exact h.1 i (by omega)
  · by_cases e : j = n
    · subst e
      have : sn x j (npow x j).1 = true := sn_iff.2 ⟨i, hij, by rw [he]⟩
      rw [hs] at this
      cases this
    · exact h.2 i j hij (by omega) he
theorem Dist.le {x : K P} {n : Nat} (h : Dist x n) : n ≤ n1 P := by
  have hl : ((List.range n).map fun i => ((npow x i).1 - 1).toNat).length = n := by simp
  have hn : ((List.range n).map fun i => ((npow x i).1 - 1).toNat).Nodup := by
    rw [List.Nodup, List.pairwise_map]
    refine List.Pairwise.imp_of_mem ?_ (List.nodup_range (n := n))
    intro a b ha hb hne he
    rw [List.mem_range] at ha hb
    have h1 := K.pos (h.1 a ha)
    have h2 := K.pos (h.1 b hb)
    have e : npow x a = npow x b := Subtype.ext (by omega)
    rcases Nat.lt_or_gt_of_ne hne with hl | hl
    · exact h.2 a b hl hb e
    · exact h.2 b a hl ha e.symm
  have := pigeon (n1 P) _ hn (fun z hz => by
    obtain ⟨i, hi, rfl⟩ := List.mem_map.1 hz
    have h1 := K.pos (h.1 i (List.mem_range.1 hi))
    have h2 := (npow x i).2.2
    have := n1_eq (P := P)
    omega)
  omega
/-- Where the powers stop. -/
def Stop (x : K P) (n : Nat) : Prop := 1 ≤ n ∧ Dist x n ∧ (npow x n = 0 ∨ sn x n (npow x n).1 = true)
theorem Stop.order {x : K P} {n : Nat} (h : Stop x n) (hn : n = n1 P) (h1 : npow x n = 1) : HasOrder x (n1 P) := by
  subst hn
  refine ⟨n1_pos, h1, fun k hk hlt he => ?_⟩
  exact h.2.1.2 0 k hk hlt he.symm
theorem Stop.of_order {x : K P} {n : Nat} (h : Stop x n) (ho : HasOrder x (n1 P)) : n = n1 P ∧ npow x n = 1 := by
  have hle := h.2.1.le
  have hn : n = n1 P := by
    apply Classical.byContradiction
    intro hne
    rcases h.2.2 with h0 | hs
    · exact pow_ne ho.2.1 (i := n) (by omega) h0
    · obtain ⟨i, hi, he⟩ := sn_iff.1 hs
      have := pow_inj ho (i := i) (j := n) (by omega) (by omega) (Subtype.ext he)
      omega
  exact ⟨hn, by rw [hn]; exact ho.2.1⟩
def seenL (x : K P) (n : Nat) : List Value := tab P.q.toNat fun k => .bool (sn x n k)
theorem seenL_length (x : K P) (n : Nat) : (seenL x n).length = P.q.toNat := tab_length _ _
theorem seenL_get (x : K P) (n : Nat) (y : K P) : (seenL x n)[y.1.toNat]? = some (.bool (sn x n y.1)) := by
  have := y.2
  rw [seenL, tab_get (by omega)]
  congr 3
  omega
theorem seenL_one (x : K P) : (List.replicate P.q.toNat (Value.bool false)).set 1 (.bool true) = seenL x 1 := by
  have e : List.replicate P.q.toNat (Value.bool false) = tab P.q.toNat fun _ => Value.bool false := by
    apply List.ext_getElem?
    intro i
    by_cases hi : i < P.q.toNat
    · rw [tab_get hi]; simp [hi]
    · rw [List.getElem?_eq_none (by simp; omega), List.getElem?_eq_none (by rw [tab_length]; omega)]
  rw [e, tab_set]
  refine tab_congr fun t _ => ?_
  have : sn x 1 t = decide (t = 1) := by
    have e1 : (npow x 0).1 = 1 := one_val
    by_cases h : t = 1
    · subst h
      simp [sn, List.range_succ, e1]
    · have : ¬ ((1 : Int) = t) := by omega
      simp [sn, List.range_succ, e1, h, this]
  rw [this]
  by_cases h : t = 1
  · simp [h]
  · simp [h]
theorem seenL_succ (x : K P) (n : Nat) : (seenL x n).set (npow x n).1.toNat (.bool true) = seenL x (n + 1) := by
  rw [seenL, tab_set]
  refine tab_congr fun t _ => ?_
  have h0 := (npow x n).2.1
  have : sn x (n + 1) t = (sn x n t || decide ((npow x n).1 = t)) := by
    simp [sn, List.range_succ]
  rw [this]
  by_cases h : t = (npow x n).1.toNat
  · rw [if_pos h]
    have : (npow x n).1 = t := by omega
    simp [this]
  · rw [if_neg h]
    have : ¬ (npow x n).1 = t := by omega
    simp [this]
/-- The list of the powers below n. -/
def pows (x : K P) (n : Nat) : List Int := tab n fun i => (npow x i).1
theorem pows_length (x : K P) (n : Nat) : (pows x n).length = n := tab_length _ _
theorem pows_succ (x : K P) (n : Nat) : pows x n ++ [(npow x n).1] = pows x (n + 1) := by
  simp [pows, tab, List.range_succ]
theorem pows_get (x : K P) {n : Nat} {k : Int} (h0 : 0 ≤ k) (h1 : k < n) : gi (pows x n) k = (npow x k.toNat).1 := by
  rw [pows, gi_tab h1 h0]
end Go.Fd
