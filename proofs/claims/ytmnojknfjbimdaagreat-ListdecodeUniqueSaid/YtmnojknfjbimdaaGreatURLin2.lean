/-
  The reference's elimination, by contract: reduced rows of the same span.
-/
import Derived.Test.YtmnojknfjbimdaaGreatURLin1
namespace Go.Sx
open Go Go.RowKit Go.Pl
def Dj (u v : Value) : Prop := ∀ k, u.ownBlock = some k → v.ownBlock ≠ some k
theorem Dj.left {u v : Value} (h : Dj u v) : u.ownBlock ≠ v.ownBlock ∨ u.ownBlock = none := by
  rcases hu : u.ownBlock with _ | k
  · exact .inr rfl
  · exact .inl fun e => h k hu e.symm
theorem Dj.right {u v : Value} (h : Dj u v) : v.ownBlock ≠ u.ownBlock ∨ v.ownBlock = none := by
  rcases hv : v.ownBlock with _ | k
  · exact .inr rfl
  · exact .inl fun e => h k e.symm hv
theorem dj_nil (v : Value) : Dj (.slice none 0 0) v := fun k hk => by cases hk
theorem LOX.move {R : List Nat} {B : Nat} {w w' : World} {v p p' : Value} {E : TypeId} {L : List (List Int)} (h : LOX (R ++ p.ownBlock.toList) B w v E L) (hg : w.grownBy w' p.ownBlock) (hp : p'.ownBlock = p.ownBlock ∨ p'.ownBlock = some w.heap.size) (hv : Dj p v) : LOX (R ++ p'.ownBlock.toList) B w' v E L := by
  obtain ⟨rows, h1, h2, h3⟩ := h
  refine ⟨rows, Own.kept h1 hg hv.right, h2, fun i r zs a b => ?_⟩
  obtain ⟨h4, h5⟩ := h3 i r zs a b
  rcases h5 with rfl | ⟨h6, h7⟩
  · exact ⟨ints_empty h4, .inl rfl⟩
  · rcases Nat.eq_zero_or_pos zs.length with h0 | h0
    · obtain rfl := List.eq_nil_of_length_eq_zero h0
      exact ⟨ints_empty h4, .inl rfl⟩
    · obtain ⟨k, hk, hkl⟩ := Ints.lt h4 h0
      have hne : r.ownBlock ≠ p.ownBlock := fun e => h7 k hk (List.mem_append.2 (.inr (by rw [← e, hk]; simp)))
      refine ⟨h4.kept hg hne, .inr ⟨h6, fun q hq hm => ?_⟩⟩
      rw [hk] at hq
      obtain rfl := Option.some.inj hq
      rcases List.mem_append.1 hm with hm | hm
      · exact h7 k hk (List.mem_append.2 (.inl hm))
      · rcases hp with e | e
        · rw [e] at hm
          exact h7 k hk (List.mem_append.2 (.inr hm))
        · rw [e] at hm
          have : k = w.heap.size := by simpa using hm
          omega
theorem LLX.cut {X : List Nat} {w : World} {v : Value} {L : List (List Int)} (h : LLX X w v L) {n : Nat} (hn : n ≤ L.length) : LLX X w (cutTo v n) (L.take n) := by
  obtain ⟨rows, h1, h2, h0, h3⟩ := h
  refine ⟨rows.take n, h1.cut (by omega), by simp [h2], ?_, fun i r zs a b => ?_⟩
  · rcases h0 with rfl | h0
    · exact .inl (by simp)
    · exact .inr fun k hk => h0 k (by rwa [cut_block] at hk)
  · rw [List.getElem?_take] at a b
    split at a
    · rename_i hi
      rw [if_pos hi] at b
      exact h3 i r zs a b
    · cases a
end Go.Sx
namespace Go.Fd
open Go.Pl Go.Alg
variable {P : FP}
noncomputable def midR (M : Nat → Nat → K P) (a k c : Nat) (s : K P) (i t j : Nat) : K P := if t < i then elR M a k c s t j else if t = a then s * M k j else swR M a k t j
end Go.Fd
namespace Go.Proofs.YtmnojknfjbimdaaGreat
open Go Go.Sx Go.Pl Go.RowKit Go.Fd Go.Alg Go.Ld
end Go.Proofs.YtmnojknfjbimdaaGreat

