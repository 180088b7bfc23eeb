/-
  The walking framework, part 5: slices of slices whose rows lie apart from what is still written.
-/
import Derived.Test.YtlcokneidokfnaaSxStruct
namespace Go.Sx
open Go Go.RowKit Go.Pl

theorem cell_kept {w w' : World} {row : Option Nat} (hg : w.grownBy w' row) {a : Addr} {v : Value} (hc : w.cell? a = some v) (hne : row ≠ some a.block) : w'.cell? a = some v := by
  have hlt := World.block_lt_of_cell? w a hc
  have h := hg.block a.block hlt (fun e => hne e.symm)
  unfold World.cell? at hc ⊢
  rw [h]
  exact hc
theorem Sl.kept {w w' : World} {v : Value} {xs : List Value} {row : Option Nat} (h : Sl w v xs) (hg : w.grownBy w' row) (hne : v.ownBlock ≠ row) : Sl w' v xs := by
  obtain ⟨⟨a, c, hv, hc, hx⟩, hl⟩ := h
  refine ⟨⟨a, c, hv, hc, fun h0 => ?_⟩, hl⟩
  obtain ⟨ad, ha, hh⟩ := hx h0
  refine ⟨ad, ha, fun j u hu => cell_kept hg (hh j u hu) (fun e => hne ?_)⟩
  subst ha hv
  rw [e]
  simp only [Value.ownBlock, Addr.add]
  try (split <;> rfl)
theorem Ints.kept {w w' : World} {v : Value} {zs : List Int} {row : Option Nat} (h : Ints w v zs) (hg : w.grownBy w' row) (hne : v.ownBlock ≠ row) : Ints w' v zs := Sl.kept h hg hne

/-- A slice of slices of ints reads as a list of lists. -/
def LL (w : World) (v : Value) (L : List (List Int)) : Prop :=
  ∃ rows, Sl w v rows ∧ rows.length = L.length ∧ ∀ (i : Nat) r zs, rows[i]? = some r → L[i]? = some zs → Ints w r zs
theorem LL.ext {w w' : World} {v : Value} {L : List (List Int)} (h : LL w v L) (hE : Ext w w') : LL w' v L := by
  obtain ⟨rows, h1, h2, h3⟩ := h
  exact ⟨rows, h1.ext hE, h2, fun i r zs a b => (h3 i r zs a b).ext hE⟩
theorem LL.nil (w : World) : LL w (.slice none 0 0) [] := ⟨[], Sl.nil w, rfl, fun i r zs h => by simp at h⟩
theorem LL.row {w : World} {v : Value} {L : List (List Int)} (h : LL w v L) : ∃ rows, Sl w v rows ∧ rows.length = L.length ∧ ∀ i : Nat, i < L.length → ∃ r, rows[i]? = some r ∧ Ints w r (L.getD i []) := by
  obtain ⟨rows, h1, h2, h3⟩ := h
  refine ⟨rows, h1, h2, fun i hi => ⟨rows[i]'(by omega), by simp [h2, hi], ?_⟩⟩
  exact h3 i _ _ (by simp [h2, hi]) (by simp [hi])
theorem LL.le {w : World} {v : Value} {L : List (List Int)} (h : LL w v L) : L.length ≤ 140737488355328 := by
  obtain ⟨rows, h1, h2, _⟩ := h
  have := h1.le
  omega

/-- The rows read as the lists, and their blocks are none of X. -/
def Apart (w : World) (rows : List Value) (L : List (List Int)) (X : List (Option Nat)) : Prop :=
  rows.length = L.length ∧ ∀ (i : Nat) r zs, rows[i]? = some r → L[i]? = some zs → Ints w r zs ∧ ∃ g, r.ownBlock = some g ∧ g < w.heap.size ∧ some g ∉ X
theorem Apart.nil (w : World) (X : List (Option Nat)) : Apart w [] [] X := ⟨rfl, fun i r zs h => by simp at h⟩
theorem Apart.ext {w w' : World} {rows : List Value} {L : List (List Int)} {X : List (Option Nat)} (h : Apart w rows L X) (hE : Ext w w') : Apart w' rows L X :=
  ⟨h.1, fun i r zs a b => by
    obtain ⟨h1, g, h2, h3, h4⟩ := h.2 i r zs a b
    exact ⟨h1.ext hE, g, h2, Nat.lt_of_lt_of_le h3 hE.size, h4⟩⟩
theorem Apart.kept {w w' : World} {rows : List Value} {L : List (List Int)} {X : List (Option Nat)} {row : Option Nat} (h : Apart w rows L X) (hg : w.grownBy w' row) (hr : row ∈ X) : Apart w' rows L X :=
  ⟨h.1, fun i r zs a b => by
    obtain ⟨h1, g, h2, h3, h4⟩ := h.2 i r zs a b
    exact ⟨h1.kept hg (by rw [h2]; intro e; rw [e] at h4; exact h4 hr), g, h2, Nat.lt_of_lt_of_le h3 hg.size, h4⟩⟩
theorem Apart.fresh {w : World} {rows : List Value} {L : List (List Int)} {X : List (Option Nat)} (h : Apart w rows L X) : Apart w rows L (some w.heap.size :: X) :=
  ⟨h.1, fun i r zs a b => by
    obtain ⟨h1, g, h2, h3, h4⟩ := h.2 i r zs a b
    exact ⟨h1, g, h2, h3, by simp [h4]; omega⟩⟩
theorem Apart.weak {w : World} {rows : List Value} {L : List (List Int)} {X X' : List (Option Nat)} (h : Apart w rows L X) (hX : ∀ x ∈ X', x ∈ X) : Apart w rows L X' :=
  ⟨h.1, fun i r zs a b => by
    obtain ⟨h1, g, h2, h3, h4⟩ := h.2 i r zs a b
    exact ⟨h1, g, h2, h3, fun e => h4 (hX _ e)⟩⟩
theorem Apart.snoc {w : World} {rows : List Value} {L : List (List Int)} {X : List (Option Nat)} {r : Value} {zs : List Int} {g : Nat} (h : Apart w rows L X) (hr : Ints w r zs) (hb : r.ownBlock = some g) (hlt : g < w.heap.size) (hX : some g ∉ X) : Apart w (rows ++ [r]) (L ++ [zs]) X :=
  ⟨by simp [h.1], fun i r' zs' a b => by
    rw [List.getElem?_append] at a b
    have hl := h.1
    by_cases hi : i < rows.length
    · rw [if_pos hi] at a
      rw [if_pos (by omega)] at b
      exact h.2 i r' zs' a b
    · rw [if_neg hi] at a
      rw [if_neg (by omega)] at b
      have e : i - rows.length = 0 := by
        have := (List.getElem?_eq_some_iff.1 a).1
        simp at this; omega
      rw [e] at a
      rw [show i - L.length = 0 by omega] at b
      simp at a b
      subst a b
      exact ⟨hr, g, hb, hlt, hX⟩⟩
theorem Apart.ll {w : World} {v : Value} {rows : List Value} {L : List (List Int)} {X : List (Option Nat)} (h : Apart w rows L X) (hs : Sl w v rows) : LL w v L :=
  ⟨rows, hs, h.1, fun i r zs a b => (h.2 i r zs a b).1⟩

section
variable {P : Program} {N : Nat} {l : Env} {w : World} {v : Value} {ty : TypeId} {x y : Operand} {T T' E : TypeId}
/-- 's == nil' for a slice. -/
theorem eqlN (hx : ev l x = some v) (hy : ev l y = some (.slice none 0 0)) (hT : P.underlying T = some (.slice E)) (hv : ∃ a n c, v = .slice a n c) : Yl P N (.binOp .eql T x y T') ty l w (.bool v.ownBlock.isNone) := by
  obtain ⟨a, n, c, rfl⟩ := hv
  have hd : ∃ d, Op.maxDepth = d + 1 := ⟨Op.maxDepth - 1, rfl⟩
  obtain ⟨d, hd⟩ := hd
  refine yl_bin hx hy (fun w => ?_) (fun w x y => ?_)
  · cases a <;> simp [binOp, Op.equal, hd, Op.equalIn, run_underlying hT, Value.ownBlock]
  · unfold eqGuard
    split <;> rfl
end
end Go.Sx
