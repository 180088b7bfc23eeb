/-
  The walking framework, part 3: slice literals, append, make with a capacity, slice expressions, bools.
-/
import Derived.Test.YtlcokneidokfnaaSxRules
namespace Go.Sx
open Go Go.RowKit Go.Pl

section
variable {P : Program}
theorem fill_row : ∀ (us : List Value) (k : Nat) (cells : Array Value), (∀ u ∈ us, u.oneCell' = true) → k + us.length ≤ cells.size →
    ∃ out : Array Value, Instr.fill (fun i => some (i * 1, 1)) cells ((List.range' k us.length).zip us) = some out ∧ out.size = cells.size ∧
      ∀ j, out[j]? = if k ≤ j ∧ j < k + us.length then us[j - k]? else cells[j]?
  | [], k, cells, _, _ => ⟨cells, by simp [Instr.fill], rfl, fun j => by rw [if_neg (fun h => by simp at h; omega)]⟩
  | u :: us, k, cells, h1, hl => by
    have hu : u.oneCell' = true := h1 u (List.mem_cons_self ..)
    have hcells1 : u.cells = #[u] := by cases u <;> first | rfl | simp [Value.oneCell'] at hu
    simp only [List.length_cons] at hl
    obtain ⟨out, ho, hs, hg⟩ := fill_row us (k + 1) (cells.setIfInBounds k u) (fun x hx => h1 x (List.mem_cons_of_mem _ hx)) (by simp; omega)
    refine ⟨out, ?_, by simpa using hs, fun j => ?_⟩
    · simp only [List.length_cons, List.range'_succ, List.zip_cons_cons, Instr.fill, hcells1]
      rw [if_neg (by simp; omega)]
      simpa using ho
    · rw [hg j]
      by_cases hj : k ≤ j ∧ j < k + (u :: us).length
      · rw [if_pos hj]
        by_cases hk : j = k
        · subst hk
          rw [if_neg (by omega)]
          have : j < cells.size := by omega
          simp [this]
        · have e : j - k = (j - (k + 1)) + 1 := by omega
          simp only [List.length_cons] at hj
          rw [if_pos (by omega), e, List.getElem?_cons_succ]
      · rw [if_neg hj]
        simp only [List.length_cons] at hj
        rw [if_neg (by omega), Array.getElem?_setIfInBounds_ne (by omega)]
theorem run_buildSlice {T E : TypeId} {zv : Value} {b : Nat} (hT : SlT P T E zv 1 b) (us : List Value) (h1 : ∀ u ∈ us, u.oneCell' = true) (hl : us.length ≤ 16777216) (w : World) :
    (Instr.buildSlice T us.length ((List.range' 0 us.length).zip us).toArray).run P w = .ok (.slice (some ⟨w.heap.size, 0, none⟩) us.length us.length) (w.alloc (.cells us.toArray E)) := by
  obtain ⟨j, hj, hj1, hj2, _⟩ := info_parts hT.inf
  obtain ⟨out, ho, hs, hg⟩ := fill_row us 0 ((Array.range (us.length * 1)).map fun i => (if us.length * 1 = 0 then #[] else zv.cells)[i % (if us.length * 1 = 0 then #[] else zv.cells).size]!) h1 (by simp)
  have hout : out = us.toArray := by
    apply Array.ext_getElem?
    intro i
    rw [hg i]
    by_cases hi : i < us.length
    · rw [if_pos (by omega)]; simp
    · rw [if_neg (by omega)]
      rw [Array.getElem?_eq_none (by simp; omega)]
      simp; omega
  subst hout
  by_cases h0 : us.length = 0
  · simp only [h0, Nat.zero_mul, if_true] at ho
    have hus : us = [] := List.eq_nil_of_length_eq_zero h0
    subst hus
    have e0 : (Array.map (fun _ : Nat => (default : Value)) (Array.range 0)) = #[] := by simp [Array.range]
    simp [Instr.buildSlice, run_underlying hT.und, sizeOf, typeInfo, hj, newRow, Instr.fill, e0]
  · rw [if_neg (by omega)] at ho
    simp [Instr.buildSlice, run_underlying hT.und, sizeOf, typeInfo, hj, hj1, hj2, newRow, zeroValue, h0, show ¬ 16777216 < us.length by omega] at ho ⊢
    rw [ho]
    simp
end

section
variable {P : Program} {N : Nat} {l : Env} {w : World} {ops : Array Oper} {dr : Bool} {Q : Act → World → Prop} {π : List Nat} {i d : Nat} {v : Value} {op : Op} {ty : TypeId} {pos : String} {after : Array Edge} {g : Option (Nat × Bool)}
variable {x y c p : Operand} {u z : Int} {T T' : TypeId}

theorem Own.made {us : List Value} {E : TypeId} (h : us.length ≤ 16777216) : Own w.heap.size (w.alloc (.cells us.toArray E)) (.slice (some ⟨w.heap.size, 0, none⟩) us.length us.length) E us :=
  ⟨⟨by simp, .inr ⟨w.heap.size, us.length, us.toArray, rfl, Nat.le_refl _, heap_alloc_new w _, Nat.le_refl _, by unfold maxLen; omega, by simp, by simp⟩⟩, by omega⟩
/-- A slice literal. -/
theorem BS {n : Nat} {ps : List (Nat × Operand)} {us : List Value} {E : TypeId} {zv : Value} {b : Nat} (hi : ops[i]? = some ⟨some d, .buildSlice T n ps.toArray, ty, pos, after, g⟩) (hw : Wt ops N l g) (hd : Nat.blt d N = true) (hv : evs l (ps.map (·.2)) = some us)
    (hn : n = us.length) (hix : ps.map (·.1) = List.range' 0 us.length) (hT : SlT P T E zv 1 b) (h1 : ∀ u ∈ us, u.oneCell' = true)
    (h : ∀ v w', Ext w w' → Own w.heap.size w' v E us → v.ownBlock = some w.heap.size → WR P N ops dr Q π ((d, v) :: l) w') (hl : us.length ≤ 16777216 := by first | decide | simp) : WR P N ops dr Q (i :: π) l w := by
  subst hn
  refine F (v := .slice (some ⟨w.heap.size, 0, none⟩) us.length us.length) (w' := w.alloc (.cells us.toArray E)) hi hw rfl hd (fun a ha => ?_) (fun _ _ => Ext.alloc _ _) (h _ _ (Ext.alloc _ _) (Own.made hl) rfl)
  have hm := ha.evals hv
  have hps : ps.map (fun p => (p.1, a.eval p.2)) = (List.range' 0 us.length).zip us := by
    rw [← hix, ← hm, List.map_map]
    clear hv hix hm hi h
    induction ps with
    | nil => rfl
    | cons q r ih => simp [ih]
  have hr := run_buildSlice hT us h1 hl w
  rw [← hps] at hr
  simp only [execOp, List.map_toArray, Sem.run_bind]
  rw [hr]
  rfl
/-- The same for ints. -/
theorem BSI {n : Nat} {ps : List (Nat × Operand)} {zs : List Int} {E : TypeId} {b : Nat} (hi : ops[i]? = some ⟨some d, .buildSlice T n ps.toArray, ty, pos, after, g⟩) (hw : Wt ops N l g) (hd : Nat.blt d N = true) (hv : evs l (ps.map (·.2)) = some (zs.map (Value.int .i64)))
    (hn : n = zs.length) (hix : ps.map (·.1) = List.range' 0 zs.length) (hT : SlT P T E (.int .i64 0) 1 b)
    (h : ∀ v w', Ext w w' → OwnI w.heap.size w' v E zs → Ints w' v zs → v.ownBlock = some w.heap.size → WR P N ops dr Q π ((d, v) :: l) w') (hl : zs.length ≤ 16777216 := by first | decide | simp) : WR P N ops dr Q (i :: π) l w :=
  BS hi hw hd hv (by simpa using hn) (by simpa using hix) hT (fun u hu => by obtain ⟨_, _, rfl⟩ := List.mem_map.1 hu; rfl) (fun v w' hE ho hb => h v w' hE ho (OwnI.ints ho) hb) (by simpa using hl)

/-- append onto nil or the call's own slice; what is appended is whatever reads as a list. -/
theorem AP {v0 v1 : Value} {B : Nat} {E : TypeId} {xs ys : List Value} {zv : Value} {b : Nat} {w0 : World} (hi : ops[i]? = some ⟨some d, .call ⟨.builtin .append, #[x, y], #[T, T]⟩, ty, pos, after, g⟩) (hw : Wt ops N l g) (hd : Nat.blt d N = true) (hx : ev l x = some v0) (hy : ev l y = some v1)
    (hT : SlT P T E zv 1 b) (hz : zv.cells = #[zv]) (htl : dr = true → isTail ops i = false → Ext w w → v0.ownBlock = none)
    (ho : Own B w v0 E xs) (hB : B ≤ w.heap.size) (hs : Sl w0 v1 ys) (hE : Ext w0 w) (h1 : ∀ u ∈ ys, u.oneCell' = true) (hlen : (xs.length + ys.length) * b ≤ 140737488355328) (hlen1 : xs.length + ys.length ≤ 140737488355328)
    (h : ∀ v w', w.grownBy w' v0.ownBlock → (∀ w0, w0.heap.size ≤ B → Ext w0 w → Ext w0 w') → Own B w' v E (xs ++ ys) → (v.ownBlock = v0.ownBlock ∨ v.ownBlock = some w.heap.size) → WR P N ops dr Q π ((d, v) :: l) w') : WR P N ops dr Q (i :: π) l w := by
  obtain ⟨j, hj, hj1, hj2, hj3⟩ := info_parts hT.inf
  have hs' := hs.ext hE
  obtain ⟨⟨a1, c1, rfl, hc1, hx1⟩, _⟩ := hs'
  have done : ∀ v w', (Builtin.append_ #[T, T] ty #[v0, .slice a1 ys.length c1]).run P w = .ok v w' → w'.ownsRow B E 1 v (xs.length + ys.length) (xs ++ ys) → w.grownBy w' v0.ownBlock → (v.ownBlock = v0.ownBlock ∨ v.ownBlock = some w.heap.size) →
      WR P N ops dr Q (i :: π) l w := by
    intro v w' hrun hown hg hb
    refine F (v := v) (w' := w') hi hw rfl hd (fun a ha => ?_) (fun hdr ht => ?_) (h v w' hg (fun w0 hB0 hE0 => hE0.grown hg ho hB0) ⟨by simpa using hown, by simpa using hlen1⟩ hb)
    · simp [execOp, resolve, invoke, builtin, ha.eval hx, ha.eval hy, hrun]
    · rw [htl hdr ht (Ext.refl _)] at hg
      exact Ext.of_grown hg
  rcases Nat.eq_zero_or_pos ys.length with h0 | h0
  · have hys : ys = [] := List.eq_nil_of_length_eq_zero h0
    subst hys
    cases a1 with
    | none =>
      have hrun : (Builtin.append_ #[T, T] ty #[v0, .slice none 0 c1]).run P w = .ok v0 w := by
        rcases ho.row.2 with ⟨rfl, hn⟩ | ⟨g, cap, cur, rfl, _, _, hnc, _⟩
        · simp [Builtin.append_, run_underlying hT.und, sizeOf, typeInfo, hj, Builtin.lenOf, Builtin.firstCells]
        · simp [Builtin.append_, run_underlying hT.und, sizeOf, typeInfo, hj, Builtin.lenOf, Builtin.firstCells, hnc, storeCells]
      exact done v0 w hrun (by simpa using ho.row) (World.grownBy.refl w _) (.inl rfl)
    | some ad =>
      obtain ⟨v', w', hrun, h2, h3, _, h5⟩ := run_append_own_at (P := P) w B T ty E j zv 1 b hT.und hj hj1 hj2 hj3 (by rw [hz]; rfl) (by omega) v0 xs.length xs ho.row ad 0 c1 [] (by simp) (by simp) (by simp) (by unfold maxLen; simp at hlen1; omega) (by simpa using hlen) hB
      exact done v' w' hrun (by simpa using h2) h3 h5
  · obtain ⟨ad, rfl, hcell⟩ := hx1 h0
    obtain ⟨v', w', hrun, h2, h3, _, h5⟩ := run_append_own_at (P := P) w B T ty E j zv 1 b hT.und hj hj1 hj2 hj3 (by rw [hz]; rfl) (by omega) v0 xs.length xs ho.row ad ys.length c1 ys (by simp) hcell h1 (by unfold maxLen; omega) hlen hB
    exact done v' w' hrun h2 h3 h5
theorem API {v0 v1 : Value} {B : Nat} {E : TypeId} {xs ys : List Int} {w0 : World} (hi : ops[i]? = some ⟨some d, .call ⟨.builtin .append, #[x, y], #[T, T]⟩, ty, pos, after, g⟩) (hw : Wt ops N l g) (hd : Nat.blt d N = true) (hx : ev l x = some v0) (hy : ev l y = some v1)
    (hT : SlT P T E (.int .i64 0) 1 8) (htl : dr = true → isTail ops i = false → Ext w w → v0.ownBlock = none)
    (h : ∀ v w', w.grownBy w' v0.ownBlock → (∀ w0, w0.heap.size ≤ B → Ext w0 w → Ext w0 w') → OwnI B w' v E (xs ++ ys) → Ints w' v (xs ++ ys) → (v.ownBlock = v0.ownBlock ∨ v.ownBlock = some w.heap.size) → WR P N ops dr Q π ((d, v) :: l) w')
    (ho : OwnI B w v0 E xs := by assumption) (hB : B ≤ w.heap.size := by first | exact Nat.le_refl _ | exact Ext.size (by assumption)) (hs : Ints w0 v1 ys := by assumption) (hE : Ext w0 w := by first | exact Ext.refl _ | assumption)
    (hlen : xs.length + ys.length ≤ 17592186044416 := by first | omega | (simp only [List.length_cons, List.length_nil, List.length_append]; omega)) : WR P N ops dr Q (i :: π) l w :=
  AP hi hw hd hx hy hT rfl htl ho hB hs hE (fun u hu => by obtain ⟨_, _, rfl⟩ := List.mem_map.1 hu; rfl) (by simp; omega) (by simp; omega) (fun v w' hg hX ho' hb => by
    rw [← List.map_append] at ho'
    exact h v w' hg hX ho' (OwnI.ints ho') hb)

/-- 'make([]T, 0, n)'. -/
theorem MKC {E : TypeId} {zv : Value} {b n : Nat} {cl : Int} (hi : ops[i]? = some ⟨some d, .makeSlice T y x, ty, pos, after, g⟩) (hw : Wt ops N l g) (hd : Nat.blt d N = true) (hy : ev l y = some (.int .i64 0)) (hx : ev l x = some (.int .i64 cl)) (hT : SlT P T E zv 1 b)
    (h : ∀ v w', Ext w w' → Own w.heap.size w' v E [] → v.ownBlock = some w.heap.size → WR P N ops dr Q π ((d, v) :: l) w')
    (hn : cl = (n : Int) := by omega) (hle : n ≤ 140737488355328 := by omega) (hby : b * n ≤ 281474976710656 := by omega) : WR P N ops dr Q (i :: π) l w := by
  obtain ⟨j, hj, hj1, hj2, hj3⟩ := info_of hT
  obtain ⟨w', hrun, hown, hg⟩ := run_make_own (P := P) w w.heap.size T E j zv 1 hT.und hj hj1 hj2 .i64 .i64 n (by rw [hj3]; exact hby) (by unfold maxLen; omega) (Nat.le_refl _)
  subst hn
  exact F (v := .slice (some ⟨w.heap.size, 0, none⟩) 0 n) hi hw rfl hd (fun a ha => by simp [execOp, ha.eval hx, ha.eval hy, hrun]) (fun _ _ => Ext.of_grown hg) (h _ w' (Ext.of_grown hg) ⟨by simpa using hown, by simp⟩ rfl)
end
end Go.Sx
