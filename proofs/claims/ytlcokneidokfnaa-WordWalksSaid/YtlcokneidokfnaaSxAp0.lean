/-
  The walking framework, part 8: append onto an empty literal; nothing that was there is written.
-/
import Derived.Test.YtlcokneidokfnaaSxSlice
namespace Go.Sx
open Go Go.RowKit Go.Pl
section
variable {P : Program} {N : Nat} {l : Env} {w : World} {ops : Array Oper} {dr : Bool} {Q : Act → World → Prop} {π : List Nat} {i d : Nat} {v : Value} {op : Op} {ty : TypeId} {pos : String} {after : Array Edge} {g : Option (Nat × Bool)}
variable {x y c p : Operand} {u z : Int} {T T' : TypeId}
/-- '[]int{}'. -/
theorem BS0 {E : TypeId} {b : Nat} (hi : ops[i]? = some ⟨some d, .buildSlice T 0 #[], ty, pos, after, g⟩) (hw : Wt ops N l g) (hd : Nat.blt d N = true) (hT : SlT P T E (.int .i64 0) 1 b)
    (h : ∀ gb w', Ext w w' → w.heap.size ≤ gb → gb < w'.heap.size → WR P N ops dr Q π ((d, .slice (some ⟨gb, 0, none⟩) 0 0) :: l) w') : WR P N ops dr Q (i :: π) l w := by
  refine F (v := .slice (some ⟨w.heap.size, 0, none⟩) 0 0) (w' := w.alloc (.cells #[] E)) hi hw rfl hd (fun a ha => ?_) (fun _ _ => Ext.alloc _ _) (h _ _ (Ext.alloc _ _) (Nat.le_refl _) (Array.getElem?_eq_some_iff.1 (heap_alloc_new w _)).1)
  have hr := run_buildSlice hT [] (by simp) (by simp) w
  simp only [execOp, List.map_toArray, Sem.run_bind]
  simp only [List.length_nil, List.range'_zero, List.zip_nil_left] at hr
  rw [show (List.map (fun x => (x.1, a.eval x.2)) ([] : List (Nat × Operand))).toArray = #[] from rfl]
  rw [hr]
  rfl
theorem AP0 {v1 : Value} {gb : Nat} {E : TypeId} {ys : List Int} {w0 : World} (hi : ops[i]? = some ⟨some d, .call ⟨.builtin .append, #[x, y], #[T, T]⟩, ty, pos, after, g⟩) (hw : Wt ops N l g) (hd : Nat.blt d N = true) (hx : ev l x = some (.slice (some ⟨gb, 0, none⟩) 0 0)) (hy : ev l y = some v1)
    (hT : SlT P T E (.int .i64 0) 1 8) (hs : Ints w0 v1 ys) (hE : Ext w0 w) (hlen : ys.length ≤ 17592186044416)
    (h : ∀ v w', Ext w w' → Ints w' v ys → (v.ownBlock = some gb ∨ (v.ownBlock = some w.heap.size ∧ w.heap.size < w'.heap.size)) → WR P N ops dr Q π ((d, v) :: l) w') : WR P N ops dr Q (i :: π) l w := by
  obtain ⟨j, hj, hj1, hj2, hj3⟩ := info_parts hT.inf
  have hs' := hs.ext hE
  obtain ⟨⟨a1, c1, rfl, hc1, hx1⟩, _⟩ := hs'
  rw [List.length_map] at hx1 hc1 hy
  have done : ∀ v w', (Builtin.append_ #[T, T] ty #[.slice (some ⟨gb, 0, none⟩) 0 0, .slice a1 ys.length c1]).run P w = .ok v w' → Ext w w' → Ints w' v ys → (v.ownBlock = some gb ∨ (v.ownBlock = some w.heap.size ∧ w.heap.size < w'.heap.size)) → WR P N ops dr Q (i :: π) l w := by
    intro v w' hrun hEx hin hb
    refine F (v := v) (w' := w') hi hw rfl hd (fun a ha => ?_) (fun _ _ => hEx) (h v w' hEx hin hb)
    simp [execOp, resolve, invoke, builtin, ha.eval hx, ha.eval hy, hrun]
  rcases Nat.eq_zero_or_pos ys.length with h0 | h0
  · have hys : ys = [] := List.eq_nil_of_length_eq_zero h0
    subst hys
    refine done (.slice (some ⟨gb, 0, none⟩) 0 0) w ?_ (Ext.refl w) ⟨⟨_, 0, rfl, Nat.le_refl _, fun h => absurd h (by simp)⟩, by simp⟩ (.inl rfl)
    simp [Builtin.append_, run_underlying hT.und, sizeOf, typeInfo, hj, Builtin.lenOf, Builtin.firstCells, hj2, storeCells, loadCells, loadCellsFrom]
    cases a1 <;> simp [storeCells, loadCells, loadCellsFrom]
  · obtain ⟨ad, rfl, hcell⟩ := hx1 h0
    have hr := run_append_grow (P := P) w T ty E j (.int .i64 0) hT.und hj hj1 ⟨gb, 0, none⟩ 0 0 [] (by simp) (fun j u hu => by simp at hu) ad ys.length c1 (ys.map (Value.int .i64)) (by rw [hj2]; simp) hcell (by omega) (by omega) (growslice_fits (by omega) (by rw [hj3]; omega))
    have hge := grownCap_ge w (0 + ys.length) 0 E
    have hB : Blk (w.drew.alloc (.cells (([] : List Value).toArray ++ (ys.map (Value.int .i64)).toArray ++ Builtin.zeroCells (Value.int .i64 0).cells (grownCap w (0 + ys.length) 0 E - (0 + ys.length))) E)) w.heap.size E _ := heap_alloc_new w.drew _
    refine done _ _ hr ((Ext.drew w).trans (Ext.alloc _ _)) ⟨⟨some ⟨w.heap.size, 0, none⟩, grownCap w (0 + ys.length) 0 E, by rw [List.length_map, Nat.zero_add], by rw [List.length_map]; omega, fun _ => ⟨_, rfl, fun k u hu => ?_⟩⟩, by rw [List.length_map]; omega⟩ (.inr ⟨rfl, hB.lt⟩)
    rw [Addr.add_lit]
    refine hB.cell ?_
    have hk := (List.getElem?_eq_some_iff.1 hu).1
    simp only [Nat.zero_add]
    rw [Array.getElem?_append_left (by simpa using hk)]
    simpa using hu
end
end Go.Sx
