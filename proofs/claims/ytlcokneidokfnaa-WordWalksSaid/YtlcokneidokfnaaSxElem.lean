/-
  The walking framework, part 10: slices of structs of ints: reading, literals of one element, append.
-/
import Derived.Test.YtlcokneidokfnaaSxStruct
namespace Go.Sx
open Go Go.RowKit Go.Pl
def flatI (L : List (List Int)) : List Value := L.flatten.map (Value.int .i64)
theorem add_add_s (a : Addr) (m n : Nat) : (a.add m).add n = a.add (m + n) := by
  unfold Addr.add
  by_cases hm : m = 0
  · subst hm; simp
  · by_cases hn : n = 0
    · subst hn; simp [hm]
    · simp [hm, hn, Nat.add_assoc]
theorem flat_length {s : Nat} : ∀ {L : List (List Int)}, (∀ r ∈ L, r.length = s) → L.flatten.length = L.length * s
  | [], _ => by simp
  | r :: L, h => by
    have ih := flat_length (L := L) fun x hx => h x (List.mem_cons_of_mem _ hx)
    have h1 := h r (List.mem_cons_self ..)
    simp only [List.flatten_cons, List.length_append, List.length_cons, ih, h1, Nat.add_mul, Nat.one_mul, Nat.add_comm]
theorem flat_get {s : Nat} : ∀ {L : List (List Int)} (u : Nat), (∀ r ∈ L, r.length = s) → u < L.length → (L.flatten.drop (u * s)).take s = L.getD u []
  | [], _, _, h => absurd h (by simp)
  | r :: L, 0, h, _ => by
    have h1 := h r (List.mem_cons_self ..)
    rw [List.flatten_cons, Nat.zero_mul, List.drop_zero, List.take_append_of_le_length (by omega), ← h1, List.take_length]
    rfl
  | r :: L, u + 1, h, hu => by
    have h1 := h r (List.mem_cons_self ..)
    have ih := flat_get (L := L) u (fun x hx => h x (List.mem_cons_of_mem _ hx)) (by simpa using hu)
    have e : (r ++ L.flatten).drop s = L.flatten := by rw [← h1, List.drop_left]
    rw [List.flatten_cons, Nat.add_mul, Nat.one_mul, Nat.add_comm (u * s) s, ← List.drop_drop, e, ih]
    rfl
/-- A slice of structs of s ints each. -/
structure RowsI (w : World) (v : Value) (s : Nat) (L : List (List Int)) : Prop where
  ex : ∃ a c, v = .slice a L.length c ∧ L.length ≤ c ∧ (0 < L.length → ∃ ad, a = some ad ∧ ∀ j u, (flatI L)[j]? = some u → w.cell? (ad.add j) = some u)
  rows : ∀ r ∈ L, r.length = s
  le : L.length ≤ 140737488355328
theorem RowsI.ext {w w' : World} {v : Value} {s : Nat} {L : List (List Int)} (h : RowsI w v s L) (hE : Ext w w') : RowsI w' v s L := by
  obtain ⟨⟨a, c, h1, h2, h3⟩, h4, h5⟩ := h
  refine ⟨⟨a, c, h1, h2, fun hp => ?_⟩, h4, h5⟩
  obtain ⟨ad, e, hc⟩ := h3 hp
  exact ⟨ad, e, fun j u hu => hE.cell (hc j u hu)⟩
theorem RowsI.nil (w : World) (s : Nat) : RowsI w (.slice none 0 0) s [] := ⟨⟨none, 0, rfl, Nat.le_refl _, fun h => absurd h (by simp)⟩, by simp, by simp⟩
/-- The call's own slice of structs. -/
structure OwnR (B : Nat) (w : World) (v : Value) (E : TypeId) (s : Nat) (L : List (List Int)) : Prop where
  row : w.ownsRow B E s v L.length (flatI L)
  rows : ∀ r ∈ L, r.length = s
  le : L.length ≤ 140737488355328
theorem OwnR.nil (B : Nat) (w : World) (E : TypeId) (s : Nat) : OwnR B w (.slice none 0 0) E s [] := ⟨World.ownsRow_nil w B E s, by simp, by simp⟩
theorem OwnR.ext {B : Nat} {w w' : World} {v : Value} {E : TypeId} {s : Nat} {L : List (List Int)} (h : OwnR B w v E s L) (hE : Ext w w') : OwnR B w' v E s L := by
  refine ⟨h.row.kept (row := none) ⟨hE.os, hE.tape, hE.output, hE.size, fun k hk _ => hE.block k hk⟩ ?_, h.rows, h.le⟩
  cases v.ownBlock <;> simp
theorem OwnR.kept {B : Nat} {w w' : World} {v v2 : Value} {E : TypeId} {s : Nat} {L : List (List Int)} (h : OwnR B w v E s L) (hg : w.grownBy w' v2.ownBlock) (hne : v.ownBlock ≠ v2.ownBlock) : OwnR B w' v E s L :=
  ⟨h.row.kept hg (.inr hne), h.rows, h.le⟩
theorem OwnR.keptB {B : Nat} {w w' : World} {v : Value} {E : TypeId} {s : Nat} {L : List (List Int)} {b : Nat} (h : OwnR B w v E s L) (hg : w.grownBy w' (some b)) (hne : v.ownBlock ≠ some b) : OwnR B w' v E s L :=
  ⟨h.row.kept hg (.inr hne), h.rows, h.le⟩
theorem OwnR.lt {B : Nat} {w : World} {v : Value} {E : TypeId} {s : Nat} {L : List (List Int)} (h : OwnR B w v E s L) : ∀ k, v.ownBlock = some k → B ≤ k ∧ k < w.heap.size := h.row.lt
theorem OwnR.read {B : Nat} {w : World} {v : Value} {E : TypeId} {s : Nat} {L : List (List Int)} (h : OwnR B w v E s L) : RowsI w v s L := by
  obtain ⟨h1, h2, h3⟩ := h
  refine ⟨?_, h2, h3⟩
  rcases h1.2 with ⟨rfl, hn⟩ | ⟨g, cap, cur, rfl, _, hg, hnc, _⟩
  · exact ⟨none, 0, by rw [hn], by omega, fun h => absurd h (by omega)⟩
  · exact ⟨some ⟨g, 0, none⟩, cap, rfl, hnc, fun _ => ⟨_, rfl, h1.cells rfl⟩⟩
theorem Ext.grownR {w0 w w' : World} {v : Value} {B : Nat} {E : TypeId} {s : Nat} {L : List (List Int)} (h : Ext w0 w) (hg : w.grownBy w' v.ownBlock) (ho : OwnR B w v E s L) (hB : w0.heap.size ≤ B) : Ext w0 w' :=
  Below.grown h hg h.size (fun k hk => by have := (ho.lt k hk).1; omega)

section
variable {P : Program} {N : Nat} {l : Env} {w : World} {ops : Array Oper} {dr : Bool} {Q : Act → World → Prop} {π : List Nat} {i d : Nat} {v : Value} {op : Op} {ty : TypeId} {pos : String} {after : Array Edge} {g : Option (Nat × Bool)}
variable {x y c p : Operand} {u z : Int} {T T' E : TypeId} {s b : Nat} {zv : Value} {L : List (List Int)}
theorem lenR {w0 : World} (hx : ev l x = some v) (hT : SlT P T E zv s b) (hs : RowsI w0 v s L := by assumption) :
    Yl P N (.call ⟨.builtin .len, #[x], #[T]⟩) ty l w (.int .i64 L.length) := fun a ha w' _ o ho _ => by
  obtain ⟨⟨ad, cc, rfl, _⟩, _⟩ := hs
  simp [execOp, ho, ha.eval hx, resolve, invoke, builtin, Builtin.len_, run_underlying hT.und, goInt]
theorem iadR {w0 : World} (hx : ev l x = some v) (hy : ev l y = some (.int .i64 u)) (hT : SlT P T E zv s b) (hs : RowsI w0 v s L := by assumption) (h0 : 0 ≤ u := by omega) (h1 : u < L.length := by omega) :
    Yl P N (.indexAddr T x y) ty l w (eptr v s u) := fun a ha w' _ o ho _ => by
  obtain ⟨⟨ad, cc, rfl, hc, hx'⟩, _⟩ := hs
  obtain ⟨ad, rfl, _⟩ := hx' (by omega)
  obtain ⟨j, hj, _, hj2, _⟩ := info_of hT
  simp [execOp, ho, ha.eval hx, ha.eval hy, Instr.indexAt, run_underlying hT.und, asIntOf, h0, h1, eptr, sizeOf, typeInfo, hj, hj2]
theorem ldR {w0 : World} {v0 : Value} (hp : ev l p = some (eptr v0 s u)) (hA : AG P T s) (hs : RowsI w0 v0 s L := by assumption) (hE : Ext w0 w := by first | exact Ext.refl _ | assumption) (h0 : 0 ≤ u := by omega) (h1 : u < L.length := by omega) :
    Yl P N (.load T p) ty l w (.agg ((L.getD u.toNat []).map (Value.int .i64)).toArray) := fun a ha w' hE' o ho _ => by
  obtain ⟨⟨ad, cc, rfl, hc, hx'⟩, hr, _⟩ := hs
  obtain ⟨ad, rfl, hcell⟩ := hx' (by omega)
  have hu : u.toNat < L.length := by omega
  have hfl := flat_length hr
  have hle : u.toNat * s + s ≤ L.length * s := by
    rw [← Nat.succ_mul]
    exact Nat.mul_le_mul_right _ (by omega)
  have hrow : ((flatI L).drop (u.toNat * s)).take s = (L.getD u.toNat []).map (Value.int .i64) := by
    rw [flatI, ← List.map_drop, ← List.map_take, flat_get _ hr hu]
  have hcs : ∀ j v, ((L.getD u.toNat []).map (Value.int .i64))[j]? = some v → w'.cell? ((ad.add (u.toNat * s)).add j) = some v := by
    intro j v hv
    rw [← hrow] at hv
    have hlt : j < s := by
      have := (List.getElem?_eq_some_iff.1 hv).1
      simp at this; omega
    rw [List.getElem?_take, if_pos hlt, List.getElem?_drop] at hv
    have := (hE.trans hE').cell (hcell _ _ hv)
    rw [← this, add_add_s]
  have hl := run_loadCells_list (P := P) w' (ad.add (u.toNat * s)) _ hcs
  have hlen : ((L.getD u.toNat []).map (Value.int .i64)).length = s := by rw [← hrow, List.length_take, List.length_drop, flatI, List.length_map, hfl]; omega
  rw [hlen] at hl
  simp [execOp, ho, ha.eval hp, eptr, Instr.loadAt, Instr.sureAddr, loadVar, hA.agg w', hA.size w', hl]
theorem fill_one {place : Nat → Option (Nat × Nat)} {cells cs : Array Value} {s : Nat} (hp : place 0 = some (0, s)) (hs : cs.size = s) (hc : cells.size = s) : Instr.fill place cells [(0, .agg cs)] = some cs := by
  have hcs : (Value.agg cs).cells = cs := rfl
  simp only [Instr.fill, hp, hcs, hs, hc]
  rw [if_neg (by simp)]
  congr 1
  subst hs
  have key : ∀ (k : Nat) (acc : Array Value), acc.size = cs.size → k ≤ cs.size → (∀ j, j < k → acc[j]? = cs[j]?) →
      ((cs.toList.drop k).zipIdx k).foldl (fun a (q : Value × Nat) => a.setIfInBounds (0 + q.2) q.1) acc = cs := by
    intro k
    induction hn : cs.size - k generalizing k with
    | zero =>
      intro acc h1 h2 h3
      rw [List.drop_of_length_le (by simp; omega)]
      simp only [List.zipIdx_nil, List.foldl_nil]
      apply Array.ext_getElem?
      intro j
      by_cases hj : j < k
      · exact h3 j hj
      · rw [Array.getElem?_eq_none (by omega), Array.getElem?_eq_none (by omega)]
    | succ n ih =>
      intro acc h1 h2 h3
      have hk : k < cs.size := by omega
      rw [List.drop_eq_getElem_cons (by simpa using hk), List.zipIdx_cons, List.foldl_cons]
      refine ih (k + 1) (by omega) _ (by simpa using h1) (by omega) fun j hj => ?_
      simp only [Nat.zero_add]
      by_cases e : j = k
      · subst e
        simp [h1, hk]
      · rw [Array.getElem?_setIfInBounds_ne (Ne.symm e)]
        exact h3 j (by omega)
  have := key 0 cells hc (Nat.zero_le _) (fun j hj => absurd hj (by omega))
  rw [List.drop_zero] at this
  simp only [Nat.zero_add] at this
  rw [← Array.foldl_toList, Array.toList_zipIdx]
  simpa using this
/-- A slice literal of one struct. -/
theorem BSR {r : List Int} (hi : ops[i]? = some ⟨some d, .buildSlice T 1 #[(0, x)], ty, pos, after, g⟩) (hw : Wt ops N l g) (hd : Nat.blt d N = true) (hx : ev l x = some (.agg (r.map (Value.int .i64)).toArray)) (hT : SlT P T E zv s b) (hr : r.length = s) (hs : 0 < s) (hsb : s ≤ 1000)
    (h : ∀ v w', Ext w w' → RowsI w' v s [r] → WR P N ops dr Q π ((d, v) :: l) w') : WR P N ops dr Q (i :: π) l w := by
  obtain ⟨j, hj, hj1, hj2, _⟩ := info_of hT
  have hfr : flatI [r] = r.map (Value.int .i64) := by simp [flatI]
  have hown : (w.alloc (.cells (r.map (Value.int .i64)).toArray E)).ownsRow w.heap.size E s (.slice (some ⟨w.heap.size, 0, none⟩) 1 1) 1 (flatI [r]) := by
    refine ⟨by simp [hfr, hr], .inr ⟨w.heap.size, 1, (r.map (Value.int .i64)).toArray, rfl, Nat.le_refl _, heap_alloc_new w _, Nat.le_refl _, by unfold maxLen; omega, by simp [hr], ?_⟩⟩
    rw [hfr, Nat.one_mul]
    exact List.take_of_length_le (by simp [hr])
  have hro : RowsI (w.alloc (.cells (r.map (Value.int .i64)).toArray E)) (.slice (some ⟨w.heap.size, 0, none⟩) 1 1) s [r] := OwnR.read (B := w.heap.size) (E := E) ⟨hown, by simp [hr], by simp⟩
  refine F (v := .slice (some ⟨w.heap.size, 0, none⟩) 1 1) (w' := w.alloc (.cells (r.map (Value.int .i64)).toArray E)) hi hw rfl hd (fun a ha => ?_) (fun _ _ => Ext.alloc _ _) (h _ _ (Ext.alloc _ _) hro)
  have hf : ∀ cells : Array Value, cells.size = s → Instr.fill (fun i => some (i * s, s)) cells [(0, .agg (r.map (Value.int .i64)).toArray)] = some (r.map (Value.int .i64)).toArray := fun cells hc => fill_one (by simp) (by simp [hr]) hc
  have h2 : ¬ 16777216 < s := by omega
  have h3 : ¬ s = 0 := by omega
  simp [execOp, ha.eval hx, Instr.buildSlice, run_underlying hT.und, sizeOf, typeInfo, hj, hj1, hj2, newRow, zeroValue, h2, h3, hf]
/-- append of one struct onto nil or the call's own slice. -/
theorem APR {v0 v1 : Value} {B : Nat} {r : List Int} {w0 : World} (hi : ops[i]? = some ⟨some d, .call ⟨.builtin .append, #[x, y], #[T, T]⟩, ty, pos, after, g⟩) (hw : Wt ops N l g) (hd : Nat.blt d N = true) (hx : ev l x = some v0) (hy : ev l y = some v1)
    (hT : SlT P T E zv s b) (hz : zv.cells.size = s) (hs0 : 0 < s) (htl : dr = true → isTail ops i = false → Ext w w → v0.ownBlock = none)
    (h : ∀ v w', w.grownBy w' v0.ownBlock → (∀ w0, w0.heap.size ≤ B → Ext w0 w → Ext w0 w') → OwnR B w' v E s (L ++ [r]) → (v.ownBlock = v0.ownBlock ∨ v.ownBlock = some w.heap.size) → WR P N ops dr Q π ((d, v) :: l) w')
    (ho : OwnR B w v0 E s L := by assumption) (hB : B ≤ w.heap.size := by first | exact Nat.le_refl _ | exact Ext.size (by assumption)) (hs : RowsI w0 v1 s [r] := by assumption) (hE : Ext w0 w := by first | exact Ext.refl _ | assumption)
    (hlen : (L.length + 1) * b ≤ 140737488355328 := by omega) (hlen1 : L.length + 1 ≤ 140737488355328 := by omega) : WR P N ops dr Q (i :: π) l w := by
  obtain ⟨j, hj, hj1, hj2, hj3⟩ := info_parts hT.inf
  obtain ⟨⟨a1, c1, rfl, hc1, hx1⟩, hr1, _⟩ := hs.ext hE
  obtain ⟨ad, rfl, hcell⟩ := hx1 (by simp)
  have hrl : r.length = s := hr1 r (by simp)
  have hfr : flatI [r] = r.map (Value.int .i64) := by simp [flatI]
  obtain ⟨v', w', hrun, h2, h3, _, h5⟩ := run_append_own_at (P := P) w B T ty E j zv s b hT.und hj hj1 hj2 hj3 hz hs0 v0 L.length (flatI L) ho.row ad 1 c1 (flatI [r]) (by rw [hfr]; simp [hrl]) hcell (by rw [hfr]; intro u hu; obtain ⟨_, _, rfl⟩ := List.mem_map.1 hu; rfl) (by unfold maxLen; omega) hlen hB
  have hfl : flatI L ++ flatI [r] = flatI (L ++ [r]) := by simp [flatI]
  rw [hfl] at h2
  refine F (v := v') (w' := w') hi hw rfl hd (fun a ha => ?_) (fun hdr ht => ?_) (h v' w' h3 (fun w0 hB0 hE0 => hE0.grownR h3 ho hB0) ⟨by simpa using h2, fun q hq => ?_, by simpa using hlen1⟩ h5)
  · have e1 : [r].length = 1 := rfl
    simp [execOp, resolve, invoke, builtin, ha.eval hx, ha.eval hy, e1, hrun]
  · rw [htl hdr ht (Ext.refl _)] at h3
    exact Ext.of_grown h3
  · rcases List.mem_append.1 hq with hq | hq
    · exact ho.rows q hq
    · exact hr1 q hq
end
end Go.Sx
