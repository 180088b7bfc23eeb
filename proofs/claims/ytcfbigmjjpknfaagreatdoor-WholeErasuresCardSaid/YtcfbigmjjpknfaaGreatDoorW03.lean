import Derived.Test.YtcfbigmjjpknfaaGreatDoorW02
import Derived.Laws.Slices
import Derived.Laws.IdiomCopy
import Derived.Test.YtcfbigmjjpknfaaGreatDoorProg
import Derived.KernelRfl
namespace Go.Sx
open Go Go.RowKit Go.Pl
section
variable {P : Program}
theorem QcU : ∀ (us : List Value) (k : Nat) (cells : Array Value), (∀ u ∈ us, u.oneCell' = true) → k + us.length ≤ cells.size →
  ∃ out : Array Value, Instr.fill (fun i => some (i * 1, 1)) cells ((List.range' k us.length).zip us) = some out ∧ out.size = cells.size ∧
   ∀ j, out[j]? = if k ≤ j ∧ j < k + us.length then us[j - k]? else cells[j]?
 | [], k, cells, _, _ => ⟨cells, by simp [Instr.fill], rfl, fun j => by rw [if_neg (fun h => by simp at h; omega)]⟩
 | u :: us, k, cells, h1, hl => by
  have hu : u.oneCell' = true := h1 u (List.mem_cons_self ..)
  have hcells1 : u.cells = #[u] := by cases u <;> first | rfl | simp [Value.oneCell'] at hu
  simp only [List.length_cons] at hl
  obtain ⟨out, ho, hs, hg⟩ := QcU us (k + 1) (cells.setIfInBounds k u) (fun x hx => h1 x (List.mem_cons_of_mem _ hx)) (by simp; omega)
  refine ⟨out, ?_, by simpa using hs, fun j => ?_⟩
  ·simp only [List.length_cons, List.range'_succ, List.zip_cons_cons, Instr.fill, hcells1]
   rw [if_neg (by simp; omega)]
   simpa using ho
  ·rw [hg j]
   by_cases hj : k ≤ j ∧ j < k + (u :: us).length
   ·rw [if_pos hj]
    by_cases hk : j = k
    ·subst hk
     rw [if_neg (by omega)]
     have : j < cells.size := by omega
     simp [this]
    ·have e : j - k = (j - (k + 1)) + 1 := by omega
     simp only [List.length_cons] at hj
     rw [if_pos (by omega), e, List.getElem?_cons_succ]
   ·rw [if_neg hj]
    simp only [List.length_cons] at hj
    rw [if_neg (by omega), Array.getElem?_setIfInBounds_ne (by omega)]
theorem JU {T E : TypeId} {zv : Value} {b : Nat} (hT : SlT P T E zv 1 b) (us : List Value) (h1 : ∀ u ∈ us, u.oneCell' = true) (hl : us.length ≤ 16777216) (w : World) :
  (Instr.buildSlice T us.length ((List.range' 0 us.length).zip us).toArray).run P w = .ok (.slice (some ⟨w.heap.size, 0, none⟩) us.length us.length) (w.alloc (.cells us.toArray E)) := by
 obtain ⟨j, hj, hj1, hj2, _⟩ := info_parts hT.inf
 obtain ⟨out, ho, hs, hg⟩ := QcU us 0 ((Array.range (us.length * 1)).map fun i => (if us.length * 1 = 0 then #[] else zv.cells)[i % (if us.length * 1 = 0 then #[] else zv.cells).size]!) h1 (by simp)
 have hout : out = us.toArray := by
  apply Array.ext_getElem?
  intro i
  rw [hg i]
  by_cases hi : i < us.length
  ·rw [if_pos (by omega)]; simp
  ·rw [if_neg (by omega)]
   rw [Array.getElem?_eq_none (by simp; omega)]
   simp; omega
 subst hout
 by_cases h0 : us.length = 0
 ·simp only [h0, Nat.zero_mul, if_true] at ho
  have hus : us = [] := List.eq_nil_of_length_eq_zero h0
  subst hus
  have e0 : (Array.map (fun _ : Nat => (default : Value)) (Array.range 0)) = #[] := by simp [Array.range]
  simp [Instr.buildSlice, run_underlying hT.und, sizeOf, typeInfo, hj, newRow, Instr.fill, e0]
 ·rw [if_neg (by omega)] at ho
  simp [Instr.buildSlice, run_underlying hT.und, sizeOf, typeInfo, hj, hj1, hj2, newRow, zeroValue, h0, show ¬ 16777216 < us.length by omega] at ho ⊢
  rw [ho]
  simp
end
section
variable {P : Program} {N : Nat} {l : Env} {w : World} {ops : Array Oper} {dr : Bool} {Q : Act → World → Prop} {π : List Nat} {i d : Nat} {v : Value} {op : Op} {ty : TypeId} {pos : String} {after : Array Edge} {g : Option (Nat × Bool)}
variable {x y c p : Operand} {u z : Int} {T T' : TypeId}
theorem Own.made {us : List Value} {E : TypeId} (h : us.length ≤ 16777216) : Own w.heap.size (w.alloc (.cells us.toArray E)) (.slice (some ⟨w.heap.size, 0, none⟩) us.length us.length) E us :=
 ⟨⟨by simp, .inr ⟨w.heap.size, us.length, us.toArray, rfl, Nat.le_refl _, heap_alloc_new w _, Nat.le_refl _, by unfold maxLen; omega, by simp, by simp⟩⟩, by omega⟩
theorem BS {n : Nat} {ps : List (Nat × Operand)} {us : List Value} {E : TypeId} {zv : Value} {b : Nat} (hi : ops[i]? = some ⟨some d, .buildSlice T n ps.toArray, ty, pos, after, g⟩) (hw : Wt ops N l g) (hd : Nat.blt d N = true) (hv : evs l (ps.map (·.2)) = some us)
  (hn : n = us.length) (hix : ps.map (·.1) = List.range' 0 us.length) (hT : SlT P T E zv 1 b) (h1 : ∀ u ∈ us, u.oneCell' = true)
  (h : ∀ v w', Ext w w' → Own w.heap.size w' v E us → v.ownBlock = some w.heap.size → WR P N ops dr Q π ((d, v) :: l) w') (hl : us.length ≤ 16777216 := by first | decide | simp) : WR P N ops dr Q (i :: π) l w := by
 subst hn
 refine F (v := .slice (some ⟨w.heap.size, 0, none⟩) us.length us.length) (w' := w.alloc (.cells us.toArray E)) hi hw rfl hd (fun a ha => ?_) (fun _ _ => Ext.alloc _ _) (h _ _ (Ext.alloc _ _) (Own.made hl) rfl)
 have hm := ha.evals hv
 have hps : ps.map (fun p => (p.1, a.eval p.2)) = (List.range' 0 us.length).zip us := by
  rw [← hix, ← hm, List.map_map]
  clear hv hix hm hi h
  induction ps with
  | nil => rfl
  | cons q r ih => simp [ih]
 have hr := JU hT us h1 hl w
 rw [← hps] at hr
 simp only [execOp, List.map_toArray, Sem.run_bind]
 rw [hr]
 rfl
theorem BSI {n : Nat} {ps : List (Nat × Operand)} {zs : List Int} {E : TypeId} {b : Nat} (hi : ops[i]? = some ⟨some d, .buildSlice T n ps.toArray, ty, pos, after, g⟩) (hw : Wt ops N l g) (hd : Nat.blt d N = true) (hv : evs l (ps.map (·.2)) = some (zs.map (Value.int .i64)))
  (hn : n = zs.length) (hix : ps.map (·.1) = List.range' 0 zs.length) (hT : SlT P T E (.int .i64 0) 1 b)
  (h : ∀ v w', Ext w w' → OwnI w.heap.size w' v E zs → Ints w' v zs → v.ownBlock = some w.heap.size → WR P N ops dr Q π ((d, v) :: l) w') (hl : zs.length ≤ 16777216 := by first | decide | simp) : WR P N ops dr Q (i :: π) l w :=
 BS hi hw hd hv (by simpa using hn) (by simpa using hix) hT (fun u hu => by obtain ⟨_, _, rfl⟩ := List.mem_map.1 hu; rfl) (fun v w' hE ho hb => h v w' hE ho (OwnI.ints ho) hb) (by simpa using hl)
theorem AP {v0 v1 : Value} {B : Nat} {E : TypeId} {xs ys : List Value} {zv : Value} {b : Nat} {w0 : World} (hi : ops[i]? = some ⟨some d, .call ⟨.builtin .append, #[x, y], #[T, T]⟩, ty, pos, after, g⟩) (hw : Wt ops N l g) (hd : Nat.blt d N = true) (hx : ev l x = some v0) (hy : ev l y = some v1)
  (hT : SlT P T E zv 1 b) (hz : zv.cells = #[zv]) (htl : dr = true → isTail ops i = false → Ext w w → v0.ownBlock = none)
  (ho : Own B w v0 E xs) (hB : B ≤ w.heap.size) (hs : Sl w0 v1 ys) (hE : Ext w0 w) (h1 : ∀ u ∈ ys, u.oneCell' = true) (hlen : (xs.length + ys.length) * b ≤ 140737488355328) (hlen1 : xs.length + ys.length ≤ 140737488355328)
  (h : ∀ v w', w.grownBy w' v0.ownBlock → (∀ w0, w0.heap.size ≤ B → Ext w0 w → Ext w0 w') → Own B w' v E (xs ++ ys) → (v.ownBlock = v0.ownBlock ∨ v.ownBlock = some w.heap.size) → WR P N ops dr Q π ((d, v) :: l) w') : WR P N ops dr Q (i :: π) l w := by
 obtain ⟨j, hj, hj1, hj2, hj3⟩ := info_parts hT.inf
 have hs' := hs.ext hE
 obtain ⟨⟨a1, c1, rfl, hc1, hx1⟩, _⟩ := hs'
 have done : ∀ v w', (Builtin.append_ #[T, T] ty #[v0, .slice a1 ys.length c1]).run P w = .ok v w' → w'.ownsRow B E 1 v (xs.length + ys.length) (xs ++ ys) → w.grownBy w' v0.ownBlock → (v.ownBlock = v0.ownBlock ∨ v.ownBlock = some w.heap.size) →
   WR P N ops dr Q (i :: π) l w := by
  intro v w' hrun hown hg hb
  refine F (v := v) (w' := w') hi hw rfl hd (fun a ha => ?_) (fun hdr ht => ?_) (h v w' hg (fun w0 hB0 hE0 => hE0.grown hg ho hB0) ⟨by simpa using hown, by simpa using hlen1⟩ hb)
  ·simp [execOp, resolve, invoke, builtin, ha.eval hx, ha.eval hy, hrun]
  ·rw [htl hdr ht (Ext.refl _)] at hg
   exact Ext.of_grown hg
 rcases Nat.eq_zero_or_pos ys.length with h0 | h0
 ·have hys : ys = [] := List.eq_nil_of_length_eq_zero h0
  subst hys
  cases a1 with
  | none =>
   have hrun : (Builtin.append_ #[T, T] ty #[v0, .slice none 0 c1]).run P w = .ok v0 w := by
    rcases ho.row.2 with ⟨rfl, hn⟩ | ⟨g, cap, cur, rfl, _, _, hnc, _⟩
    ·simp [Builtin.append_, run_underlying hT.und, sizeOf, typeInfo, hj, Builtin.lenOf, Builtin.firstCells]
    ·simp [Builtin.append_, run_underlying hT.und, sizeOf, typeInfo, hj, Builtin.lenOf, Builtin.firstCells, hnc, storeCells]
   exact done v0 w hrun (by simpa using ho.row) (World.grownBy.refl w _) (.inl rfl)
  | some ad =>
   obtain ⟨v', w', hrun, h2, h3, _, h5⟩ := run_append_own_at (P := P) w B T ty E j zv 1 b hT.und hj hj1 hj2 hj3 (by rw [hz]; rfl) (by omega) v0 xs.length xs ho.row ad 0 c1 [] (by simp) (by simp) (by simp) (by unfold maxLen; simp at hlen1; omega) (by simpa using hlen) hB
   exact done v' w' hrun (by simpa using h2) h3 h5
 ·obtain ⟨ad, rfl, hcell⟩ := hx1 h0
  obtain ⟨v', w', hrun, h2, h3, _, h5⟩ := run_append_own_at (P := P) w B T ty E j zv 1 b hT.und hj hj1 hj2 hj3 (by rw [hz]; rfl) (by omega) v0 xs.length xs ho.row ad ys.length c1 ys (by simp) hcell h1 (by unfold maxLen; omega) hlen hB
  exact done v' w' hrun h2 h3 h5
theorem API {v0 v1 : Value} {B : Nat} {E : TypeId} {xs ys : List Int} {w0 : World} (hi : ops[i]? = some ⟨some d, .call ⟨.builtin .append, #[x, y], #[T, T]⟩, ty, pos, after, g⟩) (hw : Wt ops N l g) (hd : Nat.blt d N = true) (hx : ev l x = some v0) (hy : ev l y = some v1)
  (hT : SlT P T E (.int .i64 0) 1 8) (htl : dr = true → isTail ops i = false → Ext w w → v0.ownBlock = none)
  (h : ∀ v w', w.grownBy w' v0.ownBlock → (∀ w0, w0.heap.size ≤ B → Ext w0 w → Ext w0 w') → OwnI B w' v E (xs ++ ys) → Ints w' v (xs ++ ys) → (v.ownBlock = v0.ownBlock ∨ v.ownBlock = some w.heap.size) → WR P N ops dr Q π ((d, v) :: l) w')
  (ho : OwnI B w v0 E xs := by assumption) (hB : B ≤ w.heap.size := by first | exact Nat.le_refl _ | exact Ext.size (by assumption)) (hs : Ints w0 v1 ys := by assumption) (hE : Ext w0 w := by first | exact Ext.refl _ | assumption)
  (hlen : xs.length + ys.length ≤ 17592186044416 := by first | omega | (simp only [List.length_cons, List.length_nil, List.length_append]; omega)) : WR P N ops dr Q (i :: π) l w :=
 AP hi hw hd hx hy hT rfl htl ho hB hs hE (fun u hu => by obtain ⟨_, _, rfl⟩ := List.mem_map.1 hu; rfl) (by simp; omega) (by simp; omega) (fun v w' hg hX ho' hb => by
  rw [← List.map_append] at ho'
  exact h v w' hg hX ho' (OwnI.ints ho') hb)
theorem MKC {E : TypeId} {zv : Value} {b n : Nat} {cl : Int} (hi : ops[i]? = some ⟨some d, .makeSlice T y x, ty, pos, after, g⟩) (hw : Wt ops N l g) (hd : Nat.blt d N = true) (hy : ev l y = some (.int .i64 0)) (hx : ev l x = some (.int .i64 cl)) (hT : SlT P T E zv 1 b)
  (h : ∀ v w', Ext w w' → Own w.heap.size w' v E [] → v.ownBlock = some w.heap.size → WR P N ops dr Q π ((d, v) :: l) w')
  (hn : cl = (n : Int) := by omega) (hle : n ≤ 140737488355328 := by omega) (hby : b * n ≤ 281474976710656 := by omega) : WR P N ops dr Q (i :: π) l w := by
 obtain ⟨j, hj, hj1, hj2, hj3⟩ := Jb hT
 obtain ⟨w', hrun, hown, hg⟩ := run_make_own (P := P) w w.heap.size T E j zv 1 hT.und hj hj1 hj2 .i64 .i64 n (by rw [hj3]; exact hby) (by unfold maxLen; omega) (Nat.le_refl _)
 subst hn
 exact F (v := .slice (some ⟨w.heap.size, 0, none⟩) 0 n) hi hw rfl hd (fun a ha => by simp [execOp, ha.eval hx, ha.eval hy, hrun]) (fun _ _ => Ext.of_grown hg) (h _ w' (Ext.of_grown hg) ⟨by simpa using hown, by simp⟩ rfl)
end
end Go.Sx
namespace Go.Sx
open Go Go.RowKit Go.Pl
def putAt (cs : List Value) (k : Nat) (vs : List Value) : List Value := cs.take k ++ vs ++ cs.drop (k + vs.length)
section
variable {P : Program}
theorem Jz {g : Nat} {t : TypeId} : ∀ (vs : List Value) (w : World) (cs : List Value) (k i : Nat), Blk w g t cs.toArray → (∀ v ∈ vs, v.oneCell' = true) → k + i + vs.length ≤ cs.length →
  ∃ w', (storeCells ⟨g, k, none⟩ vs i).run P w = .ok () w' ∧ Blk w' g t (putAt cs (k + i) vs).toArray ∧ w.grownBy w' (some g)
 | [], w, cs, k, i, hB, _, hl => ⟨w, by simp [storeCells], by simpa [putAt] using hB, World.grownBy.refl w _⟩
 | v :: vs, w, cs, k, i, hB, h1, hl => by
  simp only [List.length_cons] at hl
  have hk : k + i < cs.length := by omega
  have hcell : w.cell? ⟨g, k + i, none⟩ = some cs[k + i] := hB.cell (by simp [hk])
  have hfz : w.frozen? ⟨g, k + i, none⟩ = false := by
   unfold Blk at hB
   simp [World.frozen?, hB]
  have hB' : Blk (w.setCell ⟨g, k + i, none⟩ v) g t (cs.set (k + i) v).toArray := by
   unfold Blk at hB ⊢
   have hlt : g < w.heap.size := (Array.getElem?_eq_some_iff.1 hB).1
   simp only [World.setCell]
   rw [Array.getElem?_modify]
   simp [hB]
  obtain ⟨w', hr, hb, hg⟩ := Jz vs (w.setCell ⟨g, k + i, none⟩ v) (cs.set (k + i) v) k (i + 1) hB' (fun u hu => h1 u (List.mem_cons_of_mem _ hu)) (by simp; omega)
  refine ⟨w', ?_, ?_, ?_⟩
  ·simp only [storeCells, Sem.run_bind]
   have hadd : (⟨g, k, none⟩ : Addr).add i = ⟨g, k + i, none⟩ := by rw [Addr.add_lit]
   rw [hadd, run_store P _ _ _ _ (h1 v (List.mem_cons_self ..)), hcell]
   simp [hfz, hr]
  ·have e : putAt (cs.set (k + i) v) (k + (i + 1)) vs = putAt cs (k + i) (v :: vs) := by
    simp only [putAt, List.length_cons]
    apply List.ext_getElem?
    intro j
    simp only [List.getElem?_append, List.length_take, List.length_set, List.length_append, List.length_cons, List.getElem?_take, List.getElem?_drop, List.getElem?_set, List.getElem?_cons]
    repeat' split
    all_goals (try omega)
    all_goals (first | rfl | (congr 1; omega) | simp_all | (exfalso; omega) | skip)
    all_goals (try omega)
   rw [e] at hb
   exact hb
  ·have hgb : w.grownBy (w.setCell ⟨g, k + i, none⟩ v) (some g) :=
    ⟨rfl, rfl, rfl, by simp, fun j hj hne => Below.heap_setCell _ _ _ _ (fun e => hne (by rw [e]))⟩
   exact hgb.trans hg
end
section
variable {P : Program} {N : Nat} {l : Env} {w : World} {ops : Array Oper} {dr : Bool} {Q : Act → World → Prop} {π : List Nat} {i d : Nat} {v : Value} {op : Op} {ty : TypeId} {pos : String} {after : Array Edge} {g : Option (Nat × Bool)}
variable {x y c p : Operand} {u z : Int} {T T' : TypeId} {ats : Array TypeId}
def ZV (P : Program) (T : TypeId) (zs : List Value) : Prop := ∀ w, ∃ zv, (zeroValue T).run P w = .ok zv w ∧ zv.cells = zs.toArray
theorem AL {zs : List Value} (hi : ops[i]? = some ⟨some d, .alloc T, ty, pos, after, g⟩) (hw : Wt ops N l g) (hd : Nat.blt d N = true) (hz : ZV P T zs)
  (h : ∀ b w', Ext w w' → Blk w' b T zs.toArray → w.heap.size ≤ b → WR P N ops dr Q π ((d, .pointer (some ⟨b, 0, none⟩)) :: l) w') : WR P N ops dr Q (i :: π) l w := by
 obtain ⟨zv, h1, h2⟩ := hz w
 refine F (v := .pointer (some ⟨w.heap.size, 0, none⟩)) (w' := w.alloc (.cells zs.toArray T)) hi hw rfl hd (fun a ha => ?_) (fun _ _ => Ext.alloc _ _) (h _ _ (Ext.alloc _ _) (heap_alloc_new w _) (Nat.le_refl _))
 simp [execOp, Instr.alloc, newVar, newRow, h1, h2]
theorem STB {b k n t : Nat} {cs vs cs' : List Value} {u0 : Value} (hi : ops[i]? = some ⟨none, .store T p x, ty, pos, after, g⟩) (hw : Wt ops N l g) (hp : ev l p = some (.pointer (some ⟨b, k, none⟩))) (hx : ev l x = some u0) (hc : u0.cells = vs.toArray)
  (hs : ∀ w, (sizeOf T).run P w = .ok n w) (htl : dr = true → isTail ops i = true) (hB : Blk w b t cs.toArray) (h1 : ∀ v ∈ vs, v.oneCell' = true) (hn : vs.length = n) (hl : Nat.ble (k + n) cs.length = true) (hcs : putAt cs k vs = cs')
  (h : ∀ w', w.grownBy w' (some b) → (∀ w0, w0.heap.size ≤ b → Ext w0 w → Ext w0 w') → Blk w' b t cs'.toArray → WR P N ops dr Q π l w') : WR P N ops dr Q (i :: π) l w := by
 subst hcs
 have hl' := Nat.le_of_ble_eq_true hl
 obtain ⟨w', hr, hb, hg⟩ := Jz (P := P) vs w cs k 0 hB h1 (by omega)
 refine F0 (w' := w') hi hw rfl (fun a ha => ?_) (fun hd ht => by rw [htl hd] at ht; cases ht) (h w' hg (fun w0 hB0 hE => ?_) hb)
 ·simp [execOp, ha.eval hp, ha.eval hx, Instr.storeAt, Instr.sureAddr, storeVar, hs, hc, hn, hr]
 ·exact Below.grown hE hg hE.size (fun j hj => by cases hj; exact hB0)
theorem bld {ps : List (Nat × Operand)} {us : List Value} {r : List Value} (hv : evs l (ps.map (·.2)) = some us) (hb : ∀ w, (Instr.build T ((ps.map (·.1)).zip us).toArray).run P w = .ok (.agg r.toArray) w) :
  Yl P N (.build T ps.toArray) ty l w (.agg r.toArray) := fun a ha w' hEE o ho _ => by
 clear hEE
 have hm := ha.evals hv
 have hps : ps.map (fun p => (p.1, a.eval p.2)) = (ps.map (·.1)).zip us := by
  rw [← hm, List.map_map]
  clear hv hm hb ho
  induction ps with
  | nil => rfl
  | cons q r ih => simp [ih]
 have h := hb w'
 rw [← hps] at h
 simp only [execOp, ho, List.map_toArray, Sem.run_bind]
 rw [h]
 rfl
def EQS (P : Program) (T : TypeId) (n : Nat) : Prop := ∀ (xs ys : List Int), xs.length = n → ys.length = n → ∀ w, (Op.equal T (.agg (xs.map (Value.int .i64)).toArray) (.agg (ys.map (Value.int .i64)).toArray)).run P w = .ok (decide (xs = ys)) w
theorem eqlB {a b : Bool} (hx : ev l x = some (.bool a)) (hy : ev l y = some (.bool b)) (hT : P.underlying T = some .bool) : Yl P N (.binOp .eql T x y T') ty l w (.bool (a == b)) :=
 Zn hx hy (fun w => by
  have hd : ∃ d, Op.maxDepth = d + 1 := ⟨Op.maxDepth - 1, rfl⟩
  obtain ⟨d, hd⟩ := hd
  simp [binOp, Op.equal, hd, Op.equalIn, run_underlying hT]) (fun _ _ _ => XT)
theorem neqB {a b : Bool} (hx : ev l x = some (.bool a)) (hy : ev l y = some (.bool b)) (hT : P.underlying T = some .bool) : Yl P N (.binOp .neq T x y T') ty l w (.bool (a != b)) :=
 Zn hx hy (fun w => by
  have hd : ∃ d, Op.maxDepth = d + 1 := ⟨Op.maxDepth - 1, rfl⟩
  obtain ⟨d, hd⟩ := hd
  simp [binOp, Op.equal, hd, Op.equalIn, run_underlying hT]; cases a <;> cases b <;> rfl) (fun _ _ _ => XT)
theorem maxI (hx : ev l x = some (.int .i64 u)) (hy : ev l y = some (.int .i64 z)) : Yl P N (.call ⟨.builtin .max, #[x, y], ats⟩) ty l w (.int .i64 (max u z)) := fun a ha w' _ o ho _ => by
 have e : (if u < z then z else u) = max u z := by rw [Int.max_def]; split <;> split <;> omega
 simp [execOp, ho, ha.eval hx, ha.eval hy, resolve, invoke, builtin, Builtin.max_, Builtin.max2, e]
theorem QJ {fn : Func} {t s b : Nat} {n : Nat} {tb : TypeId} {cs : List Value} {v : Value} {R : Ending → World → Prop} (hr : fn.results = #[.cell t T, .tmp s]) (hp : lk l t = some (.pointer (some ⟨b, 0, none⟩))) (hv : lk l s = some v)
  (hA : AG P T n) (hB : Blk w b tb cs.toArray) (hn : cs.length = n) (hR : R (.returned (.tuple #[.agg cs.toArray, v])) w) :
  Post N (bodyPost P fn R) .ret l w := fun a ha => by
 refine ⟨ha.defers, .tuple #[.agg cs.toArray, v], ?_, hR⟩
 have h1 := ha.slots _ _ hp
 have h2 := ha.slots _ _ hv
 have hl := run_loadCells_list (P := P) w ⟨b, 0, none⟩ cs (fun j v hv => by rw [Addr.add_lit]; exact hB.cell (by simpa using hv))
 rw [hn] at hl
 simp [results, hr, h1, h2, asAddr, loadVar, hA.agg w, hA.size w, hl]
end
end Go.Sx
namespace Go.Sx
open Go Go.RowKit Go.Pl
theorem cell_kept {w w' : World} {row : Option Nat} (hg : w.grownBy w' row) {a : Addr} {v : Value} (hc : w.cell? a = some v) (hne : row ≠ some a.block) : w'.cell? a = some v := by
 have hlt := World.block_lt_of_cell? w a hc
 have h := hg.block a.block hlt (fun e => hne e.symm)
 unfold World.cell? at hc ⊢
 rw [h]
 exact hc
theorem Sl.kept {w w' : World} {v : Value} {xs : List Value} {row : Option Nat} (h : Sl w v xs) (hg : w.grownBy w' row) (hne : v.ownBlock ≠ row) : Sl w' v xs := by
 obtain ⟨⟨a, c, hv, hc, hx⟩, hl⟩ := h
 refine ⟨⟨a, c, hv, hc, fun h0 => ?_⟩, hl⟩
 obtain ⟨ad, ha, hh⟩ := hx h0
 refine ⟨ad, ha, fun j u hu => cell_kept hg (hh j u hu) (fun e => hne ?_)⟩
 subst ha hv
 rw [e]
 simp only [Value.ownBlock, Addr.add]
 try (split <;> rfl)
theorem Ints.kept {w w' : World} {v : Value} {zs : List Int} {row : Option Nat} (h : Ints w v zs) (hg : w.grownBy w' row) (hne : v.ownBlock ≠ row) : Ints w' v zs := Sl.kept h hg hne
def LL (w : World) (v : Value) (L : List (List Int)) : Prop :=
 ∃ rows, Sl w v rows ∧ rows.length = L.length ∧ ∀ (i : Nat) r zs, rows[i]? = some r → L[i]? = some zs → Ints w r zs
theorem LL.ext {w w' : World} {v : Value} {L : List (List Int)} (h : LL w v L) (hE : Ext w w') : LL w' v L := by
 obtain ⟨rows, h1, h2, h3⟩ := h
 exact ⟨rows, h1.ext hE, h2, fun i r zs a b => (h3 i r zs a b).ext hE⟩
theorem LL.nil (w : World) : LL w (.slice none 0 0) [] := ⟨[], Sl.nil w, rfl, fun i r zs h => by simp at h⟩
theorem LL.row {w : World} {v : Value} {L : List (List Int)} (h : LL w v L) : ∃ rows, Sl w v rows ∧ rows.length = L.length ∧ ∀ i : Nat, i < L.length → ∃ r, rows[i]? = some r ∧ Ints w r (L.getD i []) := by
 obtain ⟨rows, h1, h2, h3⟩ := h
 refine ⟨rows, h1, h2, fun i hi => ⟨rows[i]'(by omega), by simp [h2, hi], ?_⟩⟩
 exact h3 i _ _ (by simp [h2, hi]) (by simp [hi])
section
variable {P : Program} {N : Nat} {l : Env} {w : World} {v : Value} {ty : TypeId} {x y : Operand} {T T' E : TypeId}
theorem eqlN (hx : ev l x = some v) (hy : ev l y = some (.slice none 0 0)) (hT : P.underlying T = some (.slice E)) (hv : ∃ a n c, v = .slice a n c) : Yl P N (.binOp .eql T x y T') ty l w (.bool v.ownBlock.isNone) := by
 obtain ⟨a, n, c, rfl⟩ := hv
 have hd : ∃ d, Op.maxDepth = d + 1 := ⟨Op.maxDepth - 1, rfl⟩
 obtain ⟨d, hd⟩ := hd
 refine Zn hx hy (fun w => ?_) (fun w x y => ?_)
 ·cases a <;> simp [binOp, Op.equal, hd, Op.equalIn, run_underlying hT, Value.ownBlock]
 ·unfold eqGuard
  split <;> rfl
end
end Go.Sx
namespace Go.Sx
open Go Go.RowKit
inductive Tr where
 | leaf (π : List Nat)
 | br (π : List Nat) (t1 t2 : Tr)
def Tr.len : Tr → Nat
 | .leaf π => π.length
 | .br π t1 _ => π.length + t1.len
def Tr.head : Tr → Option Nat
 | .leaf [] => none
 | .leaf (i :: _) => some i
 | .br [] _ _ => none
 | .br (i :: _) _ _ => some i
section
variable (P : Program) (ops : Array Oper)
def RTr (Q : Act → World → Prop) : Tr → Act → World → Prop
 | .leaf π, a, w => RL P ops true Q π a w
 | .br π t1 t2, a, w => RL P ops true (fun a w => RTr Q t1 a w ∧ RTr Q t2 a w) π a w
end
def aft : List Nat → Array Bool → Array Bool
 | [], l => l
 | i :: r, l => aft r (l.setIfInBounds i true)
def okSeg (ops : Array Oper) : List Nat → Array Bool → Bool
 | [], _ => true
 | i :: r, listed => (Region.ready .any ops listed).contains i &&
   (match ops[i]? with
    | some o => if isA o.op then Region.free .any ops listed i else (Region.ready .any ops listed).all (· == i)
    | none => false) && okSeg ops r (listed.setIfInBounds i true)
def okSeg1 (ops : Array Oper) : List Nat → Array Bool → Bool
 | [], _ => false
 | i :: r, listed => okSeg ops r (listed.setIfInBounds i true)
def okC (ops : Array Oper) (t1 t2 : Tr) (l : Array Bool) : Bool :=
 (t1.len == t2.len) && !(Region.ready .any ops l).isEmpty && (Region.ready .any ops l).all (fun j => some j == t1.head || some j == t2.head)
def okT (ops : Array Oper) : Bool → Tr → Array Bool → Bool
 | false, .leaf π, l => okSeg ops π l && (Region.ready .any ops (aft π l)).isEmpty
 | true, .leaf π, l => okSeg1 ops π l && (Region.ready .any ops (aft π l)).isEmpty
 | false, .br π t1 t2, l => okSeg ops π l && (okC ops t1 t2 (aft π l) && (okT ops true t1 (aft π l) && okT ops true t2 (aft π l)))
 | true, .br π t1 t2, l => okSeg1 ops π l && (okC ops t1 t2 (aft π l) && (okT ops true t1 (aft π l) && okT ops true t2 (aft π l)))
section
variable {P : Program} {ops : Array Oper}
theorem seg {Q Q' : Act → World → Prop} {n : Nat} (hs : Region.noSelect ops = true) : ∀ (l : List Nat) (listed : Array Bool) (a : Act) (w : World), Closed ops listed →
  okSeg ops l listed = true → RL P ops true Q' l a w → (∀ a w, Closed ops (aft l listed) → Q' a w → wpE P ops Q n (aft l listed) a w) → wpE P ops Q (l.length + n) listed a w
 | [], listed, a, w, hcl, _, h, hk => by
  simp only [List.length_nil, Nat.zero_add]
  exact hk a w hcl h
 | i :: r, listed, a, w, hcl, hB, h, hk => by
  obtain ⟨o, ho, h⟩ := h
  simp only [okSeg, Bool.and_eq_true, ho] at hB
  obtain ⟨⟨hr, hf⟩, hrest⟩ := hB
  have hr' : i ∈ Region.ready .any ops listed := by simpa using hr
  have e : (i :: r).length + n = (r.length + n) + 1 := by simp; omega
  rw [e]
  have first : ∀ v, isA o.op = true → YieldsE P ops o v a w → RL P ops true Q' r (a.put o.dst v) w → wpE P ops Q (r.length + n + 1) listed a w := fun v hA hy hq => by
   rw [if_pos hA] at hf
   exact Qbf ho (Region.noSelect_spec hs) (r.length + n) listed a w hcl (Region.free_spec ho hf) hr' hy (seg hs r _ _ _ (hcl.set hr') hrest hq hk)
  by_cases hA : isA o.op = true
  ·by_cases hw : Region.wanted o (yielded ops a.tmps) = true
   ·rw [if_pos hw] at h
    rcases h with ⟨_, v, hv, hq⟩ | ⟨hn, _⟩
    ·exact first v hA (.inl ⟨hw, hv⟩) hq
    ·rw [hn] at hA; cases hA
   ·rw [if_neg hw] at h
    exact first undef hA (.inr ⟨by simpa using hw, rfl⟩) h
  ·rw [if_neg hA] at hf
   refine ⟨fun h0 => (by rw [h0] at hr'; cases hr'), fun j hj => ?_⟩
   have hji : j = i := by
    have := List.all_eq_true.1 hf j hj
    simpa using this
   subst hji
   unfold opE
   simp only [ho]
   split
   ·rename_i hw
    rw [if_pos hw] at h
    rcases h with ⟨h1, _⟩ | ⟨_, hq⟩
    ·exact absurd h1 hA
    ·exact Zv (fun a' w' hh => ⟨hh.2.1 rfl, seg hs r _ _ _ (hcl.set hr') hrest hh.2.2 hk⟩) hq
   ·rename_i hw
    rw [if_neg hw] at h
    exact ⟨fun _ => Ext.refl w, seg hs r _ _ _ (hcl.set hr') hrest h hk⟩
theorem seg1 {Q Q' : Act → World → Prop} {n : Nat} (hs : Region.noSelect ops = true) {i : Nat} {r : List Nat} {listed : Array Bool} {a : Act} {w : World} (hcl : Closed ops listed) (hr' : i ∈ Region.ready .any ops listed) (hB : okSeg ops r (listed.setIfInBounds i true) = true) (h : RL P ops true Q' (i :: r) a w)
  (hk : ∀ a w, Closed ops (aft (i :: r) listed) → Q' a w → wpE P ops Q n (aft (i :: r) listed) a w) : opE P ops i (fun a' w' => (isTail ops i = false → Ext w w') ∧ wpE P ops Q (r.length + n) (listed.setIfInBounds i true) a' w') a w := by
 obtain ⟨o, ho, h⟩ := h
 by_cases hw : Region.wanted o (yielded ops a.tmps) = true
 ·rw [if_pos hw] at h
  rcases h with ⟨hA, v, hv, hq⟩ | ⟨_, hq⟩
  ·exact YieldsE.opE ho (.inl ⟨hw, hv⟩) ⟨fun _ => Ext.refl w, seg hs r _ _ _ (hcl.set hr') hB hq hk⟩
  ·unfold opE
   simp only [ho]
   rw [if_pos hw]
   exact Zv (fun a' w' hh => ⟨hh.2.1 rfl, seg hs r _ _ _ (hcl.set hr') hB hh.2.2 hk⟩) hq
 ·rw [if_neg hw] at h
  unfold opE
  simp only [ho]
  rw [if_neg hw]
  exact ⟨fun _ => Ext.refl w, seg hs r _ _ _ (hcl.set hr') hB h hk⟩
theorem Tr.len_pos : ∀ {t : Tr} {l : Array Bool}, okT ops true t l = true → ∃ m, t.len = m + 1
 | .leaf [], l, h => by simp [okT, okSeg1] at h
 | .leaf (i :: r), l, h => ⟨r.length, by simp [Tr.len]⟩
 | .br [] t1 t2, l, h => by simp [okT, okSeg1] at h
 | .br (i :: r) t1 t2, l, h => ⟨r.length + t1.len, by simp [Tr.len]; omega⟩
def FstOk (P : Program) (ops : Array Oper) (Q : Act → World → Prop) (t : Tr) : Prop := ∀ (l : Array Bool) (a : Act) (w : World) (i m : Nat), Closed ops l → i ∈ Region.ready .any ops l → okT ops true t l = true → t.head = some i → t.len = m + 1 → RTr P ops Q t a w →
 opE P ops i (fun a' w' => (isTail ops i = false → Ext w w') ∧ wpE P ops Q m (l.setIfInBounds i true) a' w') a w
theorem choice {Q : Act → World → Prop} {t1 t2 : Tr} (h1 : FstOk P ops Q t1) (h2 : FstOk P ops Q t2) {l : Array Bool} (hcl : Closed ops l) (hC : okC ops t1 t2 l = true) (o1 : okT ops true t1 l = true) (o2 : okT ops true t2 l = true) {a : Act} {w : World} (hR : RTr P ops Q t1 a w ∧ RTr P ops Q t2 a w) :
  wpE P ops Q t1.len l a w := by
 simp only [okC, Bool.and_eq_true, beq_iff_eq, Bool.not_eq_true', List.all_eq_true, Bool.or_eq_true] at hC
 obtain ⟨⟨hl, hne⟩, hall⟩ := hC
 obtain ⟨m, hm⟩ := Tr.len_pos o1
 rw [hm]
 refine ⟨fun h0 => (by rw [h0] at hne; simp at hne), fun j hj => ?_⟩
 rcases hall j hj with e | e
 ·exact h1 l a w j m hcl hj o1 e.symm hm hR.1
 ·exact h2 l a w j m hcl hj o2 e.symm (by rw [← hl, hm]) hR.2
theorem fstOk {Q : Act → World → Prop} (hs : Region.noSelect ops = true) : ∀ t : Tr, FstOk P ops Q t
 | .leaf [], l, a, w, i, m, _, _, ho, _, _, _ => by simp [okT, okSeg1] at ho
 | .leaf (i :: r), l, a, w, i', m, hcl, hrd, ho, hi, hm, hR => by
  cases hi
  simp only [okT, okSeg1, Bool.and_eq_true] at ho
  have e : m = r.length + 0 := by simp [Tr.len] at hm; omega
  subst e
  exact seg1 hs hcl hrd ho.1 hR (fun a w hcl' hq => ⟨by simpa using ho.2, hq⟩)
 | .br [] t1 t2, l, a, w, i, m, _, _, ho, _, _, _ => by simp [okT, okSeg1] at ho
 | .br (i :: r) t1 t2, l, a, w, i', m, hcl, hrd, ho, hi, hm, hR => by
  cases hi
  simp only [okT, okSeg1, Bool.and_eq_true] at ho
  have e : m = r.length + t1.len := by simp [Tr.len] at hm; omega
  subst e
  exact seg1 hs hcl hrd ho.1 hR (fun a w hcl' hq => choice (fstOk hs t1) (fstOk hs t2) hcl' ho.2.1 ho.2.2.1 ho.2.2.2 hq)
theorem wpE_tree {Q : Act → World → Prop} (hs : Region.noSelect ops = true) : ∀ (t : Tr) (l : Array Bool) (a : Act) (w : World), Closed ops l → okT ops false t l = true → RTr P ops Q t a w → wpE P ops Q t.len l a w
 | .leaf π, l, a, w, hcl, ho, hR => by
  simp only [okT, Bool.and_eq_true] at ho
  exact seg (n := 0) hs π l a w hcl ho.1 hR (fun a w _ hq => ⟨by simpa using ho.2, hq⟩)
 | .br π t1 t2, l, a, w, hcl, ho, hR => by
  simp only [okT, Bool.and_eq_true] at ho
  exact seg (n := t1.len) hs π l a w hcl ho.1 hR (fun a w hcl' hq => choice (fstOk hs t1) (fstOk hs t2) hcl' ho.2.1 ho.2.2.1 ho.2.2.2 hq)
end
def okOrdT (ops : Array Oper) (t : Tr) : Bool := t.len == ops.size && (Region.noSelect ops && okT ops false t (Array.replicate ops.size false))
section
variable {P : Program} {N : Nat} {l : Env} {w : World} {ops : Array Oper}
def WT (P : Program) (N : Nat) (ops : Array Oper) (Q : Act → World → Prop) (t : Tr) (l : Env) (w : World) : Prop := ∀ a, At N a l → RTr P ops Q t a w
theorem Ka {Q : Exit → Act → World → Prop} {id : Nat} (hm : P.follows .mixedOrders = true) (t : Tr) (hB : okOrdT ops t = true) (h : ∀ w', Ext w w' → w' = w.drew → WT P N ops (Q .normal) t l w') : WC P N (.region id ops true) Q l w := by
 intro a ha
 simp only [okOrdT, Bool.and_eq_true, beq_iff_eq] at hB
 refine wp_region_any hm ?_
 have := wpE_tree (P := P) (Q := Q .normal) hB.2.1 t (Array.replicate ops.size false) a w.drew Closed.none hB.2.2 (h w.drew (Ext.drew w) rfl a ha)
 rw [hB.1] at this
 exact Jd (fun _ _ h => h) _ _ _ _ this
theorem Jf {Q : Act → World → Prop} {π : List Nat} (h : WR P N ops true Q π l w) : WT P N ops Q (.leaf π) l w := h
theorem Qc7 {Q : Act → World → Prop} {π : List Nat} {t1 t2 : Tr} (h : WR P N ops true (fun a w => RTr P ops Q t1 a w ∧ RTr P ops Q t2 a w) π l w) : WT P N ops Q (.br π t1 t2) l w := h
theorem Qc8 {Q : Act → World → Prop} {t1 t2 : Tr} (h1 : WT P N ops Q t1 l w) (h2 : WT P N ops Q t2 l w) : WR P N ops true (fun a w => RTr P ops Q t1 a w ∧ RTr P ops Q t2 a w) [] l w := fun a ha => ⟨h1 a ha, h2 a ha⟩
end
end Go.Sx
namespace Go.Sx
open Go Go.RowKit Go.Pl
theorem Addr.add_add' (a : Addr) (m n : Nat) : (a.add m).add n = a.add (m + n) := by
 unfold Addr.add
 by_cases hm : m = 0
 ·subst hm; simp
 ·by_cases hn : n = 0
  ·subst hn; simp
  ·simp [hm, hn]; omega
def slv (v : Value) (lo hi : Int) : Value := match v with
 | .slice a _ c => sliced a lo.toNat hi.toNat c 1
 | v => v
theorem Sl.slv {w : World} {v : Value} {xs : List Value} (h : Sl w v xs) {lo hi : Int} (h0 : 0 ≤ lo) (h1 : lo ≤ hi) (h2 : hi ≤ xs.length) : Sl w (slv v lo hi) ((xs.drop lo.toNat).take (hi - lo).toNat) := by
 obtain ⟨⟨a, c, rfl, hc, hx⟩, hl⟩ := h
 have hlen : ((xs.drop lo.toNat).take (hi - lo).toNat).length = hi.toNat - lo.toNat := by simp; omega
 refine ⟨⟨_, c - lo.toNat, by rw [hlen]; rfl, by rw [hlen]; omega, fun hp => ?_⟩, by rw [hlen]; omega⟩
 rw [hlen] at hp
 obtain ⟨ad, rfl, hcell⟩ := hx (by omega)
 refine ⟨ad.add lo.toNat, by rw [if_neg (by omega)]; simp, fun j u hu => ?_⟩
 rw [Addr.add_add']
 rw [List.getElem?_take] at hu
 split at hu
 ·rw [List.getElem?_drop] at hu
  exact hcell _ _ hu
 ·cases hu
theorem Ints.slv {w : World} {v : Value} {zs : List Int} (h : Ints w v zs) {lo hi : Int} (h0 : 0 ≤ lo) (h1 : lo ≤ hi) (h2 : hi ≤ zs.length) : Ints w (slv v lo hi) ((zs.drop lo.toNat).take (hi - lo).toNat) := by
 have := Sl.slv h h0 h1 (by simpa using h2)
 unfold Ints
 rw [List.map_take, List.map_drop]
 exact this
section
variable {P : Program} {N : Nat} {l : Env} {w : World} {ops : Array Oper} {dr : Bool} {Q : Act → World → Prop} {π : List Nat} {i d : Nat} {v : Value} {op : Op} {ty : TypeId} {pos : String} {after : Array Edge} {g : Option (Nat × Bool)}
variable {x y z c p : Operand} {u lo hi : Int} {T T' : TypeId}
theorem XJ {T E : TypeId} (h : P.underlying T = some (.slice E)) : P.elem T = E := by simp [Program.elem, h]
theorem slH {w0 : World} {xs : List Value} {E : TypeId} {zv : Value} {b : Nat} (hx : ev l x = some v) (hz : ev l z = some (.int .i64 hi)) (hT : SlT P T E zv 1 b) (hs : Sl w0 v xs)
  (h1 : 0 ≤ hi := by omega) (h2 : hi ≤ xs.length := by omega) : Yl P N (.slice T x none (some z) none) ty l w (slv v 0 hi) := fun a ha w' _ o ho _ => by
 obtain ⟨⟨ad, cc, rfl, hc, _⟩, _⟩ := hs
 obtain ⟨j, hj, _, hj2, _⟩ := Jb hT
 have hu : P.underlying T = some (.slice (P.elem T)) := by rw [XJ hT.und]; exact hT.und
 simp [execOp, ho, ha.eval hx, ha.eval hz, run_sliceAt_slice w' T _ _ _ _ hu, run_slice_h w' T ad xs.length cc hu .i64 hi h1 (by omega), XJ hT.und, sizeOf, typeInfo, hj, hj2, slv]
theorem slL {w0 : World} {xs : List Value} {E : TypeId} {zv : Value} {b : Nat} (hx : ev l x = some v) (hy : ev l y = some (.int .i64 lo)) (hT : SlT P T E zv 1 b) (hs : Sl w0 v xs)
  (h0 : 0 ≤ lo := by omega) (h1 : lo ≤ xs.length := by omega) : Yl P N (.slice T x (some y) none none) ty l w (slv v lo xs.length) := fun a ha w' _ o ho _ => by
 obtain ⟨⟨ad, cc, rfl, hc, _⟩, _⟩ := hs
 obtain ⟨j, hj, _, hj2, _⟩ := Jb hT
 have hu : P.underlying T = some (.slice (P.elem T)) := by rw [XJ hT.und]; exact hT.und
 simp [execOp, ho, ha.eval hx, ha.eval hy, run_sliceAt_slice w' T _ _ _ _ hu, run_slice_l w' T ad xs.length cc hu .i64 lo h0 h1, XJ hT.und, sizeOf, typeInfo, hj, hj2, slv]
end
section
variable {P : Program}
theorem Own.setCell {B : Nat} {w : World} {gb cap : Nat} {E : TypeId} {xs : List Value} (h : Own B w (.slice (some ⟨gb, 0, none⟩) xs.length cap) E xs) {k : Nat} (_ : k < xs.length) (u : Value) :
  Own B (w.setCell ⟨gb, k, none⟩ u) (.slice (some ⟨gb, 0, none⟩) xs.length cap) E (xs.set k u) ∧ w.grownBy (w.setCell ⟨gb, k, none⟩ u) (some gb) := by
 have hst := h.row.stored k u
 refine ⟨⟨?_, by simpa using h.le⟩, ⟨rfl, rfl, rfl, by simp, fun j _ hne => Below.heap_setCell _ _ _ _ (fun e => hne (by rw [e]))⟩⟩
 simpa using hst.1
theorem Own.setCells {B : Nat} {gb cap : Nat} {E : TypeId} : ∀ (vs : List Value) (w : World) (xs : List Value) (o : Nat), Own B w (.slice (some ⟨gb, 0, none⟩) xs.length cap) E xs → o + vs.length ≤ xs.length →
  Own B (w.setCells gb o vs) (.slice (some ⟨gb, 0, none⟩) xs.length cap) E (putAt xs o vs) ∧ w.grownBy (w.setCells gb o vs) (some gb)
 | [], w, xs, o, h, hl => ⟨by simpa [World.setCells, putAt] using h, World.grownBy.refl w _⟩
 | v :: vs, w, xs, o, h, hl => by
  simp only [List.length_cons] at hl
  obtain ⟨h1, h2⟩ := Own.setCell h (k := o) (by omega) v
  have h1' : Own B (w.setCell ⟨gb, o, none⟩ v) (.slice (some ⟨gb, 0, none⟩) (xs.set o v).length cap) E (xs.set o v) := by simpa using h1
  obtain ⟨h3, h4⟩ := Own.setCells vs _ (xs.set o v) (o + 1) h1' (by simp; omega)
  refine ⟨?_, h2.trans h4⟩
  have e : putAt (xs.set o v) (o + 1) vs = putAt xs o (v :: vs) := by
   simp only [putAt, List.length_cons]
   apply List.ext_getElem?
   intro j
   simp only [List.getElem?_append, List.length_take, List.length_set, List.length_append, List.length_cons, List.getElem?_take, List.getElem?_drop, List.getElem?_set, List.getElem?_cons]
   repeat' split
   all_goals (try omega)
   all_goals (first | rfl | (congr 1; omega) | simp_all | (exfalso; omega) | skip)
   all_goals (try omega)
  rw [e] at h3
  simpa [World.setCells] using h3
end
section
variable {P : Program} {N : Nat} {l : Env} {w : World} {ops : Array Oper} {dr : Bool} {Q : Act → World → Prop} {π : List Nat} {i d : Nat} {v : Value} {op : Op} {ty : TypeId} {pos : String} {after : Array Edge} {g : Option (Nat × Bool)}
variable {x y c p : Operand} {u lo hi : Int} {T T' : TypeId}
theorem CP {v0 v1 : Value} {B b : Nat} {E : TypeId} {zv : Value} {xs ys : List Value} {w0 : World} (hi' : ops[i]? = some ⟨some d, .call ⟨.builtin .copy, #[x, y], #[T, T']⟩, ty, pos, after, g⟩) (hw : Wt ops N l g) (hd : Nat.blt d N = true) (hx : ev l x = some (slv v0 lo hi)) (hy : ev l y = some v1)
  (hT : SlT P T E zv 1 b) (ho : Own B w v0 E xs) (hs : Sl w0 v1 ys) (hE : Ext w0 w) (h1c : ∀ u ∈ ys, u.oneCell' = true) (htl : dr = true → isTail ops i = true)
  (h : ∀ w', w.grownBy w' v0.ownBlock → Own B w' v0 E (putAt xs lo.toNat (ys.take (hi - lo).toNat)) → WR P N ops dr Q π ((d, .int .i64 (min ys.length (hi - lo).toNat : Nat)) :: l) w')
  (h0 : 0 ≤ lo := by omega) (h1 : lo ≤ hi := by omega) (h2 : hi ≤ xs.length := by omega) : WR P N ops dr Q (i :: π) l w := by
 obtain ⟨j, hj, _, hj2, _⟩ := Jb hT
 have hs' := hs.ext hE
 obtain ⟨⟨a1, c1, rfl, hc1, hx1⟩, _⟩ := hs'
 have hsz : (P.info? E).map (·.size) = some 1 := by simp [hj, hj2]
 have ex : ∃ a0 n0 c0, v0 = .slice a0 n0 c0 := by
  rcases ho.row.2 with ⟨rfl, _⟩ | ⟨g, cap, cur, rfl, _⟩
  ·exact ⟨_, _, _, rfl⟩
  ·exact ⟨_, _, _, rfl⟩
 by_cases hz : Nat.min ys.length (hi - lo).toNat = 0
 ·obtain ⟨a0, n0, c0, rfl⟩ := ex
  have hr := run_copy_none (P := P) w T T' ty E (if c0 = lo.toNat then a0 else a0.map (·.add (lo.toNat * 1))) a1 (hi.toNat - lo.toNat) (c0 - lo.toNat) ys.length c1 hT.und hsz (by rw [show hi.toNat - lo.toNat = (hi - lo).toNat by omega]; exact hz)
  refine F (v := goInt 0) (w' := w) hi' hw rfl hd (fun a ha => ?_) (fun _ _ => Ext.refl _) ?_
  ·simp [execOp, resolve, invoke, builtin, ha.eval hx, ha.eval hy, slv, sliced] at hr ⊢
   simp [hr]
  ·have ht : ys.take (hi - lo).toNat = [] := by
    apply List.eq_nil_of_length_eq_zero
    rw [List.length_take, Nat.min_comm]
    exact hz
   have := h w (World.grownBy.refl w _) (by rw [ht]; simpa [putAt] using ho)
   have e : (min ys.length (hi - lo).toNat : Nat) = 0 := hz
   rw [e] at this
   exact this
 ·have hpos : 0 < ys.length ∧ 0 < (hi - lo).toNat := by
   constructor
   ·rcases Nat.eq_zero_or_pos ys.length with h | h
    ·rw [h] at hz; simp at hz
    ·exact h
   ·rcases Nat.eq_zero_or_pos (hi - lo).toNat with h | h
    ·rw [h] at hz; simp at hz
    ·exact h
  obtain ⟨ad, rfl, hcell⟩ := hx1 hpos.1
  rcases ho.row.2 with ⟨_, hn⟩ | ⟨gb, cap, cur, rfl, hB, hg, hnc, hcm, hcs, htake⟩
  ·omega
  ·have hlt : lo.toNat < xs.length := by omega
   have hcc : ¬ cap = lo.toNat := by omega
   have hadd : (⟨gb, 0, none⟩ : Addr).add lo.toNat = ⟨gb, lo.toNat, none⟩ := by rw [Addr.add_lit]; simp
   have hkl : (ys.take (hi - lo).toNat).length = Nat.min ys.length (hi.toNat - lo.toNat) := by rw [List.length_take, Nat.min_comm, show hi.toNat - lo.toNat = (hi - lo).toNat by omega]
   have hkle : (ys.take (hi - lo).toNat).length ≤ (hi - lo).toNat := by rw [List.length_take]; exact Nat.min_le_left _ _
   have hcs' : ∀ j (hj : j < (ys.take (hi - lo).toNat).length), w.cell? ⟨gb, lo.toNat + j, none⟩ = some (xs[lo.toNat + j]'(by have := Nat.lt_of_lt_of_le hj hkle; omega)) := fun j hj => by
    have := Nat.lt_of_lt_of_le hj hkle
    rw [ho.row.cellAt (lo.toNat + j) (by omega)]
    rw [List.getElem?_eq_getElem (by omega)]
   have hr := run_copy_cells (P := P) w T T' ty E gb lo.toNat (hi.toNat - lo.toNat) (cap - lo.toNat) ad ys.length c1 (ys.take (hi - lo).toNat) hT.und hsz hkl
    (fun j v hv => hcell j v (by rw [List.getElem?_take] at hv; split at hv; exact hv; cases hv)) (fun j hj => by rw [hcs' j hj]; rfl) (fun j hj => ho.row.frozenAt _) (fun u hu => h1c u (List.mem_of_mem_take hu))
   obtain ⟨k1, k2⟩ := Own.setCells (ys.take (hi - lo).toNat) w xs lo.toNat ho (by omega)
   refine F (v := goInt (ys.take (hi - lo).toNat).length) (w' := w.setCells gb lo.toNat (ys.take (hi - lo).toNat)) hi' hw rfl hd (fun a ha => ?_) (fun hd ht => by rw [htl hd] at ht; cases ht) ?_
   ·simp [execOp, resolve, invoke, builtin, ha.eval hx, ha.eval hy, slv, sliced, hcc, hadd] at hr ⊢
    simp [hr]
   ·have := h _ k2 k1
    have e : (min ys.length (hi - lo).toNat : Nat) = (ys.take (hi - lo).toNat).length := by rw [List.length_take, Nat.min_comm]
    rw [e] at this
    exact this
end
end Go.Sx
namespace Go.Proofs.YtcfbigmjjpknfaaGreatDoor
open Go Go.Sx Go.Pl Go.RowKit
theorem QK : Tryz.prog.follows .mixedOrders = true := by kernel_rfl
theorem QA : SlT Tryz.prog 22 3 (.int .i64 0) 1 8 := ⟨by kernel_rfl, by kernel_rfl⟩
theorem na3 : NA Tryz.prog 3 := fun w => Tryz.isAgg3 w
theorem sz3 : ∃ j, Tryz.prog.info? 3 = some j ∧ j.size = 1 := ⟨Tryz.t3, by kernel_rfl, by kernel_rfl⟩
end Go.Proofs.YtcfbigmjjpknfaaGreatDoor
