/-
  The walking framework, part 7: slice expressions, copy into the call's own slice, the fields of structs.
-/
import Derived.Test.YtlcokneidokfnaaSxTree
import Derived.Laws.Slices
import Derived.Laws.IdiomCopy
namespace Go.Sx
open Go Go.RowKit Go.Pl

theorem Addr.add_add' (a : Addr) (m n : Nat) : (a.add m).add n = a.add (m + n) := by
  unfold Addr.add
  by_cases hm : m = 0
  · subst hm; simp
  · by_cases hn : n = 0
    · subst hn; simp
    · simp [hm, hn]; omega
/-- A part of a slice. -/
def slv (v : Value) (lo hi : Int) : Value := match v with
  | .slice a _ c => sliced a lo.toNat hi.toNat c 1
  | v => v
theorem Sl.slv {w : World} {v : Value} {xs : List Value} (h : Sl w v xs) {lo hi : Int} (h0 : 0 ≤ lo) (h1 : lo ≤ hi) (h2 : hi ≤ xs.length) : Sl w (slv v lo hi) ((xs.drop lo.toNat).take (hi - lo).toNat) := by
  obtain ⟨⟨a, c, rfl, hc, hx⟩, hl⟩ := h
  have hlen : ((xs.drop lo.toNat).take (hi - lo).toNat).length = hi.toNat - lo.toNat := by simp; omega
  refine ⟨⟨_, c - lo.toNat, by rw [hlen]; rfl, by rw [hlen]; omega, fun hp => ?_⟩, by rw [hlen]; omega⟩
  rw [hlen] at hp
  obtain ⟨ad, rfl, hcell⟩ := hx (by omega)
  refine ⟨ad.add lo.toNat, by rw [if_neg (by omega)]; simp, fun j u hu => ?_⟩
  rw [Addr.add_add']
  rw [List.getElem?_take] at hu
  split at hu
  · rw [List.getElem?_drop] at hu
    exact hcell _ _ hu
  · cases hu
theorem Ints.slv {w : World} {v : Value} {zs : List Int} (h : Ints w v zs) {lo hi : Int} (h0 : 0 ≤ lo) (h1 : lo ≤ hi) (h2 : hi ≤ zs.length) : Ints w (slv v lo hi) ((zs.drop lo.toNat).take (hi - lo).toNat) := by
  have := Sl.slv h h0 h1 (by simpa using h2)
  unfold Ints
  rw [List.map_take, List.map_drop]
  exact this
section
variable {P : Program} {N : Nat} {l : Env} {w : World} {ops : Array Oper} {dr : Bool} {Q : Act → World → Prop} {π : List Nat} {i d : Nat} {v : Value} {op : Op} {ty : TypeId} {pos : String} {after : Array Edge} {g : Option (Nat × Bool)}
variable {x y z c p : Operand} {u lo hi : Int} {T T' : TypeId}
theorem elem_of {T E : TypeId} (h : P.underlying T = some (.slice E)) : P.elem T = E := by simp [Program.elem, h]
theorem slHL {w0 : World} {xs : List Value} {E : TypeId} {zv : Value} {b : Nat} (hx : ev l x = some v) (hy : ev l y = some (.int .i64 lo)) (hz : ev l z = some (.int .i64 hi)) (hT : SlT P T E zv 1 b) (hs : Sl w0 v xs)
    (h0 : 0 ≤ lo := by omega) (h1 : lo ≤ hi := by omega) (h2 : hi ≤ xs.length := by omega) : Yl P N (.slice T x (some y) (some z) none) ty l w (slv v lo hi) := fun a ha w' _ o ho _ => by
  obtain ⟨⟨ad, cc, rfl, hc, _⟩, _⟩ := hs
  obtain ⟨j, hj, _, hj2, _⟩ := info_of hT
  have hu : P.underlying T = some (.slice (P.elem T)) := by rw [elem_of hT.und]; exact hT.und
  simp [execOp, ho, ha.eval hx, ha.eval hy, ha.eval hz, run_sliceAt_slice w' T _ _ _ _ hu, run_slice_lh w' T ad xs.length cc hu .i64 .i64 lo hi h0 h1 (by omega), elem_of hT.und, sizeOf, typeInfo, hj, hj2, slv]
theorem slH {w0 : World} {xs : List Value} {E : TypeId} {zv : Value} {b : Nat} (hx : ev l x = some v) (hz : ev l z = some (.int .i64 hi)) (hT : SlT P T E zv 1 b) (hs : Sl w0 v xs)
    (h1 : 0 ≤ hi := by omega) (h2 : hi ≤ xs.length := by omega) : Yl P N (.slice T x none (some z) none) ty l w (slv v 0 hi) := fun a ha w' _ o ho _ => by
  obtain ⟨⟨ad, cc, rfl, hc, _⟩, _⟩ := hs
  obtain ⟨j, hj, _, hj2, _⟩ := info_of hT
  have hu : P.underlying T = some (.slice (P.elem T)) := by rw [elem_of hT.und]; exact hT.und
  simp [execOp, ho, ha.eval hx, ha.eval hz, run_sliceAt_slice w' T _ _ _ _ hu, run_slice_h w' T ad xs.length cc hu .i64 hi h1 (by omega), elem_of hT.und, sizeOf, typeInfo, hj, hj2, slv]
theorem slL {w0 : World} {xs : List Value} {E : TypeId} {zv : Value} {b : Nat} (hx : ev l x = some v) (hy : ev l y = some (.int .i64 lo)) (hT : SlT P T E zv 1 b) (hs : Sl w0 v xs)
    (h0 : 0 ≤ lo := by omega) (h1 : lo ≤ xs.length := by omega) : Yl P N (.slice T x (some y) none none) ty l w (slv v lo xs.length) := fun a ha w' _ o ho _ => by
  obtain ⟨⟨ad, cc, rfl, hc, _⟩, _⟩ := hs
  obtain ⟨j, hj, _, hj2, _⟩ := info_of hT
  have hu : P.underlying T = some (.slice (P.elem T)) := by rw [elem_of hT.und]; exact hT.und
  simp [execOp, ho, ha.eval hx, ha.eval hy, run_sliceAt_slice w' T _ _ _ _ hu, run_slice_l w' T ad xs.length cc hu .i64 lo h0 h1, elem_of hT.und, sizeOf, typeInfo, hj, hj2, slv]
end

section
variable {P : Program}
/-- Cells of the call's own slice are set one by one. -/
theorem Own.setCell {B : Nat} {w : World} {gb cap : Nat} {E : TypeId} {xs : List Value} (h : Own B w (.slice (some ⟨gb, 0, none⟩) xs.length cap) E xs) {k : Nat} (hk : k < xs.length) (u : Value) :
    Own B (w.setCell ⟨gb, k, none⟩ u) (.slice (some ⟨gb, 0, none⟩) xs.length cap) E (xs.set k u) ∧ w.grownBy (w.setCell ⟨gb, k, none⟩ u) (some gb) := by
  have hst := h.row.stored k u
  refine ⟨⟨?_, by simpa using h.le⟩, ⟨rfl, rfl, rfl, by simp, fun j _ hne => Below.heap_setCell _ _ _ _ (fun e => hne (by rw [e]))⟩⟩
  simpa using hst.1
theorem Own.setCells {B : Nat} {gb cap : Nat} {E : TypeId} : ∀ (vs : List Value) (w : World) (xs : List Value) (o : Nat), Own B w (.slice (some ⟨gb, 0, none⟩) xs.length cap) E xs → o + vs.length ≤ xs.length →
    Own B (w.setCells gb o vs) (.slice (some ⟨gb, 0, none⟩) xs.length cap) E (putAt xs o vs) ∧ w.grownBy (w.setCells gb o vs) (some gb)
  | [], w, xs, o, h, hl => ⟨by simpa [World.setCells, putAt] using h, World.grownBy.refl w _⟩
  | v :: vs, w, xs, o, h, hl => by
    simp only [List.length_cons] at hl
    obtain ⟨h1, h2⟩ := Own.setCell h (k := o) (by omega) v
    have h1' : Own B (w.setCell ⟨gb, o, none⟩ v) (.slice (some ⟨gb, 0, none⟩) (xs.set o v).length cap) E (xs.set o v) := by simpa using h1
    obtain ⟨h3, h4⟩ := Own.setCells vs _ (xs.set o v) (o + 1) h1' (by simp; omega)
    refine ⟨?_, h2.trans h4⟩
    have e : putAt (xs.set o v) (o + 1) vs = putAt xs o (v :: vs) := by
      simp only [putAt, List.length_cons]
      apply List.ext_getElem?
      intro j
      simp only [List.getElem?_append, List.length_take, List.length_set, List.length_append, List.length_cons, List.getElem?_take, List.getElem?_drop, List.getElem?_set, List.getElem?_cons]
      repeat' split
      all_goals (try omega)
      all_goals (first | rfl | (congr 1; omega) | simp_all | (exfalso; omega) | skip)
      all_goals (try omega)
    rw [e] at h3
    simpa [World.setCells] using h3
end
section
variable {P : Program} {N : Nat} {l : Env} {w : World} {ops : Array Oper} {dr : Bool} {Q : Act → World → Prop} {π : List Nat} {i d : Nat} {v : Value} {op : Op} {ty : TypeId} {pos : String} {after : Array Edge} {g : Option (Nat × Bool)}
variable {x y c p : Operand} {u lo hi : Int} {T T' : TypeId}
/-- copy into a part of the call's own slice. -/
theorem CP {v0 v1 : Value} {B b : Nat} {E : TypeId} {zv : Value} {xs ys : List Value} {w0 : World} (hi' : ops[i]? = some ⟨some d, .call ⟨.builtin .copy, #[x, y], #[T, T']⟩, ty, pos, after, g⟩) (hw : Wt ops N l g) (hd : Nat.blt d N = true) (hx : ev l x = some (slv v0 lo hi)) (hy : ev l y = some v1)
    (hT : SlT P T E zv 1 b) (ho : Own B w v0 E xs) (hs : Sl w0 v1 ys) (hE : Ext w0 w) (h1c : ∀ u ∈ ys, u.oneCell' = true) (htl : dr = true → isTail ops i = true)
    (h : ∀ w', w.grownBy w' v0.ownBlock → Own B w' v0 E (putAt xs lo.toNat (ys.take (hi - lo).toNat)) → WR P N ops dr Q π ((d, .int .i64 (min ys.length (hi - lo).toNat : Nat)) :: l) w')
    (h0 : 0 ≤ lo := by omega) (h1 : lo ≤ hi := by omega) (h2 : hi ≤ xs.length := by omega) : WR P N ops dr Q (i :: π) l w := by
  obtain ⟨j, hj, _, hj2, _⟩ := info_of hT
  have hs' := hs.ext hE
  obtain ⟨⟨a1, c1, rfl, hc1, hx1⟩, _⟩ := hs'
  have hsz : (P.info? E).map (·.size) = some 1 := by simp [hj, hj2]
  have ex : ∃ a0 n0 c0, v0 = .slice a0 n0 c0 := by
    rcases ho.row.2 with ⟨rfl, _⟩ | ⟨g, cap, cur, rfl, _⟩
    · exact ⟨_, _, _, rfl⟩
    · exact ⟨_, _, _, rfl⟩
  by_cases hz : Nat.min ys.length (hi - lo).toNat = 0
  · obtain ⟨a0, n0, c0, rfl⟩ := ex
    have hr := run_copy_none (P := P) w T T' ty E (if c0 = lo.toNat then a0 else a0.map (·.add (lo.toNat * 1))) a1 (hi.toNat - lo.toNat) (c0 - lo.toNat) ys.length c1 hT.und hsz (by rw [show hi.toNat - lo.toNat = (hi - lo).toNat by omega]; exact hz)
    refine F (v := goInt 0) (w' := w) hi' hw rfl hd (fun a ha => ?_) (fun _ _ => Ext.refl _) ?_
    · simp [execOp, resolve, invoke, builtin, ha.eval hx, ha.eval hy, slv, sliced] at hr ⊢
      simp [hr]
    · have ht : ys.take (hi - lo).toNat = [] := by
        apply List.eq_nil_of_length_eq_zero
        rw [List.length_take, Nat.min_comm]
        exact hz
      have := h w (World.grownBy.refl w _) (by rw [ht]; simpa [putAt] using ho)
      have e : (min ys.length (hi - lo).toNat : Nat) = 0 := hz
      rw [e] at this
      exact this
  · have hpos : 0 < ys.length ∧ 0 < (hi - lo).toNat := by
      constructor
      · rcases Nat.eq_zero_or_pos ys.length with h | h
        · rw [h] at hz; simp at hz
        · exact h
      · rcases Nat.eq_zero_or_pos (hi - lo).toNat with h | h
        · rw [h] at hz; simp at hz
        · exact h
    obtain ⟨ad, rfl, hcell⟩ := hx1 hpos.1
    rcases ho.row.2 with ⟨_, hn⟩ | ⟨gb, cap, cur, rfl, hB, hg, hnc, hcm, hcs, htake⟩
    · omega
    · have hlt : lo.toNat < xs.length := by omega
      have hcc : ¬ cap = lo.toNat := by omega
      have hadd : (⟨gb, 0, none⟩ : Addr).add lo.toNat = ⟨gb, lo.toNat, none⟩ := by rw [Addr.add_lit]; simp
      have hkl : (ys.take (hi - lo).toNat).length = Nat.min ys.length (hi.toNat - lo.toNat) := by rw [List.length_take, Nat.min_comm, show hi.toNat - lo.toNat = (hi - lo).toNat by omega]
      have hkle : (ys.take (hi - lo).toNat).length ≤ (hi - lo).toNat := by rw [List.length_take]; exact Nat.min_le_left _ _
      have hcs' : ∀ j (hj : j < (ys.take (hi - lo).toNat).length), w.cell? ⟨gb, lo.toNat + j, none⟩ = some (xs[lo.toNat + j]'(by have := Nat.lt_of_lt_of_le hj hkle; omega)) := fun j hj => by
        have := Nat.lt_of_lt_of_le hj hkle
        rw [ho.row.cellAt (lo.toNat + j) (by omega)]
        rw [List.getElem?_eq_getElem (by omega)]
      have hr := run_copy_cells (P := P) w T T' ty E gb lo.toNat (hi.toNat - lo.toNat) (cap - lo.toNat) ad ys.length c1 (ys.take (hi - lo).toNat) hT.und hsz hkl
        (fun j v hv => hcell j v (by rw [List.getElem?_take] at hv; split at hv; exact hv; cases hv)) (fun j hj => by rw [hcs' j hj]; rfl) (fun j hj => ho.row.frozenAt _) (fun u hu => h1c u (List.mem_of_mem_take hu))
      obtain ⟨k1, k2⟩ := Own.setCells (ys.take (hi - lo).toNat) w xs lo.toNat ho (by omega)
      refine F (v := goInt (ys.take (hi - lo).toNat).length) (w' := w.setCells gb lo.toNat (ys.take (hi - lo).toNat)) hi' hw rfl hd (fun a ha => ?_) (fun hd ht => by rw [htl hd] at ht; cases ht) ?_
      · simp [execOp, resolve, invoke, builtin, ha.eval hx, ha.eval hy, slv, sliced, hcc, hadd] at hr ⊢
        simp [hr]
      · have := h _ k2 k1
        have e : (min ys.length (hi - lo).toNat : Nat) = (ys.take (hi - lo).toNat).length := by rw [List.length_take, Nat.min_comm]
        rw [e] at this
        exact this
end
end Go.Sx
