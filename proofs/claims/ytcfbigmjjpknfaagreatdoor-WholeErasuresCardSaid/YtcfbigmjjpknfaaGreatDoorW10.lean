import Derived.Test.YtcfbigmjjpknfaaGreatDoorW09
import Derived.Test.YtcfbigmjjpknfaaGreatDoorW03
import Derived.Deep.AppendSrc
import Derived.Laws.RangeString
import Derived.Laws.Strings2
namespace Go.Sx
open Go Go.RowKit Go.Pl
def flatV (L : List (List Value)) : List Value := L.flatten
theorem ZD {s : Nat} : ∀ {L : List (List Value)}, (∀ r ∈ L, r.length = s) → L.flatten.length = L.length * s
 | [], _ => by simp
 | r :: L, h => by
  have ih := ZD (L := L) fun x hx => h x (List.mem_cons_of_mem _ hx)
  have h1 := h r (List.mem_cons_self ..)
  simp only [List.flatten_cons, List.length_append, List.length_cons, ih, h1, Nat.add_mul, Nat.one_mul, Nat.add_comm]
theorem Xs {s : Nat} : ∀ {L : List (List Value)} (u : Nat), (∀ r ∈ L, r.length = s) → u < L.length → (L.flatten.drop (u * s)).take s = L.getD u []
 | [], _, _, h => absurd h (by simp)
 | r :: L, 0, h, _ => by
  have h1 := h r (List.mem_cons_self ..)
  rw [List.flatten_cons, Nat.zero_mul, List.drop_zero, List.take_append_of_le_length (by omega), ← h1, List.take_length]
  rfl
 | r :: L, u + 1, h, hu => by
  have h1 := h r (List.mem_cons_self ..)
  have ih := Xs (L := L) u (fun x hx => h x (List.mem_cons_of_mem _ hx)) (by simpa using hu)
  have e : (r ++ L.flatten).drop s = L.flatten := by rw [← h1, List.drop_left]
  rw [List.flatten_cons, Nat.add_mul, Nat.one_mul, Nat.add_comm (u * s) s, ← List.drop_drop, e, ih]
  rfl
structure RowsV (w : World) (v : Value) (s : Nat) (L : List (List Value)) : Prop where
 ex : ∃ a c, v = .slice a L.length c ∧ L.length ≤ c ∧ (0 < L.length → ∃ ad, a = some ad ∧ ∀ j u, (flatV L)[j]? = some u → w.cell? (ad.add j) = some u)
 rows : ∀ r ∈ L, r.length = s
 le : L.length ≤ 140737488355328
theorem RowsV.ext {w w' : World} {v : Value} {s : Nat} {L : List (List Value)} (h : RowsV w v s L) (hE : Ext w w') : RowsV w' v s L := by
 obtain ⟨⟨a, c, h1, h2, h3⟩, h4, h5⟩ := h
 refine ⟨⟨a, c, h1, h2, fun hp => ?_⟩, h4, h5⟩
 obtain ⟨ad, e, hc⟩ := h3 hp
 exact ⟨ad, e, fun j u hu => hE.cell (hc j u hu)⟩
theorem RowsV.nil (w : World) (s : Nat) : RowsV w (.slice none 0 0) s [] := ⟨⟨none, 0, rfl, Nat.le_refl _, fun h => absurd h (by simp)⟩, by simp, by simp⟩
structure OwnV (B : Nat) (w : World) (v : Value) (E : TypeId) (s : Nat) (L : List (List Value)) : Prop where
 row : w.ownsRow B E s v L.length (flatV L)
 rows : ∀ r ∈ L, r.length = s
 le : L.length ≤ 140737488355328
theorem OwnV.nil (B : Nat) (w : World) (E : TypeId) (s : Nat) : OwnV B w (.slice none 0 0) E s [] := ⟨World.ownsRow_nil w B E s, by simp, by simp⟩
theorem OwnV.ext {B : Nat} {w w' : World} {v : Value} {E : TypeId} {s : Nat} {L : List (List Value)} (h : OwnV B w v E s L) (hE : Ext w w') : OwnV B w' v E s L := by
 refine ⟨h.row.kept (row := none) ⟨hE.os, hE.tape, hE.output, hE.size, fun k hk _ => hE.block k hk⟩ ?_, h.rows, h.le⟩
 cases v.ownBlock <;> simp
theorem OwnV.lt {B : Nat} {w : World} {v : Value} {E : TypeId} {s : Nat} {L : List (List Value)} (h : OwnV B w v E s L) : ∀ k, v.ownBlock = some k → B ≤ k ∧ k < w.heap.size := h.row.lt
theorem OwnV.read {B : Nat} {w : World} {v : Value} {E : TypeId} {s : Nat} {L : List (List Value)} (h : OwnV B w v E s L) : RowsV w v s L := by
 obtain ⟨h1, h2, h3⟩ := h
 refine ⟨?_, h2, h3⟩
 rcases h1.2 with ⟨rfl, hn⟩ | ⟨g, cap, cur, rfl, _, hg, hnc, _⟩
 ·exact ⟨none, 0, by rw [hn], by omega, fun h => absurd h (by omega)⟩
 ·exact ⟨some ⟨g, 0, none⟩, cap, rfl, hnc, fun _ => ⟨_, rfl, h1.cells rfl⟩⟩
theorem Ext.grownV {w0 w w' : World} {v : Value} {B : Nat} {E : TypeId} {s : Nat} {L : List (List Value)} (h : Ext w0 w) (hg : w.grownBy w' v.ownBlock) (ho : OwnV B w v E s L) (hB : w0.heap.size ≤ B) : Ext w0 w' :=
 Below.grown h hg h.size (fun k hk => by have := (ho.lt k hk).1; omega)
section
variable {P : Program} {N : Nat} {l : Env} {w : World} {ops : Array Oper} {dr : Bool} {Q : Act → World → Prop} {π : List Nat} {i d : Nat} {v : Value} {op : Op} {ty : TypeId} {pos : String} {after : Array Edge} {g : Option (Nat × Bool)}
variable {x y c p : Operand} {u z : Int} {T T' E : TypeId} {s b : Nat} {zv : Value} {L : List (List Value)}
theorem QaT {w0 : World} (hx : ev l x = some v) (hT : SlT P T E zv s b) (hs : RowsV w0 v s L := by assumption) :
  Yl P N (.call ⟨.builtin .len, #[x], #[T]⟩) ty l w (.int .i64 L.length) := fun a ha w' _ o ho _ => by
 obtain ⟨⟨ad, cc, rfl, _⟩, _⟩ := hs
 simp [execOp, ho, ha.eval hx, resolve, invoke, builtin, Builtin.len_, run_underlying hT.und, goInt]
theorem KU {w0 : World} (hx : ev l x = some v) (hy : ev l y = some (.int .i64 u)) (hT : SlT P T E zv s b) (hs : RowsV w0 v s L := by assumption) (h0 : 0 ≤ u := by omega) (h1 : u < L.length := by omega) :
  Yl P N (.indexAddr T x y) ty l w (eptr v s u) := fun a ha w' _ o ho _ => by
 obtain ⟨⟨ad, cc, rfl, hc, hx'⟩, _⟩ := hs
 obtain ⟨ad, rfl, _⟩ := hx' (by omega)
 obtain ⟨j, hj, _, hj2, _⟩ := Jb hT
 simp [execOp, ho, ha.eval hx, ha.eval hy, Instr.indexAt, run_underlying hT.und, asIntOf, h0, h1, eptr, sizeOf, typeInfo, hj, hj2]
theorem ldV {w0 : World} {v0 : Value} (hp : ev l p = some (eptr v0 s u)) (hA : AG P T s) (hs : RowsV w0 v0 s L := by assumption) (hE : Ext w0 w := by first | exact Ext.refl _ | assumption) (h0 : 0 ≤ u := by omega) (h1 : u < L.length := by omega) :
  Yl P N (.load T p) ty l w (.agg (L.getD u.toNat []).toArray) := fun a ha w' hE' o ho _ => by
 replace hE' := hE'.resolve_left (by simp [isM])
 obtain ⟨⟨ad, cc, rfl, hc, hx'⟩, hr, _⟩ := hs
 obtain ⟨ad, rfl, hcell⟩ := hx' (by omega)
 have hu : u.toNat < L.length := by omega
 have hfl := ZD hr
 have hle : u.toNat * s + s ≤ L.length * s := by
  rw [← Nat.succ_mul]
  exact Nat.mul_le_mul_right _ (by omega)
 have hrow : ((flatV L).drop (u.toNat * s)).take s = L.getD u.toNat [] := by
  rw [flatV, Xs _ hr hu]
 have hcs : ∀ j v, (L.getD u.toNat [])[j]? = some v → w'.cell? ((ad.add (u.toNat * s)).add j) = some v := by
  intro j v hv
  rw [← hrow] at hv
  have hlt : j < s := by
   have := (List.getElem?_eq_some_iff.1 hv).1
   simp at this; omega
  rw [List.getElem?_take, if_pos hlt, List.getElem?_drop] at hv
  have := (hE.trans hE').cell (hcell _ _ hv)
  rw [← this, Xw]
 have hl := run_loadCells_list (P := P) w' (ad.add (u.toNat * s)) _ hcs
 have hlen : (L.getD u.toNat []).length = s := by rw [← hrow, List.length_take, List.length_drop, flatV, hfl]; omega
 rw [hlen] at hl
 simp [execOp, ho, ha.eval hp, eptr, Instr.loadAt, Instr.sureAddr, loadVar, hA.agg w', hA.size w', hl]
theorem BSV {r : List Value} (hi : ops[i]? = some ⟨some d, .buildSlice T 1 #[(0, x)], ty, pos, after, g⟩) (hw : Wt ops N l g) (hd : Nat.blt d N = true) (hx : ev l x = some (.agg r.toArray)) (hT : SlT P T E zv s b) (hr : r.length = s) (hs : 0 < s) (hsb : s ≤ 1000)
  (h : ∀ v w', Ext w w' → RowsV w' v s [r] → WR P N ops dr Q π ((d, v) :: l) w') : WR P N ops dr Q (i :: π) l w := by
 obtain ⟨j, hj, hj1, hj2, _⟩ := Jb hT
 have hfr : flatV [r] = r := by simp [flatV]
 have hown : (w.alloc (.cells r.toArray E)).ownsRow w.heap.size E s (.slice (some ⟨w.heap.size, 0, none⟩) 1 1) 1 (flatV [r]) := by
  refine ⟨by simp [hfr, hr], .inr ⟨w.heap.size, 1, r.toArray, rfl, Nat.le_refl _, heap_alloc_new w _, Nat.le_refl _, by unfold maxLen; omega, by simp [hr], ?_⟩⟩
  rw [hfr, Nat.one_mul]
  exact List.take_of_length_le (by simp [hr])
 have hro : RowsV (w.alloc (.cells r.toArray E)) (.slice (some ⟨w.heap.size, 0, none⟩) 1 1) s [r] := OwnV.read (B := w.heap.size) (E := E) ⟨hown, by simp [hr], by simp⟩
 refine F (v := .slice (some ⟨w.heap.size, 0, none⟩) 1 1) (w' := w.alloc (.cells r.toArray E)) hi hw rfl hd (fun a ha => ?_) (fun _ _ => Ext.alloc _ _) (h _ _ (Ext.alloc _ _) hro)
 have hf : ∀ cells : Array Value, cells.size = s → Instr.fill (fun i => some (i * s, s)) cells [(0, .agg r.toArray)] = some r.toArray := fun cells hc => fill_one (by simp) (by simp [hr]) hc
 have h2 : ¬ 16777216 < s := by omega
 have h3 : ¬ s = 0 := by omega
 simp [execOp, ha.eval hx, Instr.buildSlice, run_underlying hT.und, sizeOf, typeInfo, hj, hj1, hj2, newRow, zeroValue, h2, h3, hf]
theorem APV {v0 v1 : Value} {B : Nat} {r : List Value} {w0 : World} (hi : ops[i]? = some ⟨some d, .call ⟨.builtin .append, #[x, y], #[T, T]⟩, ty, pos, after, g⟩) (hw : Wt ops N l g) (hd : Nat.blt d N = true) (hx : ev l x = some v0) (hy : ev l y = some v1)
  (hT : SlT P T E zv s b) (hz : zv.cells.size = s) (hs0 : 0 < s) (htl : dr = true → isTail ops i = false → Ext w w → v0.ownBlock = none)
  (h : ∀ v w', w.grownBy w' v0.ownBlock → (∀ w0, w0.heap.size ≤ B → Ext w0 w → Ext w0 w') → OwnV B w' v E s (L ++ [r]) → (v.ownBlock = v0.ownBlock ∨ v.ownBlock = some w.heap.size) → WR P N ops dr Q π ((d, v) :: l) w')
  (ho : OwnV B w v0 E s L := by assumption) (hB : B ≤ w.heap.size := by first | exact Nat.le_refl _ | exact Ext.size (by assumption)) (h1c : ∀ u ∈ r, u.oneCell' = true) (hs : RowsV w0 v1 s [r] := by assumption) (hE : Ext w0 w := by first | exact Ext.refl _ | assumption)
  (hlen : (L.length + 1) * b ≤ 140737488355328 := by omega) (hlen1 : L.length + 1 ≤ 140737488355328 := by omega) : WR P N ops dr Q (i :: π) l w := by
 obtain ⟨j, hj, hj1, hj2, hj3⟩ := info_parts hT.inf
 obtain ⟨⟨a1, c1, rfl, hc1, hx1⟩, hr1, _⟩ := hs.ext hE
 obtain ⟨ad, rfl, hcell⟩ := hx1 (by simp)
 have hrl : r.length = s := hr1 r (by simp)
 have hfr : flatV [r] = r := by simp [flatV]
 obtain ⟨v', w', hrun, h2, h3, _, h5⟩ := run_append_own_at (P := P) w B T ty E j zv s b hT.und hj hj1 hj2 hj3 hz hs0 v0 L.length (flatV L) ho.row ad 1 c1 (flatV [r]) (by rw [hfr]; simp [hrl]) hcell (by rw [hfr]; exact h1c) (by unfold maxLen; omega) hlen hB
 have hfl : flatV L ++ flatV [r] = flatV (L ++ [r]) := by simp [flatV]
 rw [hfl] at h2
 refine F (v := v') (w' := w') hi hw rfl hd (fun a ha => ?_) (fun hdr ht => ?_) (h v' w' h3 (fun w0 hB0 hE0 => hE0.grownV h3 ho hB0) ⟨by simpa using h2, fun q hq => ?_, by simpa using hlen1⟩ h5)
 ·have e1 : [r].length = 1 := rfl
  simp [execOp, resolve, invoke, builtin, ha.eval hx, ha.eval hy, e1, hrun]
 ·rw [htl hdr ht (Ext.refl _)] at h3
  exact Ext.of_grown h3
 ·rcases List.mem_append.1 hq with hq | hq
  ·exact ho.rows q hq
  ·exact hr1 q hq
def fptr (v : Value) (s : Nat) (k : Int) (o : Nat) : Value :=
 match v with
 | .slice (some a) _ _ => .pointer (some ((a.add (k.toNat * s)).add o))
 | _ => undef
theorem fadE {v0 : Value} {w0 : World} {k o : Nat} (hx : ev l x = some (eptr v0 s u)) (hF : FA P T k o) (hs : RowsV w0 v0 s L := by assumption) (h0 : 0 ≤ u := by omega) (h1 : u < L.length := by omega) :
  Yl P N (.fieldAddr T x k) ty l w (fptr v0 s u o) := fun a ha w' _ f hf _ => by
 obtain ⟨⟨ad, cc, rfl, hc, hx'⟩, _⟩ := hs
 obtain ⟨ad, rfl, _⟩ := hx' (by omega)
 simp [execOp, hf, ha.eval hx, eptr, fptr, hF _ w']
theorem ldF {v0 u0 : Value} {w0 : World} {o : Nat} (hp : ev l p = some (fptr v0 s u o)) (hna : NA P T) (hu : (L.getD u.toNat [])[o]? = some u0) (hs : RowsV w0 v0 s L := by assumption) (hE : Ext w0 w := by first | exact Ext.refl _ | assumption) (h0 : 0 ≤ u := by omega) (h1 : u < L.length := by omega) :
  Yl P N (.load T p) ty l w u0 := fun a ha w' hE' f hf _ => by
 replace hE' := hE'.resolve_left (by simp [isM])
 obtain ⟨⟨ad, cc, rfl, hc, hx'⟩, hr, _⟩ := hs
 obtain ⟨ad, rfl, hcell⟩ := hx' (by omega)
 have hlt : u.toNat < L.length := by omega
 have ho : o < s := by
  have h2 := (List.getElem?_eq_some_iff.1 hu).1
  have h3 := hr (L.getD u.toNat []) (by rw [List.getD_eq_getElem?_getD, List.getElem?_eq_getElem hlt]; exact List.getElem_mem _)
  omega
 have hg : (flatV L)[u.toNat * s + o]? = some u0 := by
  have h4 := Xs u.toNat hr hlt
  rw [← h4, List.getElem?_take, if_pos ho, List.getElem?_drop] at hu
  exact hu
 have h5 := (hE.trans hE').cell (hcell _ _ hg)
 rw [← Xw] at h5
 simp [execOp, hf, ha.eval hp, fptr, Instr.loadAt, Instr.sureAddr, loadVar, hna w', h5]
end
end Go.Sx
namespace Go.Sx
open Go Go.RowKit Go.Pl
structure Gr (X : List Nat) (w w' : World) : Prop where
 os : w'.os = w.os
 tape : w'.tape = w.tape
 output : w'.output = w.output
 size : w.heap.size ≤ w'.heap.size
 block : ∀ k, k < w.heap.size → k ∉ X → w'.heap[k]? = w.heap[k]?
theorem Gr.refl (X : List Nat) (w : World) : Gr X w w := ⟨rfl, rfl, rfl, Nat.le_refl _, fun _ _ _ => rfl⟩
theorem Gr.trans {X : List Nat} {a b c : World} (h : Gr X a b) (k : Gr X b c) : Gr X a c :=
 ⟨k.os.trans h.os, k.tape.trans h.tape, k.output.trans h.output, Nat.le_trans h.size k.size, fun j hj hx => (k.block j (Nat.lt_of_lt_of_le hj h.size) hx).trans (h.block j hj hx)⟩
theorem Gr.mono {X Y : List Nat} {a b : World} (h : Gr X a b) (hX : ∀ k ∈ X, k ∈ Y) : Gr Y a b := ⟨h.os, h.tape, h.output, h.size, fun k hk hy => h.block k hk (fun hx => hy (hX k hx))⟩
theorem Gr.of_grown {X : List Nat} {w w' : World} {row : Option Nat} (h : w.grownBy w' row) (hr : ∀ k, row = some k → k ∈ X) : Gr X w w' :=
 ⟨h.os, h.tape, h.output, h.size, fun k hk hx => h.block k hk (fun e => hx (hr k e.symm))⟩
theorem Gr.of_ext {X : List Nat} {w w' : World} (h : Ext w w') : Gr X w w' := ⟨h.os, h.tape, h.output, h.size, fun k hk _ => h.block k hk⟩
theorem Gr.ext {X : List Nat} {w0 w w' : World} (h : Gr X w w') (hE : Ext w0 w) (hX : ∀ k ∈ X, w0.heap.size ≤ k) : Ext w0 w' :=
 ⟨h.os.trans hE.os, h.tape.trans hE.tape, h.output.trans hE.output, Nat.le_trans hE.size h.size, fun k hk => (h.block k (Nat.lt_of_lt_of_le hk hE.size) (fun hx => by have := hX k hx; omega)).trans (hE.block k hk)⟩
theorem Gr.ext' {w w' : World} (h : Gr [] w w') : Ext w w' := h.ext (Ext.refl w) (by simp)
theorem Jp {B : Nat} {w w' : World} {v : Value} {E : TypeId} {s n : Nat} {xs : List Value} (h : w.ownsRow B E s v n xs) (hb : ∀ k, v.ownBlock = some k → w'.heap[k]? = w.heap[k]?) : w'.ownsRow B E s v n xs := by
 obtain ⟨h0, h1⟩ := h
 refine ⟨h0, ?_⟩
 rcases h1 with h1 | ⟨g, cap, cur, hv, hg, hc, r⟩
 ·exact .inl h1
 ·refine .inr ⟨g, cap, cur, hv, hg, ?_, r⟩
  rw [hb g (by rw [hv]; rfl)]
  exact hc
theorem Own.gr {B : Nat} {w w' : World} {v : Value} {E : TypeId} {xs : List Value} {X : List Nat} (h : Own B w v E xs) (hg : Gr X w w') (hX : ∀ k, v.ownBlock = some k → k ∉ X) : Own B w' v E xs :=
 ⟨Jp h.row fun k hk => hg.block k (h.lt k hk).2 (hX k hk), h.le⟩
theorem Blk.gr {w w' : World} {g : Nat} {t : TypeId} {cs : Array Value} {X : List Nat} (h : Blk w g t cs) (hg : Gr X w w') (hX : g ∉ X) : Blk w' g t cs := (hg.block g h.lt hX).trans h
theorem Sl.gr {w w' : World} {v : Value} {xs : List Value} {X : List Nat} (h : Sl w v xs) (hg : Gr X w w') (hX : ∀ k, v.ownBlock = some k → k ∉ X) : Sl w' v xs := by
 obtain ⟨⟨a, c, hv, hc, hx⟩, hl⟩ := h
 refine ⟨⟨a, c, hv, hc, fun h0 => ?_⟩, hl⟩
 obtain ⟨ad, ha, hh⟩ := hx h0
 subst ha hv
 refine ⟨ad, rfl, fun j u hu => ?_⟩
 have hcell := hh j u hu
 have hlt := World.block_lt_of_cell? w _ hcell
 have hb : (ad.add j).block = ad.block := by
  simp only [Addr.add]
  split <;> rfl
 rw [hb] at hlt
 have := hg.block ad.block hlt (hX _ rfl)
 unfold World.cell? at hcell ⊢
 rw [hb] at hcell ⊢
 rw [this]
 exact hcell
theorem Ints.gr {w w' : World} {v : Value} {zs : List Int} {X : List Nat} (h : Ints w v zs) (hg : Gr X w w') (hX : ∀ k, v.ownBlock = some k → k ∉ X) : Ints w' v zs := Sl.gr h hg hX
def RetG (X : List Nat) (w : World) (Φ : Value → World → Prop) : Ending → World → Prop := Ret (fun v w' => Gr X w w' ∧ Φ v w')
section
variable {P : Program} {N : Nat} {l : Env} {w : World} {ops : Array Oper} {dr : Bool} {Q : Act → World → Prop} {π : List Nat} {i d : Nat} {v : Value} {op : Op} {ty : TypeId} {pos : String} {after : Array Edge} {g : Option (Nat × Bool)}
theorem CG {X : List Nat} {f : FuncId} {cl : List Operand} {ats : Array TypeId} {vs : List Value} {Φ : Value → World → Prop} (hi : ops[i]? = some ⟨some d, .call ⟨.value (.func f), cl.toArray, ats⟩, ty, pos, after, g⟩) (hw : Wt ops N l g) (hd : Nat.blt d N = true)
  (hv : evs l cl = some vs) (hf : ∀ args w, (callFunc f args).run P w = .ok (.enter f args) w) (hc : Calls P f vs.toArray w (RetG X w Φ)) (htl : dr = true → isTail ops i = true)
  (h : ∀ v w', Gr X w w' → Φ v w' → WR P N ops dr Q π ((d, v) :: l) w') : WR P N ops dr Q (i :: π) l w := fun a ha => by
 refine ⟨_, hi, ?_⟩
 rw [if_pos (hw a ha _ rfl)]
 refine .inr ⟨rfl, ?_⟩
 have hm := ha.evals hv
 have hrun : (execOp a.eval ⟨some d, .call ⟨.value (.func f), cl.toArray, ats⟩, ty, pos, after, g⟩).run P w = .ok (.enter f vs.toArray) w := by
  simp only [execOp, resolve, List.map_toArray, hm, Act.eval, Deferred.ofValue]
  simp [invoke, hf]
 unfold Oper.wp
 rw [hrun, Oper.upon_enter]
 refine hc.mono fun e w' he => ?_
 cases e with
 | returned v => exact ⟨⟨v, rfl⟩, fun h1 h2 => (by rw [htl h1] at h2; cases h2), h v w' he.1 he.2 _ (ha.put hd v)⟩
 | panicked c => exact he
 | outgrown => exact he.elim
end
end Go.Sx
namespace Go.Sx
open Go Go.RowKit Go.Pl
def NB (X : List Nat) (v : Value) : Prop := ∀ k, v.ownBlock = some k → k ∉ X
def Newer (w : World) (X X' : List Nat) : Prop := ∀ k ∈ X', k ∈ X ∨ w.heap.size ≤ k
def IntsX (X : List Nat) (w : World) (v : Value) (z : List Int) : Prop := Ints w v z ∧ (z = [] ∨ NB X v)
def LLX (X : List Nat) (w : World) (v : Value) (L : List (List Int)) : Prop :=
 ∃ rows, Sl w v rows ∧ rows.length = L.length ∧ (L = [] ∨ NB X v) ∧ ∀ (i : Nat) r zs, rows[i]? = some r → L[i]? = some zs → IntsX X w r zs
theorem Jl {w w' : World} {v : Value} (h : Ints w v []) : Ints w' v [] := by
 obtain ⟨⟨a, c, hv, hc, _⟩, hl⟩ := h
 exact ⟨⟨a, c, hv, hc, fun h => absurd h (by simp)⟩, hl⟩
theorem LLX.ll {X : List Nat} {w : World} {v : Value} {L : List (List Int)} (h : LLX X w v L) : LL w v L := by
 obtain ⟨rows, h1, h2, _, h3⟩ := h
 exact ⟨rows, h1, h2, fun i r zs a b => (h3 i r zs a b).1⟩
section
variable {P : Program} {N : Nat} {l : Env} {w : World} {ops : Array Oper} {dr : Bool} {Q : Act → World → Prop} {π : List Nat} {i d : Nat} {v : Value} {op : Op} {ty : TypeId} {pos : String} {after : Array Edge} {g : Option (Nat × Bool)}
variable {x y z c p : Operand} {u lo hi : Int} {T T' : TypeId}
def capTo (v : Value) (n : Nat) : Value := match v with
 | .slice a _ _ => .slice a n n
 | v => v
def LOX (X : List Nat) (B : Nat) (w : World) (v : Value) (E : TypeId) (L : List (List Int)) : Prop :=
 ∃ rows, Own B w v E rows ∧ rows.length = L.length ∧ ∀ (i : Nat) r zs, rows[i]? = some r → L[i]? = some zs → Ints w r zs ∧ (zs = [] ∨ (r.ownBlock ≠ v.ownBlock ∧ NB X r))
theorem LOX.ext {X : List Nat} {B : Nat} {w w' : World} {v : Value} {E : TypeId} {L : List (List Int)} (h : LOX X B w v E L) (hE : Ext w w') : LOX X B w' v E L := by
 obtain ⟨rows, h1, h2, h3⟩ := h
 exact ⟨rows, h1.ext hE, h2, fun i r zs a b => ⟨(h3 i r zs a b).1.ext hE, (h3 i r zs a b).2⟩⟩
theorem LOX.llx {X : List Nat} {B : Nat} {w : World} {v : Value} {E : TypeId} {L : List (List Int)} (h : LOX X B w v E L) (hX : ∀ k ∈ X, k < B) : LLX X w v L := by
 obtain ⟨rows, h1, h2, h3⟩ := h
 refine ⟨rows, h1.sl, h2, .inr fun k hk hx => ?_, fun i r zs a b => ⟨(h3 i r zs a b).1, (h3 i r zs a b).2.imp id (·.2)⟩⟩
 have := (h1.lt k hk).1
 have := hX k hx
 omega
theorem STX {X : List Nat} {v0 r0 : Value} {B : Nat} {E : TypeId} {L : List (List Int)} {zs : List Int} (hi : ops[i]? = some ⟨none, .store T p x, ty, pos, after, g⟩) (hw : Wt ops N l g) (hp : ev l p = some (eptr v0 1 u)) (hx : ev l x = some r0)
  (hT : ∃ j, P.info? T = some j ∧ j.size = 1) (htl : dr = true → isTail ops i = true) (hr : Ints w r0 zs) (hne : zs = [] ∨ (r0.ownBlock ≠ v0.ownBlock ∧ NB X r0))
  (h : ∀ w', w.grownBy w' v0.ownBlock → (∀ w0, w0.heap.size ≤ B → Ext w0 w → Ext w0 w') → LOX X B w' v0 E (L.set u.toNat zs) → WR P N ops dr Q π l w')
  (ho : LOX X B w v0 E L := by assumption) (h0 : 0 ≤ u := by omega) (h1 : u < L.length := by omega) : WR P N ops dr Q (i :: π) l w := by
 obtain ⟨rows, ho1, ho2, ho3⟩ := ho
 obtain ⟨a, cc, hsl⟩ := Sl.slice hr
 have keepR : ∀ {w' : World} {r : Value} {ys : List Int}, w.grownBy w' v0.ownBlock → Ints w r ys → (ys = [] ∨ r.ownBlock ≠ v0.ownBlock) → Ints w' r ys := by
  intro w' r ys hg hri hd
  rcases hd with rfl | hd
  ·exact Jl hri
  ·exact hri.kept hg hd
 refine ST hi hw hp hx hT (Value.slice_cells _ ⟨_, _, _, hsl⟩) htl (ho := ho1) (h0 := h0) (h1 := by omega) (h := fun w' hg ho' => (h w' hg (fun w0 hB hE => hE.grown hg ho1 hB) ⟨rows.set u.toNat r0, ho', by simp [ho2], fun i r ys a b => ?_⟩))
 by_cases e : u.toNat = i
 ·subst e
  have hl1 := (List.getElem?_eq_some_iff.1 a).1
  rw [List.length_set] at hl1
  rw [List.getElem?_set_self hl1] at a
  rw [List.getElem?_set_self (by omega)] at b
  cases a
  cases b
  exact ⟨keepR hg hr (hne.imp id (·.1)), hne⟩
 ·rw [List.getElem?_set_ne e] at a b
  have h3 := ho3 i r ys a b
  exact ⟨keepR hg h3.1 (h3.2.imp id (·.1)), h3.2⟩
theorem APX {X : List Nat} {v0 v1 r : Value} {B b : Nat} {E : TypeId} {zv : Value} {L : List (List Int)} {z : List Int} {w0 : World} (hi : ops[i]? = some ⟨some d, .call ⟨.builtin .append, #[x, y], #[T, T]⟩, ty, pos, after, g⟩) (hw : Wt ops N l g) (hd : Nat.blt d N = true) (hx : ev l x = some v0) (hy : ev l y = some v1)
  (hT : SlT P T E zv 1 b) (hz : zv.cells = #[zv]) (htl : dr = true → isTail ops i = false → Ext w w → v0.ownBlock = none) (ho : LOX X B w v0 E L) (hB : B ≤ w.heap.size) (hs : Sl w0 v1 [r]) (hE : Ext w0 w) (hr : Ints w r z) (hne : z = [] ∨ (r.ownBlock ≠ v0.ownBlock ∧ NB X r))
  (hlen : (L.length + 1) * b ≤ 140737488355328) (hlen1 : L.length + 1 ≤ 140737488355328)
  (h : ∀ v w', w.grownBy w' v0.ownBlock → (∀ w0, w0.heap.size ≤ B → Ext w0 w → Ext w0 w') → LOX X B w' v E (L ++ [z]) → WR P N ops dr Q π ((d, v) :: l) w') : WR P N ops dr Q (i :: π) l w := by
 obtain ⟨rows, ho1, ho2, ho3⟩ := ho
 refine AP hi hw hd hx hy hT hz htl ho1 hB hs hE (by intro q hq; obtain rfl : q = r := (by simpa using hq); exact (Sl.slice hr).elim fun a ha => ha.elim fun c hc => Value.slice_cells _ ⟨_, _, _, hc⟩) (by rw [ho2]; simpa using hlen) (by rw [ho2]; simpa using hlen1) (fun v w' hg hX ho' hb => h v w' hg hX ⟨rows ++ [r], ho', by simp [ho2], ?_⟩)
 have keep : ∀ {q : Value} {ys : List Int}, Ints w q ys → (ys = [] ∨ (q.ownBlock ≠ v0.ownBlock ∧ NB X q)) → Ints w' q ys ∧ (ys = [] ∨ (q.ownBlock ≠ v.ownBlock ∧ NB X q)) := fun {q ys} hq hd => by
  rcases Nat.eq_zero_or_pos ys.length with h0 | h0
  ·obtain rfl := List.eq_nil_of_length_eq_zero h0
   exact ⟨Jl hq, .inl rfl⟩
  ·have hd' := hd.resolve_left (List.ne_nil_of_length_pos h0)
   refine ⟨hq.kept hg hd'.1, .inr ⟨fun e => ?_, hd'.2⟩⟩
   obtain ⟨k, hk, hlt⟩ := hq.lt h0
   rcases hb with hb | hb
   ·exact hd'.1 (e.trans hb)
   ·rw [hb, hk] at e
    have := Option.some.inj e
    omega
 intro i q ys a b'
 rw [List.getElem?_append] at a b'
 by_cases hi' : i < rows.length
 ·rw [if_pos hi'] at a
  rw [if_pos (by omega)] at b'
  have h3 := ho3 i q ys a b'
  exact keep h3.1 h3.2
 ·rw [if_neg hi'] at a
  rw [if_neg (by omega)] at b'
  have hl0 : i - rows.length = 0 := by
   have := (List.getElem?_eq_some_iff.1 a).1
   simp at this; omega
  rw [hl0] at a
  rw [show i - L.length = 0 by omega] at b'
  simp at a b'
  subst a b'
  exact keep hr hne
theorem LOX.nil (X : List Nat) (B : Nat) (w : World) (E : TypeId) : LOX X B w (.slice none 0 0) E [] := ⟨[], Own.nil B w E, rfl, fun i r zs h => by simp at h⟩
theorem LOX.lt {X : List Nat} {B : Nat} {w : World} {v : Value} {E : TypeId} {L : List (List Int)} (h : LOX X B w v E L) : ∀ k, v.ownBlock = some k → B ≤ k ∧ k < w.heap.size := by
 obtain ⟨rows, h1, _⟩ := h
 exact h1.lt
theorem Gr.comp {X X' : List Nat} {a b c : World} (h : Gr X a b) (hX : Newer a X X') (k : Gr X' b c) : Gr X a c :=
 ⟨k.os.trans h.os, k.tape.trans h.tape, k.output.trans h.output, Nat.le_trans h.size k.size, fun j hj hx => (k.block j (Nat.lt_of_lt_of_le hj h.size) (fun hx' => by
  rcases hX j hx' with h1 | h1
  ·exact hx h1
  ·omega)).trans (h.block j hj hx)⟩
end
section
variable {P : Program} {N : Nat} {l : Env} {w : World} {x y : Operand} {T T' : TypeId} {ty : TypeId}
theorem eqlPn {a : Option Addr} {E : TypeId} (hx : ev l x = some (.pointer a)) (hy : ev l y = some (.pointer none)) (hT : P.underlying T = some (.pointer E)) : Yl P N (.binOp .eql T x y T') ty l w (.bool a.isNone) := by
 have hd : ∃ d, Op.maxDepth = d + 1 := ⟨Op.maxDepth - 1, rfl⟩
 obtain ⟨d, hd⟩ := hd
 refine Zn hx hy (fun w => ?_) (fun w x y => ?_)
 ·cases a <;> simp [binOp, Op.equal, hd, Op.equalIn, run_underlying hT]
 ·unfold eqGuard
  split <;> rfl
end
section
variable {P : Program} {N : Nat} {l : Env} {w : World} {x y : Operand} {T : TypeId} {ty : TypeId} {u : Int}
end
end Go.Sx
namespace Go.Sx
open Go Go.RowKit Go.Pl
section
variable {P : Program} {N : Nat} {l : Env} {w : World} {ops : Array Oper} {dr : Bool} {Q : Act → World → Prop} {π : List Nat} {i d : Nat} {v : Value} {op : Op} {ty : TypeId} {pos : String} {after : Array Edge} {g : Option (Nat × Bool)}
variable {x y c p : Operand} {u z : Int} {T T' : TypeId}
theorem CVX {f : FuncId} {fs cs : List Value} {cl : List Operand} {ats : Array TypeId} {vs : List Value} {Φ : Value → World → Prop} (hi : ops[i]? = some ⟨some d, .call ⟨.value x, cl.toArray, ats⟩, ty, pos, after, g⟩) (hw : Wt ops N l g) (hd : Nat.blt d N = true)
  (hx : ev l x = some (.func (.func f) fs.toArray cs.toArray)) (hv : evs l cl = some vs) (hf : ∀ args w, (callFunc f args).run P w = .ok (.enter f args) w) (hc : Calls P f (fs ++ vs ++ cs).toArray w (RetX w Φ))
  (h : ∀ v w', Ext w w' → Φ v w' → WR P N ops dr Q π ((d, v) :: l) w') : WR P N ops dr Q (i :: π) l w := fun a ha => by
 refine ⟨_, hi, ?_⟩
 rw [if_pos (hw a ha _ rfl)]
 refine .inr ⟨rfl, ?_⟩
 have hm := ha.evals hv
 have hrun : (execOp a.eval ⟨some d, .call ⟨.value x, cl.toArray, ats⟩, ty, pos, after, g⟩).run P w = .ok (.enter f (fs ++ vs ++ cs).toArray) w := by
  simp only [execOp, resolve, List.map_toArray, hm, ha.eval hx, Deferred.ofValue]
  simp [invoke, hf]
 unfold Oper.wp
 rw [hrun, Oper.upon_enter]
 refine hc.mono fun e w' he => ?_
 cases e with
 | returned v => exact ⟨⟨v, rfl⟩, fun _ _ => he.1, h v w' he.1 he.2 _ (ha.put hd v)⟩
 | panicked c => exact he
 | outgrown => exact he.elim
theorem geqK {k : IntKind} (hx : ev l x = some (.int k u)) (hy : ev l y = some (.int k z)) : Yl P N (.binOp .geq T x y T') ty l w (.bool (decide (z ≤ u))) :=
 Zn hx hy (fun w => by rw [binOp_geq]; simp) (fun _ _ _ => Qr)
theorem cvK {k : IntKind} {q : IntKind} (hx : ev l x = some (.int k u)) (hs : (P.underlying T).isSome = true) (hd : P.underlying T' = some (.int q)) : Yl P N (.convert T T' x) ty l w (.int q (q.wrap u)) := fun a ha w' _ o ho _ => by
 have e : P.intKind T' = q := by simp [Program.intKind, hd]
 have h := run_convert_int (P := P) w' T T' k u hs (by rw [e]; exact hd)
 rw [e] at h
 simp [execOp, ho, ha.eval hx, h]
theorem ixS {s : ByteArray} {k : IntKind} (hx : ev l x = some (.string s)) (hy : ev l y = some (.int k u)) (hT : P.underlying T = some .string) (h0 : 0 ≤ u) (h1 : u < s.size) : Yl P N (.index T x y) ty l w (.int .u8 ((s[u.toNat]'(by omega)).toNat : Int)) := fun a ha w' _ o ho _ => by
 have h := run_index_string (P := P) w' T s k u hT
 rw [dif_pos ⟨h0, h1⟩] at h
 simp [execOp, ho, ha.eval hx, ha.eval hy, h]
end
end Go.Sx
namespace Go.Sx
open Go Go.RowKit Go.Pl
section
variable {P : Program} {N : Nat} {l : Env} {w : World} {ops : Array Oper} {dr : Bool} {Q : Act → World → Prop} {π : List Nat} {i d : Nat} {v : Value} {op : Op} {ty : TypeId} {pos : String} {after : Array Edge} {g : Option (Nat × Bool)}
variable {x y z c p : Operand} {u u' : Int} {T T' : TypeId}
theorem leqK {k : IntKind} (hx : ev l x = some (.int k u)) (hy : ev l y = some (.int k u')) : Yl P N (.binOp .leq T x y T') ty l w (.bool (decide (u ≤ u'))) :=
 Zn hx hy (fun w => by rw [binOp_leq]; simp) (fun _ _ _ => Qr)
theorem eqlK {k : IntKind} (hx : ev l x = some (.int k u)) (hy : ev l y = some (.int k u')) : Yl P N (.binOp .eql T x y T') ty l w (.bool (decide (u = u'))) :=
 Zn hx hy (fun w => by
  have e : (u == u') = decide (u = u') := by by_cases h : u = u' <;> simp [h]
  rw [binOp_eql, e]; simp) (fun _ _ _ => Qr)
theorem subK {k : IntKind} (hx : ev l x = some (.int k u)) (hy : ev l y = some (.int k u')) : Yl P N (.binOp .sub T x y T') ty l w (.int k (k.wrap (u - u'))) :=
 Zn hx hy (fun w => by rw [binOp_sub]; simp [Op.intArith]) (fun _ _ _ => Qr)
theorem KL {op : BinOp} {a b : ByteArray} {x y : Operand} : (eqGuard op T x y (.string a) (.string b)).run P w = .ok () w := by
 unfold eqGuard
 split <;> rfl
theorem QbN (a b : ByteArray) : (a.toList == b.toList) = decide (a = b) := by
 rw [ByteArray.toList_eq, ByteArray.toList_eq]
 by_cases h : a = b
 ·subst h; simp
 ·rw [decide_eq_false h]
  refine beq_eq_false_iff_ne.2 fun e => h ?_
  cases a; cases b
  rw [ByteArray.mk.injEq]
  exact Array.toList_inj.1 e
theorem eqlT {a b : ByteArray} (hx : ev l x = some (.string a)) (hy : ev l y = some (.string b)) : Yl P N (.binOp .eql T x y T') ty l w (.bool (decide (a = b))) :=
 Zn hx hy (fun w => by rw [binOp_string_eql, QbN]; simp) (fun _ _ _ => KL)
theorem neqT {a b : ByteArray} (hx : ev l x = some (.string a)) (hy : ev l y = some (.string b)) : Yl P N (.binOp .neq T x y T') ty l w (.bool (!decide (a = b))) :=
 Zn hx hy (fun w => by rw [binOp_string_neq, QbN]; simp) (fun _ _ _ => KL)
theorem Qdn {a : ByteArray} (hx : ev l x = some (.string a)) (hT : P.underlying T = some .string) : Yl P N (.call ⟨.builtin .len, #[x], #[T]⟩) ty l w (.int .i64 a.size) := fun f ha w' _ o ho _ => by
 simp [execOp, ho, ha.eval hx, resolve, invoke, builtin, run_len_string (P := P) w' T o.type a hT, goInt]
theorem slT {a : ByteArray} (hx : ev l x = some (.string a)) (hy : ev l y = some (.int .i64 u)) (hz : ev l z = some (.int .i64 u')) (hT : P.underlying T = some .string) (h0 : 0 ≤ u := by omega) (h1 : u ≤ u' := by omega) (h2 : u' ≤ a.size := by omega) :
  Yl P N (.slice T x (some y) (some z) none) ty l w (.string (a.extract u.toNat u'.toNat)) := fun f ha w' _ o ho _ => by
 have h := run_slice_string (P := P) (w := w') T a .i64 .i64 u u' hT h0 h1 h2
 rw [← run_sliceAt_string (P := P) w' T (.string a) (some (.int .i64 u)) (some (.int .i64 u')) none hT] at h
 simp [execOp, ho, ha.eval hx, ha.eval hy, ha.eval hz, h]
def ItS (w : World) (b : Nat) (s : ByteArray) (k : Nat) : Prop := w.heap[b]? = some (.stringIter s k)
theorem RGS {s : ByteArray} (hi : ops[i]? = some ⟨some d, .range T x, ty, pos, after, g⟩) (hw : Wt ops N l g) (hd : Nat.blt d N = true) (hx : ev l x = some (.string s)) (hT : P.underlying T = some .string)
  (h : ∀ b w', Ext w w' → ItS w' b s 0 → w.heap.size ≤ b → WR P N ops dr Q π ((d, .pointer (some ⟨b, 0, none⟩)) :: l) w') : WR P N ops dr Q (i :: π) l w :=
 F (v := .pointer (some ⟨w.heap.size, 0, none⟩)) (w' := w.iter s 0) hi hw rfl hd (fun a ha => by simp [execOp, ha.eval hx, run_range_string w T s hT]) (fun _ _ => Ext.alloc _ _) (h _ _ (Ext.alloc _ _) (w.iter_heap s 0) (Nat.le_refl _))
theorem Qbk (w : World) (b : Nat) (o : Obj) : w.grownBy { w with heap := w.heap.setIfInBounds b o } (some b) :=
 ⟨rfl, rfl, rfl, by simp, fun k _ hne => by rw [Array.getElem?_setIfInBounds_ne]; intro e; exact hne (by rw [e])⟩
theorem NXSy {s : ByteArray} {b k : Nat} (hi : ops[i]? = some ⟨some d, .next x true, ty, pos, after, g⟩) (hw : Wt ops N l g) (hd : Nat.blt d N = true) (hx : ev l x = some (.pointer (some ⟨b, 0, none⟩))) (hI : ItS w b s k) (hk : k < s.size)
  (ha : (s[k]'hk).toNat < 128) (htl : dr = true → isTail ops i = true)
  (h1 : ∀ w', w.grownBy w' (some b) → (∀ w0, w0.heap.size ≤ b → Ext w0 w → Ext w0 w') → ItS w' b s (k + 1) → WR P N ops dr Q π ((d, .tuple #[.bool true, .int .i64 k, .int .i32 (s[k]'hk).toNat]) :: l) w') : WR P N ops dr Q (i :: π) l w := by
 unfold ItS at hI
 have hb : b < w.heap.size := (Array.getElem?_eq_some_iff.1 hI).1
 have hg := Qbk w b (.stringIter s (k + 1))
 refine F (v := .tuple #[.bool true, .int .i64 k, .int .i32 (s[k]'hk).toNat]) (w' := { w with heap := w.heap.setIfInBounds b (.stringIter s (k + 1)) }) hi hw rfl hd (fun a hA => ?_) (fun hd ht => by rw [htl hd] at ht; cases ht)
  (h1 _ hg (fun w0 h0 hE => Below.grown hE hg hE.size (fun q hq => by obtain rfl := Option.some.inj hq; exact h0)) (by unfold ItS; simp [hb]))
 have hn : (Instr.next (.pointer (some ⟨b, 0, none⟩)) true ty).run P w = .ok (.tuple #[.bool true, .int .i64 k, .int .i32 (s[k]'hk).toNat]) { w with heap := w.heap.setIfInBounds b (.stringIter s (k + 1)) } := by
  simp only [Instr.next, getObj, setObj, Sem.run_bind, Sem.run, hI, Result.andThen, hk, if_true, decode_ascii s k hk ha]
  simp [goInt]
 simp [execOp, hA.eval hx, hn]
theorem NXSn {s : ByteArray} {b k : Nat} (hi : ops[i]? = some ⟨some d, .next x true, ty, pos, after, g⟩) (hw : Wt ops N l g) (hd : Nat.blt d N = true) (hx : ev l x = some (.pointer (some ⟨b, 0, none⟩))) (hI : ItS w b s k) (hk : ¬ k < s.size)
  (h2 : WR P N ops dr Q π ((d, .tuple #[.bool false]) :: l) w) : WR P N ops dr Q (i :: π) l w := by
 unfold ItS at hI
 refine F (v := .tuple #[.bool false]) (w' := w) hi hw rfl hd (fun a hA => ?_) (fun _ _ => Ext.refl w) h2
 have hn : (Instr.next (.pointer (some ⟨b, 0, none⟩)) true ty).run P w = .ok (.tuple #[.bool false]) w := by
  simp [Instr.next, getObj, Sem.run, hI, hk]
 simp [execOp, hA.eval hx, hn]
end
end Go.Sx
