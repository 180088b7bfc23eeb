import Derived.Test.YtcfbigmjjpknfaaGreatDoorW01
import Derived.Test.YtcfbigmjjpknfaaGreatDoorW00
import Derived.Maps.AppendAt
namespace Go.Sx
open Go Go.RowKit Go.Pl
structure Sl (w : World) (v : Value) (xs : List Value) : Prop where
 ex : ∃ a c, v = .slice a xs.length c ∧ xs.length ≤ c ∧ (0 < xs.length → ∃ ad : Addr, a = some ad ∧ ∀ j u, xs[j]? = some u → w.cell? (ad.add j) = some u)
 le : xs.length ≤ 140737488355328
def Ints (w : World) (v : Value) (zs : List Int) : Prop := Sl w v (zs.map (Value.int .i64))
theorem Sl.ext {w w' : World} {v : Value} {xs : List Value} (h : Sl w v xs) (hE : Ext w w') : Sl w' v xs := by
 obtain ⟨⟨a, c, hv, hc, hx⟩, hl⟩ := h
 refine ⟨⟨a, c, hv, hc, fun h0 => ?_⟩, hl⟩
 obtain ⟨ad, ha, hh⟩ := hx h0
 exact ⟨ad, ha, fun j u hu => hE.cell (hh j u hu)⟩
theorem Ints.ext {w w' : World} {v : Value} {zs : List Int} (h : Ints w v zs) (hE : Ext w w') : Ints w' v zs := Sl.ext h hE
theorem Ints.le {w : World} {v : Value} {zs : List Int} (h : Ints w v zs) : zs.length ≤ 140737488355328 := by
 have := Sl.le h
 simpa using this
theorem Sl.nil (w : World) : Sl w (.slice none 0 0) [] := ⟨⟨none, 0, rfl, Nat.le_refl _, fun h => absurd h (by simp)⟩, by simp⟩
theorem Ints.nil (w : World) : Ints w (.slice none 0 0) [] := Sl.nil w
theorem get_gi {zs : List Int} {k : Int} (h0 : 0 ≤ k) (h1 : k < zs.length) : (zs.map (Value.int .i64))[k.toNat]? = some (.int .i64 (gi zs k)) := by
 have hk : k.toNat < zs.length := by omega
 simp [gi, hk]
def eptr (v : Value) (s : Nat) (k : Int) : Value :=
 match v with
 | .slice (some a) _ _ => .pointer (some (a.add (k.toNat * s)))
 | _ => undef
structure Own (B : Nat) (w : World) (v : Value) (E : TypeId) (xs : List Value) : Prop where
 row : w.ownsRow B E 1 v xs.length xs
 le : xs.length ≤ 140737488355328
theorem Own.sl {B : Nat} {w : World} {v : Value} {E : TypeId} {xs : List Value} (h : Own B w v E xs) : Sl w v xs := by
 obtain ⟨h1, h2⟩ := h
 refine ⟨?_, h2⟩
 rcases h1.2 with ⟨rfl, hn⟩ | ⟨g, cap, cur, rfl, _, hg, hnc, _⟩
 ·exact ⟨none, 0, by rw [hn], by omega, fun h => absurd h (by omega)⟩
 ·exact ⟨some ⟨g, 0, none⟩, cap, rfl, hnc, fun _ => ⟨_, rfl, h1.cells rfl⟩⟩
theorem Own.kept {B : Nat} {w w' : World} {v v2 : Value} {E : TypeId} {xs : List Value} (h : Own B w v E xs) (hg : w.grownBy w' v2.ownBlock) (hne : v.ownBlock ≠ v2.ownBlock ∨ v.ownBlock = none) : Own B w' v E xs :=
 ⟨h.row.kept hg (by rcases hne with h | h; exact .inr h; exact .inl h), h.le⟩
theorem Own.ext {B : Nat} {w w' : World} {v : Value} {E : TypeId} {xs : List Value} (h : Own B w v E xs) (hE : Ext w w') : Own B w' v E xs := by
 refine ⟨h.row.kept (row := none) ⟨hE.os, hE.tape, hE.output, hE.size, fun k hk _ => hE.block k hk⟩ ?_, h.le⟩
 cases v.ownBlock <;> simp
theorem Own.mono {B B' : Nat} {w : World} {v : Value} {E : TypeId} {xs : List Value} (h : Own B w v E xs) (hB : B' ≤ B) : Own B' w v E xs := by
 obtain ⟨⟨h0, h1⟩, h2⟩ := h
 refine ⟨⟨h0, ?_⟩, h2⟩
 rcases h1 with h1 | ⟨g, cap, cur, hv, hg, r⟩
 ·exact .inl h1
 ·exact .inr ⟨g, cap, cur, hv, by omega, r⟩
theorem Own.nil (B : Nat) (w : World) (E : TypeId) : Own B w (.slice none 0 0) E [] := ⟨World.ownsRow_nil w B E 1, by simp⟩
theorem Own.lt {B : Nat} {w : World} {v : Value} {E : TypeId} {xs : List Value} (h : Own B w v E xs) : ∀ k, v.ownBlock = some k → B ≤ k ∧ k < w.heap.size := h.row.lt
theorem Ext.grown {w0 w w' : World} {v : Value} {B : Nat} {E : TypeId} {xs : List Value} (h : Ext w0 w) (hg : w.grownBy w' v.ownBlock) (ho : Own B w v E xs) (hB : w0.heap.size ≤ B) : Ext w0 w' :=
 Below.grown h hg h.size (fun k hk => by have := (ho.lt k hk).1; omega)
theorem Ext.of_grown {w w' : World} (hg : w.grownBy w' none) : Ext w w' := ⟨hg.os, hg.tape, hg.output, hg.size, fun k hk => hg.block k hk (by simp)⟩
def OwnI (B : Nat) (w : World) (v : Value) (E : TypeId) (zs : List Int) : Prop := Own B w v E (zs.map (Value.int .i64))
theorem OwnI.ints {B : Nat} {w : World} {v : Value} {E : TypeId} {zs : List Int} (h : OwnI B w v E zs) : Ints w v zs := Own.sl h
theorem OwnI.ext {B : Nat} {w w' : World} {v : Value} {E : TypeId} {zs : List Int} (h : OwnI B w v E zs) (hE : Ext w w') : OwnI B w' v E zs := Own.ext h hE
theorem OwnI.nil (B : Nat) (w : World) (E : TypeId) : OwnI B w (.slice none 0 0) E [] := Own.nil B w E
theorem Ext.grownI {w0 w w' : World} {v : Value} {B : Nat} {E : TypeId} {zs : List Int} (h : Ext w0 w) (hg : w.grownBy w' v.ownBlock) (ho : OwnI B w v E zs) (hB : w0.heap.size ≤ B) : Ext w0 w' :=
 h.grown hg ho hB
def Blk (w : World) (g : Nat) (t : TypeId) (cs : Array Value) : Prop := w.heap[g]? = some (.cells cs t (0, 0))
theorem Blk.lt {w : World} {g : Nat} {t : TypeId} {cs : Array Value} (h : Blk w g t cs) : g < w.heap.size := (Array.getElem?_eq_some_iff.1 h).1
theorem Blk.ext {w w' : World} {g : Nat} {t : TypeId} {cs : Array Value} (h : Blk w g t cs) (hE : Ext w w') : Blk w' g t cs := (hE.block g h.lt).trans h
theorem Blk.cell {w : World} {g : Nat} {t : TypeId} {cs : Array Value} (h : Blk w g t cs) {k : Nat} {v : Value} (hc : cs[k]? = some v) : w.cell? ⟨g, k, none⟩ = some v := by
 rw [cell_of_row w g k cs t (0, 0) h]; exact hc
theorem Blk.grown {w w' : World} {g : Nat} {t : TypeId} {cs : Array Value} {row : Option Nat} (h : Blk w g t cs) (hg : w.grownBy w' row) (hne : row ≠ some g) : Blk w' g t cs := (hg.block g h.lt (Ne.symm hne)).trans h
structure SlT (P : Program) (T E : TypeId) (z : Value) (s bytes : Nat) : Prop where
 und : P.underlying T = some (.slice E)
 inf : (P.info? E).map (fun i => (i.zero, i.size, i.bytes)) = some (some z, s, bytes)
section
variable (P : Program) (N : Nat)
def Yl (op : Op) (ty : TypeId) (l : Env) (w : World) (v : Value) : Prop :=
 ∀ a, At N a l → ∀ w', (isM op = true ∨ Ext w w') → ∀ o : Oper, o.op = op → o.type = ty → (execOp a.eval o).run P w' = .ok (.value v) w'
end
section
variable {P : Program} {N : Nat} {l : Env} {w : World} {ops : Array Oper} {dr : Bool} {Q : Act → World → Prop} {π : List Nat} {i d : Nat} {v : Value} {op : Op} {ty : TypeId} {pos : String} {after : Array Edge} {g : Option (Nat × Bool)}
theorem XP {a : Act} {o : Oper} {j t : Nat} {want b : Bool} (ha : At N a l) (hg : o.guard = some (j, want)) (hj : (ops[j]?).bind (·.dst) = some t) (hb : lk l t = some (.bool b)) :
  Region.wanted o (yielded ops a.tmps) = (b == want) := by
 simp [Region.wanted, hg, yielded, hj, ha.slots t _ hb]
def Wt (ops : Array Oper) (N : Nat) (l : Env) (g : Option (Nat × Bool)) : Prop := ∀ a, At N a l → ∀ o : Oper, o.guard = g → Region.wanted o (yielded ops a.tmps) = true
theorem wu : Wt ops N l none := fun _ _ o ho => by simp [Region.wanted, ho]
theorem wg {j t : Nat} {want : Bool} (hj : (ops[j]?).bind (·.dst) = some t) (hb : lk l t = some (.bool want)) : Wt ops N l (some (j, want)) := fun _ ha o ho => by
 rw [XP ha ho hj hb]; simp
theorem Vv (hi : ops[i]? = some ⟨some d, op, ty, pos, after, g⟩) (hw : Wt ops N l g) (hA : isA op = true) (hd : Nat.blt d N = true) (hy : Yl P N op ty l w v)
  (h : WR P N ops dr Q π ((d, v) :: l) w) : WR P N ops dr Q (i :: π) l w := fun a ha => by
 refine ⟨_, hi, ?_⟩
 rw [if_pos (hw a ha _ rfl)]
 exact .inl ⟨hA, v, fun w' hE => hy a ha w' hE _ rfl rfl, h _ (ha.put hd v)⟩
theorem KB (t : Nat) (b : Bool) {b' : Bool} (hb : lk l t = some (.bool b')) (hk : b' = b) (h : WR P N ops dr Q π ((t, .bool b) :: l) w) : WR P N ops dr Q π l w := fun a ha => by
 subst hk
 exact h a ⟨ha.defers, ha.size, fun u x hu => by
  rw [Xa] at hu
  split at hu
  ·rename_i e; subst e; exact ha.slots _ x (hb.trans hu)
  ·exact ha.slots u x hu⟩
theorem SK {j t : Nat} {want b : Bool} (hi : ops[i]? = some ⟨some d, op, ty, pos, after, some (j, want)⟩) (hj : (ops[j]?).bind (·.dst) = some t) (hb : lk l t = some (.bool b)) (hne : (b == want) = false)
  (hd : Nat.blt d N = true) (h : WR P N ops dr Q π ((d, undef) :: l) w) : WR P N ops dr Q (i :: π) l w := fun a ha => by
 refine ⟨_, hi, ?_⟩
 rw [if_neg (by rw [XP ha rfl hj hb]; simp [hne])]
 exact h _ (ha.put hd undef)
theorem SP (t : Nat) {b : Bool} (hb : lk l t = some (.bool b)) (ht : b = true → WR P N ops dr Q π ((t, .bool true) :: l) w) (hf : b = false → WR P N ops dr Q π ((t, .bool false) :: l) w) :
  WR P N ops dr Q π l w := fun a ha => by
 have key : ∀ c, b = c → At N a ((t, .bool c) :: l) := fun c hc => ⟨ha.defers, ha.size, fun u x hu => by
  rw [Xa] at hu
  split at hu
  ·rename_i e; subst e; rw [← hc] at hu; exact ha.slots t x (hb.trans hu)
  ·exact ha.slots u x hu⟩
 cases hc : b
 ·exact hf hc a (key false hc)
 ·exact ht hc a (key true hc)
theorem At.put_fresh {a : Act} (h : At N a l) {d : Nat} (hd : lk l d = none) (v : Value) : At N (a.put (some d) v) l := by
 refine ⟨h.defers, by simpa [Act.put] using h.size, fun t u ht => ?_⟩
 by_cases e : d = t
 ·subst e; rw [hd] at ht; cases ht
 ·simpa [Act.put, Array.getElem?_setIfInBounds_ne e] using h.slots t u ht
def freshIn (ops : Array Oper) (l : Env) (π : List Nat) : Bool := π.all fun i =>
 match ops[i]? with
 | some o => (match o.dst with
  | some d => (lk l d).isNone
  | none => true)
 | none => false
theorem Xy : ∀ (π : List Nat) (a : Act) (w : World), freshIn ops l π = true → At N a l → RL P ops dr Q π a w → RL P ops dr (fun a' w' => Q a' w' ∧ At N a' l) π a w
 | [], a, _, _, ha, h => ⟨h, ha⟩
 | i :: r, a, w, hf, ha, h => by
  obtain ⟨o, ho, h⟩ := h
  simp only [freshIn, List.all_cons, Bool.and_eq_true, ho] at hf
  obtain ⟨hd, hr⟩ := hf
  have hput : ∀ v, At N (a.put o.dst v) l := fun v => by
   cases hdst : o.dst with
   | none => exact ha
   | some d => simp only [hdst, Option.isNone_iff_eq_none] at hd; exact ha.put_fresh hd v
  refine ⟨o, ho, ?_⟩
  split
  ·rename_i hw
   rw [if_pos hw] at h
   rcases h with ⟨h1, v, hv, h2⟩ | ⟨h1, h2⟩
   ·exact .inl ⟨h1, v, hv, Xy r _ _ hr (hput v) h2⟩
   ·refine .inr ⟨h1, Zv (fun a' w' hh => ⟨hh.1, hh.2.1, ?_⟩) h2⟩
    obtain ⟨⟨v, rfl⟩, _, hh2⟩ := hh
    exact Xy r _ _ hr (hput v) hh2
  ·rename_i hw
   rw [if_neg hw] at h
   exact Xy r _ _ hr (hput undef) h
theorem JI : ∀ (π1 : List Nat) (π2 : List Nat) (a : Act) (w : World), RL P ops dr (RL P ops dr Q π2) π1 a w → RL P ops dr Q (π1 ++ π2) a w
 | [], _, _, _, h => h
 | i :: r, π2, a, w, h => by
  obtain ⟨o, ho, h⟩ := h
  refine ⟨o, ho, ?_⟩
  split
  ·rename_i hw
   rw [if_pos hw] at h
   rcases h with ⟨h1, v, hv, h2⟩ | ⟨h1, h2⟩
   ·exact .inl ⟨h1, v, hv, JI r π2 _ _ h2⟩
   ·exact .inr ⟨h1, Zv (fun a' w' hh => ⟨hh.1, hh.2.1, JI r π2 _ _ hh.2.2⟩) h2⟩
  ·rename_i hw
   rw [if_neg hw] at h
   exact JI r π2 _ _ h
theorem Xx {Q' : Act → World → Prop} (hQ : ∀ a w, Q a w → Q' a w) : ∀ (π : List Nat) (a : Act) (w : World), RL P ops dr Q π a w → RL P ops dr Q' π a w
 | [], _, _, h => hQ _ _ h
 | i :: r, a, w, h => by
  obtain ⟨o, ho, h⟩ := h
  refine ⟨o, ho, ?_⟩
  split
  ·rename_i hw
   rw [if_pos hw] at h
   rcases h with ⟨h1, v, hv, h2⟩ | ⟨h1, h2⟩
   ·exact .inl ⟨h1, v, hv, Xx hQ r _ _ h2⟩
   ·exact .inr ⟨h1, Zv (fun a' w' hh => ⟨hh.1, hh.2.1, Xx hQ r _ _ hh.2.2⟩) h2⟩
  ·rename_i hw
   rw [if_neg hw] at h
   exact Xx hQ r _ _ h
def Slot (t : Nat) (v : Value) (w : World) : Act → World → Prop := fun a' w' => a'.tmps[t]? = some v ∧ w' = w
def SlotX (t : Nat) (v : Value) (w : World) : Act → World → Prop := fun a' w' => a'.tmps[t]? = some v ∧ Ext w w'
theorem Zx {t : Nat} (h : lk l t = some v) : WR P N ops dr (Slot t v w) [] l w := fun _ ha => ⟨ha.slots t v h, rfl⟩
theorem Qab {t : Nat} {w0 : World} (h : lk l t = some v) (hE : Ext w0 w := by first | exact Ext.refl _ | assumption) : WR P N ops dr (SlotX t v w0) [] l w := fun _ ha => ⟨ha.slots t v h, hE⟩
theorem Qcu {π1 π2 : List Nat} {tc tp : Nat} {b : Bool} {vt vf : Value} (hπ : π = π1 ++ π2) (hb : lk l tc = some (.bool b)) (hfr : freshIn ops l π1 = true)
  (ht : b = true → WR P N ops dr (SlotX tp vt w) π1 ((tc, .bool true) :: l) w) (hf : b = false → WR P N ops dr (SlotX tp vf w) π1 ((tc, .bool false) :: l) w)
  (h : ∀ w', Ext w w' → WR P N ops dr Q π2 ((tp, if b then vt else vf) :: l) w') : WR P N ops dr Q π l w := by
 have key : WR P N ops dr (SlotX tp (if b then vt else vf) w) π1 l w := by
  refine SP tc hb (fun hc => ?_) (fun hc => ?_)
  ·have := ht hc; simpa [hc] using this
  ·have := hf hc; simpa [hc] using this
 subst hπ
 intro a ha
 refine JI π1 π2 a w (Xx ?_ π1 a w (Xy π1 a w hfr ha (key a ha)))
 rintro a' w' ⟨⟨h1, hE⟩, h2⟩
 refine h w' hE a' ⟨h2.defers, h2.size, fun u x hu => ?_⟩
 rw [Xa] at hu
 split at hu
 ·rename_i e; subst e; rw [← hu]; exact h1
 ·exact h2.slots u x hu
theorem wr_join {π1 π2 : List Nat} {tc tp : Nat} {b : Bool} {vt vf : Value} (hπ : π = π1 ++ π2) (hb : lk l tc = some (.bool b)) (hfr : freshIn ops l π1 = true)
  (ht : b = true → WR P N ops dr (Slot tp vt w) π1 ((tc, .bool true) :: l) w) (hf : b = false → WR P N ops dr (Slot tp vf w) π1 ((tc, .bool false) :: l) w)
  (h : WR P N ops dr Q π2 ((tp, if b then vt else vf) :: l) w) : WR P N ops dr Q π l w := by
 have key : WR P N ops dr (Slot tp (if b then vt else vf) w) π1 l w := by
  refine SP tc hb (fun hc => ?_) (fun hc => ?_)
  ·have := ht hc; simpa [hc] using this
  ·have := hf hc; simpa [hc] using this
 subst hπ
 intro a ha
 refine JI π1 π2 a w (Xx ?_ π1 a w (Xy π1 a w hfr ha (key a ha)))
 rintro a' w' ⟨⟨h1, rfl⟩, h2⟩
 refine h a' ⟨h2.defers, h2.size, fun u x hu => ?_⟩
 rw [Xa] at hu
 split at hu
 ·rename_i e; subst e; rw [← hu]; exact h1
 ·exact h2.slots u x hu
theorem ite_or (b b2 : Bool) : (if b = true then Value.bool true else .bool b2) = .bool (b || b2) := by cases b <;> rfl
theorem ite_and (b b2 : Bool) : (if b = true then Value.bool b2 else .bool false) = .bool (b && b2) := by cases b <;> rfl
theorem ORX {π1 π2 : List Nat} {tc tp : Nat} {b b2 : Bool} (hπ : π = π1 ++ π2) (hb : lk l tc = some (.bool b)) (hfr : freshIn ops l π1 = true)
  (ht : b = true → WR P N ops dr (SlotX tp (.bool true) w) π1 ((tc, .bool true) :: l) w) (hf : b = false → WR P N ops dr (SlotX tp (.bool b2) w) π1 ((tc, .bool false) :: l) w)
  (h : ∀ w', Ext w w' → WR P N ops dr Q π2 ((tp, .bool (b || b2)) :: l) w') : WR P N ops dr Q π l w :=
 Qcu hπ hb hfr ht hf (fun w' hE => by rw [ite_or]; exact h w' hE)
theorem ANDX {π1 π2 : List Nat} {tc tp : Nat} {b b2 : Bool} (hπ : π = π1 ++ π2) (hb : lk l tc = some (.bool b)) (hfr : freshIn ops l π1 = true)
  (ht : b = true → WR P N ops dr (SlotX tp (.bool b2) w) π1 ((tc, .bool true) :: l) w) (hf : b = false → WR P N ops dr (SlotX tp (.bool false) w) π1 ((tc, .bool false) :: l) w)
  (h : ∀ w', Ext w w' → WR P N ops dr Q π2 ((tp, .bool (b && b2)) :: l) w') : WR P N ops dr Q π l w :=
 Qcu hπ hb hfr ht hf (fun w' hE => by rw [ite_and]; exact h w' hE)
theorem OR {π1 π2 : List Nat} {tc tp : Nat} {b b2 : Bool} (hπ : π = π1 ++ π2) (hb : lk l tc = some (.bool b)) (hfr : freshIn ops l π1 = true)
  (ht : b = true → WR P N ops dr (Slot tp (.bool true) w) π1 ((tc, .bool true) :: l) w) (hf : b = false → WR P N ops dr (Slot tp (.bool b2) w) π1 ((tc, .bool false) :: l) w)
  (h : WR P N ops dr Q π2 ((tp, .bool (b || b2)) :: l) w) : WR P N ops dr Q π l w :=
 wr_join hπ hb hfr ht hf (by
  rw [ite_or]; exact h)
theorem AND {π1 π2 : List Nat} {tc tp : Nat} {b b2 : Bool} (hπ : π = π1 ++ π2) (hb : lk l tc = some (.bool b)) (hfr : freshIn ops l π1 = true)
  (ht : b = true → WR P N ops dr (Slot tp (.bool b2) w) π1 ((tc, .bool true) :: l) w) (hf : b = false → WR P N ops dr (Slot tp (.bool false) w) π1 ((tc, .bool false) :: l) w)
  (h : WR P N ops dr Q π2 ((tp, .bool (b && b2)) :: l) w) : WR P N ops dr Q π l w :=
 wr_join hπ hb hfr ht hf (by
  rw [ite_and]; exact h)
variable {x y c p : Operand} {u z : Int} {T T' : TypeId}
theorem mv (hx : ev l x = some v) : Yl P N (.move x) ty l w v := fun a ha w' _ o ho _ => by
 simp [execOp, ho, ha.eval hx]
theorem asg (hx : ev l x = some v) : Yl P N (.assign x) ty l w v := fun a ha w' _ o ho _ => by
 simp [execOp, ho, ha.eval hx]
theorem pk {b : Bool} (hc : ev l c = some (.bool b)) (hx : ev l (bif b then x else y) = some v) : Yl P N (.pick c x y) ty l w v := fun a ha w' _ o ho _ => by
 have := ha.eval hx
 cases b <;> simp_all [execOp, ha.eval hc, asBool]
theorem ext {xs : Array Value} {k : Nat} (hx : ev l x = some (.tuple xs)) (hv : xs[k]? = some v) : Yl P N (.extract x k) ty l w v := fun a ha w' _ o ho _ => by
 simp [execOp, ho, ha.eval hx, Instr.extract, hv]
theorem Qr {op : BinOp} {k k' : IntKind} {a b : Int} {x y : Operand} : (eqGuard op T x y (.int k a) (.int k' b)).run P w = .ok () w := by
 unfold eqGuard
 split <;> rfl
theorem XT {op : BinOp} {a b : Bool} {x y : Operand} : (eqGuard op T x y (.bool a) (.bool b)).run P w = .ok () w := by
 unfold eqGuard
 split <;> rfl
theorem Zn {op : BinOp} {a b r : Value} (hx : ev l x = some a) (hy : ev l y = some b) (hop : ∀ w, (binOp op T a b).run P w = .ok r w) (h1 : ∀ w x y, (eqGuard op T x y a b).run P w = .ok () w) :
  Yl P N (.binOp op T x y T') ty l w r := fun f ha w' _ o ho _ => by
 simp [execOp, ho, ha.eval hx, ha.eval hy, h1, hop]
theorem Kl (n : Int) (h : -9223372036854775808 ≤ n ∧ n ≤ 9223372036854775807) : IntKind.i64.wrap n = n := by
 rw [IntKind.wrap_i64]
 omega
theorem addI (hx : ev l x = some (.int .i64 u)) (hy : ev l y = some (.int .i64 z)) (hr : -9223372036854775808 ≤ u + z ∧ u + z ≤ 9223372036854775807 := by omega) :
  Yl P N (.binOp .add T x y T') ty l w (.int .i64 (u + z)) :=
 Zn hx hy (fun w => by rw [binOp_add]; simp [Op.intArith, Kl _ hr]) (fun _ _ _ => Qr)
theorem subI (hx : ev l x = some (.int .i64 u)) (hy : ev l y = some (.int .i64 z)) (hr : -9223372036854775808 ≤ u - z ∧ u - z ≤ 9223372036854775807 := by omega) :
  Yl P N (.binOp .sub T x y T') ty l w (.int .i64 (u - z)) :=
 Zn hx hy (fun w => by rw [binOp_sub]; simp [Op.intArith, Kl _ hr]) (fun _ _ _ => Qr)
theorem Kx (hx : ev l x = some (.int .i64 u)) (hy : ev l y = some (.int .i64 z)) (hr : -9223372036854775808 ≤ u * z ∧ u * z ≤ 9223372036854775807 := by omega) :
  Yl P N (.binOp .mul T x y T') ty l w (.int .i64 (u * z)) :=
 Zn hx hy (fun w => by rw [binOp_mul]; simp [Op.intArith, Kl _ hr]) (fun _ _ _ => Qr)
def wr (n : Int) : Int := IntKind.i64.wrap n
theorem addW (hx : ev l x = some (.int .i64 u)) (hy : ev l y = some (.int .i64 z)) : Yl P N (.binOp .add T x y T') ty l w (.int .i64 (wr (u + z))) :=
 Zn hx hy (fun w => by rw [binOp_add]; simp [Op.intArith, wr]) (fun _ _ _ => Qr)
theorem quoI (hx : ev l x = some (.int .i64 u)) (hy : ev l y = some (.int .i64 z)) (hu : 0 ≤ u ∧ u ≤ 9223372036854775807 := by omega) (hz : 1 ≤ z := by omega) :
  Yl P N (.binOp .quo T x y T') ty l w (.int .i64 (u / z)) :=
 Zn hx hy (fun w => by
  have h1 : u / z ≤ u := Int.ediv_le_self _ hu.1
  have h2 : 0 ≤ u / z := Int.ediv_nonneg hu.1 (by omega)
  have h3 : IntKind.i64.wrap (u / z) = u / z := Kl _ (by omega)
  rw [binOp_quo]; simp [Op.intDiv, show z ≠ 0 by omega, Int.tdiv_eq_ediv_of_nonneg hu.1, h3]) (fun _ _ _ => Qr)
theorem Qbe (hx : ev l x = some (.int .i64 u)) (hy : ev l y = some (.int .i64 z)) (hu : 0 ≤ u := by omega) (hz : 1 ≤ z := by omega) :
  Yl P N (.binOp .rem T x y T') ty l w (.int .i64 (u % z)) :=
 Zn hx hy (fun w => by
  rw [binOp_rem]; simp [Op.intDiv, show z ≠ 0 by omega, Int.tmod_eq_emod_of_nonneg hu]) (fun _ _ _ => Qr)
theorem Qan (hx : ev l x = some (.int .i64 u)) (hy : ev l y = some (.int .i64 z)) : Yl P N (.binOp .lss T x y T') ty l w (.bool (decide (u < z))) :=
 Zn hx hy (fun w => by rw [binOp_lss]; simp) (fun _ _ _ => Qr)
theorem Qbz (hx : ev l x = some (.int .i64 u)) (hy : ev l y = some (.int .i64 z)) : Yl P N (.binOp .leq T x y T') ty l w (.bool (decide (u ≤ z))) :=
 Zn hx hy (fun w => by rw [binOp_leq]; simp) (fun _ _ _ => Qr)
theorem Ju (hx : ev l x = some (.int .i64 u)) (hy : ev l y = some (.int .i64 z)) : Yl P N (.binOp .gtr T x y T') ty l w (.bool (decide (z < u))) :=
 Zn hx hy (fun w => by rw [binOp_gtr]; simp) (fun _ _ _ => Qr)
theorem Xb (hx : ev l x = some (.int .i64 u)) (hy : ev l y = some (.int .i64 z)) : Yl P N (.binOp .geq T x y T') ty l w (.bool (decide (z ≤ u))) :=
 Zn hx hy (fun w => by rw [binOp_geq]; simp) (fun _ _ _ => Qr)
theorem KV (hx : ev l x = some (.int .i64 u)) (hy : ev l y = some (.int .i64 z)) : Yl P N (.binOp .eql T x y T') ty l w (.bool (decide (u = z))) :=
 Zn hx hy (fun w => by
  have e : (u == z) = decide (u = z) := by by_cases h : u = z <;> simp [h]
  rw [binOp_eql, e]; simp) (fun _ _ _ => Qr)
theorem neqI (hx : ev l x = some (.int .i64 u)) (hy : ev l y = some (.int .i64 z)) : Yl P N (.binOp .neq T x y T') ty l w (.bool (decide (u ≠ z))) :=
 Zn hx hy (fun w => by
  have e : (u != z) = decide (u ≠ z) := by by_cases h : u = z <;> simp [h]
  rw [binOp_neq, e]; simp) (fun _ _ _ => Qr)
theorem notB {b : Bool} (hx : ev l x = some (.bool b)) : Yl P N (.unOp .not T x) ty l w (.bool (!b)) := fun a ha w' _ o ho _ => by
 simp [execOp, ho, ha.eval hx, Op.unary]
theorem nchk {ad : Addr} (hx : ev l x = some (.pointer (some ad))) : Yl P N (.nilCheck x) ty l w (.pointer (some ad)) := fun a ha w' _ o ho _ => by
 simp [execOp, ho, ha.eval hx]
theorem Zt {w0 : World} {xs : List Value} {E : TypeId} {zv : Value} {s b : Nat} (hx : ev l x = some v) (hT : SlT P T E zv s b) (hs : Sl w0 v xs := by assumption) :
  Yl P N (.call ⟨.builtin .len, #[x], #[T]⟩) ty l w (.int .i64 xs.length) := fun a ha w' _ o ho _ => by
 obtain ⟨⟨ad, cc, rfl, _⟩, _⟩ := hs
 simp [execOp, ho, ha.eval hx, resolve, invoke, builtin, Builtin.len_, run_underlying hT.und, goInt]
theorem Zh {w0 : World} {zs : List Int} {E : TypeId} {zv : Value} {s b : Nat} (hx : ev l x = some v) (hT : SlT P T E zv s b) (hs : Ints w0 v zs := by assumption) :
  Yl P N (.call ⟨.builtin .len, #[x], #[T]⟩) ty l w (.int .i64 zs.length) := by
 have := Zt (P := P) (N := N) (l := l) (w := w) (ty := ty) hx hT hs
 simpa using this
theorem Jb {E : TypeId} {zv : Value} {s b : Nat} (hT : SlT P T E zv s b) : ∃ i, P.info? E = some i ∧ i.zero = some zv ∧ i.size = s ∧ i.bytes = b := info_parts hT.inf
theorem iad {w0 : World} {xs : List Value} {E : TypeId} {zv : Value} {b : Nat} (hx : ev l x = some v) (hy : ev l y = some (.int .i64 u)) (hT : SlT P T E zv 1 b) (hs : Sl w0 v xs := by assumption) (h0 : 0 ≤ u := by omega) (h1 : u < xs.length := by omega) :
  Yl P N (.indexAddr T x y) ty l w (eptr v 1 u) := fun a ha w' _ o ho _ => by
 obtain ⟨⟨ad, cc, rfl, hc, hx'⟩, _⟩ := hs
 obtain ⟨ad, rfl, _⟩ := hx' (by omega)
 obtain ⟨j, hj, _, hj2, _⟩ := Jb hT
 simp [execOp, ho, ha.eval hx, ha.eval hy, Instr.indexAt, run_underlying hT.und, asIntOf, h0, h1, eptr, sizeOf, typeInfo, hj, hj2]
theorem QO {w0 : World} {zs : List Int} {E : TypeId} {zv : Value} {b : Nat} (hx : ev l x = some v) (hy : ev l y = some (.int .i64 u)) (hT : SlT P T E zv 1 b) (hs : Ints w0 v zs := by assumption) (h0 : 0 ≤ u := by omega) (h1 : u < zs.length := by omega) :
  Yl P N (.indexAddr T x y) ty l w (eptr v 1 u) := iad hx hy hT hs h0 (by simpa using h1)
def NA (P : Program) (t : TypeId) : Prop := ∀ w, (isAgg t).run P w = .ok false w
theorem ld {ad : Addr} (hp : ev l p = some (.pointer (some ad))) (hna : NA P T) (hc : w.cell? ad = some v) : Yl P N (.load T p) ty l w v := fun a ha w' hE o ho _ => by
 replace hE := hE.resolve_left (by simp [isM])
 simp [execOp, ho, ha.eval hp, Instr.loadAt, Instr.sureAddr, loadVar, hna w', hE.cell hc]
theorem ldE {w0 : World} {v0 : Value} {xs : List Value} (hp : ev l p = some (eptr v0 1 u)) (hna : NA P T) (hs : Sl w0 v0 xs) (hu : xs[u.toNat]? = some v) (hE : Ext w0 w := by first | exact Ext.refl _ | assumption) :
  Yl P N (.load T p) ty l w v := fun a ha w' hE' o ho _ => by
 replace hE' := hE'.resolve_left (by simp [isM])
 obtain ⟨⟨ad, cc, rfl, hc, hx'⟩, _⟩ := hs
 have hlt : u.toNat < xs.length := (List.getElem?_eq_some_iff.1 hu).1
 obtain ⟨ad, rfl, hcell⟩ := hx' (by omega)
 have := (hE.trans hE').cell (hcell _ _ hu)
 simp [execOp, ho, ha.eval hp, eptr, Instr.loadAt, Instr.sureAddr, loadVar, hna w', this]
theorem ldI {w0 : World} {v0 : Value} {zs : List Int} (hp : ev l p = some (eptr v0 1 u)) (hna : NA P T) (hs : Ints w0 v0 zs := by assumption) (hE : Ext w0 w := by first | exact Ext.refl _ | assumption)
  (h0 : 0 ≤ u := by omega) (h1 : u < zs.length := by omega) : Yl P N (.load T p) ty l w (.int .i64 (gi zs u)) :=
 ldE hp hna hs (get_gi h0 h1) hE
def RetX (w : World) (Φ : Value → World → Prop) : Ending → World → Prop := Ret (fun v w' => Ext w w' ∧ Φ v w')
theorem C {f : FuncId} {cl : List Operand} {ats : Array TypeId} {vs : List Value} {Φ : Value → World → Prop} (hi : ops[i]? = some ⟨some d, .call ⟨.value (.func f), cl.toArray, ats⟩, ty, pos, after, g⟩) (hw : Wt ops N l g) (hd : Nat.blt d N = true)
  (hv : evs l cl = some vs) (hf : ∀ args w, (callFunc f args).run P w = .ok (.enter f args) w) (hc : Calls P f vs.toArray w (RetX w Φ))
  (h : ∀ v w', Ext w w' → Φ v w' → WR P N ops dr Q π ((d, v) :: l) w') : WR P N ops dr Q (i :: π) l w := fun a ha => by
 refine ⟨_, hi, ?_⟩
 rw [if_pos (hw a ha _ rfl)]
 refine .inr ⟨rfl, ?_⟩
 have hm := ha.evals hv
 have hrun : (execOp a.eval ⟨some d, .call ⟨.value (.func f), cl.toArray, ats⟩, ty, pos, after, g⟩).run P w = .ok (.enter f vs.toArray) w := by
  simp only [execOp, resolve, List.map_toArray, hm, Act.eval, Deferred.ofValue]
  simp [invoke, hf]
 unfold Oper.wp
 rw [hrun, Oper.upon_enter]
 refine hc.mono fun e w' he => ?_
 cases e with
 | returned v => exact ⟨⟨v, rfl⟩, fun _ _ => he.1, h v w' he.1 he.2 _ (ha.put hd v)⟩
 | panicked c => exact he
 | outgrown => exact he.elim
theorem F {w' : World} (hi : ops[i]? = some ⟨some d, op, ty, pos, after, g⟩) (hw : Wt ops N l g) (hA : isA op = false) (hd : Nat.blt d N = true)
  (hr : ∀ a, At N a l → (execOp a.eval ⟨some d, op, ty, pos, after, g⟩).run P w = .ok (.value v) w') (hE : dr = true → isTail ops i = false → Ext w w')
  (h : WR P N ops dr Q π ((d, v) :: l) w') : WR P N ops dr Q (i :: π) l w := fun a ha => by
 refine ⟨_, hi, ?_⟩
 rw [if_pos (hw a ha _ rfl)]
 refine .inr ⟨hA, ?_⟩
 unfold Oper.wp
 rw [hr a ha, Oper.upon_value]
 exact ⟨⟨v, rfl⟩, hE, h _ (ha.put hd v)⟩
theorem F0 {w' : World} (hi : ops[i]? = some ⟨none, op, ty, pos, after, g⟩) (hw : Wt ops N l g) (hA : isA op = false)
  (hr : ∀ a, At N a l → (execOp a.eval ⟨none, op, ty, pos, after, g⟩).run P w = .ok .skip w') (hE : dr = true → isTail ops i = false → Ext w w')
  (h : WR P N ops dr Q π l w') : WR P N ops dr Q (i :: π) l w := fun a ha => by
 refine ⟨_, hi, ?_⟩
 rw [if_pos (hw a ha _ rfl)]
 refine .inr ⟨hA, ?_⟩
 unfold Oper.wp
 rw [hr a ha, Oper.upon_skip]
 exact ⟨⟨undef, rfl⟩, hE, h _ ha⟩
theorem MK {E : TypeId} {zv : Value} {b n : Nat} {cl : Int} (hi : ops[i]? = some ⟨some d, .makeSlice T x x, ty, pos, after, g⟩) (hw : Wt ops N l g) (hd : Nat.blt d N = true) (hx : ev l x = some (.int .i64 cl)) (hT : SlT P T E zv 1 b) (hz : zv.cells = #[zv])
  (h : ∀ v w', Ext w w' → Own w.heap.size w' v E (List.replicate n zv) → v.ownBlock = some w.heap.size → WR P N ops dr Q π ((d, v) :: l) w')
  (hn : cl = (n : Int) := by omega) (hle : n ≤ 140737488355328 := by omega) (hby : b * n ≤ 281474976710656 := by omega) : WR P N ops dr Q (i :: π) l w := by
 obtain ⟨j, hj, hj1, hj2, hj3⟩ := Jb hT
 obtain ⟨w', hrun, hown, hg⟩ := run_make_full (P := P) w w.heap.size T E j zv 1 hT.und hj hj1 hj2 .i64 .i64 n (by rw [hj3]; exact hby) (by unfold maxLen; omega) (Nat.le_refl _)
 have hcells : (madeCells zv.cells (n * 1)).toList = List.replicate n zv := by
  rw [hz]
  simp only [madeCells, Array.toList_map, Nat.mul_one]
  apply List.ext_getElem
  ·simp
  ·intro k h1 h2
   simp [Nat.mod_one]
 rw [hcells] at hown
 subst hn
 refine F (v := .slice (some ⟨w.heap.size, 0, none⟩) n n) hi hw rfl hd (fun a ha => by simp [execOp, ha.eval hx, hrun]) (fun _ _ => Ext.of_grown hg) (h _ w' (Ext.of_grown hg) ⟨?_, by simpa using hle⟩ rfl)
 simpa using hown
theorem ST {v0 u0 : Value} {B : Nat} {E : TypeId} {xs : List Value} (hi : ops[i]? = some ⟨none, .store T p x, ty, pos, after, g⟩) (hw : Wt ops N l g) (hp : ev l p = some (eptr v0 1 u)) (hx : ev l x = some u0)
  (hT : ∃ j, P.info? T = some j ∧ j.size = 1) (h1c : u0.oneCell' = true) (htl : dr = true → isTail ops i = true)
  (h : ∀ w', w.grownBy w' v0.ownBlock → Own B w' v0 E (xs.set u.toNat u0) → WR P N ops dr Q π l w') (ho : Own B w v0 E xs := by assumption) (h0 : 0 ≤ u := by omega) (h1 : u < xs.length := by omega) : WR P N ops dr Q (i :: π) l w := by
 obtain ⟨⟨hlen, hr⟩, hle⟩ := ho
 rcases hr with ⟨_, hn⟩ | ⟨gb, cap, cur, hv, hB, hg, hnc, hcm, hcs, htake⟩
 ·omega
 ·subst hv
  have hown : w.ownsRow B E 1 (.slice (some ⟨gb, 0, none⟩) xs.length cap) xs.length xs := ⟨hlen, .inr ⟨gb, cap, cur, rfl, hB, hg, hnc, hcm, hcs, htake⟩⟩
  have hk : u.toNat < xs.length := by omega
  have hcell : w.cell? ⟨gb, u.toNat, none⟩ = some xs[u.toNat] := by
   rw [hown.cellAt u.toNat (by omega)]; simp [hk]
  have hfz : w.frozen? ⟨gb, u.toNat, none⟩ = false := hown.frozenAt _
  have hadd : (⟨gb, 0, none⟩ : Addr).add (u.toNat * 1) = ⟨gb, u.toNat, none⟩ := by rw [Addr.add_lit]; simp
  have hcells1 : u0.cells = #[u0] := by cases u0 <;> first | rfl | simp [Value.oneCell'] at h1c
  obtain ⟨j, hj, hj2⟩ := hT
  have hst := hown.stored u.toNat u0
  have hgb : w.grownBy (w.setCell ⟨gb, u.toNat, none⟩ u0) (some gb) :=
   ⟨rfl, rfl, rfl, by simp, fun k _ hne => Below.heap_setCell _ _ _ _ (fun e => hne (by rw [e]))⟩
  refine F0 (w' := w.setCell ⟨gb, u.toNat, none⟩ u0) hi hw rfl (fun a ha => ?_) (fun hd ht => by rw [htl hd] at ht; cases ht) (h _ hgb ⟨?_, by simpa using hle⟩)
  ·have e0 : ∀ q : Addr, q.add 0 = q := fun q => by simp [Addr.add]
   simp only [execOp, ha.eval hp, ha.eval hx, eptr, Instr.storeAt, Instr.sureAddr, storeVar, hadd]
   simp [sizeOf, typeInfo, hj, hj2, hcells1, storeCells, run_store P _ _ _ _ h1c, hcell, hfz, e0]
  ·simpa using hst.1
theorem MKI {E : TypeId} {b n : Nat} {cl : Int} (hi : ops[i]? = some ⟨some d, .makeSlice T x x, ty, pos, after, g⟩) (hw : Wt ops N l g) (hd : Nat.blt d N = true) (hx : ev l x = some (.int .i64 cl)) (hT : SlT P T E (.int .i64 0) 1 b)
  (h : ∀ v w', Ext w w' → OwnI w.heap.size w' v E (tab n (fun _ => 0)) → Ints w' v (tab n (fun _ => 0)) → v.ownBlock = some w.heap.size → WR P N ops dr Q π ((d, v) :: l) w')
  (hn : cl = (n : Int) := by omega) (hle : n ≤ 140737488355328 := by omega) (hby : b * n ≤ 281474976710656 := by omega) : WR P N ops dr Q (i :: π) l w :=
 MK hi hw hd hx hT rfl (hn := hn) (hle := hle) (hby := hby) (h := fun v w' hE ho hb => by
  have e : List.replicate n (Value.int .i64 0) = (tab n (fun _ => (0 : Int))).map (Value.int .i64) := by rw [map_tab, Jo]
  rw [e] at ho
  exact h v w' hE ho (OwnI.ints ho) hb)
theorem STI {v0 : Value} {B : Nat} {E : TypeId} {zs : List Int} {z : Int} (hi : ops[i]? = some ⟨none, .store T p x, ty, pos, after, g⟩) (hw : Wt ops N l g) (hp : ev l p = some (eptr v0 1 u)) (hx : ev l x = some (.int .i64 z))
  (hT : ∃ j, P.info? T = some j ∧ j.size = 1) (htl : dr = true → isTail ops i = true)
  (h : ∀ w', w.grownBy w' v0.ownBlock → (∀ w0, w0.heap.size ≤ B → Ext w0 w → Ext w0 w') → OwnI B w' v0 E (si zs u z) → Ints w' v0 (si zs u z) → WR P N ops dr Q π l w')
  (ho : OwnI B w v0 E zs := by assumption) (h0 : 0 ≤ u := by omega) (h1 : u < zs.length := by omega) : WR P N ops dr Q (i :: π) l w :=
 ST hi hw hp hx hT rfl htl (ho := ho) (h0 := h0) (h1 := by simpa using h1) (h := fun w' hg ho' => by
  have e : (zs.map (Value.int .i64)).set u.toNat (.int .i64 z) = (si zs u z).map (Value.int .i64) := by
   rw [si, List.map_set]
  rw [e] at ho'
  exact h w' hg (fun w0 hB hE => hE.grown hg ho hB) ho' (OwnI.ints ho'))
theorem BXA {cs : Array Value} (hi : ops[i]? = some ⟨some d, .box T x, ty, pos, after, g⟩) (hw : Wt ops N l g) (hd : Nat.blt d N = true) (hx : ev l x = some (.agg cs))
  (h : ∀ g w', Ext w w' → Blk w' g T cs → w.heap.size ≤ g → WR P N ops dr Q π ((d, .pointer (some ⟨g, 0, none⟩)) :: l) w') : WR P N ops dr Q (i :: π) l w :=
 F (v := .pointer (some ⟨w.heap.size, 0, none⟩)) (w' := w.alloc (.cells cs T)) hi hw rfl hd (fun a ha => by simp [execOp, ha.eval hx, Instr.box, newVar, newRow, Value.cells]) (fun _ _ => Ext.alloc _ _)
  (h _ _ (Ext.alloc _ _) (heap_alloc_new w _) (Nat.le_refl _))
theorem BXV {u0 : Value} (hi : ops[i]? = some ⟨some d, .box T x, ty, pos, after, g⟩) (hw : Wt ops N l g) (hd : Nat.blt d N = true) (hx : ev l x = some u0) (h1c : u0.oneCell' = true)
  (h : ∀ g w', Ext w w' → Blk w' g T #[u0] → w.heap.size ≤ g → WR P N ops dr Q π ((d, .pointer (some ⟨g, 0, none⟩)) :: l) w') : WR P N ops dr Q (i :: π) l w := by
 have hcells1 : u0.cells = #[u0] := by cases u0 <;> first | rfl | simp [Value.oneCell'] at h1c
 exact F (v := .pointer (some ⟨w.heap.size, 0, none⟩)) (w' := w.alloc (.cells #[u0] T)) hi hw rfl hd (fun a ha => by simp [execOp, ha.eval hx, Instr.box, newVar, newRow, hcells1]) (fun _ _ => Ext.alloc _ _)
  (h _ _ (Ext.alloc _ _) (heap_alloc_new w _) (Nat.le_refl _))
def FA (P : Program) (T : TypeId) (k o : Nat) : Prop := ∀ (a : Addr) (w : World), (Instr.fieldAt T (.pointer (some a)) k).run P w = .ok (.pointer (some (a.add o))) w
theorem fad {g off k o : Nat} (hx : ev l x = some (.pointer (some ⟨g, off, none⟩))) (hF : FA P T k o) : Yl P N (.fieldAddr T x k) ty l w (.pointer (some ⟨g, off + o, none⟩)) := fun a ha w' _ f hf _ => by
 simp [execOp, hf, ha.eval hx, hF _ w', Addr.add_lit]
theorem ldB {g k : Nat} {t : TypeId} {cs : Array Value} {w0 : World} (hp : ev l p = some (.pointer (some ⟨g, k, none⟩))) (hna : NA P T) (hB : Blk w0 g t cs := by assumption) (hc : cs[k]? = some v := by rfl) (hE : Ext w0 w := by first | exact Ext.refl _ | assumption) :
  Yl P N (.load T p) ty l w v := ld hp hna ((hB.ext hE).cell hc)
structure AG (P : Program) (T : TypeId) (n : Nat) : Prop where
 agg : ∀ w, (isAgg T).run P w = .ok true w
 size : ∀ w, (sizeOf T).run P w = .ok n w
theorem ldA {g k n : Nat} {t : TypeId} {cs : List Value} {w0 : World} (hp : ev l p = some (.pointer (some ⟨g, k, none⟩))) (hA : AG P T n) (hB : Blk w0 g t cs.toArray := by assumption) (hn : Nat.ble (k + n) cs.length = true := by rfl) (hE : Ext w0 w := by first | exact Ext.refl _ | assumption) :
  Yl P N (.load T p) ty l w (.agg ((cs.drop k).take n).toArray) := fun a ha w' hE' o ho _ => by
 replace hE' := hE'.resolve_left (by simp [isM])
 have hle : k + n ≤ cs.length := Nat.le_of_ble_eq_true hn
 have hc : ∀ j v, ((cs.drop k).take n)[j]? = some v → w'.cell? ((⟨g, k, none⟩ : Addr).add j) = some v := by
  intro j v hv
  have hlt : j < n := by
   have := (List.getElem?_eq_some_iff.1 hv).1
   simp at this; omega
  rw [Addr.add_lit]
  refine (hE.trans hE').cell (hB.cell ?_)
  rw [List.getElem?_take, if_pos hlt, List.getElem?_drop] at hv
  simpa using hv
 have hl := run_loadCells_list (P := P) w' ⟨g, k, none⟩ ((cs.drop k).take n) hc
 have hlen : ((cs.drop k).take n).length = n := by simp; omega
 rw [hlen] at hl
 simp [execOp, ho, ha.eval hp, Instr.loadAt, Instr.sureAddr, loadVar, hA.agg w', hA.size w', hl]
end
section
variable {P : Program} {N : Nat} {w : World}
theorem Qau {f : FuncId} {fn : Func} {c : Code} {R : Ending → World → Prop} (hf : P.funcs[f]? = some fn) (hb : fn.body = some c) (h : WC P fn.ntmps c (bodyPost P fn R) [] w) : Calls P f #[] w R :=
 Js (args := []) [] hf hb rfl rfl (fun t v h => by cases h) h
theorem QL {f : FuncId} {fn : Func} {c : Code} {v0 : Value} {R : Ending → World → Prop} (hf : P.funcs[f]? = some fn) (hb : fn.body = some c) (hN : Nat.ble 1 fn.ntmps = true := by rfl) (h : WC P fn.ntmps c (bodyPost P fn R) [(0, v0)] w) : Calls P f #[v0] w R :=
 Js (args := [v0]) [(0, v0)] hf hb rfl hN (fun t _ h => match t, h with
  | 0, h => h
  | _ + 1, h => h) h
theorem QD {f : FuncId} {fn : Func} {c : Code} {v0 v1 : Value} {R : Ending → World → Prop} (hf : P.funcs[f]? = some fn) (hb : fn.body = some c) (hN : Nat.ble 2 fn.ntmps = true := by rfl) (h : WC P fn.ntmps c (bodyPost P fn R) [(0, v0), (1, v1)] w) : Calls P f #[v0, v1] w R :=
 Js (args := [v0, v1]) [(0, v0), (1, v1)] hf hb rfl hN (fun t _ h => match t, h with
  | 0, h => h
  | 1, h => h
  | _ + 2, h => h) h
theorem QS {f : FuncId} {fn : Func} {c : Code} {v0 v1 v2 : Value} {R : Ending → World → Prop} (hf : P.funcs[f]? = some fn) (hb : fn.body = some c) (hN : Nat.ble 3 fn.ntmps = true := by rfl) (h : WC P fn.ntmps c (bodyPost P fn R) [(0, v0), (1, v1), (2, v2)] w) : Calls P f #[v0, v1, v2] w R :=
 Js (args := [v0, v1, v2]) [(0, v0), (1, v1), (2, v2)] hf hb rfl hN (fun t _ h => match t, h with
  | 0, h => h
  | 1, h => h
  | 2, h => h
  | _ + 3, h => h) h
theorem JW {f : FuncId} {fn : Func} {c : Code} {v0 v1 v2 v3 : Value} {R : Ending → World → Prop} (hf : P.funcs[f]? = some fn) (hb : fn.body = some c) (hN : Nat.ble 4 fn.ntmps = true := by rfl) (h : WC P fn.ntmps c (bodyPost P fn R) [(0, v0), (1, v1), (2, v2), (3, v3)] w) : Calls P f #[v0, v1, v2, v3] w R :=
 Js (args := [v0, v1, v2, v3]) [(0, v0), (1, v1), (2, v2), (3, v3)] hf hb rfl hN (fun t _ h => match t, h with
  | 0, h => h
  | 1, h => h
  | 2, h => h
  | 3, h => h
  | _ + 4, h => h) h
theorem calls5 {f : FuncId} {fn : Func} {c : Code} {v0 v1 v2 v3 v4 : Value} {R : Ending → World → Prop} (hf : P.funcs[f]? = some fn) (hb : fn.body = some c) (hN : Nat.ble 5 fn.ntmps = true := by rfl) (h : WC P fn.ntmps c (bodyPost P fn R) [(0, v0), (1, v1), (2, v2), (3, v3), (4, v4)] w) : Calls P f #[v0, v1, v2, v3, v4] w R :=
 Js (args := [v0, v1, v2, v3, v4]) [(0, v0), (1, v1), (2, v2), (3, v3), (4, v4)] hf hb rfl hN (fun t _ h => match t, h with
  | 0, h => h
  | 1, h => h
  | 2, h => h
  | 3, h => h
  | 4, h => h
  | _ + 5, h => h) h
theorem calls6 {f : FuncId} {fn : Func} {c : Code} {v0 v1 v2 v3 v4 v5 : Value} {R : Ending → World → Prop} (hf : P.funcs[f]? = some fn) (hb : fn.body = some c) (hN : Nat.ble 6 fn.ntmps = true := by rfl) (h : WC P fn.ntmps c (bodyPost P fn R) [(0, v0), (1, v1), (2, v2), (3, v3), (4, v4), (5, v5)] w) : Calls P f #[v0, v1, v2, v3, v4, v5] w R :=
 Js (args := [v0, v1, v2, v3, v4, v5]) [(0, v0), (1, v1), (2, v2), (3, v3), (4, v4), (5, v5)] hf hb rfl hN (fun t _ h => match t, h with
  | 0, h => h
  | 1, h => h
  | 2, h => h
  | 3, h => h
  | 4, h => h
  | 5, h => h
  | _ + 6, h => h) h
end
section
variable {P : Program} {N : Nat} {l : Env} {w : World} {ops : Array Oper} {dr : Bool} {Q : Act → World → Prop} {π : List Nat} {i d : Nat} {v : Value} {op : Op} {ty : TypeId} {pos : String} {after : Array Edge} {x y c p : Operand} {u z : Int} {T T' : TypeId}
theorem Vw (hi : ops[i]? = some ⟨some d, op, ty, pos, after, none⟩) (hy : Yl P N op ty l w v) (h : WR P N ops dr Q π ((d, v) :: l) w) (hA : isA op = true := by rfl) (hd : Nat.blt d N = true := by rfl) : WR P N ops dr Q (i :: π) l w := Vv hi wu hA hd hy h
theorem mvV  (hi : ops[i]? = some ⟨some d, .move x, ty, pos, after, none⟩) (hx : ev l x = some v) (h : WR P N ops dr Q π ((d, v) :: l) w) (hd : Nat.blt d N = true := by rfl) : WR P N ops dr Q (i :: π) l w := Vv hi wu rfl hd (mv hx) h
theorem Qk  (hi : ops[i]? = some ⟨some d, .assign x, ty, pos, after, none⟩) (hx : ev l x = some v) (h : WR P N ops dr Q π ((d, v) :: l) w) (hd : Nat.blt d N = true := by rfl) : WR P N ops dr Q (i :: π) l w := Vv hi wu rfl hd (asg hx) h
theorem pkV {b : Bool}  (hi : ops[i]? = some ⟨some d, .pick c x y, ty, pos, after, none⟩) (hc : ev l c = some (.bool b)) (hx : ev l (bif b then x else y) = some v) (h : WR P N ops dr Q π ((d, v) :: l) w) (hd : Nat.blt d N = true := by rfl) : WR P N ops dr Q (i :: π) l w := Vv hi wu rfl hd (pk hc hx) h
theorem QI {xs : Array Value} {k : Nat}  (hi : ops[i]? = some ⟨some d, .extract x k, ty, pos, after, none⟩) (hx : ev l x = some (.tuple xs)) (hv : xs[k]? = some v) (h : WR P N ops dr Q π ((d, v) :: l) w) (hd : Nat.blt d N = true := by rfl) : WR P N ops dr Q (i :: π) l w := Vv hi wu rfl hd (ext hx hv) h
theorem Qz {g off k o : Nat}  (hi : ops[i]? = some ⟨some d, .fieldAddr T x k, ty, pos, after, none⟩) (hx : ev l x = some (.pointer (some ⟨g, off, none⟩))) (hF : FA P T k o) (h : WR P N ops dr Q π ((d, (.pointer (some ⟨g, off + o, none⟩))) :: l) w) (hd : Nat.blt d N = true := by rfl) : WR P N ops dr Q (i :: π) l w := Vv hi wu rfl hd (fad hx hF) h
theorem QM {ad : Addr}  (hi : ops[i]? = some ⟨some d, .nilCheck x, ty, pos, after, none⟩) (hx : ev l x = some (.pointer (some ad))) (h : WR P N ops dr Q π ((d, (.pointer (some ad))) :: l) w) (hd : Nat.blt d N = true := by rfl) : WR P N ops dr Q (i :: π) l w := Vv hi wu rfl hd (nchk hx) h
theorem ZC {b : Bool}  (hi : ops[i]? = some ⟨some d, .unOp .not T x, ty, pos, after, none⟩) (hx : ev l x = some (.bool b)) (h : WR P N ops dr Q π ((d, (.bool (!b))) :: l) w) (hd : Nat.blt d N = true := by rfl) : WR P N ops dr Q (i :: π) l w := Vv hi wu rfl hd (notB hx) h
theorem Qy  (hi : ops[i]? = some ⟨some d, .binOp .lss T x y T', ty, pos, after, none⟩) (hx : ev l x = some (.int .i64 u)) (hy : ev l y = some (.int .i64 z)) (h : WR P N ops dr Q π ((d, (.bool (decide (u < z)))) :: l) w) (hd : Nat.blt d N = true := by rfl) : WR P N ops dr Q (i :: π) l w := Vv hi wu rfl hd (Qan hx hy) h
theorem ZA  (hi : ops[i]? = some ⟨some d, .binOp .gtr T x y T', ty, pos, after, none⟩) (hx : ev l x = some (.int .i64 u)) (hy : ev l y = some (.int .i64 z)) (h : WR P N ops dr Q π ((d, (.bool (decide (z < u)))) :: l) w) (hd : Nat.blt d N = true := by rfl) : WR P N ops dr Q (i :: π) l w := Vv hi wu rfl hd (Ju hx hy) h
theorem QU  (hi : ops[i]? = some ⟨some d, .binOp .eql T x y T', ty, pos, after, none⟩) (hx : ev l x = some (.int .i64 u)) (hy : ev l y = some (.int .i64 z)) (h : WR P N ops dr Q π ((d, (.bool (decide (u = z)))) :: l) w) (hd : Nat.blt d N = true := by rfl) : WR P N ops dr Q (i :: π) l w := Vv hi wu rfl hd (KV hx hy) h
theorem QG  (hi : ops[i]? = some ⟨some d, .binOp .neq T x y T', ty, pos, after, none⟩) (hx : ev l x = some (.int .i64 u)) (hy : ev l y = some (.int .i64 z)) (h : WR P N ops dr Q π ((d, (.bool (decide (u ≠ z)))) :: l) w) (hd : Nat.blt d N = true := by rfl) : WR P N ops dr Q (i :: π) l w := Vv hi wu rfl hd (neqI hx hy) h
theorem Qw  (hi : ops[i]? = some ⟨some d, .binOp .add T x y T', ty, pos, after, none⟩) (hx : ev l x = some (.int .i64 u)) (hy : ev l y = some (.int .i64 z)) (h : WR P N ops dr Q π ((d, (.int .i64 (u + z))) :: l) w) (hr : -9223372036854775808 ≤ u + z ∧ u + z ≤ 9223372036854775807 := by omega) (hd : Nat.blt d N = true := by rfl) : WR P N ops dr Q (i :: π) l w := Vv hi wu rfl hd (addI hx hy hr) h
theorem Zd  (hi : ops[i]? = some ⟨some d, .binOp .sub T x y T', ty, pos, after, none⟩) (hx : ev l x = some (.int .i64 u)) (hy : ev l y = some (.int .i64 z)) (h : WR P N ops dr Q π ((d, (.int .i64 (u - z))) :: l) w) (hr : -9223372036854775808 ≤ u - z ∧ u - z ≤ 9223372036854775807 := by omega) (hd : Nat.blt d N = true := by rfl) : WR P N ops dr Q (i :: π) l w := Vv hi wu rfl hd (subI hx hy hr) h
theorem Vg {j t : Nat} {want : Bool} (hi : ops[i]? = some ⟨some d, op, ty, pos, after, some (j, want)⟩) (hj : (ops[j]?).bind (·.dst) = some t) (hb : lk l t = some (.bool want)) (hy : Yl P N op ty l w v) (h : WR P N ops dr Q π ((d, v) :: l) w) (hA : isA op = true := by rfl) (hd : Nat.blt d N = true := by rfl) : WR P N ops dr Q (i :: π) l w := Vv hi (wg hj hb) hA hd hy h
end
section
variable {a b c d e : Value}
theorem oc1 (ha : a.oneCell' = true := by first | rfl | assumption) : ∀ v ∈ [a], v.oneCell' = true := fun v hv => by rw [List.mem_singleton.1 hv]; exact ha
theorem oc2 (ha : a.oneCell' = true := by first | rfl | assumption) (hb : b.oneCell' = true := by first | rfl | assumption) : ∀ v ∈ [a, b], v.oneCell' = true := fun v hv => (List.mem_cons.1 hv).elim (fun e => e ▸ ha) (fun h => oc1 hb v h)
theorem oc3 (ha : a.oneCell' = true := by first | rfl | assumption) (hb : b.oneCell' = true := by first | rfl | assumption) (hc : c.oneCell' = true := by first | rfl | assumption) : ∀ v ∈ [a, b, c], v.oneCell' = true := fun v hv => (List.mem_cons.1 hv).elim (fun e => e ▸ ha) (fun h => oc2 hb hc v h)
theorem oc4 (ha : a.oneCell' = true := by first | rfl | assumption) (hb : b.oneCell' = true := by first | rfl | assumption) (hc : c.oneCell' = true := by first | rfl | assumption) (hd : d.oneCell' = true := by first | rfl | assumption) : ∀ v ∈ [a, b, c, d], v.oneCell' = true := fun v hv => (List.mem_cons.1 hv).elim (fun e => e ▸ ha) (fun h => oc3 hb hc hd v h)
theorem oc5 (ha : a.oneCell' = true := by first | rfl | assumption) (hb : b.oneCell' = true := by first | rfl | assumption) (hc : c.oneCell' = true := by first | rfl | assumption) (hd : d.oneCell' = true := by first | rfl | assumption) (he : e.oneCell' = true := by first | rfl | assumption) : ∀ v ∈ [a, b, c, d, e], v.oneCell' = true := fun v hv => (List.mem_cons.1 hv).elim (fun e => e ▸ ha) (fun h => oc4 hb hc hd he v h)
end
end Go.Sx
