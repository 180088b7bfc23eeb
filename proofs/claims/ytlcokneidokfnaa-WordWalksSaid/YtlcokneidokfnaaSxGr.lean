/-
  The walking framework, part 12: calls that write into blocks that the caller names.
-/
import Derived.Test.YtlcokneidokfnaaSxElem
import Derived.Test.YtlcokneidokfnaaSxLists
namespace Go.Sx
open Go Go.RowKit Go.Pl
/-- The world grew; of the old blocks only those in X may have changed. -/
structure Gr (X : List Nat) (w w' : World) : Prop where
  os : w'.os = w.os
  tape : w'.tape = w.tape
  output : w'.output = w.output
  size : w.heap.size ≤ w'.heap.size
  block : ∀ k, k < w.heap.size → k ∉ X → w'.heap[k]? = w.heap[k]?
theorem Gr.refl (X : List Nat) (w : World) : Gr X w w := ⟨rfl, rfl, rfl, Nat.le_refl _, fun _ _ _ => rfl⟩
theorem Gr.trans {X : List Nat} {a b c : World} (h : Gr X a b) (k : Gr X b c) : Gr X a c :=
  ⟨k.os.trans h.os, k.tape.trans h.tape, k.output.trans h.output, Nat.le_trans h.size k.size, fun j hj hx => (k.block j (Nat.lt_of_lt_of_le hj h.size) hx).trans (h.block j hj hx)⟩
theorem Gr.mono {X Y : List Nat} {a b : World} (h : Gr X a b) (hX : ∀ k ∈ X, k ∈ Y) : Gr Y a b := ⟨h.os, h.tape, h.output, h.size, fun k hk hy => h.block k hk (fun hx => hy (hX k hx))⟩
theorem Gr.of_grown {X : List Nat} {w w' : World} {row : Option Nat} (h : w.grownBy w' row) (hr : ∀ k, row = some k → k ∈ X) : Gr X w w' :=
  ⟨h.os, h.tape, h.output, h.size, fun k hk hx => h.block k hk (fun e => hx (hr k e.symm))⟩
theorem Gr.of_ext {X : List Nat} {w w' : World} (h : Ext w w') : Gr X w w' := ⟨h.os, h.tape, h.output, h.size, fun k hk _ => h.block k hk⟩
theorem Gr.ext {X : List Nat} {w0 w w' : World} (h : Gr X w w') (hE : Ext w0 w) (hX : ∀ k ∈ X, w0.heap.size ≤ k) : Ext w0 w' :=
  ⟨h.os.trans hE.os, h.tape.trans hE.tape, h.output.trans hE.output, Nat.le_trans hE.size h.size, fun k hk => (h.block k (Nat.lt_of_lt_of_le hk hE.size) (fun hx => by have := hX k hx; omega)).trans (hE.block k hk)⟩
theorem Gr.ext' {w w' : World} (h : Gr [] w w') : Ext w w' := h.ext (Ext.refl w) (by simp)
theorem ownsRow_block {B : Nat} {w w' : World} {v : Value} {E : TypeId} {s n : Nat} {xs : List Value} (h : w.ownsRow B E s v n xs) (hb : ∀ k, v.ownBlock = some k → w'.heap[k]? = w.heap[k]?) : w'.ownsRow B E s v n xs := by
  obtain ⟨h0, h1⟩ := h
  refine ⟨h0, ?_⟩
  rcases h1 with h1 | ⟨g, cap, cur, hv, hg, hc, r⟩
  · exact .inl h1
  · refine .inr ⟨g, cap, cur, hv, hg, ?_, r⟩
    rw [hb g (by rw [hv]; rfl)]
    exact hc
theorem Own.gr {B : Nat} {w w' : World} {v : Value} {E : TypeId} {xs : List Value} {X : List Nat} (h : Own B w v E xs) (hg : Gr X w w') (hX : ∀ k, v.ownBlock = some k → k ∉ X) : Own B w' v E xs :=
  ⟨ownsRow_block h.row fun k hk => hg.block k (h.lt k hk).2 (hX k hk), h.le⟩
theorem OwnR.gr {B : Nat} {w w' : World} {v : Value} {E : TypeId} {s : Nat} {L : List (List Int)} {X : List Nat} (h : OwnR B w v E s L) (hg : Gr X w w') (hX : ∀ k, v.ownBlock = some k → k ∉ X) : OwnR B w' v E s L :=
  ⟨ownsRow_block h.row fun k hk => hg.block k (h.lt k hk).2 (hX k hk), h.rows, h.le⟩
theorem Blk.gr {w w' : World} {g : Nat} {t : TypeId} {cs : Array Value} {X : List Nat} (h : Blk w g t cs) (hg : Gr X w w') (hX : g ∉ X) : Blk w' g t cs := (hg.block g h.lt hX).trans h
theorem Sl.gr {w w' : World} {v : Value} {xs : List Value} {X : List Nat} (h : Sl w v xs) (hg : Gr X w w') (hX : ∀ k, v.ownBlock = some k → k ∉ X) : Sl w' v xs := by
  obtain ⟨⟨a, c, hv, hc, hx⟩, hl⟩ := h
  refine ⟨⟨a, c, hv, hc, fun h0 => ?_⟩, hl⟩
  obtain ⟨ad, ha, hh⟩ := hx h0
  subst ha hv
  refine ⟨ad, rfl, fun j u hu => ?_⟩
  have hcell := hh j u hu
  have hlt := World.block_lt_of_cell? w _ hcell
  have hb : (ad.add j).block = ad.block := by
    simp only [Addr.add]
    split <;> rfl
  rw [hb] at hlt
  have := hg.block ad.block hlt (hX _ rfl)
  unfold World.cell? at hcell ⊢
  rw [hb] at hcell ⊢
  rw [this]
  exact hcell
theorem Ints.gr {w w' : World} {v : Value} {zs : List Int} {X : List Nat} (h : Ints w v zs) (hg : Gr X w w') (hX : ∀ k, v.ownBlock = some k → k ∉ X) : Ints w' v zs := Sl.gr h hg hX
theorem RowsI.gr {w w' : World} {v : Value} {s : Nat} {L : List (List Int)} {X : List Nat} (h : RowsI w v s L) (hg : Gr X w w') (hX : ∀ k, v.ownBlock = some k → k ∉ X) : RowsI w' v s L := by
  obtain ⟨⟨a, c, hv, hc, hx⟩, hr, hl⟩ := h
  refine ⟨⟨a, c, hv, hc, fun h0 => ?_⟩, hr, hl⟩
  obtain ⟨ad, ha, hh⟩ := hx h0
  subst ha hv
  refine ⟨ad, rfl, fun j u hu => ?_⟩
  have hcell := hh j u hu
  have hlt := World.block_lt_of_cell? w _ hcell
  have hb : (ad.add j).block = ad.block := by
    simp only [Addr.add]
    split <;> rfl
  rw [hb] at hlt
  have := hg.block ad.block hlt (hX _ rfl)
  unfold World.cell? at hcell ⊢
  rw [hb] at hcell ⊢
  rw [this]
  exact hcell
def RetG (X : List Nat) (w : World) (Φ : Value → World → Prop) : Ending → World → Prop := Ret (fun v w' => Gr X w w' ∧ Φ v w')
section
variable {P : Program} {N : Nat} {l : Env} {w : World} {ops : Array Oper} {dr : Bool} {Q : Act → World → Prop} {π : List Nat} {i d : Nat} {v : Value} {op : Op} {ty : TypeId} {pos : String} {after : Array Edge} {g : Option (Nat × Bool)}
/-- A call of a function that writes into the blocks X. -/
theorem CG {X : List Nat} {f : FuncId} {cl : List Operand} {ats : Array TypeId} {vs : List Value} {Φ : Value → World → Prop} (hi : ops[i]? = some ⟨some d, .call ⟨.value (.func f), cl.toArray, ats⟩, ty, pos, after, g⟩) (hw : Wt ops N l g) (hd : Nat.blt d N = true)
    (hv : evs l cl = some vs) (hf : ∀ args w, (callFunc f args).run P w = .ok (.enter f args) w) (hc : Calls P f vs.toArray w (RetG X w Φ)) (htl : dr = true → isTail ops i = true)
    (h : ∀ v w', Gr X w w' → Φ v w' → WR P N ops dr Q π ((d, v) :: l) w') : WR P N ops dr Q (i :: π) l w := fun a ha => by
  refine ⟨_, hi, ?_⟩
  rw [if_pos (hw a ha _ rfl)]
  refine .inr ⟨rfl, ?_⟩
  have hm := ha.evals hv
  have hrun : (execOp a.eval ⟨some d, .call ⟨.value (.func f), cl.toArray, ats⟩, ty, pos, after, g⟩).run P w = .ok (.enter f vs.toArray) w := by
    simp only [execOp, resolve, List.map_toArray, hm, Act.eval, Deferred.ofValue]
    simp [invoke, hf]
  unfold Oper.wp
  rw [hrun, Oper.upon_enter]
  refine hc.mono fun e w' he => ?_
  cases e with
  | returned v => exact ⟨⟨v, rfl⟩, fun h1 h2 => (by rw [htl h1] at h2; cases h2), h v w' he.1 he.2 _ (ha.put hd v)⟩
  | panicked c => exact he
  | outgrown => exact he.elim
end
end Go.Sx
