import Derived.Test.YtcfbigmjjpknfaaGreatDoorW13
namespace Go.Sx
open Go Go.RowKit Go.Pl
theorem Own.ty {B : Nat} {w : World} {v : Value} {E : TypeId} {xs : List Value} (h : Own B w v E xs) {k : Nat} (hk : v.ownBlock = some k) : ∃ c, w.heap[k]? = some (.cells c E (0, 0)) := by
 obtain ⟨⟨h0, hr⟩, -⟩ := h
 rcases hr with ⟨rfl, -⟩ | ⟨g, cap, cur, rfl, hB, hg, -⟩
 ·cases hk
 ·obtain rfl := Option.some.inj hk
  exact ⟨cur, hg⟩
theorem OM.notin {B : Nat} {w : World} {v : Value} {E E' : TypeId} {rows : List Value} {L : List (List Int)} (h : OM B w v E E' rows L) {k : Nat} {T : TypeId} {cs : Array Value} (hB : Blk w k T cs) (h1 : Nat.beq T E = false) (h2 : Nat.beq T E' = false) : k ∉ bks v rows := fun hk => by
 have key : ∀ {t : TypeId}, (∃ c, w.heap[k]? = some (.cells c t (0, 0))) → T = t := fun {t} ⟨c, hc⟩ => by
  rw [Blk, hc] at hB
  simp only [Option.some.injEq, Obj.cells.injEq] at hB
  exact hB.2.1.symm
 rcases QQ.1 hk with hk | ⟨r, hr, hk⟩
 ·have := key (h.own.ty hk)
  rw [this] at h1
  simp at h1
 ·obtain ⟨i, hi⟩ := List.getElem?_of_mem hr
  have hl := h.len
  have hil := (List.getElem?_eq_some_iff.1 hi).1
  have := key (Own.ty (h.row i r (L[i]'(by omega)) hi (List.getElem?_eq_getElem (by omega))) hk)
  rw [this] at h2
  simp at h2
end Go.Sx
namespace Go.Proofs.YtcfbigmjjpknfaaGreatDoor
open Go Go.Sx Go.Pl Go.RowKit Go.Fd Go.Alg
structure EL (B gb rb ab : Nat) (X0 : List Nat) (g v1 v2 : Value) (wi w : World) (Ze Zc : List Value) (L1 L2 : List (List Int)) : Prop where
 gr : Gr X0 wi w
 om1 : OM B w v1 22 3 Ze L1
 om2 : OM B w v2 22 3 Zc L2
 dis : ∀ k ∈ bks v2 Zc, k ∉ bks v1 Ze
 n1 : ∀ k ∈ bks v1 Ze, k ∈ X0 ∨ wi.heap.size ≤ k
 n2 : ∀ k ∈ bks v2 Zc, k ∈ X0 ∨ wi.heap.size ≤ k
 gB : Blk w gb 61 #[g]
 rB : Blk w rb 25 #[v1]
 aB : Blk w ab 25 #[v2]
section
variable {B gb rb ab : Nat} {X0 : List Nat} {g v1 v2 : Value} {wi w w' : World} {Ze Zc : List Value} {L1 L2 : List (List Int)}
theorem EL.ext (h : EL B gb rb ab X0 g v1 v2 wi w Ze Zc L1 L2) (hE : Ext w w') : EL B gb rb ab X0 g v1 v2 wi w' Ze Zc L1 L2 :=
 ⟨h.gr.trans (Gr.of_ext hE), h.om1.ext hE, h.om2.ext hE, h.dis, h.n1, h.n2, h.gB.ext hE, h.rB.ext hE, h.aB.ext hE⟩
theorem EL.rX (h : EL B gb rb ab X0 g v1 v2 wi w Ze Zc L1 L2) : rb ∉ bks v1 Ze ∧ ab ∉ bks v1 Ze ∧ gb ∉ bks v1 Ze ∧ rb ∉ bks v2 Zc ∧ ab ∉ bks v2 Zc ∧ gb ∉ bks v2 Zc :=
 ⟨h.om1.notin h.rB (by decide) (by decide), h.om1.notin h.aB (by decide) (by decide), h.om1.notin h.gB (by decide) (by decide), h.om2.notin h.rB (by decide) (by decide), h.om2.notin h.aB (by decide) (by decide), h.om2.notin h.gB (by decide) (by decide)⟩
theorem EL.var (h : EL B gb rb ab X0 g v1 v2 wi w Ze Zc L1 L2) {k : Nat} (hg : w.grownBy w' (some k)) (hk : wi.heap.size ≤ k) (h1 : k ∉ bks v1 Ze) (h2 : k ∉ bks v2 Zc) (h3 : k ≠ gb) (h4 : k ≠ rb) (h5 : k ≠ ab) : EL B gb rb ab X0 g v1 v2 wi w' Ze Zc L1 L2 := by
 have hG : Gr [k] w w' := Gr.of_grown hg (fun j e => by simp [Option.some.inj e])
 exact ⟨h.gr.grow hg (fun j e => .inr (by have := Option.some.inj e; omega)), h.om1.gr hG (fun j hj e => h1 (by rw [← List.mem_singleton.1 e]; exact hj)), h.om2.gr hG (fun j hj e => h2 (by rw [← List.mem_singleton.1 e]; exact hj)), h.dis, h.n1, h.n2,
  h.gB.gr hG (fun e => h3 (List.mem_singleton.1 e).symm), h.rB.gr hG (fun e => h4 (List.mem_singleton.1 e).symm), h.aB.gr hG (fun e => h5 (List.mem_singleton.1 e).symm)⟩
theorem EL.step {rows1' rows2' : List Value} {L1' L2' : List (List Int)} (h : EL B gb rb ab X0 g v1 v2 wi w Ze Zc L1 L2) (hG : Gr (bks v1 Ze ++ bks v2 Zc) w w') (h1 : OM B w' v1 22 3 rows1' L1') (h2 : OM B w' v2 22 3 rows2' L2')
  (n1 : ∀ k ∈ bks v1 rows1', k ∈ bks v1 Ze ∨ w.heap.size ≤ k) (n2 : ∀ k ∈ bks v2 rows2', k ∈ bks v2 Zc ∨ w.heap.size ≤ k) (hd : ∀ k ∈ bks v2 rows2', k ∉ bks v1 rows1') : EL B gb rb ab X0 g v1 v2 wi w' rows1' rows2' L1' L2' := by
 have hz := h.gr.size
 obtain ⟨x1, x2, x3, x4, x5, x6⟩ := h.rX
 have hX : ∀ k ∈ bks v1 Ze ++ bks v2 Zc, k ∈ X0 ∨ wi.heap.size ≤ k := fun k hk => (List.mem_append.1 hk).elim (h.n1 k) (h.n2 k)
 refine ⟨h.gr.comp hX hG, h1, h2, hd, fun k hk => ?_, fun k hk => ?_, h.gB.gr hG (by simp [x3, x6]), h.rB.gr hG (by simp [x1, x4]), h.aB.gr hG (by simp [x2, x5])⟩
 ·rcases n1 k hk with e | e
  ·exact h.n1 k e
  ·exact .inr (by omega)
 ·rcases n2 k hk with e | e
  ·exact h.n2 k e
  ·exact .inr (by omega)
end
end Go.Proofs.YtcfbigmjjpknfaaGreatDoor
