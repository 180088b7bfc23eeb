/-
  The walking framework, part 13: regions in which up to three operations are free to come in several orders: each order is walked.
-/
import Derived.Test.YtlcokneidokfnaaSxTree
namespace Go.Sx
open Go Go.RowKit

inductive T3 where
  | leaf (π : List Nat)
  | br (π : List Nat) (t1 t2 : T3)
  | tr (π : List Nat) (t1 t2 t3 : T3)
def T3.len : T3 → Nat
  | .leaf π => π.length
  | .br π t1 _ => π.length + t1.len
  | .tr π t1 _ _ => π.length + t1.len
def T3.head : T3 → Option Nat
  | .leaf [] => none
  | .leaf (i :: _) => some i
  | .br [] _ _ => none
  | .br (i :: _) _ _ => some i
  | .tr [] _ _ _ => none
  | .tr (i :: _) _ _ _ => some i
section
variable (P : Program) (ops : Array Oper)
def R3 (Q : Act → World → Prop) : T3 → Act → World → Prop
  | .leaf π, a, w => RL P ops true Q π a w
  | .br π t1 t2, a, w => RL P ops true (fun a w => R3 Q t1 a w ∧ R3 Q t2 a w) π a w
  | .tr π t1 t2 t3, a, w => RL P ops true (fun a w => R3 Q t1 a w ∧ (R3 Q t2 a w ∧ R3 Q t3 a w)) π a w
end
def ok3C (ops : Array Oper) (t1 t2 : T3) (l : Array Bool) : Bool :=
  (t1.len == t2.len) && !(Region.ready .any ops l).isEmpty && (Region.ready .any ops l).all (fun j => some j == t1.head || some j == t2.head)
def ok3D (ops : Array Oper) (t1 t2 t3 : T3) (l : Array Bool) : Bool :=
  (t1.len == t2.len && t1.len == t3.len) && !(Region.ready .any ops l).isEmpty && (Region.ready .any ops l).all (fun j => some j == t1.head || (some j == t2.head || some j == t3.head))
def ok3 (ops : Array Oper) : Bool → T3 → Array Bool → Bool
  | false, .leaf π, l => okSeg ops π l && (Region.ready .any ops (aft π l)).isEmpty
  | true, .leaf π, l => okSeg1 ops π l && (Region.ready .any ops (aft π l)).isEmpty
  | false, .br π t1 t2, l => okSeg ops π l && (ok3C ops t1 t2 (aft π l) && (ok3 ops true t1 (aft π l) && ok3 ops true t2 (aft π l)))
  | true, .br π t1 t2, l => okSeg1 ops π l && (ok3C ops t1 t2 (aft π l) && (ok3 ops true t1 (aft π l) && ok3 ops true t2 (aft π l)))
  | false, .tr π t1 t2 t3, l => okSeg ops π l && (ok3D ops t1 t2 t3 (aft π l) && (ok3 ops true t1 (aft π l) && (ok3 ops true t2 (aft π l) && ok3 ops true t3 (aft π l))))
  | true, .tr π t1 t2 t3, l => okSeg1 ops π l && (ok3D ops t1 t2 t3 (aft π l) && (ok3 ops true t1 (aft π l) && (ok3 ops true t2 (aft π l) && ok3 ops true t3 (aft π l))))

section
variable {P : Program} {ops : Array Oper}
theorem T3.len_pos : ∀ {t : T3} {l : Array Bool}, ok3 ops true t l = true → ∃ m, t.len = m + 1
  | .leaf [], l, h => by simp [ok3, okSeg1] at h
  | .leaf (i :: r), l, h => ⟨r.length, by simp [T3.len]⟩
  | .br [] t1 t2, l, h => by simp [ok3, okSeg1] at h
  | .br (i :: r) t1 t2, l, h => ⟨r.length + t1.len, by simp [T3.len]; omega⟩
  | .tr [] t1 t2 t3, l, h => by simp [ok3, okSeg1] at h
  | .tr (i :: r) t1 t2 t3, l, h => ⟨r.length + t1.len, by simp [T3.len]; omega⟩
def Fst3 (P : Program) (ops : Array Oper) (Q : Act → World → Prop) (t : T3) : Prop := ∀ (l : Array Bool) (a : Act) (w : World) (i m : Nat), Closed ops l → i ∈ Region.ready .any ops l → ok3 ops true t l = true → t.head = some i → t.len = m + 1 → R3 P ops Q t a w →
  opE P ops i (fun a' w' => (isTail ops i = false → Ext w w') ∧ wpE P ops Q m (l.setIfInBounds i true) a' w') a w
theorem choice3 {Q : Act → World → Prop} {t1 t2 : T3} (h1 : Fst3 P ops Q t1) (h2 : Fst3 P ops Q t2) {l : Array Bool} (hcl : Closed ops l) (hC : ok3C ops t1 t2 l = true) (o1 : ok3 ops true t1 l = true) (o2 : ok3 ops true t2 l = true) {a : Act} {w : World} (hR : R3 P ops Q t1 a w ∧ R3 P ops Q t2 a w) :
    wpE P ops Q t1.len l a w := by
  simp only [ok3C, Bool.and_eq_true, beq_iff_eq, Bool.not_eq_true', List.all_eq_true, Bool.or_eq_true] at hC
  obtain ⟨⟨hl, hne⟩, hall⟩ := hC
  obtain ⟨m, hm⟩ := T3.len_pos o1
  rw [hm]
  refine ⟨fun h0 => (by rw [h0] at hne; simp at hne), fun j hj => ?_⟩
  rcases hall j hj with e | e
  · exact h1 l a w j m hcl hj o1 e.symm hm hR.1
  · exact h2 l a w j m hcl hj o2 e.symm (by rw [← hl, hm]) hR.2
theorem choice3D {Q : Act → World → Prop} {t1 t2 t3 : T3} (h1 : Fst3 P ops Q t1) (h2 : Fst3 P ops Q t2) (h3 : Fst3 P ops Q t3) {l : Array Bool} (hcl : Closed ops l) (hC : ok3D ops t1 t2 t3 l = true) (o1 : ok3 ops true t1 l = true) (o2 : ok3 ops true t2 l = true) (o3 : ok3 ops true t3 l = true) {a : Act} {w : World} (hR : R3 P ops Q t1 a w ∧ (R3 P ops Q t2 a w ∧ R3 P ops Q t3 a w)) :
    wpE P ops Q t1.len l a w := by
  simp only [ok3D, Bool.and_eq_true, beq_iff_eq, Bool.not_eq_true', List.all_eq_true, Bool.or_eq_true] at hC
  obtain ⟨⟨hl, hne⟩, hall⟩ := hC
  obtain ⟨m, hm⟩ := T3.len_pos o1
  rw [hm]
  refine ⟨fun h0 => (by rw [h0] at hne; simp at hne), fun j hj => ?_⟩
  rcases hall j hj with e | e | e
  · exact h1 l a w j m hcl hj o1 e.symm hm hR.1
  · exact h2 l a w j m hcl hj o2 e.symm (by rw [← hl.1, hm]) hR.2.1
  · exact h3 l a w j m hcl hj o3 e.symm (by rw [← hl.2, hm]) hR.2.2
theorem fst3 {Q : Act → World → Prop} (hs : Region.noSelect ops = true) : ∀ t : T3, Fst3 P ops Q t
  | .leaf [], l, a, w, i, m, _, _, ho, _, _, _ => by simp [ok3, okSeg1] at ho
  | .leaf (i :: r), l, a, w, i', m, hcl, hrd, ho, hi, hm, hR => by
    cases hi
    simp only [ok3, okSeg1, Bool.and_eq_true] at ho
    have e : m = r.length + 0 := by simp [T3.len] at hm; omega
    subst e
    exact seg1 hs hcl hrd ho.1 hR (fun a w hcl' hq => ⟨by simpa using ho.2, hq⟩)
  | .br [] t1 t2, l, a, w, i, m, _, _, ho, _, _, _ => by simp [ok3, okSeg1] at ho
  | .br (i :: r) t1 t2, l, a, w, i', m, hcl, hrd, ho, hi, hm, hR => by
    cases hi
    simp only [ok3, okSeg1, Bool.and_eq_true] at ho
    have e : m = r.length + t1.len := by simp [T3.len] at hm; omega
    subst e
    exact seg1 hs hcl hrd ho.1 hR (fun a w hcl' hq => choice3 (fst3 hs t1) (fst3 hs t2) hcl' ho.2.1 ho.2.2.1 ho.2.2.2 hq)
  | .tr [] t1 t2 t3, l, a, w, i, m, _, _, ho, _, _, _ => by simp [ok3, okSeg1] at ho
  | .tr (i :: r) t1 t2 t3, l, a, w, i', m, hcl, hrd, ho, hi, hm, hR => by
    cases hi
    simp only [ok3, okSeg1, Bool.and_eq_true] at ho
    have e : m = r.length + t1.len := by simp [T3.len] at hm; omega
    subst e
    exact seg1 hs hcl hrd ho.1 hR (fun a w hcl' hq => choice3D (fst3 hs t1) (fst3 hs t2) (fst3 hs t3) hcl' ho.2.1 ho.2.2.1 ho.2.2.2.1 ho.2.2.2.2 hq)
theorem wpE_tree3 {Q : Act → World → Prop} (hs : Region.noSelect ops = true) : ∀ (t : T3) (l : Array Bool) (a : Act) (w : World), Closed ops l → ok3 ops false t l = true → R3 P ops Q t a w → wpE P ops Q t.len l a w
  | .leaf π, l, a, w, hcl, ho, hR => by
    simp only [ok3, Bool.and_eq_true] at ho
    exact seg (n := 0) hs π l a w hcl ho.1 hR (fun a w _ hq => ⟨by simpa using ho.2, hq⟩)
  | .br π t1 t2, l, a, w, hcl, ho, hR => by
    simp only [ok3, Bool.and_eq_true] at ho
    exact seg (n := t1.len) hs π l a w hcl ho.1 hR (fun a w hcl' hq => choice3 (fst3 hs t1) (fst3 hs t2) hcl' ho.2.1 ho.2.2.1 ho.2.2.2 hq)
  | .tr π t1 t2 t3, l, a, w, hcl, ho, hR => by
    simp only [ok3, Bool.and_eq_true] at ho
    exact seg (n := t1.len) hs π l a w hcl ho.1 hR (fun a w hcl' hq => choice3D (fst3 hs t1) (fst3 hs t2) (fst3 hs t3) hcl' ho.2.1 ho.2.2.1 ho.2.2.2.1 ho.2.2.2.2 hq)
end
def okOrd3 (ops : Array Oper) (t : T3) : Bool := t.len == ops.size && (Region.noSelect ops && ok3 ops false t (Array.replicate ops.size false))
section
variable {P : Program} {N : Nat} {l : Env} {w : World} {ops : Array Oper}
def W3 (P : Program) (N : Nat) (ops : Array Oper) (Q : Act → World → Prop) (t : T3) (l : Env) (w : World) : Prop := ∀ a, At N a l → R3 P ops Q t a w
theorem wc_draw3 {Q : Exit → Act → World → Prop} {id : Nat} (hm : P.follows .mixedOrders = true) (t : T3) (hB : okOrd3 ops t = true) (h : ∀ w', Ext w w' → w' = w.drew → W3 P N ops (Q .normal) t l w') : WC P N (.region id ops true) Q l w := by
  intro a ha
  simp only [okOrd3, Bool.and_eq_true, beq_iff_eq] at hB
  refine wp_region_any hm ?_
  have := wpE_tree3 (P := P) (Q := Q .normal) hB.2.1 t (Array.replicate ops.size false) a w.drew Closed.none hB.2.2 (h w.drew (Ext.drew w) rfl a ha)
  rw [hB.1] at this
  exact wpAny_of_wpE (fun _ _ h => h) _ _ _ _ this
theorem w3_leaf {Q : Act → World → Prop} {π : List Nat} (h : WR P N ops true Q π l w) : W3 P N ops Q (.leaf π) l w := h
theorem w3_br {Q : Act → World → Prop} {π : List Nat} {t1 t2 : T3} (h : WR P N ops true (fun a w => R3 P ops Q t1 a w ∧ R3 P ops Q t2 a w) π l w) : W3 P N ops Q (.br π t1 t2) l w := h
theorem w3_tr {Q : Act → World → Prop} {π : List Nat} {t1 t2 t3 : T3} (h : WR P N ops true (fun a w => R3 P ops Q t1 a w ∧ (R3 P ops Q t2 a w ∧ R3 P ops Q t3 a w)) π l w) : W3 P N ops Q (.tr π t1 t2 t3) l w := h
theorem w3r_br {Q : Act → World → Prop} {t1 t2 : T3} (h1 : W3 P N ops Q t1 l w) (h2 : W3 P N ops Q t2 l w) : WR P N ops true (fun a w => R3 P ops Q t1 a w ∧ R3 P ops Q t2 a w) [] l w := fun a ha => ⟨h1 a ha, h2 a ha⟩
theorem w3r_tr {Q : Act → World → Prop} {t1 t2 t3 : T3} (h1 : W3 P N ops Q t1 l w) (h2 : W3 P N ops Q t2 l w) (h3 : W3 P N ops Q t3 l w) : WR P N ops true (fun a w => R3 P ops Q t1 a w ∧ (R3 P ops Q t2 a w ∧ R3 P ops Q t3 a w)) [] l w := fun a ha => ⟨h1 a ha, h2 a ha, h3 a ha⟩
end
end Go.Sx
