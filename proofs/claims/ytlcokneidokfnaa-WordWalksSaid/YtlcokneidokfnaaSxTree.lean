/-
  The walking framework, part 6: regions that draw their order and in which several operations that make memory are free to come in several orders: each order is walked.
-/
import Derived.Test.YtlcokneidokfnaaSxLists
namespace Go.Sx
open Go Go.RowKit

/-- The orders that are walked: a stretch, and behind it an end or a choice. -/
inductive Tr where
  | leaf (π : List Nat)
  | br (π : List Nat) (t1 t2 : Tr)
def Tr.len : Tr → Nat
  | .leaf π => π.length
  | .br π t1 _ => π.length + t1.len
def Tr.head : Tr → Option Nat
  | .leaf [] => none
  | .leaf (i :: _) => some i
  | .br [] _ _ => none
  | .br (i :: _) _ _ => some i
section
variable (P : Program) (ops : Array Oper)
def RTr (Q : Act → World → Prop) : Tr → Act → World → Prop
  | .leaf π, a, w => RL P ops true Q π a w
  | .br π t1 t2, a, w => RL P ops true (fun a w => RTr Q t1 a w ∧ RTr Q t2 a w) π a w
end
def aft : List Nat → Array Bool → Array Bool
  | [], l => l
  | i :: r, l => aft r (l.setIfInBounds i true)
def okSeg (ops : Array Oper) : List Nat → Array Bool → Bool
  | [], _ => true
  | i :: r, listed => (Region.ready .any ops listed).contains i &&
      (match ops[i]? with
       | some o => if isA o.op then Region.free .any ops listed i else (Region.ready .any ops listed).all (· == i)
       | none => false) && okSeg ops r (listed.setIfInBounds i true)
/-- A stretch whose first operation is one of several that may come. -/
def okSeg1 (ops : Array Oper) : List Nat → Array Bool → Bool
  | [], _ => false
  | i :: r, listed => okSeg ops r (listed.setIfInBounds i true)
/-- The choices: at most the heads of the two trees. -/
def okC (ops : Array Oper) (t1 t2 : Tr) (l : Array Bool) : Bool :=
  (t1.len == t2.len) && !(Region.ready .any ops l).isEmpty && (Region.ready .any ops l).all (fun j => some j == t1.head || some j == t2.head)
def okT (ops : Array Oper) : Bool → Tr → Array Bool → Bool
  | false, .leaf π, l => okSeg ops π l && (Region.ready .any ops (aft π l)).isEmpty
  | true, .leaf π, l => okSeg1 ops π l && (Region.ready .any ops (aft π l)).isEmpty
  | false, .br π t1 t2, l => okSeg ops π l && (okC ops t1 t2 (aft π l) && (okT ops true t1 (aft π l) && okT ops true t2 (aft π l)))
  | true, .br π t1 t2, l => okSeg1 ops π l && (okC ops t1 t2 (aft π l) && (okT ops true t1 (aft π l) && okT ops true t2 (aft π l)))

section
variable {P : Program} {ops : Array Oper}
theorem seg {Q Q' : Act → World → Prop} {n : Nat} (hs : Region.noSelect ops = true) : ∀ (l : List Nat) (listed : Array Bool) (a : Act) (w : World), Closed ops listed →
    okSeg ops l listed = true → RL P ops true Q' l a w → (∀ a w, Closed ops (aft l listed) → Q' a w → wpE P ops Q n (aft l listed) a w) → wpE P ops Q (l.length + n) listed a w
  | [], listed, a, w, hcl, _, h, hk => by
    simp only [List.length_nil, Nat.zero_add]
    exact hk a w hcl h
  | i :: r, listed, a, w, hcl, hB, h, hk => by
    obtain ⟨o, ho, h⟩ := h
    simp only [okSeg, Bool.and_eq_true, ho] at hB
    obtain ⟨⟨hr, hf⟩, hrest⟩ := hB
    have hr' : i ∈ Region.ready .any ops listed := by simpa using hr
    have e : (i :: r).length + n = (r.length + n) + 1 := by simp; omega
    rw [e]
    have first : ∀ v, isA o.op = true → YieldsE P ops o v a w → RL P ops true Q' r (a.put o.dst v) w → wpE P ops Q (r.length + n + 1) listed a w := fun v hA hy hq => by
      rw [if_pos hA] at hf
      exact wpE_first ho (Region.noSelect_spec hs) (r.length + n) listed a w hcl (Region.free_spec ho hf) hr' hy (seg hs r _ _ _ (hcl.set hr') hrest hq hk)
    by_cases hA : isA o.op = true
    · by_cases hw : Region.wanted o (yielded ops a.tmps) = true
      · rw [if_pos hw] at h
        rcases h with ⟨_, v, hv, hq⟩ | ⟨hn, _⟩
        · exact first v hA (.inl ⟨hw, hv⟩) hq
        · rw [hn] at hA; cases hA
      · rw [if_neg hw] at h
        exact first undef hA (.inr ⟨by simpa using hw, rfl⟩) h
    · rw [if_neg hA] at hf
      refine ⟨fun h0 => (by rw [h0] at hr'; cases hr'), fun j hj => ?_⟩
      have hji : j = i := by
        have := List.all_eq_true.1 hf j hj
        simpa using this
      subst hji
      unfold opE
      simp only [ho]
      split
      · rename_i hw
        rw [if_pos hw] at h
        rcases h with ⟨h1, _⟩ | ⟨_, hq⟩
        · exact absurd h1 hA
        · exact wp_mono2 (fun a' w' hh => ⟨hh.2.1 rfl, seg hs r _ _ _ (hcl.set hr') hrest hh.2.2 hk⟩) hq
      · rename_i hw
        rw [if_neg hw] at h
        exact ⟨fun _ => Ext.refl w, seg hs r _ _ _ (hcl.set hr') hrest h hk⟩
/-- One of several operations that may come is carried out. -/
theorem seg1 {Q Q' : Act → World → Prop} {n : Nat} (hs : Region.noSelect ops = true) {i : Nat} {r : List Nat} {listed : Array Bool} {a : Act} {w : World} (hcl : Closed ops listed) (hr' : i ∈ Region.ready .any ops listed) (hB : okSeg ops r (listed.setIfInBounds i true) = true) (h : RL P ops true Q' (i :: r) a w)
    (hk : ∀ a w, Closed ops (aft (i :: r) listed) → Q' a w → wpE P ops Q n (aft (i :: r) listed) a w) : opE P ops i (fun a' w' => (isTail ops i = false → Ext w w') ∧ wpE P ops Q (r.length + n) (listed.setIfInBounds i true) a' w') a w := by
  obtain ⟨o, ho, h⟩ := h
  by_cases hw : Region.wanted o (yielded ops a.tmps) = true
  · rw [if_pos hw] at h
    rcases h with ⟨hA, v, hv, hq⟩ | ⟨_, hq⟩
    · exact YieldsE.opE ho (.inl ⟨hw, hv⟩) ⟨fun _ => Ext.refl w, seg hs r _ _ _ (hcl.set hr') hB hq hk⟩
    · unfold opE
      simp only [ho]
      rw [if_pos hw]
      exact wp_mono2 (fun a' w' hh => ⟨hh.2.1 rfl, seg hs r _ _ _ (hcl.set hr') hB hh.2.2 hk⟩) hq
  · rw [if_neg hw] at h
    unfold opE
    simp only [ho]
    rw [if_neg hw]
    exact ⟨fun _ => Ext.refl w, seg hs r _ _ _ (hcl.set hr') hB h hk⟩
theorem Tr.len_pos : ∀ {t : Tr} {l : Array Bool}, okT ops true t l = true → ∃ m, t.len = m + 1
  | .leaf [], l, h => by simp [okT, okSeg1] at h
  | .leaf (i :: r), l, h => ⟨r.length, by simp [Tr.len]⟩
  | .br [] t1 t2, l, h => by simp [okT, okSeg1] at h
  | .br (i :: r) t1 t2, l, h => ⟨r.length + t1.len, by simp [Tr.len]; omega⟩
/-- The first operation of the tree is carried out, and what is behind it goes on as the tree says. -/
def FstOk (P : Program) (ops : Array Oper) (Q : Act → World → Prop) (t : Tr) : Prop := ∀ (l : Array Bool) (a : Act) (w : World) (i m : Nat), Closed ops l → i ∈ Region.ready .any ops l → okT ops true t l = true → t.head = some i → t.len = m + 1 → RTr P ops Q t a w →
  opE P ops i (fun a' w' => (isTail ops i = false → Ext w w') ∧ wpE P ops Q m (l.setIfInBounds i true) a' w') a w
theorem choice {Q : Act → World → Prop} {t1 t2 : Tr} (h1 : FstOk P ops Q t1) (h2 : FstOk P ops Q t2) {l : Array Bool} (hcl : Closed ops l) (hC : okC ops t1 t2 l = true) (o1 : okT ops true t1 l = true) (o2 : okT ops true t2 l = true) {a : Act} {w : World} (hR : RTr P ops Q t1 a w ∧ RTr P ops Q t2 a w) :
    wpE P ops Q t1.len l a w := by
  simp only [okC, Bool.and_eq_true, beq_iff_eq, Bool.not_eq_true', List.all_eq_true, Bool.or_eq_true] at hC
  obtain ⟨⟨hl, hne⟩, hall⟩ := hC
  obtain ⟨m, hm⟩ := Tr.len_pos o1
  rw [hm]
  refine ⟨fun h0 => (by rw [h0] at hne; simp at hne), fun j hj => ?_⟩
  rcases hall j hj with e | e
  · exact h1 l a w j m hcl hj o1 e.symm hm hR.1
  · exact h2 l a w j m hcl hj o2 e.symm (by rw [← hl, hm]) hR.2
theorem fstOk {Q : Act → World → Prop} (hs : Region.noSelect ops = true) : ∀ t : Tr, FstOk P ops Q t
  | .leaf [], l, a, w, i, m, _, _, ho, _, _, _ => by simp [okT, okSeg1] at ho
  | .leaf (i :: r), l, a, w, i', m, hcl, hrd, ho, hi, hm, hR => by
    cases hi
    simp only [okT, okSeg1, Bool.and_eq_true] at ho
    have e : m = r.length + 0 := by simp [Tr.len] at hm; omega
    subst e
    exact seg1 hs hcl hrd ho.1 hR (fun a w hcl' hq => ⟨by simpa using ho.2, hq⟩)
  | .br [] t1 t2, l, a, w, i, m, _, _, ho, _, _, _ => by simp [okT, okSeg1] at ho
  | .br (i :: r) t1 t2, l, a, w, i', m, hcl, hrd, ho, hi, hm, hR => by
    cases hi
    simp only [okT, okSeg1, Bool.and_eq_true] at ho
    have e : m = r.length + t1.len := by simp [Tr.len] at hm; omega
    subst e
    exact seg1 hs hcl hrd ho.1 hR (fun a w hcl' hq => choice (fstOk hs t1) (fstOk hs t2) hcl' ho.2.1 ho.2.2.1 ho.2.2.2 hq)
theorem wpE_tree {Q : Act → World → Prop} (hs : Region.noSelect ops = true) : ∀ (t : Tr) (l : Array Bool) (a : Act) (w : World), Closed ops l → okT ops false t l = true → RTr P ops Q t a w → wpE P ops Q t.len l a w
  | .leaf π, l, a, w, hcl, ho, hR => by
    simp only [okT, Bool.and_eq_true] at ho
    exact seg (n := 0) hs π l a w hcl ho.1 hR (fun a w _ hq => ⟨by simpa using ho.2, hq⟩)
  | .br π t1 t2, l, a, w, hcl, ho, hR => by
    simp only [okT, Bool.and_eq_true] at ho
    exact seg (n := t1.len) hs π l a w hcl ho.1 hR (fun a w hcl' hq => choice (fstOk hs t1) (fstOk hs t2) hcl' ho.2.1 ho.2.2.1 ho.2.2.2 hq)
end
def okOrdT (ops : Array Oper) (t : Tr) : Bool := t.len == ops.size && (Region.noSelect ops && okT ops false t (Array.replicate ops.size false))
section
variable {P : Program} {N : Nat} {l : Env} {w : World} {ops : Array Oper}
def WT (P : Program) (N : Nat) (ops : Array Oper) (Q : Act → World → Prop) (t : Tr) (l : Env) (w : World) : Prop := ∀ a, At N a l → RTr P ops Q t a w
theorem wc_drawT {Q : Exit → Act → World → Prop} {id : Nat} (hm : P.follows .mixedOrders = true) (t : Tr) (hB : okOrdT ops t = true) (h : ∀ w', Ext w w' → w' = w.drew → WT P N ops (Q .normal) t l w') : WC P N (.region id ops true) Q l w := by
  intro a ha
  simp only [okOrdT, Bool.and_eq_true, beq_iff_eq] at hB
  refine wp_region_any hm ?_
  have := wpE_tree (P := P) (Q := Q .normal) hB.2.1 t (Array.replicate ops.size false) a w.drew Closed.none hB.2.2 (h w.drew (Ext.drew w) rfl a ha)
  rw [hB.1] at this
  exact wpAny_of_wpE (fun _ _ h => h) _ _ _ _ this
theorem wt_leaf {Q : Act → World → Prop} {π : List Nat} (h : WR P N ops true Q π l w) : WT P N ops Q (.leaf π) l w := h
theorem wt_br {Q : Act → World → Prop} {π : List Nat} {t1 t2 : Tr} (h : WR P N ops true (fun a w => RTr P ops Q t1 a w ∧ RTr P ops Q t2 a w) π l w) : WT P N ops Q (.br π t1 t2) l w := h
theorem wr_br {Q : Act → World → Prop} {t1 t2 : Tr} (h1 : WT P N ops Q t1 l w) (h2 : WT P N ops Q t2 l w) : WR P N ops true (fun a w => RTr P ops Q t1 a w ∧ RTr P ops Q t2 a w) [] l w := fun a ha => ⟨h1 a ha, h2 a ha⟩
end
end Go.Sx
