
namespace Go.Pl
def tab {α : Type} (m : Nat) (f : Nat → α) : List α := (List.range m).map f
theorem Qs {α : Type} (m : Nat) (f : Nat → α) : (tab m f).length = m := by simp [tab]
theorem Za {α : Type} {m : Nat} {f : Nat → α} {k : Nat} (h : k < m) : (tab m f)[k]? = some (f k) := by
 simp [tab, h]
theorem XD {α : Type} (m : Nat) (f : Nat → α) (k : Nat) (v : α) : (tab m f).set k v = tab m (fun t => if t = k then v else f t) := by
 apply List.ext_getElem?
 intro i
 by_cases hi : i < m
 ·rw [List.getElem?_set]
  rw [Za hi, Za hi]
  by_cases hk : k = i
  ·subst hk
   simp [Qs, hi]
  ·simp [hk, Ne.symm hk]
 ·have h1 : ((tab m f).set k v)[i]? = none := by
   rw [List.getElem?_eq_none_iff]; simp [Qs]; omega
  have h2 : (tab m (fun t => if t = k then v else f t))[i]? = none := by
   rw [List.getElem?_eq_none_iff]; simp [Qs]; omega
  rw [h1, h2]
theorem QF {α : Type} {m : Nat} {f g : Nat → α} (h : ∀ t, t < m → f t = g t) : tab m f = tab m g := by
 apply List.ext_getElem?
 intro i
 by_cases hi : i < m
 ·rw [Za hi, Za hi, h i hi]
 ·have h1 : (tab m f)[i]? = none := by rw [List.getElem?_eq_none_iff]; simp [Qs]; omega
  have h2 : (tab m g)[i]? = none := by rw [List.getElem?_eq_none_iff]; simp [Qs]; omega
  rw [h1, h2]
theorem Jo {α : Type} (m : Nat) (x : α) : List.replicate m x = tab m (fun _ => x) := by
 apply List.ext_getElem?
 intro i
 by_cases hi : i < m
 ·rw [Za hi]; simp [hi]
 ·have h2 : (tab m (fun _ => x))[i]? = none := by rw [List.getElem?_eq_none_iff]; simp [Qs]; omega
  rw [h2]; simp; omega
theorem map_tab {α β : Type} (m : Nat) (f : Nat → α) (g : α → β) : (tab m f).map g = tab m (fun t => g (f t)) := by
 simp [tab]
theorem JQ (zs : List Int) : zs = tab zs.length (fun t => zs.getD t 0) := by
 apply List.ext_getElem?
 intro i
 by_cases hi : i < zs.length
 ·rw [Za hi]; simp [hi]
 ·rw [List.getElem?_eq_none (by omega), List.getElem?_eq_none (by rw [Qs]; omega)]
def gi (zs : List Int) (k : Int) : Int := zs.getD k.toNat 0
def si (zs : List Int) (k u : Int) : List Int := zs.set k.toNat u
theorem ZO {m : Nat} {f : Nat → Int} {k : Int} (h1 : k < m) (h0 : 0 ≤ k) : gi (tab m f) k = f k.toNat := by
 have hk : k.toNat < m := by omega
 simp [gi, List.getD, Za hk]
theorem Jt (m : Nat) (f : Nat → Int) (k u : Int) : si (tab m f) k u = tab m (fun t => if t = k.toNat then u else f t) := XD _ _ _ _
theorem Zp (zs : List Int) (k u : Int) : (si zs k u).length = zs.length := by simp [si]
theorem Qa4 {zs : List Int} {i : Int} (h0 : 0 ≤ i) (h1 : i < zs.length) : zs.drop i.toNat = gi zs i :: zs.drop (i + 1).toNat := by
 have hi : i.toNat < zs.length := by omega
 have e : (i + 1).toNat = i.toNat + 1 := by omega
 rw [List.drop_eq_getElem_cons hi, e]
 simp [gi, hi]
def cmpL : List Int → List Int → Int
 | [], [] => 0
 | [], _ :: _ => -1
 | _ :: _, [] => 1
 | a :: aZs, b :: bs => if a < b then -1 else if b < a then 1 else cmpL aZs bs
theorem cmpL_drop {a b : List Int} {i : Int} (h0 : 0 ≤ i) (ha : i < a.length) (hb : i < b.length) :
  cmpL (a.drop i.toNat) (b.drop i.toNat) = if gi a i < gi b i then -1 else if gi b i < gi a i then 1 else cmpL (a.drop (i + 1).toNat) (b.drop (i + 1).toNat) := by
 rw [Qa4 h0 ha, Qa4 h0 hb, cmpL]
theorem cmpL_end {a b : List Int} {i : Int} (ha : a.length ≤ i) (hb : b.length ≤ i) : cmpL (a.drop i.toNat) (b.drop i.toNat) = 0 := by
 rw [List.drop_eq_nil_of_le (by omega), List.drop_eq_nil_of_le (by omega)]; rfl
theorem Qds {a b : List Int} {i : Int} (ha : a.length ≤ i) (h0 : 0 ≤ i) (hb : i < b.length) : cmpL (a.drop i.toNat) (b.drop i.toNat) = -1 := by
 rw [List.drop_eq_nil_of_le (by omega), Qa4 h0 hb]; rfl
theorem cmpL_long {a b : List Int} {i : Int} (h0 : 0 ≤ i) (ha : i < a.length) (hb : b.length ≤ i) : cmpL (a.drop i.toNat) (b.drop i.toNat) = 1 := by
 have e : b.drop i.toNat = [] := List.drop_eq_nil_of_le (by omega)
 rw [Qa4 h0 ha, e]; rfl
def cmpZ (x y : Int) : Int := if x < y then -1 else if y < x then 1 else 0
end Go.Pl
namespace Go.Ml
open Go.Pl
structure Ops where
 ad : Int → Int → Int
 mu : Int → Int → Int
 ng : Int → Int
 iv : Int → Int
section
variable (o : Ops)
def rw (L : List (List Int)) (i : Nat) : List Int := L.getD i []
def addRow (v : List Int) (a : Int) (u : List Int) : List Int := tab v.length fun j => if gi u j = 0 then gi v j else o.ad (gi v j) (o.mu a (gi u j))
def scaleR (a : Int) (l : List Int) : List Int := tab l.length fun j => o.mu a (gi l j)
def piv (rows : List (List Int)) (c : Nat) : Nat → Nat → Nat
 | 0, k => k
 | f + 1, k => if Nat.blt k rows.length && decide (gi (rw rows k) c = 0) then piv rows c f (k + 1) else k
def swapL (l : List (List Int)) (a k : Nat) : List (List Int) := (l.set a (rw l k)).set k (rw l a)
def clear (c a : Nat) : Nat → Nat → List (List Int) × List (List Int) → List (List Int) × List (List Int)
 | 0, _, r => r
 | f + 1, i, r =>
  if Nat.beq i a || decide (gi (rw r.1 i) c = 0) then clear c a f (i + 1) r
  else clear c a f (i + 1) (r.1.set i (addRow o (rw r.1 i) (o.ng (gi (rw r.1 i) c)) (rw r.1 a)), r.2.set i (addRow o (rw r.2 i) (o.ng (gi (rw r.1 i) c)) (rw r.2 a)))
def step (c a k : Nat) (r : List (List Int) × List (List Int)) : List (List Int) × List (List Int) :=
 let r1 := if Nat.beq k a then r else (swapL r.1 a k, swapL r.2 a k)
 let inv := o.iv (gi (rw r1.1 a) c)
 let r2 := if decide (inv = 1) then r1 else (r1.1.set a (scaleR o inv (rw r1.1 a)), r1.2.set a (scaleR o inv (rw r1.2 a)))
 clear o c a r2.1.length 0 r2
def elim (cols : Nat) : Nat → Nat → List Nat → List (List Int) × List (List Int) → List (List Int) × List (List Int) × List Nat
 | 0, _, ps, r => (r.1, r.2, ps)
 | f + 1, c, ps, r =>
  if Nat.blt c cols && Nat.blt ps.length r.1.length then
   (let k := piv r.1 c (r.1.length - ps.length) ps.length
   if Nat.beq k r.1.length then elim cols f (c + 1) ps r
   else elim cols f (c + 1) (ps ++ [c]) (step o c ps.length k r))
  else (r.1, r.2, ps)
def canonM (rows : List (List Int)) (cols : Nat) : List (List Int) × List Nat :=
 let e := elim o cols cols 0 [] (rows, [])
 (e.1.take e.2.2.length, e.2.2)
def unitM (n : Nat) : List (List Int) := tab n fun i => tab n fun j => if i = j then 1 else 0
def inverseM (rows : List (List Int)) (n : Nat) : Option (List (List Int)) :=
 let e := elim o n n 0 [] (rows, unitM n)
 if Nat.blt e.2.2.length n then none else some e.2.1
def kerRow (rows : List (List Int)) (ps : List Nat) (cols c : Nat) : List Int :=
 (List.range ps.length).foldl (fun (x : List Int) (i : Nat) => si x (ps.getD i 0) (o.ng (gi (rw rows i) c))) (si (tab cols fun _ => 0) c 1)
def kernelM (rows : List (List Int)) (cols : Nat) : List (List Int) :=
 let e := canonM o rows cols
 (canonM o ((List.range cols).filterMap fun c => if e.2.contains c then none else some (kerRow o e.1 e.2 cols c)) cols).1
def vecM (x : List Int) (rows : List (List Int)) (cols : Nat) : List Int :=
 (List.range x.length).foldl (fun (s : List Int) (i : Nat) => if gi x i = 0 then s else addRow o s (gi x i) (rw rows i)) (tab cols fun _ => 0)
def mulM (a b : List (List Int)) (cols : Nat) : List (List Int) := a.map fun r => vecM o r b cols
def columnsM (rows : List (List Int)) (set : List Int) : List (List Int) := rows.map fun r => set.map fun j => gi r j
end
def o2 : Ops := ⟨fun x y => if x = y then 0 else 1, fun x y => if x = 1 then y else 0, fun x => x, fun x => x⟩
example : canonM o2 [[0, 0, 0, 1, 1, 1, 1], [0, 1, 1, 0, 0, 1, 1], [1, 0, 1, 0, 1, 0, 1]] 7 = ([[1, 0, 1, 0, 1, 0, 1], [0, 1, 1, 0, 0, 1, 1], [0, 0, 0, 1, 1, 1, 1]], [0, 1, 3]) := by decide +kernel
example : kernelM o2 [[1, 0, 1, 0, 1, 0, 1], [0, 1, 1, 0, 0, 1, 1], [0, 0, 0, 1, 1, 1, 1]] 7 = [[1, 0, 0, 0, 0, 1, 1], [0, 1, 0, 0, 1, 0, 1], [0, 0, 1, 0, 1, 1, 0], [0, 0, 0, 1, 1, 1, 1]] := by decide +kernel
end Go.Ml
namespace Go.Ml
open Go.Pl
variable {o : Ops}
theorem piv_step {rows : List (List Int)} {c k : Nat} (h : k < rows.length) (h0 : gi (rw rows k) c = 0) : piv rows c (rows.length - k) k = piv rows c (rows.length - (k + 1)) (k + 1) := by
 have e : rows.length - k = (rows.length - (k + 1)) + 1 := by omega
 rw [e, piv, if_pos]
 simp [h0, Nat.blt_eq, h]
theorem piv_stop {rows : List (List Int)} {c k : Nat} (h : k < rows.length → gi (rw rows k) c ≠ 0) : piv rows c (rows.length - k) k = k := by
 by_cases hk : k < rows.length
 ·have e : rows.length - k = (rows.length - (k + 1)) + 1 := by omega
  rw [e, piv, if_neg]
  simp [h hk]
 ·have e : rows.length - k = 0 := by omega
  rw [e, piv]
theorem clear_skip {c a f i : Nat} {r : List (List Int) × List (List Int)} (h : i = a ∨ gi (rw r.1 i) c = 0) : clear o c a (f + 1) i r = clear o c a f (i + 1) r := by
 rw [clear, if_pos]
 rcases h with h | h <;> simp [h]
theorem clear_do {c a f i : Nat} {r : List (List Int) × List (List Int)} (h1 : i ≠ a) (h2 : gi (rw r.1 i) c ≠ 0) :
  clear o c a (f + 1) i r = clear o c a f (i + 1) (r.1.set i (addRow o (rw r.1 i) (o.ng (gi (rw r.1 i) c)) (rw r.1 a)), r.2.set i (addRow o (rw r.2 i) (o.ng (gi (rw r.1 i) c)) (rw r.2 a))) := by
 rw [clear, if_neg]
 simp [h1, h2]
theorem elim_end {cols f c : Nat} {ps : List Nat} {r : List (List Int) × List (List Int)} (h : c < cols → ¬ ps.length < r.1.length) : elim o cols f c ps r = (r.1, r.2, ps) := by
 cases f with
 | zero => rw [elim]
 | succ f =>
  rw [elim, if_neg]
  intro e
  simp only [Bool.and_eq_true, Nat.blt_eq] at e
  exact h e.1 e.2
theorem elim_none {cols f c : Nat} {ps : List Nat} {r : List (List Int) × List (List Int)} (h1 : c < cols) (h2 : ps.length < r.1.length) (h3 : piv r.1 c (r.1.length - ps.length) ps.length = r.1.length) : elim o cols (f + 1) c ps r = elim o cols f (c + 1) ps r := by
 rw [elim, if_pos (by simp [Nat.blt_eq, h1, h2])]
 simp only [h3]
 rw [if_pos (by simp)]
theorem elim_some {cols f c k : Nat} {ps : List Nat} {r : List (List Int) × List (List Int)} (h1 : c < cols) (h2 : ps.length < r.1.length) (h3 : piv r.1 c (r.1.length - ps.length) ps.length = k) (h4 : k ≠ r.1.length) : elim o cols (f + 1) c ps r = elim o cols f (c + 1) (ps ++ [c]) (step o c ps.length k r) := by
 rw [elim, if_pos (by simp [Nat.blt_eq, h1, h2])]
 simp only [h3]
 rw [if_neg (by simp [h4])]
theorem addRow_length (v : List Int) (a : Int) (u : List Int) : (addRow o v a u).length = v.length := by rw [addRow, Qs]
theorem scaleR_length (a : Int) (l : List Int) : (scaleR o a l).length = l.length := by rw [scaleR, Qs]
theorem XR (l : List (List Int)) (a k : Nat) : (swapL l a k).length = l.length := by simp [swapL]
def stepA (a k : Nat) (r : List (List Int) × List (List Int)) : List (List Int) × List (List Int) := if Nat.beq k a then r else (swapL r.1 a k, swapL r.2 a k)
def stepB (o : Ops) (c a : Nat) (r : List (List Int) × List (List Int)) : List (List Int) × List (List Int) :=
 if decide (o.iv (gi (rw r.1 a) c) = 1) then r else (r.1.set a (scaleR o (o.iv (gi (rw r.1 a) c)) (rw r.1 a)), r.2.set a (scaleR o (o.iv (gi (rw r.1 a) c)) (rw r.2 a)))
theorem step_eq {c a k : Nat} {r : List (List Int) × List (List Int)} : step o c a k r = clear o c a (stepB o c a (stepA a k r)).1.length 0 (stepB o c a (stepA a k r)) := rfl
theorem stepA_len {a k : Nat} {r : List (List Int) × List (List Int)} : (stepA a k r).1.length = r.1.length ∧ (stepA a k r).2.length = r.2.length := by
 unfold stepA
 split
 ·exact ⟨rfl, rfl⟩
 ·exact ⟨XR _ _ _, XR _ _ _⟩
theorem stepB_len {c a : Nat} {r : List (List Int) × List (List Int)} : (stepB o c a r).1.length = r.1.length ∧ (stepB o c a r).2.length = r.2.length := by
 unfold stepB
 split
 ·exact ⟨rfl, rfl⟩
 ·exact ⟨List.length_set, List.length_set⟩
def RL (n : Nat) (L : List (List Int)) : Prop := ∀ l ∈ L, l.length = n
theorem RL.get {n : Nat} {L : List (List Int)} (h : RL n L) {i : Nat} (hi : i < L.length) : (L.getD i []).length = n := by
 rw [List.getD_eq_getElem?_getD, List.getElem?_eq_getElem hi]
 exact h _ (List.getElem_mem hi)
theorem RL.set {n : Nat} {L : List (List Int)} (h : RL n L) {i : Nat} {x : List Int} (hx : i < L.length → x.length = n) : RL n (L.set i x) := fun l hl => by
 by_cases hi : i < L.length
 ·rcases List.mem_or_eq_of_mem_set hl with e | e
  ·exact h l e
  ·rw [e]; exact hx hi
 ·rw [List.set_eq_of_length_le (by omega)] at hl
  exact h l hl
theorem RL.swap {n : Nat} {L : List (List Int)} (h : RL n L) {a k : Nat} (hak : a < L.length ↔ k < L.length) : RL n (swapL L a k) :=
 (h.set (fun hi => h.get (hak.1 hi))).set (fun hi => by rw [List.length_set] at hi; exact h.get (hak.2 hi))
theorem stepA_RL {a k n1 n2 : Nat} {r : List (List Int) × List (List Int)} (h1 : RL n1 r.1) (h2 : RL n2 r.2) (hk1 : a < r.1.length ↔ k < r.1.length) (hk2 : a < r.2.length ↔ k < r.2.length) : RL n1 (stepA a k r).1 ∧ RL n2 (stepA a k r).2 := by
 unfold stepA
 split
 ·exact ⟨h1, h2⟩
 ·exact ⟨h1.swap hk1, h2.swap hk2⟩
theorem stepB_RL {c a n1 n2 : Nat} {r : List (List Int) × List (List Int)} (h1 : RL n1 r.1) (h2 : RL n2 r.2) : RL n1 (stepB o c a r).1 ∧ RL n2 (stepB o c a r).2 := by
 unfold stepB
 split
 ·exact ⟨h1, h2⟩
 ·exact ⟨h1.set fun hi => by rw [scaleR_length]; exact h1.get hi, h2.set fun hi => by rw [scaleR_length]; exact h2.get hi⟩
theorem KP {c a : Nat} : ∀ (f i : Nat) (r : List (List Int) × List (List Int)), (clear o c a f i r).1.length = r.1.length ∧ (clear o c a f i r).2.length = r.2.length
 | 0, _, _ => ⟨rfl, rfl⟩
 | f + 1, i, r => by
  rw [clear]
  split
  ·exact KP f (i + 1) r
  ·obtain ⟨h1, h2⟩ := KP f (i + 1) (r.1.set i (addRow o (rw r.1 i) (o.ng (gi (rw r.1 i) c)) (rw r.1 a)), r.2.set i (addRow o (rw r.2 i) (o.ng (gi (rw r.1 i) c)) (rw r.2 a)))
   exact ⟨h1.trans List.length_set, h2.trans List.length_set⟩
theorem Qa7 {c a n1 n2 : Nat} : ∀ (f i : Nat) (r : List (List Int) × List (List Int)), RL n1 r.1 → RL n2 r.2 → RL n1 (clear o c a f i r).1 ∧ RL n2 (clear o c a f i r).2
 | 0, _, _, h1, h2 => ⟨h1, h2⟩
 | f + 1, i, r, h1, h2 => by
  rw [clear]
  split
  ·exact Qa7 f (i + 1) r h1 h2
  ·exact Qa7 f (i + 1) _ (h1.set fun hi => by rw [addRow_length]; exact h1.get hi) (h2.set fun hi => by rw [addRow_length]; exact h2.get hi)
theorem Qcz {c a k : Nat} {r : List (List Int) × List (List Int)} : (step o c a k r).1.length = r.1.length ∧ (step o c a k r).2.length = r.2.length := by
 rw [step_eq]
 obtain ⟨h1, h2⟩ := KP (o := o) (c := c) (a := a) (stepB o c a (stepA a k r)).1.length 0 (stepB o c a (stepA a k r))
 exact ⟨h1.trans (stepB_len.1.trans stepA_len.1), h2.trans (stepB_len.2.trans stepA_len.2)⟩
theorem piv_le {rows : List (List Int)} {c : Nat} : ∀ (f k : Nat), k ≤ rows.length → k ≤ piv rows c f k ∧ piv rows c f k ≤ rows.length
 | 0, k, h => ⟨Nat.le_refl _, h⟩
 | f + 1, k, h => by
  rw [piv]
  split
  ·rename_i e
   simp only [Bool.and_eq_true, Nat.blt_eq] at e
   obtain ⟨h1, h2⟩ := piv_le (rows := rows) (c := c) f (k + 1) (by omega)
   exact ⟨by omega, h2⟩
  ·exact ⟨Nat.le_refl _, h⟩
theorem elim_len {cols : Nat} : ∀ (f c : Nat) (ps : List Nat) (r : List (List Int) × List (List Int)), ps.length ≤ r.1.length →
  (elim o cols f c ps r).1.length = r.1.length ∧ (elim o cols f c ps r).2.1.length = r.2.length ∧ (elim o cols f c ps r).2.2.length ≤ r.1.length
 | 0, _, _, _, h => ⟨rfl, rfl, h⟩
 | f + 1, c, ps, r, h => by
  by_cases h1 : c < cols ∧ ps.length < r.1.length
  ·by_cases h3 : piv r.1 c (r.1.length - ps.length) ps.length = r.1.length
   ·rw [elim_none h1.1 h1.2 h3]
    exact elim_len f (c + 1) ps r h
   ·rw [elim_some h1.1 h1.2 rfl h3]
    obtain ⟨s1, s2⟩ := Qcz (o := o) (c := c) (a := ps.length) (k := piv r.1 c (r.1.length - ps.length) ps.length) (r := r)
    obtain ⟨e1, e2, e3⟩ := elim_len f (c + 1) (ps ++ [c]) (step o c ps.length (piv r.1 c (r.1.length - ps.length) ps.length) r) (by rw [s1]; simp; omega)
    exact ⟨e1.trans s1, e2.trans s2, by rw [s1] at e3; exact e3⟩
  ·rw [elim_end (fun a b => h1 ⟨a, b⟩)]
   exact ⟨rfl, rfl, h⟩
theorem Qcl {cols n1 n2 : Nat} : ∀ (f c : Nat) (ps : List Nat) (r : List (List Int) × List (List Int)), RL n1 r.1 → RL n2 r.2 → (r.2 = [] ∨ r.2.length = r.1.length) →
  RL n1 (elim o cols f c ps r).1 ∧ RL n2 (elim o cols f c ps r).2.1
 | 0, _, _, _, h1, h2, _ => ⟨h1, h2⟩
 | f + 1, c, ps, r, h1, h2, h3 => by
  by_cases hc : c < cols ∧ ps.length < r.1.length
  ·by_cases h4 : piv r.1 c (r.1.length - ps.length) ps.length = r.1.length
   ·rw [elim_none hc.1 hc.2 h4]
    exact Qcl f (c + 1) ps r h1 h2 h3
   ·rw [elim_some hc.1 hc.2 rfl h4]
    have hk := (piv_le (rows := r.1) (c := c) (r.1.length - ps.length) ps.length (by omega)).2
    obtain ⟨s1, s2⟩ := Qcz (o := o) (c := c) (a := ps.length) (k := piv r.1 c (r.1.length - ps.length) ps.length) (r := r)
    obtain ⟨a1, a2⟩ := stepA_RL (a := ps.length) (k := piv r.1 c (r.1.length - ps.length) ps.length) (r := r) h1 h2 ⟨fun _ => by omega, fun _ => hc.2⟩ (by
     rcases h3 with e | e
     ·rw [e]; simp
     ·rw [e]; exact ⟨fun _ => by omega, fun _ => hc.2⟩)
    obtain ⟨b1, b2⟩ := stepB_RL (o := o) (c := c) (a := ps.length) a1 a2
    obtain ⟨c1, c2⟩ := Qa7 (o := o) (c := c) (a := ps.length) (stepB o c ps.length (stepA ps.length (piv r.1 c (r.1.length - ps.length) ps.length) r)).1.length 0 _ b1 b2
    refine Qcl f (c + 1) _ _ (by rw [step_eq]; exact c1) (by rw [step_eq]; exact c2) ?_
    rcases h3 with e | e
    ·left
     rw [e] at s2
     exact List.eq_nil_of_length_eq_zero s2
    ·right
     rw [s1, s2, e]
  ·rw [elim_end (fun a b => hc ⟨a, b⟩)]
   exact ⟨h1, h2⟩
theorem Qck {cols : Nat} : ∀ (f c : Nat) (ps : List Nat) (r : List (List Int) × List (List Int)), (∀ p ∈ ps, p < cols) → ∀ p ∈ (elim o cols f c ps r).2.2, p < cols
 | 0, _, _, _, h => h
 | f + 1, c, ps, r, h => by
  by_cases hc : c < cols ∧ ps.length < r.1.length
  ·by_cases h4 : piv r.1 c (r.1.length - ps.length) ps.length = r.1.length
   ·rw [elim_none hc.1 hc.2 h4]
    exact Qck f (c + 1) ps r h
   ·rw [elim_some hc.1 hc.2 rfl h4]
    refine Qck f (c + 1) _ _ fun p hp => ?_
    rcases List.mem_append.1 hp with hp | hp
    ·exact h p hp
    ·rw [List.mem_singleton.1 hp]; exact hc.1
  ·rw [elim_end (fun a b => hc ⟨a, b⟩)]
   exact h
theorem canonM_len {rows : List (List Int)} {cols : Nat} : (canonM o rows cols).2.length ≤ rows.length ∧ (canonM o rows cols).1.length = (canonM o rows cols).2.length := by
 obtain ⟨h1, _, h3⟩ := elim_len (o := o) (cols := cols) cols 0 [] (rows, []) (Nat.zero_le _)
 refine ⟨h3, ?_⟩
 show ((elim o cols cols 0 [] (rows, [])).1.take _).length = (elim o cols cols 0 [] (rows, [])).2.2.length
 rw [List.length_take, h1]
 dsimp only at h3 ⊢
 omega
theorem canonM_RL {rows : List (List Int)} {cols n : Nat} (h : RL n rows) : RL n (canonM o rows cols).1 := fun l hl => (Qcl (o := o) (cols := cols) (n2 := 0) cols 0 [] (rows, []) h (fun l hl => by simp at hl) (.inl rfl)).1 l (List.mem_of_mem_take hl)
theorem canonM_lt {rows : List (List Int)} {cols : Nat} : ∀ p ∈ (canonM o rows cols).2, p < cols := Qck cols 0 [] (rows, []) (by simp)
def kerFold (o : Ops) (rows : List (List Int)) (ps : List Nat) (cols c i : Nat) : List Int :=
 (List.range i).foldl (fun (x : List Int) (i : Nat) => si x (ps.getD i 0) (o.ng (gi (rw rows i) c))) (si (tab cols fun _ => 0) c 1)
theorem kerFold_succ {rows : List (List Int)} {ps : List Nat} {cols c i : Nat} : kerFold o rows ps cols c (i + 1) = si (kerFold o rows ps cols c i) (ps.getD i 0) (o.ng (gi (rw rows i) c)) := by
 rw [kerFold, List.range_succ, List.foldl_append]
 rfl
theorem kerFold_length {rows : List (List Int)} {ps : List Nat} {cols c : Nat} : ∀ i, (kerFold o rows ps cols c i).length = cols
 | 0 => by rw [kerFold, List.range_zero, List.foldl_nil, Zp, Qs]
 | i + 1 => by rw [kerFold_succ, Zp, kerFold_length i]
theorem kerRow_eq {rows : List (List Int)} {ps : List Nat} {cols c : Nat} : kerRow o rows ps cols c = kerFold o rows ps cols c ps.length := rfl
def kerRows (o : Ops) (rows : List (List Int)) (ps : List Nat) (cols c : Nat) : List (List Int) := (List.range c).filterMap fun c => if ps.contains c then none else some (kerRow o rows ps cols c)
theorem kerRows_yes {rows : List (List Int)} {ps : List Nat} {cols c : Nat} (h : c ∈ ps) : kerRows o rows ps cols (c + 1) = kerRows o rows ps cols c := by
 rw [kerRows, List.range_succ, List.filterMap_append]
 simp [h, kerRows]
theorem kerRows_no {rows : List (List Int)} {ps : List Nat} {cols c : Nat} (h : c ∉ ps) : kerRows o rows ps cols (c + 1) = kerRows o rows ps cols c ++ [kerRow o rows ps cols c] := by
 rw [kerRows, List.range_succ, List.filterMap_append]
 simp [h, kerRows]
theorem kerRows_RL {rows : List (List Int)} {ps : List Nat} {cols : Nat} : ∀ c, RL cols (kerRows o rows ps cols c)
 | 0 => fun l hl => by simp [kerRows] at hl
 | c + 1 => by
  by_cases h : c ∈ ps
  ·rw [kerRows_yes h]; exact kerRows_RL c
  ·rw [kerRows_no h]
   intro l hl
   rcases List.mem_append.1 hl with hl | hl
   ·exact kerRows_RL c l hl
   ·rw [List.mem_singleton.1 hl, kerRow_eq, kerFold_length]
theorem kerRows_length {rows : List (List Int)} {ps : List Nat} {cols c : Nat} : (kerRows o rows ps cols c).length ≤ c := by
 refine Nat.le_trans (List.length_filterMap_le _ _) ?_
 rw [List.length_range]
 exact Nat.le_refl _
theorem kernelM_eq {rows : List (List Int)} {cols : Nat} : kernelM o rows cols = (canonM o (kerRows o (canonM o rows cols).1 (canonM o rows cols).2 cols cols) cols).1 := rfl
theorem gi_ofNat {ps : List Nat} {i : Nat} (h : i < ps.length) : gi (ps.map Int.ofNat) i = ((ps.getD i 0 : Nat) : Int) := by
 simp [gi, List.getD_eq_getElem?_getD, h]
def vecFold (o : Ops) (x : List Int) (rows : List (List Int)) (cols i : Nat) : List Int :=
 (List.range i).foldl (fun (s : List Int) (i : Nat) => if gi x i = 0 then s else addRow o s (gi x i) (rw rows i)) (tab cols fun _ => 0)
theorem vecFold_succ {x : List Int} {rows : List (List Int)} {cols i : Nat} : vecFold o x rows cols (i + 1) = if gi x i = 0 then vecFold o x rows cols i else addRow o (vecFold o x rows cols i) (gi x i) (rw rows i) := by
 rw [vecFold, List.range_succ, List.foldl_append]
 rfl
theorem vecFold_length {x : List Int} {rows : List (List Int)} {cols : Nat} : ∀ i, (vecFold o x rows cols i).length = cols
 | 0 => by rw [vecFold, List.range_zero, List.foldl_nil, Qs]
 | i + 1 => by
  rw [vecFold_succ]
  split
  ·exact vecFold_length i
  ·rw [addRow_length]; exact vecFold_length i
theorem vecM_eq {x : List Int} {rows : List (List Int)} {cols : Nat} : vecM o x rows cols = vecFold o x rows cols x.length := rfl
end Go.Ml
namespace Go.Ml
open Go.Pl
section
variable (o : Ops)
def subRow (v : List Int) (x : Int) (row : List Int) : List Int := tab v.length fun j => o.ad (gi v j) (o.ng (o.mu x (gi row j)))
def redStep (R : List (List Int)) (ps : List Nat) (v : List Int) (i : Nat) : List Int := if gi v (ps.getD i 0 : Nat) = 0 then v else subRow o v (gi v (ps.getD i 0 : Nat)) (rw R i)
def redFold (R : List (List Int)) (ps : List Nat) (v : List Int) (i : Nat) : List Int := (List.range i).foldl (redStep o R ps) v
def redV (R : List (List Int)) (ps : List Nat) (v : List Int) : List Int := redFold o R ps v R.length
def lead (v : List Int) : Option Nat := v.findIdx? fun x => decide (x ≠ 0)
def basAdd (R : List (List Int)) (ps : List Nat) (v : List Int) : List (List Int) × List Nat × Bool :=
 match lead (redV o R ps v) with
 | none => (R, ps, false)
 | some k => (R ++ [scaleR o (o.iv (gi (redV o R ps v) k)) (redV o R ps v)], ps ++ [k], true)
def colM (G : List (List Int)) (i : Int) : List Int := G.map fun r => gi r i
def grStep (G : List (List Int)) (s : List (List Int) × List Nat × List Int) (i : Int) : List (List Int) × List Nat × List Int :=
 let b := basAdd o s.1 s.2.1 (colM G i)
 (b.1, b.2.1, if b.2.2 then s.2.2 ++ [i] else s.2.2)
def greedyM (G : List (List Int)) (l : List Int) : List (List Int) × List Nat × List Int := l.foldl (grStep o G) ([], [], [])
def rankM (G : List (List Int)) (l : List Int) : Nat := (greedyM o G l).2.2.length
end
variable {o : Ops}
theorem QaH {v row : List Int} {x : Int} : (subRow o v x row).length = v.length := by rw [subRow, Qs]
theorem KY {R : List (List Int)} {ps : List Nat} {v : List Int} {i : Nat} : (redStep o R ps v i).length = v.length := by
 unfold redStep
 split
 ·rfl
 ·exact QaH
theorem redFold_succ {R : List (List Int)} {ps : List Nat} {v : List Int} {i : Nat} : redFold o R ps v (i + 1) = redStep o R ps (redFold o R ps v i) i := by
 rw [redFold, List.range_succ, List.foldl_append]
 rfl
theorem redFold_length {R : List (List Int)} {ps : List Nat} {v : List Int} : ∀ i, (redFold o R ps v i).length = v.length
 | 0 => rfl
 | i + 1 => by rw [redFold_succ, KY, redFold_length i]
theorem lead_some {v : List Int} {k : Nat} (h : lead v = some k) : k < v.length ∧ gi v k ≠ 0 := by
 obtain ⟨h1, h2, _⟩ := List.findIdx?_eq_some_iff_getElem.1 h
 refine ⟨h1, ?_⟩
 simpa [gi, List.getD_eq_getElem?_getD, h1] using h2
theorem basAdd_cases (R : List (List Int)) (ps : List Nat) (v : List Int) : (lead (redV o R ps v) = none ∧ basAdd o R ps v = (R, ps, false)) ∨
  (∃ k, lead (redV o R ps v) = some k ∧ basAdd o R ps v = (R ++ [scaleR o (o.iv (gi (redV o R ps v) k)) (redV o R ps v)], ps ++ [k], true)) := by
 unfold basAdd
 cases h : lead (redV o R ps v) with
 | none => exact .inl ⟨rfl, rfl⟩
 | some k => exact .inr ⟨k, rfl, rfl⟩
structure BasOk (n : Nat) (R : List (List Int)) (ps : List Nat) : Prop where
 len : ps.length = R.length
 rl : RL n R
 lt : ∀ p ∈ ps, p < n
theorem BasOk.nil (n : Nat) : BasOk n [] [] := ⟨rfl, fun l hl => by simp at hl, fun p hp => by simp at hp⟩
theorem BasOk.add {n : Nat} {R : List (List Int)} {ps : List Nat} (h : BasOk n R ps) {v : List Int} (hv : v.length = n) : BasOk n (basAdd o R ps v).1 (basAdd o R ps v).2.1 := by
 rcases basAdd_cases (o := o) R ps v with ⟨_, e⟩ | ⟨k, hk, e⟩
 ·rw [e]; exact h
 ·rw [e]
  have hl : (redV o R ps v).length = n := by rw [redV, redFold_length, hv]
  obtain ⟨hk1, _⟩ := lead_some hk
  refine ⟨by simp [h.len], fun l hl' => ?_, fun p hp => ?_⟩
  ·rcases List.mem_append.1 hl' with hm | hm
   ·exact h.rl l hm
   ·rw [List.mem_singleton.1 hm, scaleR_length, hl]
  ·rcases List.mem_append.1 hp with hm | hm
   ·exact h.lt p hm
   ·rw [List.mem_singleton.1 hm]; omega
theorem colM_length {G : List (List Int)} {i : Int} : (colM G i).length = G.length := by simp [colM]
theorem basAdd_len {R : List (List Int)} {ps : List Nat} {v : List Int} : (basAdd o R ps v).1.length ≤ R.length + 1 := by
 rcases basAdd_cases (o := o) R ps v with ⟨_, e⟩ | ⟨k, hk, e⟩
 ·rw [e]; exact Nat.le_succ _
 ·rw [e]; simp
theorem greedyM_step {G : List (List Int)} {l : List Int} {i : Nat} (h : i < l.length) : greedyM o G (l.take (i + 1)) = grStep o G (greedyM o G (l.take i)) (gi l i) := by
 have e : l.take (i + 1) = l.take i ++ [gi l i] := by
  rw [List.take_add_one, List.getElem?_eq_getElem h]
  simp [gi, List.getD_eq_getElem?_getD, h]
 rw [greedyM, e, List.foldl_append]
 rfl
end Go.Ml
namespace Go.Ml
open Go.Pl
variable {o : Ops}
theorem take_step {α : Type} {A : List α} {i : Nat} {d : α} (h : i < A.length) : A.take (i + 1) = A.take i ++ [A.getD i d] := by
 rw [List.take_add_one, List.getElem?_eq_getElem h]
 simp [List.getD_eq_getElem?_getD, h]
theorem take_step' {A : List Int} {i : Nat} (h : i < A.length) : A.take (i + 1) = A.take i ++ [gi A i] := by
 rw [List.take_add_one, List.getElem?_eq_getElem h]
 simp [gi, List.getD_eq_getElem?_getD, h]
theorem mulM_step {A B : List (List Int)} {c i : Nat} (h : i < A.length) : mulM o (A.take (i + 1)) B c = mulM o (A.take i) B c ++ [vecM o (A.getD i []) B c] := by
 rw [take_step (d := []) h, mulM, List.map_append]
 rfl
theorem columnsM_step {A : List (List Int)} {set : List Int} {i : Nat} (h : i < A.length) : columnsM (A.take (i + 1)) set = columnsM (A.take i) set ++ [set.map fun j => gi (A.getD i []) j] := by
 rw [take_step (d := []) h, columnsM, List.map_append]
 rfl
end Go.Ml
