import Derived.Test.YtcfbigmjjpknfaaGreatDoorW37
import Derived.Test.YtcfbigmjjpknfaaGreatDoorW00
import Derived.Test.YtcfbigmjjpknfaaGreatDoorW26
import Derived.Test.YtcfbigmjjpknfaaGreatDoorW32
import Derived.Test.YtcfbigmjjpknfaaGreatDoorW09
import Derived.Test.YtcfbigmjjpknfaaGreatDoorW29
namespace Go.Fd
open Go.Pl Go.Alg Go.Proofs.YtcfbigmjjpknfaaGreatDoor
variable {P : FP}
theorem QbE {l : List Int} {k j : Nat} {u : Int} (hk : k < l.length) : gi (si l k u) j = if j = k then u else gi l j := by
 simp only [gi, si, List.getD_eq_getElem?_getD, Int.toNat_natCast, List.getElem?_set]
 by_cases h : k = j
 ·subst h; rw [if_pos rfl, if_pos hk, if_pos rfl]; rfl
 ·rw [if_neg h, if_neg (fun e => h e.symm)]
theorem Qao {a n : Nat} {M : Nat → Nat → K P} {pv : Nat → Nat} {c : Nat} (hR : Rr a n M pv) (hc : c < n) (hcp : ∀ i, i < a → pv i ≠ c) : ∀ i, i ≤ a → ∀ j, j < n →
  inK P (gi (Ml.kerFold (opsP P) (matL P a n M) ((List.range a).map pv) n c i) j) = (if j = c then 1 else 0) + sm i fun t => if j = pv t then -(M t c) else 0
 | 0, _, j, hj => by
  rw [Ml.kerFold, List.range_zero, List.foldl_nil, QbE (by rw [Qs]; exact hc), show sm 0 (fun t => if j = pv t then -(M t c) else 0) = (0 : K P) from rfl, add_zero]
  by_cases h : j = c
  ·rw [if_pos h, if_pos h, inK1]
  ·rw [if_neg h, if_neg h, ZO (by omega) (by omega), inK0]
 | i + 1, hi, j, hj => by
  have hps : ((List.range a).map pv).getD i 0 = pv i := by simp [List.getD_eq_getElem?_getD, show i < a by omega]
  have hlt := hR.lt i (by omega)
  rw [Ml.kerFold_succ, hps, QbE (by rw [Ml.kerFold_length]; exact hlt), ZY (by omega), Zu hc]
  show _ = _ + (sm i _ + if j = pv i then -(M i c) else 0)
  by_cases h : j = pv i
  ·rw [if_pos h, if_pos h, if_neg (fun e => hcp i (by omega) (by rw [← h, e])), zero_add, Jg fun t ht => by
    rw [if_neg (fun e => by have := asc_inj hR.asc (i := i) (j := t) (by omega) (by omega) (by rw [← h, e]); omega)], zero_add]
   simp only [opsP, Zi]
  ·rw [if_neg h, if_neg h, add_zero]
   exact Qao hR hc hcp i (by omega) j hj
theorem Qce {a n : Nat} {M : Nat → Nat → K P} {pv : Nat → Nat} {c : Nat} (hR : Rr a n M pv) (hc : c < n) (hcp : ∀ i, i < a → pv i ≠ c) {s : Nat} (hs : s < a) :
  sm n (fun j => M s j * inK P (gi (Ml.kerRow (opsP P) (matL P a n M) ((List.range a).map pv) n c) j)) = 0 := by
 have hl : ((List.range a).map pv).length = a := by simp
 rw [Ml.kerRow_eq, hl, QW (g := fun j => M s j * (if j = c then 1 else 0) + sm a fun t => M s j * (if j = pv t then -(M t c) else 0)) fun j hj => by rw [Qao hR hc hcp a (Nat.le_refl _) j hj, mul_add, Qah], Kq,
  QbU (fun j t => M s j * (if j = pv t then -(M t c) else 0)) a n]
 rw [Xi hc fun j _ hne => by rw [if_neg hne, mul_zero], if_pos rfl, mul_one]
 rw [Xi hs fun t ht hne => by
  rw [Xi (hR.lt t ht) fun j _ hne => by rw [if_neg hne, mul_zero], hR.piv s t hs ht, if_neg (fun e => hne e.symm), zero_mul]]
 rw [Xi (hR.lt s hs) fun j _ hne => by rw [if_neg hne, mul_zero], hR.piv s s hs hs, if_pos rfl, if_pos rfl, one_mul, Xd]
theorem Ku {n : Nat} {f g : Nat → K P} : sm n (fun j => f j * g j) = sm n fun j => g j * f j := QW fun _ _ => mul_comm _ _
structure RlIn (P : FP) (n : Nat) (L : List (List Int)) : Prop where
 rl : Ml.RL n L
 el : ∀ l ∈ L, InR P l
theorem RlIn.mat {n : Nat} {L : List (List Int)} (h : RlIn P n L) : L = matL P L.length n (kM P L) := Qb9 h.rl h.el
theorem RlIn.matL (m n : Nat) (M : Nat → Nat → K P) : RlIn P n (matL P m n M) := ⟨fun l hl => by
  obtain ⟨i, hi, rfl⟩ := List.getElem_of_mem hl
  simp [Go.Fd.matL, tab, rowL], fun l hl => by
  obtain ⟨i, hi, rfl⟩ := List.getElem_of_mem hl
  have e : (Go.Fd.matL P m n M)[i] = rowL P n (M i) := by simp [Go.Fd.matL, tab]
  rw [e]
  exact InR.tab fun j _ => (M i j).2⟩
theorem RlIn.ker {n : Nat} {R : List (List Int)} {ps : List Nat} (_ : ∀ p ∈ ps, p < n) : ∀ c, c ≤ n → RlIn P n (Ml.kerRows (opsP P) R ps n c) := fun c hc => ⟨Ml.kerRows_RL c, fun l hl => by
  have hq := P.q_two
  obtain ⟨d, hd, e⟩ := List.mem_filterMap.1 (show l ∈ (List.range c).filterMap _ from hl)
  have hdc := List.mem_range.1 hd
  split at e
  ·cases e
  ·cases e
   rw [Ml.kerRow_eq]
   suffices h : ∀ i, InR P (Ml.kerFold (opsP P) R ps n d i) from h _
   intro i
   induction i with
   | zero =>
    rw [Ml.kerFold, List.range_zero, List.foldl_nil]
    intro x hx
    rcases List.mem_or_eq_of_mem_set hx with h | h
    ·obtain ⟨t, _, rfl⟩ := List.mem_map.1 h; omega
    ·omega
   | succ i ih =>
    rw [Ml.kerFold_succ]
    intro x hx
    rcases List.mem_or_eq_of_mem_set hx with h | h
    ·exact ih x h
    ·rw [h]; exact (-(inK P (gi (Ml.rw R i) d))).2⟩
theorem QbL (hgen : ∃ g : K P, HasOrder g (n1 P)) {n : Nat} {L : List (List Int)} (h : RlIn P n L) : RlIn P n (Ml.canonM (opsP P) L n).1 ∧ (∀ t, t < (Ml.canonM (opsP P) L n).1.length → Sp L.length n (kM P L) (kM P (Ml.canonM (opsP P) L n).1 t)) := by
 obtain ⟨a, M, pv, h1, _, hR, hS⟩ := ZH hgen L.length n (kM P L)
 rw [← h.mat] at h1
 rw [h1]
 dsimp only
 refine ⟨RlIn.matL _ _ _, fun t ht => ?_⟩
 rw [QP] at ht
 exact ((hS _).1 (Sp.row ht)).congr fun j hj => kM_matL ht hj
theorem Xq (hgen : ∃ g : K P, HasOrder g (n1 P)) {n : Nat} {L : List (List Int)} (h : RlIn P n L) : RlIn P n (Ml.kernelM (opsP P) L n) ∧ (Ml.kernelM (opsP P) L n).length ≤ n ∧
  ∀ t, t < (Ml.kernelM (opsP P) L n).length → ∀ i, i < L.length → sm n (fun j => kM P L i j * kM P (Ml.kernelM (opsP P) L n) t j) = 0 := by
 rw [Ml.kernelM_eq]
 have hlt := Ml.canonM_lt (o := opsP P) (rows := L) (cols := n)
 have hk := RlIn.ker (P := P) (R := (Ml.canonM (opsP P) L n).1) hlt n (Nat.le_refl _)
 obtain ⟨h3, h4⟩ := QbL hgen hk
 refine ⟨h3, ?_, fun t ht i hi => ?_⟩
 ·have e1 := Ml.canonM_len (o := opsP P) (rows := Ml.kerRows (opsP P) (Ml.canonM (opsP P) L n).1 (Ml.canonM (opsP P) L n).2 n n) (cols := n)
  have e2 := Ml.kerRows_length (o := opsP P) (rows := (Ml.canonM (opsP P) L n).1) (ps := (Ml.canonM (opsP P) L n).2) (cols := n) (c := n)
  omega
 ·rw [Ku]
  refine (h4 t ht).orth fun s hs => ?_
  clear h3 h4 ht t
  obtain ⟨a, M, pv, h1, _, hR, hS⟩ := ZH hgen L.length n (kM P L)
  rw [← h.mat] at h1
  rw [h1] at hs hk ⊢
  dsimp only at hs hk ⊢
  rw [Ku]
  refine ((hS _).2 (Sp.row hi)).orth fun u hu => ?_
  have hm : (Ml.kerRows (opsP P) (matL P a n M) ((List.range a).map pv) n n)[s] ∈ (List.range n).filterMap fun c => if ((List.range a).map pv).contains c then none else some (Ml.kerRow (opsP P) (matL P a n M) ((List.range a).map pv) n c) := List.getElem_mem hs
  obtain ⟨c, hc, e⟩ := List.mem_filterMap.1 hm
  have hcn := List.mem_range.1 hc
  split at e
  ·cases e
  ·rename_i hno
   have hcp : ∀ i, i < a → pv i ≠ c := fun i hi' e' => hno (by simp; exact ⟨i, hi', e'⟩)
   have e3 : ∀ j, kM P (Ml.kerRows (opsP P) (matL P a n M) ((List.range a).map pv) n n) s j = inK P (gi (Ml.kerRow (opsP P) (matL P a n M) ((List.range a).map pv) n c) j) := fun j => by
    have e4 : Ml.rw (Ml.kerRows (opsP P) (matL P a n M) ((List.range a).map pv) n n) s = (Ml.kerRows (opsP P) (matL P a n M) ((List.range a).map pv) n n)[s] := by simp [Ml.rw, List.getD_eq_getElem?_getD, hs]
    rw [kM, e4, ← Option.some.inj e]
   rw [QW (g := fun j => M u j * inK P (gi (Ml.kerRow (opsP P) (matL P a n M) ((List.range a).map pv) n c) j)) fun j _ => by rw [e3]]
   exact Qce hR hcn hcp hu
theorem Qae {x : List Int} {L : List (List Int)} {n j : Nat} (hr : Ml.RL n L) (hj : j < n) : ∀ i, i ≤ L.length → inK P (gi (Ml.vecFold (opsP P) x L n i) j) = sm i fun t => inK P (gi x t) * kM P L t j
 | 0, _ => by
  rw [Ml.vecFold, List.range_zero, List.foldl_nil, ZO (by omega) (by omega), inK0]
  rfl
 | i + 1, hi => by
  have ih := Qae (x := x) hr hj i (by omega)
  show _ = sm i _ + _
  rw [Ml.vecFold_succ, ← ih]
  dsimp only
  split
  ·rename_i h
   rw [h, inK0, zero_mul, add_zero]
  ·rw [Ml.addRow, ZO (by rw [Ml.vecFold_length]; omega) (by omega), Int.toNat_natCast]
   split
   ·rename_i h
    rw [kM, h, inK0, mul_zero, add_zero]
   ·simp only [opsP, Zi, kM]
theorem XC {x : List Int} {L : List (List Int)} {n : Nat} : ∀ i, InR P (Ml.vecFold (opsP P) x L n i)
 | 0 => by
  have hq := P.q_two
  rw [Ml.vecFold, List.range_zero, List.foldl_nil]
  exact InR.tab fun _ _ => by omega
 | i + 1 => by
  rw [Ml.vecFold_succ]
  split
  ·exact XC i
  ·refine InR.tab fun j hj => ?_
   split
   ·exact InR.get (XC i) (by omega) (by omega)
   ·exact (inK P (gi (Ml.vecFold (opsP P) x L n i) j) + inK P ((opsP P).mu (gi x i) (gi (Ml.rw L i) j))).2
theorem RlIn.mul {A L : List (List Int)} {n : Nat} : RlIn P n (Ml.mulM (opsP P) A L n) := ⟨fun l hl => by
  obtain ⟨r, _, rfl⟩ := List.mem_map.1 hl
  rw [Ml.vecM_eq, Ml.vecFold_length], fun l hl => by
  obtain ⟨r, _, rfl⟩ := List.mem_map.1 hl
  exact XC _⟩
end Go.Fd
namespace Go.Alg
section
variable {R : Type} [CR R]
theorem peel_fill {n i : Nat} {h out w : Nat → R} {y : R} (hi : i < n) (ho : sm n (fun k => h k * w k) = 0) (hA : ∀ k, k < n → k ≠ i → h k ≠ 0 → out k = w k) (hz : out i = 0) (hy : h i * y = 1) : -(sm n (fun k => h k * out k) * y) = w i := by
 have h1 : sm n (fun k => h k * w k) = sm n (fun k => h k * out k) + h i * w i := by
  have h2 : sm n (fun k => if k = i then h i * w i else 0) = h i * w i := by
   rw [Xi hi fun k _ hne => if_neg hne]
   exact if_pos rfl
  rw [← h2, ← Kq]
  refine QW fun k hk => ?_
  by_cases e : k = i
  ·subst e
   rw [if_pos rfl, hz, mul_zero, zero_add]
  ·rw [if_neg e, add_zero]
   by_cases e2 : h k = 0
   ·rw [e2, zero_mul, zero_mul]
   ·rw [hA k hk e e2]
 rw [ho] at h1
 have h3 : sm n (fun k => h k * out k) = -(h i * w i) := Jj (by rw [add_comm]; exact h1.symm)
 rw [h3, neg_mul, Kw, mul_assoc, mul_comm (w i), ← mul_assoc, hy, one_mul]
theorem peel_zero {n i : Nat} {h v : Nat → R} {y : R} (hi : i < n) (ho : sm n (fun k => h k * v k) = 0) (hA : ∀ k, k < n → k ≠ i → h k ≠ 0 → v k = 0) (hy : h i * y = 1) : v i = 0 := by
 rw [Xi hi fun k hk hne => by
  by_cases e : h k = 0
  ·rw [e, zero_mul]
  ·rw [hA k hk hne e, mul_zero]] at ho
 rw [← one_mul (v i), ← hy, mul_comm (h i), mul_assoc, ho, mul_zero]
end
end Go.Alg
namespace Go.Ml
open Go.Pl
def posL (l : List Int) (i : Nat) : List Int := ((List.range i).filter fun k : Nat => decide (gi l (k : Int) ≠ 0)).map Int.ofNat
theorem posL_yes {l : List Int} {i : Nat} (h : gi l (i : Int) ≠ 0) : posL l (i + 1) = posL l i ++ [(i : Int)] := by
 rw [posL, List.range_succ, List.filter_append]
 simp [h, posL]
theorem posL_no {l : List Int} {i : Nat} (h : gi l (i : Int) = 0) : posL l (i + 1) = posL l i := by
 rw [posL, List.range_succ, List.filter_append]
 simp [h, posL]
theorem posL_mem {l : List Int} {n : Nat} {x : Int} : x ∈ posL l n ↔ ∃ j : Nat, j < n ∧ gi l (j : Int) ≠ 0 ∧ x = j := by
 simp only [posL, List.mem_map, List.mem_filter, List.mem_range, decide_eq_true_eq]
 exact ⟨fun ⟨j, ⟨h1, h2⟩, e⟩ => ⟨j, h1, h2, e.symm⟩, fun ⟨j, h1, h2, e⟩ => ⟨j, ⟨h1, h2⟩, e.symm⟩⟩
theorem posL_length {l : List Int} {n : Nat} : (posL l n).length ≤ n := by
 rw [posL, List.length_map]
 have := List.length_filter_le (fun k : Nat => decide (gi l (k : Int) ≠ 0)) (List.range n)
 rw [List.length_range] at this
 exact this
def leftL (b : Nat → Bool) (i : Nat) : List Int := ((List.range i).filter b).map Int.ofNat
theorem leftL_yes {b : Nat → Bool} {i : Nat} (h : b i = true) : leftL b (i + 1) = leftL b i ++ [(i : Int)] := by
 rw [leftL, List.range_succ, List.filter_append]
 simp [h, leftL]
theorem leftL_no {b : Nat → Bool} {i : Nat} (h : b i = false) : leftL b (i + 1) = leftL b i := by
 rw [leftL, List.range_succ, List.filter_append]
 simp [h, leftL]
theorem leftL_length {b : Nat → Bool} {n : Nat} : (leftL b n).length ≤ n := by
 rw [leftL, List.length_map]
 have := List.length_filter_le b (List.range n)
 rw [List.length_range] at this
 exact this
theorem leftL_nil {b : Nat → Bool} {n : Nat} (h : (leftL b n).length = 0) {i : Nat} (hi : i < n) : b i = false := by
 cases hb : b i with
 | false => rfl
 | true =>
  have hm : (i : Int) ∈ leftL b n := List.mem_map.2 ⟨i, List.mem_filter.2 ⟨List.mem_range.2 hi, hb⟩, rfl⟩
  rw [List.eq_nil_of_length_eq_zero h] at hm
  cases hm
def offB (b : Nat → Bool) (i : Nat) : Nat → Bool := fun k => if k = i then false else b k
theorem leftL_off {b : Nat → Bool} {i : Nat} (h : b i = true) : ∀ n, (leftL (offB b i) n).length + (if i < n then 1 else 0) = (leftL b n).length
 | 0 => rfl
 | n + 1 => by
  have ih := leftL_off h n
  by_cases e : n = i
  ·subst e
   rw [leftL_yes h, leftL_no (b := offB b n) (if_pos rfl), List.length_append, List.length_singleton, if_pos (by omega)]
   rw [if_neg (by omega)] at ih
   omega
  ·have e2 : offB b i n = b n := if_neg e
   have e3 : (if i < n + 1 then 1 else 0) = if i < n then 1 else 0 := by
    by_cases h1 : i < n
    ·rw [if_pos h1, if_pos (by omega)]
    ·rw [if_neg h1, if_neg (by omega)]
   rw [e3]
   cases hb : b n with
   | true => rw [leftL_yes hb, leftL_yes (by rw [e2]; exact hb), List.length_append, List.length_append]; simp only [List.length_singleton]; omega
   | false => rw [leftL_no hb, leftL_no (by rw [e2]; exact hb)]; exact ih
def boolV (n : Nat) (b : Nat → Bool) : List Go.Value := tab n fun k => .bool (b k)
theorem boolV_length {n : Nat} {b : Nat → Bool} : (boolV n b).length = n := Qs _ _
theorem boolV_get {n : Nat} {b : Nat → Bool} {k : Nat} (h : k < n) : (boolV n b)[k]? = some (.bool (b k)) := Za h
theorem boolV_off {n : Nat} {b : Nat → Bool} {i : Nat} : (boolV n b).set i (.bool false) = boolV n (offB b i) := by
 rw [boolV, XD, boolV]
 refine QF fun t _ => ?_
 by_cases h : t = i
 ·rw [if_pos h, offB, if_pos h]
 ·rw [if_neg h, offB, if_neg h]
def inB (l : List Int) (i : Nat) : Nat → Bool := fun y => (l.take i).contains (y : Int)
theorem inB_zero {n : Nat} {l : List Int} : List.replicate n (Go.Value.bool false) = boolV n (inB l 0) := by rw [boolV, Jo]; rfl
theorem inB_set {n : Nat} {l : List Int} {i y : Nat} (hi : i < l.length) (hy : gi l i = y) : (boolV n (inB l i)).set y (.bool true) = boolV n (inB l (i + 1)) := by
 rw [boolV, XD, boolV]
 refine QF fun t _ => ?_
 have e : l.take (i + 1) = l.take i ++ [(y : Int)] := by
  rw [List.take_add_one, List.getElem?_eq_getElem hi, ← hy]
  simp [gi, List.getD_eq_getElem?_getD, hi]
 rw [inB, inB, e]
 by_cases h : t = y
 ·rw [if_pos h, h]; simp
 ·rw [if_neg h]
  have h' : ¬ ((t : Int) = y) := by omega
  simp [h']
theorem inB_mem {l : List Int} {i : Nat} : inB l l.length i = true ↔ (i : Int) ∈ l := by simp [inB]
def zerL (y S : List Int) (i : Nat) : List Int := tab y.length fun j => if inB S i j then 0 else gi y (j : Int)
theorem zerL_length {y S : List Int} {i : Nat} : (zerL y S i).length = y.length := Qs _ _
theorem zerL_zero {y S : List Int} : zerL y S 0 = y := by
 conv => rhs; rw [JQ y]
 refine QF fun j _ => ?_
 rw [if_neg (by simp [inB])]
 simp [gi]
theorem zerL_set {y S : List Int} {i : Nat} (hi : i < S.length) (h0 : 0 ≤ gi S (i : Int)) : si (zerL y S i) (gi S (i : Int)) 0 = zerL y S (i + 1) := by
 rw [zerL, Jt, zerL]
 refine QF fun t _ => ?_
 have e : S.take (i + 1) = S.take i ++ [gi S (i : Int)] := by
  rw [List.take_add_one, List.getElem?_eq_getElem hi]
  simp [gi, List.getD_eq_getElem?_getD, hi]
 rw [inB, inB, e]
 by_cases h : t = (gi S (i : Int)).toNat
 ·have h' : (t : Int) = gi S (i : Int) := by omega
  rw [if_pos h, h']; simp
 ·rw [if_neg h]
  have h' : ¬ ((t : Int) = gi S (i : Int)) := by omega
  simp [h']
theorem zerL_get {y S : List Int} {j : Nat} (hj : j < y.length) : gi (zerL y S S.length) (j : Int) = if (j : Int) ∈ S then 0 else gi y (j : Int) := by
 rw [zerL, ZO (by omega) (by omega), Int.toNat_natCast]
 by_cases h : (j : Int) ∈ S
 ·rw [if_pos (inB_mem.2 h), if_pos h]
 ·rw [if_neg (fun e => h (inB_mem.1 e)), if_neg h]
end Go.Ml
namespace Go.Fd
open Go.Pl Go.Alg Go.Proofs.YtcfbigmjjpknfaaGreatDoor
variable {P : FP}
def Oth (P : FP) (H : List (List Int)) (n : Nat) (v : Nat → K P) : Prop := ∀ j, j < H.length → sm n (fun k => kM P H j k * v k) = 0
structure Peels (P : FP) (n : Nat) (H : List (List Int)) (S : List Int) (wv : Nat → K P) (b : Nat → Bool) (o : List Int) : Prop where
 len : o.length = n
 el : InR P o
 done : ∀ i, i < n → b i = false → inK P (gi o (i : Int)) = wv i
 todo : ∀ i, i < n → b i = true → gi o (i : Int) = 0
 zero : ∀ v : Nat → K P, Oth P H n v → (∀ j, j < n → (j : Int) ∉ S → v j = 0) → ∀ i, i < n → b i = false → v i = 0
noncomputable def dotZ (P : FP) (a b : List Int) (n : Nat) : K P := sm n fun k => inK P (gi a (k : Int)) * inK P (gi b (k : Int))
theorem Peels.step {n : Nat} {H : List (List Int)} {S : List Int} {wv : Nat → K P} {b : Nat → Bool} {o : List Int} (h : Peels P n H S wv b o) (hgen : ∃ g : K P, HasOrder g (n1 P)) (hw : Oth P H n wv) {j i : Nat} (hj : j < H.length) (hi : i < n) (hb : b i = true) (h0 : kM P H j i ≠ 0)
  (hA : ∀ k, k < n → k ≠ i → kM P H j k ≠ 0 → b k = false) : Peels P n H S wv (Ml.offB b i) (si o (i : Int) (-(dotZ P (Ml.rw H j) o n * invK P (kM P H j i))).1) := by
 obtain ⟨g, hg⟩ := hgen
 have hy := Xn hg h0
 have hv := peel_fill (h := fun k => kM P H j k) (out := fun k => inK P (gi o (k : Int))) (w := wv) (y := invK P (kM P H j i)) hi (hw j hj) (fun k hk hne hnz => h.done k hk (hA k hk hne hnz)) (by rw [h.todo i hi hb, inK0]) hy
 rw [show dotZ P (Ml.rw H j) o n = sm n fun k => kM P H j k * inK P (gi o (k : Int)) from rfl, hv]
 have hl := h.len
 have hgi : ∀ k : Nat, gi (si o (i : Int) (wv i).1) (k : Int) = if k = i then (wv i).1 else gi o (k : Int) := fun k => QbE (by omega)
 refine ⟨by rw [Zp]; exact hl, fun x hx => ?_, fun k hk hbk => ?_, fun k hk hbk => ?_, fun v hv1 hv2 k hk hbk => ?_⟩
 ·rcases List.mem_or_eq_of_mem_set hx with e | e
  ·exact h.el x e
  ·rw [e]; exact (wv i).2
 ·rw [hgi]
  by_cases e : k = i
  ·rw [if_pos e, Zi, e]
  ·rw [if_neg e]
   rw [Ml.offB, if_neg e] at hbk
   exact h.done k hk hbk
 ·rw [hgi]
  by_cases e : k = i
  ·rw [Ml.offB, if_pos e] at hbk; cases hbk
  ·rw [if_neg e]
   rw [Ml.offB, if_neg e] at hbk
   exact h.todo k hk hbk
 ·by_cases e : k = i
  ·rw [e]
   exact peel_zero (h := fun k => kM P H j k) hi (hv1 j hj) (fun k hk hne hnz => h.zero v hv1 hv2 k hk (hA k hk hne hnz)) hy
  ·rw [Ml.offB, if_neg e] at hbk
   exact h.zero v hv1 hv2 k hk hbk
theorem Peels.fit {n : Nat} {H : List (List Int)} {S : List Int} {wv : Nat → K P} {b : Nat → Bool} {o : List Int} (h : Peels P n H S wv b o) (hw : Oth P H n wv) {j : Nat} (hj : j < H.length) (hA : ∀ k, k < n → kM P H j k ≠ 0 → b k = false) : dotZ P (Ml.rw H j) o n = 0 := by
 rw [← hw j hj]
 refine QW fun k hk => ?_
 show kM P H j k * _ = _
 by_cases e : kM P H j k = 0
 ·rw [e, zero_mul, zero_mul]
 ·rw [h.done k hk (hA k hk e)]
theorem Peels.all {n : Nat} {H : List (List Int)} {S : List Int} {wv : Nat → K P} {b : Nat → Bool} {o : List Int} (h : Peels P n H S wv b o) (h0 : (Ml.leftL b n).length = 0) :
  o = rowL P n wv ∧ ∀ v : Nat → K P, Oth P H n v → (∀ j, j < n → (j : Int) ∉ S → v j = 0) → ∀ i, i < n → v i = 0 :=
 ⟨QaK h.len fun j hj => by
  have h1 := h.done j hj (Ml.leftL_nil h0 hj)
  have h2 := InR.get h.el (k := (j : Int)) (by omega) (by rw [h.len]; omega)
  rw [← h1, ZF h2], fun v h1 h2 i hi => h.zero v h1 h2 i hi (Ml.leftL_nil h0 hi)⟩
theorem Peels.start {n : Nat} {H : List (List Int)} {S : List Int} {wv : Nat → K P} {b : Nat → Bool} {o : List Int} (hl : o.length = n) (he : InR P o) (hb : ∀ i : Nat, i < n → (b i = true ↔ (i : Int) ∈ S)) (h1 : ∀ i : Nat, i < n → (i : Int) ∉ S → inK P (gi o (i : Int)) = wv i) (h2 : ∀ i : Nat, i < n → (i : Int) ∈ S → gi o (i : Int) = 0) : Peels P n H S wv b o :=
 ⟨hl, he, fun i hi h => h1 i hi fun e => by (rw [(hb i hi).2 e] at h; cases h), fun i hi h => h2 i hi ((hb i hi).1 h), fun v _ h3 i hi h => h3 i hi fun e => by (rw [(hb i hi).2 e] at h; cases h)⟩
end Go.Fd
namespace Go.Proofs.YtcfbigmjjpknfaaGreatDoor
open Go Go.Sx Go.Pl Go.RowKit Go.Fd Go.Alg
theorem gDiv (P : FP) (g : Value) (x y : Int) (w : World) (hG : GFV w P g) (hy : inK P y ≠ 0) :
  Calls Tryz.prog 32 #[g, .int .i64 x, .int .i64 y] w (RetX w fun v _ => v = .tuple #[.int .i64 (inK P x * invK P (inK P y)).1, .int .i64 0]) := by
 refine QS Tryz.func32 rfl rfl (Qc (Qb [0,1] rfl (Qk rfl rfl (Qk rfl rfl (Qd (Qa (Qc (Qb [0,1,2,3,4,5,6,7] rfl (mvV rfl rfl (mvV rfl rfl (C rfl wu rfl rfl Tryz.call60 (gInv P g y _ hG) ?_)))))))))))
 intro r w2 hE hr
 rw [if_neg hy] at hr
 subst hr
 refine mvV rfl rfl (QI rfl rfl rfl (QI rfl rfl rfl (Qk rfl rfl (Qk rfl rfl (Qd (Qa (Qc (Qc (Qb [0,1] rfl (mvV rfl rfl (QG rfl rfl rfl (Qd (Qa ?_)))))))))))))
 refine Qn rfl (rfl) (Qe (Qa (Qc (Qb [0,1,2,3,4,5] rfl (mvV rfl rfl (mvV rfl rfl (mvV rfl rfl (C rfl wu rfl rfl Tryz.call61 (gMul P g x (invK P (inK P y)).1 _ (hG.ext hE)) ?_))))))))
 rintro _ w3 hE3 rfl
 rw [Zi]
 refine Qk rfl rfl (Qk rfl rfl (Qd (Qa (Qq (QH rfl rfl rfl ?_)))))
 exact ⟨hE.trans hE3, rfl⟩
set_option maxRecDepth 10000 in
theorem gDot (P : FP) (g u v : Value) (a b : List Int) (n : Nat) (w : World) (hG : GFV w P g) (ha : Ints w u a) (hb : Ints w v b) (hal : a.length = n) (hbl : b.length = n) :
  Calls Tryz.prog 33 #[g, u, v] w (RetX w fun r _ => r = .int .i64 (dotZ P a b n).1) := by
 have hale := ha.le
 refine QS Tryz.func33 rfl rfl (Qc (Qb [0] rfl (Qk rfl rfl (Qd (Qa (Qc (Qb [0] rfl (Qk rfl rfl (Qd (Qa (Qc (Qc (Qb [0,1,2,3,4,5] rfl (mvV rfl rfl ?_))))))))))))))
 refine Vw rfl (Zh rfl QA ha) (mvV rfl rfl (Vw rfl (Zh rfl QA hb) (Vw rfl (minI rfl rfl) (mvV rfl rfl (Qd (Qa (Qf ?_)))))))
 rw [hal, hbl, Int.min_self]
 refine Qv (fun i : Nat => [(0, g), (1, u), (2, v), (7, .int .i64 (dotZ P a b i).1), (13, .int .i64 n), (14, .int .i64 i)])
  (fun i w' => i ≤ n ∧ Ext w w') (fun i => n - i) 0 ⟨rfl, rfl, rfl, rfl, rfl, rfl, trivial⟩ ⟨by omega, Ext.refl _⟩ ?_
 rintro i w2 ⟨i1, hE⟩
 have hai := ha.ext hE
 have hbi := hb.ext hE
 try dsimp only
 refine Qc (Qb [0] rfl (Qy rfl rfl rfl (Qd (Qa (Qc (Qo rfl ?_ ?_))))))
 ·intro hc
  simp at hc
  refine Qe (Qa (Qc (Qf (Qc (Qb [0,1] rfl (mvV rfl rfl (Qk rfl rfl (Qd (Qa (Qx QK [0,1,2,3,4,5,6,7,8,9,10,11,12,13] (by kernel_rfl) ?_))))))))))
  intro w3 hd _
  replace hE := hE.trans hd
  replace hai := hai.ext hd
  replace hbi := hbi.ext hd
  refine mvV rfl rfl (mvV rfl rfl (mvV rfl rfl (mvV rfl rfl (mvV rfl rfl (Vw rfl (QO rfl rfl QA hai (by omega) (by omega)) (Vw rfl (ldI rfl na3 hai (Ext.refl _) (by omega) (by omega)) (mvV rfl rfl (mvV rfl rfl (Vw rfl (QO rfl rfl QA hbi (by omega) (by omega)) ?_)))))))))
  refine Vw rfl (ldI rfl na3 hbi (Ext.refl _) (by omega) (by omega)) (C rfl wu rfl rfl Tryz.call61 (gMul P g (gi a i) (gi b i) _ (hG.ext hE)) ?_)
  rintro _ w4 hE4 rfl
  replace hE := hE.trans hE4
  refine C rfl wu rfl rfl Tryz.call62 (gAdd P g (dotZ P a b i).1 (inK P (gi a i) * inK P (gi b i)).1 _ (hG.ext hE)) ?_
  rintro _ w5 hE5 rfl
  replace hE := hE.trans hE5
  rw [Zi, Zi]
  refine Qk rfl rfl (Qd (Qg (Qa (Qb [0,1] rfl (Qw rfl rfl rfl (mvV rfl rfl (Qd ?_)))))))
  exact Qi (i + 1) ⟨rfl, rfl, rfl, rfl, rfl, rfl, trivial⟩ ⟨by omega, hE⟩ (by omega)
 ·intro hc
  simp at hc
  obtain rfl : i = n := by omega
  refine Qt (Ql (Qm (Qh (Qa (Qc (Qb [0,1] rfl (mvV rfl rfl (Qk rfl rfl (Qd (Qa (Qq (Qj rfl rfl ?_))))))))))))
  exact ⟨hE, rfl⟩
end Go.Proofs.YtcfbigmjjpknfaaGreatDoor
namespace Go.Proofs.YtcfbigmjjpknfaaGreatDoor
open Go Go.Sx Go.Pl Go.RowKit Go.Fd Go.Alg
set_option maxRecDepth 10000 in
theorem plSet (lv : Value) (l : List Int) (n : Nat) (w : World) (hl : Ints w lv l) (ha : AscIn n l) :
  Calls Tryz.prog 26 #[lv, .int .i64 n] w (RetX w fun r _ => r = .bool true) := by
 have hle := hl.le
 refine QD Tryz.func26 rfl rfl (Qc (Qb [0] rfl (Qk rfl rfl (Qd (Qa (Qc (Qc (Qb [0,1,2] rfl (mvV rfl rfl (Vw rfl (Zh rfl QA hl) (mvV rfl rfl (Qd (Qa (Qf ?_))))))))))))))
 refine Qv (fun k : Nat => [(0, lv), (1, .int .i64 n), (7, lv), (8, .int .i64 l.length), (9, .int .i64 k)]) (fun k w' => k ≤ l.length ∧ w' = w) (fun k => l.length - k) 0 ⟨rfl, rfl, rfl, rfl, rfl, trivial⟩ ⟨by omega, rfl⟩ ?_
 rintro k w3 ⟨k1, rfl⟩
 try dsimp only
 refine Qc (Qb [0] rfl (Qy rfl rfl rfl (Qd (Qa (Qc (Qo rfl ?_ ?_))))))
 ·intro hk
  simp at hk
  have hgi : gi l k = l[k]'hk := by simp [gi, List.getD_eq_getElem?_getD, hk]
  have hgb := ha.lo (gi l k) (by rw [hgi]; exact List.getElem_mem _)
  refine Qe (Qa (Qc (Qf (Qc (Qb [0,1,2,3,4] rfl (mvV rfl rfl (Vw rfl (QO rfl rfl QA hl (by omega) (by omega)) (Vw rfl (ldI rfl na3 hl (Ext.refl _) (by omega) (by omega)) (Qk rfl rfl (Qk rfl rfl (Qd (Qa (Qc ?_)))))))))))))
  by_cases hk0 : k = 0
  ·skip
   refine Qb [0,1,2,3,4,5,6,7,8,9,10,11,12,13,14,15,16,17,18,19] rfl (mvV rfl rfl (Qy rfl rfl rfl (mvV rfl rfl (KB 16 false rfl (decide_eq_false (by omega)) (Vg rfl rfl rfl (mv rfl) (Vg rfl rfl rfl (mv rfl) (Vg rfl rfl rfl (Xb rfl rfl) (pkV rfl rfl rfl (mvV rfl rfl ?_)))))))))
   refine KB 21 false rfl (decide_eq_false (by omega)) (Vg rfl rfl rfl (mv rfl) (Vg rfl rfl rfl (Ju rfl rfl) (Vg rfl rfl rfl (mv rfl) (KB 24 false rfl (decide_eq_false (by omega)) (SK rfl rfl rfl rfl rfl (SK rfl rfl rfl rfl rfl (SK rfl rfl rfl rfl rfl (SK rfl rfl rfl rfl rfl (SK rfl rfl rfl rfl rfl ?_)))))))))
   refine SK rfl rfl rfl rfl rfl (SK rfl rfl rfl rfl rfl (Vg rfl rfl rfl (pk rfl rfl) (pkV rfl rfl rfl (Qd (Qa (Qn rfl (rfl) (Qe (Qg (Qa (Qb [0,1] rfl (Qw rfl rfl rfl (mvV rfl rfl ?_))))))))))))
   refine Qd ?_
   exact Qi (k + 1) ⟨rfl, rfl, rfl, rfl, rfl, trivial⟩ ⟨by omega, rfl⟩ (by omega)
  ·have hlt := ha.asc k (by omega) hk
   refine Qb [0,1,2,3,4,5,6,7,8,9,10,11,12,13,14,15,16,17,18,19] rfl (mvV rfl rfl (Qy rfl rfl rfl (mvV rfl rfl (KB 16 false rfl (decide_eq_false (by omega)) (Vg rfl rfl rfl (mv rfl) (Vg rfl rfl rfl (mv rfl) (Vg rfl rfl rfl (Xb rfl rfl) (pkV rfl rfl rfl (mvV rfl rfl ?_)))))))))
   refine KB 21 false rfl (decide_eq_false (by omega)) (Vg rfl rfl rfl (mv rfl) (Vg rfl rfl rfl (Ju rfl rfl) (Vg rfl rfl rfl (mv rfl) (KB 24 true rfl (decide_eq_true (by omega)) (Vg rfl rfl rfl (mv rfl) (Vg rfl rfl rfl (mv rfl) (Vg rfl rfl rfl (mv rfl) (Vg rfl rfl rfl (subI rfl rfl) (Vg rfl rfl rfl (QO rfl rfl QA hl (by omega) (by omega)) ?_)))))))))
   refine Vg rfl rfl rfl (ldI rfl na3 hl (Ext.refl _) (by omega) (by omega)) (Vg rfl rfl rfl (Qbz rfl rfl) (Vg rfl rfl rfl (pk rfl rfl) (pkV rfl rfl rfl (Qd (Qa (Qn rfl (by simp; omega) (Qe (Qg (Qa (Qb [0,1] rfl (Qw rfl rfl rfl (mvV rfl rfl ?_))))))))))))
   refine Qd ?_
   exact Qi (k + 1) ⟨rfl, rfl, rfl, rfl, rfl, trivial⟩ ⟨by omega, rfl⟩ (by omega)
 ·intro hk
  refine Qt (Ql (Qm (Qh (Qa (Qc (Qb [0] rfl (Qk rfl rfl (Qd (Qa (Qq (Qj rfl rfl ?_)))))))))))
  exact ⟨Ext.refl _, rfl⟩
set_option maxRecDepth 10000 in
theorem plMask (tv lv : Value) (l : List Int) (n : Nat) (w : World) (ht : tv.oneCell' = true) (hl : Ints w lv l) (hr : ∀ x ∈ l, 0 ≤ x ∧ x < (n : Int)) (hn : n ≤ 100000) :
  Calls Tryz.prog 28 #[.agg #[.int .i64 n, tv], lv] w (RetX w fun r w' => Sx.Own w.heap.size w' r 4 (Ml.boolV n (Ml.inB l l.length))) := by
 have hle := hl.le
 have htc := QB ht
 refine QD Tryz.func28 rfl rfl (Qc (Qb [0,1] rfl (BXA rfl wu rfl rfl ?_)))
 intro tb w1 hE hB hg
 refine Qk rfl rfl (Qd (Qa (Qc ?_)))
 have hz1 := hE.size
 refine Qb [0,1,2,3] rfl (Qz rfl rfl fa58_0 (Vw rfl (ldB rfl na3 hB) (MK (n := n) rfl wu rfl rfl QaE rfl ?_)))
 intro ov w3 hE3 hs hsb
 rw [Ml.inB_zero (l := l)] at hs
 refine Qk rfl rfl (Qd (Qa (Qc (Qc ?_))))
 replace hs := hs.mono (B' := w.heap.size) hz1
 replace hE := hE.trans hE3
 refine Qb [0,1,2] rfl (mvV rfl rfl (Vw rfl (Zh rfl QA (hl.ext hE)) (mvV rfl rfl (Qd (Qa (Qf ?_))))))
 refine Qv (fun i : Nat => [(5, ov), (11, lv), (12, .int .i64 l.length), (13, .int .i64 i)])
  (fun i w' => i ≤ l.length ∧ Ext w w' ∧ Sx.Own w.heap.size w' ov 4 (Ml.boolV n (Ml.inB l i))) (fun i => l.length - i) 0 ⟨rfl, rfl, rfl, rfl, trivial⟩ ⟨by omega, hE, hs⟩ ?_
 clear hs hE hE3 hB
 rintro i w4 ⟨i1, hE, hs⟩
 have hli := hl.ext hE
 try dsimp only
 refine Qc (Qb [0] rfl (Qy rfl rfl rfl (Qd (Qa (Qc (Qo rfl ?_ ?_))))))
 ·intro hc
  simp at hc
  have hb := hr (gi l i) (by rw [Jw hc]; exact List.getElem_mem _)
  obtain ⟨y, hy⟩ : ∃ y : Nat, gi l i = y := ⟨(gi l i).toNat, by omega⟩
  refine Qe (Qa (Qc (Qf (Qc (Qb [0,1,2] rfl (Vw rfl (QO rfl rfl QA hli (by omega) (by omega)) (Vw rfl (ldI rfl na3 hli (Ext.refl _) (by omega) (by omega)) (Qk rfl rfl (Qd (Qa ?_))))))))))
  rw [hy]
  refine Qb [0,1,2,3] rfl (mvV rfl rfl (mvV rfl rfl (Vw rfl (iad rfl rfl QaE hs.sl (by omega) (by rw [Ml.boolV_length]; omega)) (ST rfl wu rfl rfl sz4 rfl nofun ?_ hs (by omega) (by rw [Ml.boolV_length]; omega)))))
  intro w6 hg6 hs6
  rw [Int.toNat_natCast, Ml.inB_set hc hy] at hs6
  replace hE := hE.grown hg6 hs (Nat.le_refl _)
  refine Qd (Qg (Qa (Qb [0,1] rfl (Qw rfl rfl rfl (mvV rfl rfl (Qd ?_))))))
  exact Qi (i + 1) ⟨rfl, rfl, rfl, rfl, trivial⟩ ⟨by omega, hE, hs6⟩ (by omega)
 ·intro hc
  simp at hc
  obtain rfl : i = l.length := by omega
  refine Qt (Ql (Qm (Qh (Qa (Qc (Qb [0,1] rfl (mvV rfl rfl (Qk rfl rfl (Qd (Qa (Qq (Qj rfl rfl ?_))))))))))))
  exact ⟨hE, hs⟩
set_option maxRecDepth 10000 in
theorem plLeft (bv : Value) (n : Nat) (b : Nat → Bool) (w : World) (hb : Sl w bv (Ml.boolV n b)) (hn : n ≤ 100000) :
  Calls Tryz.prog 36 #[bv] w (RetX w fun r w' => OwnI w.heap.size w' r 3 (Ml.leftL b n)) := by
 have hbl := Ml.boolV_length (n := n) (b := b)
 refine QL Tryz.func36 rfl rfl (Qc (Qb [0] rfl (Qk rfl rfl (Qd (Qa (Qc (Qb [0] rfl (Qk rfl rfl (Qd (Qa (Qc (Qc (Qb [0,1,2] rfl (mvV rfl rfl ?_))))))))))))))
 refine Vw rfl (Zt rfl QaE hb) (mvV rfl rfl (Qd (Qa (Qf ?_))))
 rw [hbl]
 refine Qv (fun s : Nat × Value => [(3, s.2), (6, bv), (7, .int .i64 n), (8, .int .i64 s.1)])
  (fun s w' => s.1 ≤ n ∧ Ext w w' ∧ OwnI w.heap.size w' s.2 3 (Ml.leftL b s.1)) (fun s => n - s.1) (0, .slice none 0 0) ⟨rfl, rfl, rfl, rfl, trivial⟩ ⟨by omega, Ext.refl _, OwnI.nil _ _ _⟩ ?_
 rintro ⟨i, ov⟩ w2 ⟨i1, hE, ho⟩
 dsimp only at i1 hE ho
 have hbi := hb.ext hE
 have holt := Own.lt ho
 have hll := Ml.leftL_length (b := b) (n := i)
 try dsimp only
 refine Qc (Qb [0] rfl (Qy rfl rfl rfl (Qd (Qa (Qc (Qo rfl ?_ ?_))))))
 ·intro hc
  simp at hc
  refine Qe (Qa (Qc (Qf (Qc (Qb [0,1,2,3,4] rfl (mvV rfl rfl (Vw rfl (iad rfl rfl QaE hbi (by omega) (by omega)) (Vw rfl (ldE rfl na4 hbi (by rw [Int.toNat_natCast]; exact Ml.boolV_get hc) (Ext.refl _)) (Qk rfl rfl (Qk rfl rfl (Qd (Qa (Qc (Qb [0] rfl (mvV rfl rfl ?_)))))))))))))))
  refine Qd (Qa (Qo rfl ?_ ?_))
  ·intro h
   refine Qb [0,1,2,3,4] rfl (mvV rfl rfl (mvV rfl rfl (BSI (zs := [(i : Int)]) rfl wu rfl rfl rfl rfl QA ?_)))
   intro tv w3 hE3 ht hti htb
   have hE03 := hE.trans hE3
   replace ho := OwnI.ext ho hE3
   refine API rfl wu rfl rfl rfl QA nofun ?_
   intro ov2 w4 hg4 hX4 ho2 hi4 hv4
   refine Qk rfl rfl (Qd (Qg (Qa (Qb [0,1] rfl (Qw rfl rfl rfl (mvV rfl rfl (Qd ?_)))))))
   exact Qi (i + 1, ov2) ⟨rfl, rfl, rfl, rfl, trivial⟩ ⟨by dsimp only; omega, hX4 w (Nat.le_refl _) (hE.trans hE3), by dsimp only; rw [Ml.leftL_yes h]; exact ho2⟩ (by dsimp only; omega)
  ·intro h
   refine Qe (Qg (Qa (Qb [0,1] rfl (Qw rfl rfl rfl (mvV rfl rfl (Qd ?_))))))
   exact Qi (i + 1, ov) ⟨rfl, rfl, rfl, rfl, trivial⟩ ⟨by dsimp only; omega, hE, by dsimp only; rw [Ml.leftL_no h]; exact ho⟩ (by dsimp only; omega)
 ·intro hc
  simp at hc
  obtain rfl : i = n := by omega
  refine Qt (Ql (Qm (Qh (Qa (Qc (Qb [0,1] rfl (mvV rfl rfl (Qk rfl rfl (Qd (Qa (Qq (Qj rfl rfl ?_))))))))))))
  exact ⟨hE, ho⟩
def Alone (b : Nat → Bool) (C : List (List Int)) (i : Nat) : Prop := b i = true ∧ ∃ j, j < C.length ∧ (i : Int) ∈ C.getD j [] ∧ ∀ x ∈ C.getD j [], b x.toNat = true → x = i
set_option maxRecDepth 10000 in
theorem plAlone (tv bv : Value) (C : List (List Int)) (n : Nat) (b : Nat → Bool) (w : World) (hC : LL w tv C) (hb : Sl w bv (Ml.boolV n b)) (hr : ∀ l ∈ C, ∀ x ∈ l, 0 ≤ x ∧ x < (n : Int)) :
  Calls Tryz.prog 29 #[.agg #[.int .i64 n, tv], bv] w (RetX w fun r _ => ∃ z : Int, r = .int .i64 z ∧ (z < 0 ∨ ∃ i : Nat, z = i ∧ i < n ∧ Alone b C i)) := by
 have hbl := Ml.boolV_length (n := n) (b := b)
 have htc := QB hC.one
 obtain ⟨rs, hs, hrl, hrow⟩ := hC.row
 have hsle := hs.le
 refine QD Tryz.func29 rfl rfl (Qc (Qb [0,1] rfl (BXA rfl wu rfl rfl ?_)))
 intro tb w1 hE hB hg
 refine Qk rfl rfl (Qd (Qa (wc_scope (Qc (wc_label (Qa (Qc (Qc (Qb [0,1,2,3] rfl (Qz rfl rfl QbG (Vw rfl (ldB rfl Zm hB) (Vw rfl (Zt rfl QN (hs.ext hE)) (mvV rfl rfl (Qd (Qa (Qf ?_))))))))))))))))
 refine Qv (fun j : Nat => [(1, bv), (11, tv), (12, .int .i64 rs.length), (13, .int .i64 j)]) (fun j w' => j ≤ rs.length ∧ w' = w1) (fun j => rs.length - j) 0 ⟨rfl, rfl, rfl, rfl, trivial⟩ ⟨by omega, rfl⟩ ?_
 rintro j w2 ⟨j1, rfl⟩
 have hsi := hs.ext hE
 have hbi := hb.ext hE
 try dsimp only
 refine Qc (Qb [0] rfl (Qy rfl rfl rfl (Qd (Qa (Qc (Qo rfl ?_ ?_))))))
 ·intro hc
  simp at hc
  obtain ⟨r, hrj, hri⟩ := hrow j (by omega)
  have hri := hri.ext hE
  have hrle := hri.le
  have hin : ∀ t : Nat, t < (C.getD j []).length → 0 ≤ gi (C.getD j []) t ∧ gi (C.getD j []) t < (n : Int) ∧ gi (C.getD j []) t ∈ C.getD j [] := fun t ht => by
   have hm : C.getD j [] ∈ C := by
    rw [List.getD_eq_getElem?_getD, List.getElem?_eq_getElem (by omega)]
    exact List.getElem_mem _
   have hm2 : gi (C.getD j []) t ∈ C.getD j [] := by
    rw [Jw ht]
    exact List.getElem_mem _
   exact ⟨(hr _ hm _ hm2).1, (hr _ hm _ hm2).2, hm2⟩
  refine Qe (Qa (Qc (Qf (Qc (Qb [0,1,2] rfl (Vw rfl (iad rfl rfl QN hsi (by omega) (by omega)) (Vw rfl (ldE rfl Zk hsi (by rw [Int.toNat_natCast]; exact hrj) (Ext.refl _)) (Qk rfl rfl (Qd (Qa (Qc (Qb [0] rfl (Qk rfl rfl (Qd (Qa (Qc (Qc ?_)))))))))))))))))
  generalize hz : C.getD j [] = zs at *
  refine Qb [0,1,2] rfl (mvV rfl rfl (Vw rfl (Zh rfl QA hri) (mvV rfl rfl (Qd (Qa (Qf ?_))))))
  refine Qv (fun s : Nat × Int => [(1, bv), (7, .int .i64 s.2), (11, tv), (12, .int .i64 rs.length), (13, .int .i64 j), (17, r), (18, .int .i64 zs.length), (19, .int .i64 s.1)])
   (fun s w' => s.1 ≤ zs.length ∧ w' = w2 ∧ ((s.2 = -1 ∧ ∀ t : Nat, t < s.1 → b (gi zs t).toNat = false) ∨ (0 ≤ s.2 ∧ s.2 < (n : Int) ∧ s.2 ∈ zs ∧ b s.2.toNat = true ∧ ∀ t : Nat, t < s.1 → b (gi zs t).toNat = true → gi zs t = s.2))) (fun s => zs.length - s.1) (0, -1)
   ⟨rfl, rfl, rfl, rfl, rfl, rfl, rfl, rfl, trivial⟩ ⟨by omega, rfl, .inl ⟨rfl, fun t ht => by omega⟩⟩ ?_
  rintro ⟨i, o⟩ w3 ⟨i1, rfl, hst⟩
  dsimp only at i1 hst
  try dsimp only
  refine Qc (Qb [0] rfl (Qy rfl rfl rfl (Qd (Qa (Qc (Qo rfl ?_ ?_))))))
  ·intro hi
   simp at hi
   obtain ⟨z0, z1, zm⟩ := hin i hi
   obtain ⟨y, hy⟩ : ∃ y : Nat, gi zs i = y := ⟨(gi zs i).toNat, by omega⟩
   refine Qe (Qa (Qc (Qf (Qc (Qb [0,1,2] rfl (Vw rfl (QO rfl rfl QA hri (by omega) (by omega)) (Vw rfl (ldI rfl na3 hri (Ext.refl _) (by omega) (by omega)) (Qk rfl rfl (Qd (Qa (Qc (Qc ?_))))))))))))
   rw [hy]
   have hyb : b (gi zs i).toNat = b y := by rw [hy]; rfl
   cases hby : b y with
   | true =>
    rcases hst with ⟨rfl, hno⟩ | ⟨o0, o1, om, ob, hall⟩
    ·skip
     refine Qb [0,1,2,3,4,5,6,7] rfl (mvV rfl rfl (mvV rfl rfl (Vw rfl (iad rfl rfl QaE hbi (by omega) (by omega)) (Vw rfl (ldE rfl na4 hbi (by rw [Int.toNat_natCast]; exact Ml.boolV_get (by omega)) (Ext.refl _)) (mvV rfl rfl (KB 27 true rfl (hby) (Vg rfl rfl rfl (mv rfl) (Vg rfl rfl rfl (Xb rfl rfl) (pkV rfl rfl rfl ?_)))))))))
     refine Qd (Qa (Qn rfl (rfl) (Qe (Qa (Qc (Qb [0,1,2,3] rfl (mvV rfl rfl (mvV rfl rfl (Vw rfl (iad rfl rfl QaE hbi (by omega) (by omega)) (Vw rfl (ldE rfl na4 hbi (by rw [Int.toNat_natCast]; exact Ml.boolV_get (by omega)) (Ext.refl _)) (Qd (Qa (QC rfl (hby) ?_)))))))))))))
     refine Qb [0,1] rfl (mvV rfl rfl (Qk rfl rfl (Qd (Qg (Qa (Qb [0,1] rfl (Qw rfl rfl rfl (mvV rfl rfl (Qd (Qi (i + 1, (y : Int)) ⟨rfl, rfl, rfl, rfl, rfl, rfl, rfl, rfl, trivial⟩ ⟨by dsimp only; omega, rfl, .inr ⟨by dsimp only; omega, by dsimp only; omega, by dsimp only; rw [← hy]; exact zm, by rw [← hby]; rfl, fun t ht hbt => ?_⟩⟩ (by dsimp only; omega)))))))))))
     dsimp only at ht hbt ⊢
     rcases Nat.lt_or_eq_of_le (Nat.le_of_lt_succ ht) with e | e
     ·rw [hno t e] at hbt; cases hbt
     ·rw [e, hy]
    ·skip
     refine Qb [0,1,2,3,4,5,6,7] rfl (mvV rfl rfl (mvV rfl rfl (Vw rfl (iad rfl rfl QaE hbi (by omega) (by omega)) (Vw rfl (ldE rfl na4 hbi (by rw [Int.toNat_natCast]; exact Ml.boolV_get (by omega)) (Ext.refl _)) (mvV rfl rfl (KB 27 true rfl (hby) (Vg rfl rfl rfl (mv rfl) (Vg rfl rfl rfl (Xb rfl rfl) (pkV rfl rfl rfl ?_)))))))))
     refine Qd (Qa (QC rfl (decide_eq_true o0) (Qt (Ql (ZB rfl (Ql (Qm (ZB rfl (Ql (Qh (Qa (Qb [0,1] rfl (Qw rfl rfl rfl (mvV rfl rfl (Qd ?_)))))))))))))))
     exact Qi (j + 1) ⟨rfl, rfl, rfl, rfl, trivial⟩ ⟨by omega, rfl⟩ (by omega)
   | false =>
    refine Qb [0,1,2,3,4,5,6,7] rfl (mvV rfl rfl (mvV rfl rfl (Vw rfl (iad rfl rfl QaE hbi (by omega) (by omega)) (Vw rfl (ldE rfl na4 hbi (by rw [Int.toNat_natCast]; exact Ml.boolV_get (by omega)) (Ext.refl _)) (mvV rfl rfl (KB 27 false rfl (hby) (SK rfl rfl rfl rfl rfl (SK rfl rfl rfl rfl rfl (pkV rfl rfl rfl ?_)))))))))
    refine Qd (Qa (Qn rfl (rfl) (Qe (Qa (Qc (Qb [0,1,2,3] rfl (mvV rfl rfl (mvV rfl rfl (Vw rfl (iad rfl rfl QaE hbi (by omega) (by omega)) (Vw rfl (ldE rfl na4 hbi (by rw [Int.toNat_natCast]; exact Ml.boolV_get (by omega)) (Ext.refl _)) (Qd (Qa (Qn rfl (hby) ?_)))))))))))))
    refine Qe (Qg (Qa (Qb [0,1] rfl (Qw rfl rfl rfl (mvV rfl rfl (Qd (Qi (i + 1, o) ⟨rfl, rfl, rfl, rfl, rfl, rfl, rfl, rfl, trivial⟩ ⟨by dsimp only; omega, rfl, ?_⟩ (by dsimp only; omega))))))))
    dsimp only
    rcases hst with ⟨h1, hno⟩ | ⟨o0, o1, om, ob, hall⟩
    ·refine .inl ⟨h1, fun t ht => ?_⟩
     rcases Nat.lt_or_eq_of_le (Nat.le_of_lt_succ ht) with e | e
     ·exact hno t e
     ·rw [e, hyb, hby]
    ·refine .inr ⟨o0, o1, om, ob, fun t ht hbt => ?_⟩
     rcases Nat.lt_or_eq_of_le (Nat.le_of_lt_succ ht) with e | e
     ·exact hall t e hbt
     ·rw [e, hyb, hby] at hbt; cases hbt
  ·intro hi
   simp at hi
   obtain rfl : i = zs.length := by omega
   refine Qt (Ql (Qm (Qh (Qa (Qc (Qb [0,1] rfl (mvV rfl rfl (Vw rfl (Xb rfl rfl) (Qd (Qa (Qo rfl ?_ ?_)))))))))))
   ·intro ho
    simp at ho
    refine Qc (Qb [0,1] rfl (mvV rfl rfl (Qk rfl rfl (Qd (Qa (Qq (Qu (Qp (QE (Qu (Qp (Ks (Qj rfl rfl ?_)))))))))))))
    rcases hst with ⟨h1, _⟩ | ⟨o0, o1, om, ob, hall⟩
    ·omega
    ·refine ⟨hE, o, rfl, .inr ⟨o.toNat, by omega, by omega, ob, j, by omega, by rw [hz]; rw [show ((o.toNat : Nat) : Int) = o by omega]; exact om, fun x hx hbx => ?_⟩⟩
     rw [hz] at hx
     obtain ⟨t, ht, rfl⟩ := List.getElem_of_mem hx
     have e := hall t ht (by rw [Jw ht]; exact hbx)
     rw [Jw ht] at e
     omega
   ·intro ho
    refine Qe (Qg (Qa (Qb [0,1] rfl (Qw rfl rfl rfl (mvV rfl rfl (Qd ?_))))))
    exact Qi (j + 1) ⟨rfl, rfl, rfl, rfl, trivial⟩ ⟨by omega, rfl⟩ (by omega)
 ·intro hc
  refine Qt (Ql (Qm (Qh (Qa (Qc (Qb [0] rfl (Qk rfl rfl (Qd (Qa (Qq (Ks (Qj rfl rfl ?_))))))))))))
  exact ⟨hE, -1, rfl, .inl (by decide)⟩
end Go.Proofs.YtcfbigmjjpknfaaGreatDoor
