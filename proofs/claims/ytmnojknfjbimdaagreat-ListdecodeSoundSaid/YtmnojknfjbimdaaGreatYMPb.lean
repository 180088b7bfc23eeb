/-
  Linear algebra with rows: spans, elimination, reduced rows, that they are unique. No program in sight. Rows of field elements as lists of ints; the codewords are the span of the rows that stand for the powers. No program in sight.
-/
import Derived.Test.YtmnojknfjbimdaaGreatYMPa
namespace Go.Alg
section
variable {R : Type} [CR R]
def Sp (m n : Nat) (M : Nat → Nat → R) (v : Nat → R) : Prop := ∃ x : Nat → R, ∀ j, j < n → v j = sm m fun i => x i * M i j
variable {m n : Nat} {M M' : Nat → Nat → R} {u v : Nat → R}
theorem Sp.congr (h : Sp m n M v) (e : ∀ j, j < n → u j = v j) : Sp m n M u := by
  obtain ⟨x, hx⟩ := h
  exact ⟨x, fun j hj => (e j hj).trans (hx j hj)⟩
theorem Sp.zero : Sp m n M (fun _ => 0) := ⟨fun _ => 0, fun _ _ => (sm_zero fun _ _ => zero_mul _).symm⟩
theorem Sp.add (h : Sp m n M u) (k : Sp m n M v) : Sp m n M (fun j => u j + v j) := by
  obtain ⟨x, hx⟩ := h
  obtain ⟨y, hy⟩ := k
  refine ⟨fun i => x i + y i, fun j hj => ?_⟩
  dsimp only
  rw [hx j hj, hy j hj, ← sm_add]
  exact sm_congr fun i _ => (add_mul _ _ _).symm
theorem Sp.smul (c : R) (h : Sp m n M v) : Sp m n M (fun j => c * v j) := by
  obtain ⟨x, hx⟩ := h
  refine ⟨fun i => c * x i, fun j hj => ?_⟩
  dsimp only
  rw [hx j hj, ← sm_mul]
  exact sm_congr fun i _ => (mul_assoc _ _ _).symm
theorem Sp.row {i : Nat} (hi : i < m) : Sp m n M (M i) := ⟨fun k => if k = i then 1 else 0, fun j _ => by
  rw [sm_one hi fun k _ hk => by dsimp only; rw [if_neg hk, zero_mul]]
  dsimp only
  rw [if_pos rfl, one_mul]⟩
theorem Sp.sum {f : Nat → Nat → R} (x : Nat → R) : ∀ k, (∀ i, i < k → Sp m n M (f i)) → Sp m n M (fun j => sm k fun i => x i * f i j)
  | 0, _ => Sp.zero
  | k + 1, h => (Sp.sum x k fun i hi => h i (by omega)).add ((h k (by omega)).smul (x k))
theorem Sp.trans {k : Nat} (h : Sp m n M v) (hM : ∀ i, i < m → Sp k n M' (M i)) : Sp k n M' v := by
  obtain ⟨x, hx⟩ := h
  exact (Sp.sum x m hM).congr hx
theorem Sp.more {k : Nat} (h : Sp m n M v) (hk : m ≤ k) : Sp k n M v := h.trans fun _ hi => Sp.row (by omega)
theorem Sp.less {k : Nat} (h : Sp m n M v) (h0 : ∀ i, k ≤ i → i < m → ∀ j, j < n → M i j = 0) : Sp k n M v := h.trans fun i hi => by
  by_cases e : i < k
  · exact Sp.row e
  · exact Sp.zero.congr fun j hj => h0 i (by omega) hi j hj
structure Rr (a n : Nat) (G : Nat → Nat → R) (pv : Nat → Nat) : Prop where
  lt : ∀ i, i < a → pv i < n
  asc : ∀ i j, i < j → j < a → pv i < pv j
  piv : ∀ i j, i < a → j < a → G i (pv j) = if i = j then 1 else 0
  lead : ∀ i x, i < a → x < pv i → G i x = 0
variable {a : Nat} {G : Nat → Nat → R} {pv : Nat → Nat}
theorem Rr.coef (h : Rr a n G pv) {x : Nat → R} (hx : ∀ j, j < n → v j = sm a fun i => x i * G i j) {i : Nat} (hi : i < a) : v (pv i) = x i := by
  rw [hx _ (h.lt i hi), sm_one hi fun k hk hne => by rw [h.piv k i hk hi, if_neg hne, mul_zero], h.piv i i hi hi, if_pos rfl, mul_one]
theorem Rr.comb (h : Rr a n G pv) (hv : Sp a n G v) {j : Nat} (hj : j < n) : v j = sm a fun i => v (pv i) * G i j := by
  obtain ⟨x, hx⟩ := hv
  rw [hx j hj]
  exact sm_congr fun i hi => by rw [h.coef hx hi]
theorem Rr.zero (h : Rr a n G pv) (hv : Sp a n G v) (h0 : ∀ i, i < a → v (pv i) = 0) {j : Nat} (hj : j < n) : v j = 0 := by
  rw [h.comb hv hj]
  exact sm_zero fun i hi => by rw [h0 i hi, zero_mul]
theorem Rr.first (h : Rr a n G pv) (hv : Sp a n G v) {p : Nat} (hp : p < n) (h0 : ∀ x, x < p → v x = 0) (h1 : v p ≠ 0) : ∃ i, i < a ∧ pv i = p := by
  apply Classical.byContradiction
  intro hc
  have hc' : ∀ i, i < a → pv i ≠ p := fun i hi e => hc ⟨i, hi, e⟩
  refine h1 ?_
  rw [h.comb hv hp]
  refine sm_zero fun i hi => ?_
  rcases Nat.lt_or_gt_of_ne (hc' i hi) with e | e
  · rw [h0 _ e, zero_mul]
  · rw [h.lead i p hi e, mul_zero]
theorem Rr.same {b : Nat} {H : Nat → Nat → R} {qv : Nat → Nat} (h1 : (1 : R) ≠ 0) (h : Rr a n G pv) (k : Rr b n H qv) (hs : ∀ i, i < a → Sp b n H (G i)) : ∀ i, i < a → ∃ j, j < b ∧ qv j = pv i := fun i hi =>
  k.first (hs i hi) (h.lt i hi) (fun x hx => h.lead i x hi hx) (by rw [h.piv i i hi hi, if_pos rfl]; exact h1)
theorem asc_mono {pv : Nat → Nat} (ha : ∀ i j, i < j → j < a → pv i < pv j) {i j : Nat} (hi : i < a) (_ : j < a) (h : pv i < pv j) : i < j := by
  apply Classical.byContradiction
  intro hc
  rcases Nat.lt_or_eq_of_le (Nat.le_of_not_lt hc) with e | e
  · have := ha j i e hi; omega
  · subst e; omega
theorem asc_inj {pv : Nat → Nat} (ha : ∀ i j, i < j → j < a → pv i < pv j) {i j : Nat} (hi : i < a) (hj : j < a) (h : pv i = pv j) : i = j := by
  rcases Nat.lt_trichotomy i j with e | e | e
  · have := ha i j e hj; omega
  · exact e
  · have := ha j i e hi; omega
theorem pivots_same {b : Nat} {pv qv : Nat → Nat} (hp : ∀ i j, i < j → j < a → pv i < pv j) (hq : ∀ i j, i < j → j < b → qv i < qv j) (h1 : ∀ i, i < a → ∃ j, j < b ∧ qv j = pv i) (h2 : ∀ j, j < b → ∃ i, i < a ∧ pv i = qv j) : ∀ i, i < a → i < b ∧ qv i = pv i := by
  intro i
  induction i using Nat.strongRecOn with
  | _ i ih =>
    intro hi
    obtain ⟨j, hj, e⟩ := h1 i hi
    have hij : i ≤ j := by
      apply Classical.byContradiction
      intro hc
      have h3 := (ih j (by omega) (by omega)).2
      have h4 := hp j i (by omega) hi
      omega
    rcases Nat.lt_or_eq_of_le hij with hlt | rfl
    · exfalso
      obtain ⟨k, hk, ek⟩ := h2 i (by omega)
      have h3 := hq i j hlt hj
      have h4 := asc_mono hp hk hi (by omega)
      have h5 := (ih k h4 hk)
      have h6 := asc_inj hq (i := k) (j := i) h5.1 (by omega) (by rw [h5.2, ek])
      omega
    · exact ⟨hj, e⟩
theorem Rr.uniq {b : Nat} {H : Nat → Nat → R} {qv : Nat → Nat} (h1 : (1 : R) ≠ 0) (h : Rr a n G pv) (k : Rr b n H qv) (hs : ∀ i, i < a → Sp b n H (G i)) (ks : ∀ i, i < b → Sp a n G (H i)) : a = b ∧ ∀ i, i < a → pv i = qv i ∧ ∀ j, j < n → G i j = H i j := by
  have p1 := pivots_same h.asc k.asc (h.same h1 k hs) (k.same h1 h ks)
  have p2 := pivots_same k.asc h.asc (k.same h1 h ks) (h.same h1 k hs)
  have hab : a = b := by
    rcases Nat.lt_trichotomy a b with e | e | e
    · have := (p2 a e).1; omega
    · exact e
    · have := (p1 b e).1; omega
  subst hab
  refine ⟨rfl, fun i hi => ⟨(p1 i hi).2.symm, fun j hj => ?_⟩⟩
  have hd : Sp a n G (fun j => G i j + (-1) * H i j) := (Sp.row hi).add ((ks i hi).smul (-1))
  have h0 := h.zero hd (fun t ht => by
    try dsimp only
    rw [h.piv i t hi ht, ← (p1 t ht).2, k.piv i t hi ht, neg_mul, one_mul, add_neg]) hj
  try dsimp only at h0
  rw [neg_mul, one_mul] at h0
  exact eq_of_add_neg h0
structure El (m n : Nat) (M0 M : Nat → Nat → R) (a : Nat) (pv : Nat → Nat) (c : Nat) : Prop where
  fwd : ∀ i, i < m → Sp m n M (M0 i)
  bwd : ∀ i, i < m → Sp m n M0 (M i)
  am : a ≤ m
  lt : ∀ i, i < a → pv i < c
  asc : ∀ i j, i < j → j < a → pv i < pv j
  piv : ∀ i j, i < m → j < a → M i (pv j) = if i = j then 1 else 0
  lead : ∀ i x, i < a → x < pv i → M i x = 0
  low : ∀ i x, a ≤ i → i < m → x < c → M i x = 0
variable {M0 : Nat → Nat → R} {c : Nat}
theorem El.first (M0 : Nat → Nat → R) (pv : Nat → Nat) : El m n M0 M0 0 pv 0 :=
  ⟨fun _ hi => Sp.row hi, fun _ hi => Sp.row hi, Nat.zero_le _, fun _ h => by omega, fun _ _ _ h => by omega, fun _ _ _ h => by omega, fun _ _ h => by omega, fun _ _ _ _ h => by omega⟩
theorem El.skip (h : El m n M0 M a pv c) (h0 : ∀ i, a ≤ i → i < m → M i c = 0) : El m n M0 M a pv (c + 1) :=
  ⟨h.fwd, h.bwd, h.am, fun i hi => Nat.lt_succ_of_lt (h.lt i hi), h.asc, h.piv, h.lead, fun i x h1 h2 h3 => by
    by_cases e : x = c
    · rw [e]; exact h0 i h1 h2
    · exact h.low i x h1 h2 (by omega)⟩
def swR (M : Nat → Nat → R) (a k : Nat) : Nat → Nat → R := fun i => if i = a then M k else if i = k then M a else M i
def elR (M : Nat → Nat → R) (a k c : Nat) (s : R) : Nat → Nat → R := fun i j => if i = a then s * M k j else swR M a k i j + -(swR M a k i c) * (s * M k j)
theorem El.step {k : Nat} {s : R} (h : El m n M0 M a pv c) (hk : a ≤ k) (hkm : k < m) (hs : s * M k c = 1) : El m n M0 (elR M a k c s) (a + 1) (fun i => if i = a then c else pv i) (c + 1) := by
  have hsw : ∀ i, i < m → ∃ i', i' < m ∧ swR M a k i = M i' ∧ (i < a → i' = i) ∧ (a ≤ i → a ≤ i') := fun i hi => by
    rw [swR]
    by_cases e1 : i = a
    · exact ⟨k, hkm, by rw [if_pos e1], fun h => by omega, fun _ => hk⟩
    · rw [if_neg e1]
      by_cases e2 : i = k
      · exact ⟨a, by omega, by rw [if_pos e2], fun h => by omega, fun _ => Nat.le_refl _⟩
      · exact ⟨i, hi, by rw [if_neg e2], fun _ => rfl, fun h => h⟩
  have hrowk : ∀ x, x < c → M k x = 0 := fun x hx => h.low k x hk hkm hx
  have ha : ∀ j, elR M a k c s a j = s * M k j := fun j => by rw [elR, if_pos rfl]
  have hne : ∀ i j, i ≠ a → elR M a k c s i j = swR M a k i j + -(swR M a k i c) * (s * M k j) := fun i j e => by rw [elR, if_neg e]
  have hin : ∀ i, i < m → Sp m n (elR M a k c s) (swR M a k i) := fun i hi => by
    by_cases e : i = a
    · subst e
      refine ((Sp.row (M := elR M i k c s) (i := i) hi).smul (M k c)).congr fun j _ => ?_
      rw [ha, ← mul_assoc, mul_comm (M k c), hs, one_mul]
      rw [swR, if_pos rfl]
    · refine ((Sp.row (M := elR M a k c s) (i := i) hi).add ((Sp.row (M := elR M a k c s) (i := a) (by omega)).smul (swR M a k i c))).congr fun j _ => ?_
      rw [hne i j e, ha, add_assoc, neg_mul, neg_add, add_zero]
  refine ⟨fun i hi => (h.fwd i hi).trans fun t ht => ?_, fun i hi => ?_, by omega, fun i hi => ?_, fun i j hij hj => ?_, fun i j hi hj => ?_, fun i x hi hx => ?_, fun i x hi hi2 hx => ?_⟩
  · by_cases e1 : t = a
    · have := hin k hkm
      rw [e1]
      by_cases e2 : k = a
      · rw [swR, if_pos e2] at this; rw [← e2]; rw [e2] at this ⊢; exact this
      · rw [swR, if_neg e2, if_pos rfl] at this; exact this
    · by_cases e2 : t = k
      · have := hin a (by omega)
        rw [swR, if_pos rfl] at this
        rw [e2]; exact this
      · have := hin t ht
        rw [swR, if_neg e1, if_neg e2] at this; exact this
  · by_cases e : i = a
    · rw [e]
      exact ((h.bwd k hkm).smul s).congr fun j _ => ha j
    · obtain ⟨i', hi', e', _⟩ := hsw i hi
      refine ((h.bwd i' hi').add ((h.bwd k hkm).smul (-(swR M a k i c) * s))).congr fun j _ => ?_
      rw [hne i j e, e', mul_assoc]
  · try dsimp only
    by_cases e : i = a
    · rw [if_pos e]; omega
    · rw [if_neg e]; have := h.lt i (by omega); omega
  · try dsimp only
    rw [if_neg (show i ≠ a by omega)]
    by_cases e : j = a
    · rw [if_pos e]; exact h.lt i (by omega)
    · rw [if_neg e]; exact h.asc i j hij (by omega)
  · try dsimp only
    by_cases e : j = a
    · rw [if_pos e]
      by_cases e2 : i = a
      · rw [e2, ha, hs, if_pos (by omega)]
      · rw [hne i c e2, hs, mul_one, add_neg, if_neg (by omega)]
    · rw [if_neg e]
      have hj' : j < a := by omega
      have hkj : M k (pv j) = 0 := by rw [h.piv k j hkm hj', if_neg (by omega)]
      by_cases e2 : i = a
      · rw [e2, ha, hkj, mul_zero, if_neg (by omega)]
      · rw [hne i _ e2, hkj, mul_zero, mul_zero, add_zero]
        obtain ⟨i', hi', e', h3, h4⟩ := hsw i hi
        rw [e', h.piv i' j hi' hj']
        by_cases e5 : i < a
        · rw [h3 e5]
        · rw [if_neg (by have := h4 (by omega); omega), if_neg (by omega)]
  · try dsimp only at hx
    by_cases e : i = a
    · rw [if_pos e] at hx
      rw [e, ha, hrowk x hx, mul_zero]
    · rw [if_neg e] at hx
      have hia : i < a := by omega
      obtain ⟨i', hi', e', h3, h4⟩ := hsw i (by have := h.am; omega)
      rw [hne i x e, e', h3 hia, h.lead i x hia hx, hrowk x (by have := h.lt i hia; omega), mul_zero, mul_zero, add_zero]
  · obtain ⟨i', hi', e', h3, h4⟩ := hsw i hi2
    have e : i ≠ a := by omega
    by_cases e2 : x = c
    · rw [e2, hne i c e, hs, mul_one, add_neg]
    · rw [hne i x e, hrowk x (by omega), mul_zero, mul_zero, add_zero, e', h.low i' x (h4 (by omega)) hi' (by omega)]
theorem El.last (h : El m n M0 M a pv c) (hc : c = n ∨ a = m) (hcn : c ≤ n) : Rr a n M pv ∧ ∀ v, Sp a n M v ↔ Sp m n M0 v := by
  refine ⟨⟨fun i hi => by have := h.lt i hi; omega, h.asc, fun i j hi hj => h.piv i j (by have := h.am; omega) hj, h.lead⟩, fun v => ⟨fun hv => (hv.more h.am).trans h.bwd, fun hv => (hv.trans h.fwd).less fun i hi hi2 j hj => ?_⟩⟩
  rcases hc with e | e
  · exact h.low i j hi hi2 (by omega)
  · omega
end
end Go.Alg


namespace Go.Fd
open Go.Pl Go.Alg
variable {P : FP}
noncomputable def rowL (P : FP) (n : Nat) (f : Nat → K P) : List Int := tab n fun j => (f j).1
theorem rowL_length (n : Nat) (f : Nat → K P) : (rowL P n f).length = n := tab_length _ _
theorem rowL_gi {n : Nat} {f : Nat → K P} {j : Nat} (h : j < n) : gi (rowL P n f) j = (f j).1 := by rw [rowL, gi_tab (by omega) (by omega)]; rfl
theorem rowL_in {n : Nat} {f : Nat → K P} {j : Nat} (h : j < n) : inK P (gi (rowL P n f) j) = f j := by rw [rowL_gi h, inK_val]
theorem rowL_all (n : Nat) (f : Nat → K P) : AllIn P.q (rowL P n f) := fun i hi => by
  rw [rowL_length] at hi
  rw [rowL_gi hi]
  exact (f i).2
theorem rowL_congr {n : Nat} {f g : Nat → K P} (h : ∀ j, j < n → f j = g j) : rowL P n f = rowL P n g := tab_congr fun j hj => by rw [h j hj]
theorem gi_ge {l : List Int} {i : Nat} (h : i < l.length) : gi l i = l[i] := by simp [gi, List.getD_eq_getElem?_getD, h]
theorem rowL_of {l : List Int} (h : AllIn P.q l) : l = rowL P l.length fun j => inK P (gi l j) := List.ext_getElem (by rw [rowL_length]) fun i h1 h2 => by
  rw [← gi_ge h1, ← gi_ge h2, rowL_gi h1, inK_in (h i h1)]
noncomputable def matL (P : FP) (m n : Nat) (M : Nat → Nat → K P) : List (List Int) := tab m fun i => rowL P n (M i)
theorem matL_length (m n : Nat) (M : Nat → Nat → K P) : (matL P m n M).length = m := tab_length _ _
theorem matL_row {m n : Nat} {M : Nat → Nat → K P} {i : Nat} (h : i < m) : (matL P m n M).getD i [] = rowL P n (M i) := by rw [matL, tab_at, if_pos h]
theorem matL_set {m n : Nat} {M : Nat → Nat → K P} {i : Nat} {f : Nat → K P} : (matL P m n M).set i (rowL P n f) = matL P m n fun t => if t = i then f else M t := by
  rw [matL, tab_set, matL]
  refine tab_congr fun t _ => ?_
  by_cases e : t = i
  · rw [if_pos e, if_pos e]
  · rw [if_neg e, if_neg e]
theorem matL_congr {m n : Nat} {M M' : Nat → Nat → K P} (h : ∀ i j, i < m → j < n → M i j = M' i j) : matL P m n M = matL P m n M' := tab_congr fun i hi => rowL_congr fun j hj => h i j hi hj
theorem matL_take {m n a : Nat} {M : Nat → Nat → K P} (h : a ≤ m) : (matL P m n M).take a = matL P a n M := List.ext_getElem (by rw [List.length_take, matL_length, matL_length]; omega) fun i h1 h2 => by
  rw [matL_length] at h2
  simp [matL, tab]
theorem matL_snoc (m n : Nat) (M : Nat → Nat → K P) : matL P m n M ++ [rowL P n (M m)] = matL P (m + 1) n M := by simp [matL, tab, List.range_succ]
noncomputable def genM (P : FP) (xs ms : List Int) : Nat → Nat → K P := fun i j => inK P (gi ms j) * npow (inK P (gi xs j)) i
theorem val1_sm {k : Nat} {f : Pol (K P)} (hf : YB k f) (x : K P) : val1 f x = sm k fun i => f.co i * npow x i := pev_eq Hom.id x (f := f) (n := k) hf
theorem encW_span {xs ms : List Int} {k : Nat} {f : Pol (K P)} (hf : YB k f) : Sp k xs.length (genM P xs ms) fun j => inK P (gi (encW P xs ms f) j) := ⟨fun i => f.co i, fun j hj => by
  dsimp only
  rw [encW_get hj, inK_val, val1_sm hf, ← sm_mul]
  refine sm_congr fun i _ => ?_
  rw [genM, mul_left_comm]⟩
def powL (i : Nat) : List Int := tab (i + 1) fun t => if t = i then 1 else 0
theorem powL_length (i : Nat) : (powL i).length = i + 1 := tab_length _ _
theorem powL_of (i : Nat) : (tab (i + 1) fun _ => (0 : Int)).set i 1 = powL i := by rw [tab_set]; rfl
theorem val1_powL (i : Nat) (x : K P) : val1 (pz P (powL i)) x = npow x i := by
  have hy : YB (i + 1) (pz P (powL i)) := fun t ht => co_pz_over (by rw [powL_length]; exact ht)
  rw [val1_sm hy, sm_one (k := i) (by omega) fun t ht hne => by
    rw [co_pz, powL, tab_at, if_pos ht, if_neg hne, inK0, zero_mul]]
  rw [co_pz, powL, tab_at, if_pos (by omega), if_pos rfl, inK1, one_mul]
theorem encW_powL (xs ms : List Int) (i : Nat) : encW P xs ms (pz P (powL i)) = rowL P xs.length (genM P xs ms i) := tab_congr fun j _ => by rw [val1_powL]; rfl
def Red (P : FP) (m n : Nat) (M0 : Nat → Nat → K P) (a : Nat) (M : Nat → Nat → K P) (pv : Nat → Nat) : Prop := a ≤ m ∧ Rr a n M pv ∧ ∀ v, Sp a n M v ↔ Sp m n M0 v
theorem Red.same {a n b : Nat} {G M : Nat → Nat → K P} {pv qv : Nat → Nat} (h1 : (1 : K P) ≠ 0) (hG : Rr a n G pv) (h : Red P a n G b M qv) : b = a ∧ matL P b n M = matL P a n G := by
  obtain ⟨_, hR, hs⟩ := h
  obtain ⟨e, hq⟩ := hR.uniq h1 hG (fun i hi => (hs _).1 (Sp.row hi)) (fun i hi => (hs _).2 (Sp.row hi))
  subst e
  exact ⟨rfl, matL_congr fun i j hi hj => (hq i hi).2 j hj⟩
end Go.Fd

