/-
  Plain lists and numbers: tables of a function, binomial coefficients. No program in sight.
-/
namespace Go.Pl

/-- The list f 0, .., f (m - 1). -/
def tab {α : Type} (m : Nat) (f : Nat → α) : List α := (List.range m).map f
theorem tab_length {α : Type} (m : Nat) (f : Nat → α) : (tab m f).length = m := by simp [tab]
theorem tab_get {α : Type} {m : Nat} {f : Nat → α} {k : Nat} (h : k < m) : (tab m f)[k]? = some (f k) := by
  simp [tab, h]
theorem tab_set {α : Type} (m : Nat) (f : Nat → α) (k : Nat) (v : α) : (tab m f).set k v = tab m (fun t => if t = k then v else f t) := by
  apply List.ext_getElem?
  intro i
  by_cases hi : i < m
  · rw [List.getElem?_set]
    rw [tab_get hi, tab_get hi]
    by_cases hk : k = i
    · subst hk
      simp [tab_length, hi]
    · simp [hk, Ne.symm hk]
  · have h1 : ((tab m f).set k v)[i]? = none := by
      rw [List.getElem?_eq_none_iff]; simp [tab_length]; omega
    have h2 : (tab m (fun t => if t = k then v else f t))[i]? = none := by
      rw [List.getElem?_eq_none_iff]; simp [tab_length]; omega
    rw [h1, h2]
theorem tab_congr {α : Type} {m : Nat} {f g : Nat → α} (h : ∀ t, t < m → f t = g t) : tab m f = tab m g := by
  apply List.ext_getElem?
  intro i
  by_cases hi : i < m
  · rw [tab_get hi, tab_get hi, h i hi]
  · have h1 : (tab m f)[i]? = none := by rw [List.getElem?_eq_none_iff]; simp [tab_length]; omega
    have h2 : (tab m g)[i]? = none := by rw [List.getElem?_eq_none_iff]; simp [tab_length]; omega
    rw [h1, h2]
theorem replicate_tab {α : Type} (m : Nat) (x : α) : List.replicate m x = tab m (fun _ => x) := by
  apply List.ext_getElem?
  intro i
  by_cases hi : i < m
  · rw [tab_get hi]; simp [hi]
  · have h2 : (tab m (fun _ => x))[i]? = none := by rw [List.getElem?_eq_none_iff]; simp [tab_length]; omega
    rw [h2]; simp; omega
theorem map_tab {α β : Type} (m : Nat) (f : Nat → α) (g : α → β) : (tab m f).map g = tab m (fun t => g (f t)) := by
  simp [tab]
theorem list_tab (zs : List Int) : zs = tab zs.length (fun t => zs.getD t 0) := by
  apply List.ext_getElem?
  intro i
  by_cases hi : i < zs.length
  · rw [tab_get hi]; simp [hi]
  · rw [List.getElem?_eq_none (by omega), List.getElem?_eq_none (by rw [tab_length]; omega)]

/-- The entry of a list of ints at an Int index. -/
def gi (zs : List Int) (k : Int) : Int := zs.getD k.toNat 0
def si (zs : List Int) (k u : Int) : List Int := zs.set k.toNat u
theorem gi_tab {m : Nat} {f : Nat → Int} {k : Int} (h1 : k < m) (h0 : 0 ≤ k) : gi (tab m f) k = f k.toNat := by
  have hk : k.toNat < m := by omega
  simp [gi, List.getD, tab_get hk]
theorem si_tab (m : Nat) (f : Nat → Int) (k u : Int) : si (tab m f) k u = tab m (fun t => if t = k.toNat then u else f t) := tab_set _ _ _ _
theorem si_length (zs : List Int) (k u : Int) : (si zs k u).length = zs.length := by simp [si]

/-- Binomial coefficients, by Pascal's rule. -/
def bin : Nat → Nat → Nat
  | _, 0 => 1
  | 0, _ + 1 => 0
  | n + 1, k + 1 => bin n k + bin n (k + 1)
theorem bin_zero (n : Nat) : bin n 0 = 1 := by cases n <;> rfl
theorem bin_big : ∀ (n k : Nat), n < k → bin n k = 0
  | _, 0, h => absurd h (by omega)
  | 0, _ + 1, _ => rfl
  | n + 1, k + 1, h => by rw [bin, bin_big n k (by omega), bin_big n (k + 1) (by omega)]
theorem bin_self : ∀ n : Nat, bin n n = 1
  | 0 => rfl
  | n + 1 => by rw [bin, bin_self n, bin_big n (n + 1) (by omega)]
theorem bin_le : ∀ (n k : Nat), bin (n + 3) k ≤ 3 * 2 ^ n
  | 0, k => by
    match k with
    | 0 => decide
    | 1 => decide
    | 2 => decide
    | 3 => decide
    | k + 4 => rw [bin_big _ _ (by omega)]; decide
  | n + 1, 0 => by rw [bin_zero]; have : 0 < 2 ^ (n + 1) := Nat.pow_pos (by decide); omega
  | n + 1, k + 1 => by
    have h1 := bin_le n k
    have h2 := bin_le n (k + 1)
    have e : bin (n + 1 + 3) (k + 1) = bin (n + 3) k + bin (n + 3) (k + 1) := rfl
    rw [e, Nat.pow_succ]
    omega
theorem bin_small (n k : Nat) (hn : n ≤ 64) : bin n k ≤ 6917529027641081856 := by
  by_cases h : 3 ≤ n
  · obtain ⟨m, rfl⟩ : ∃ m, n = m + 3 := ⟨n - 3, by omega⟩
    have h1 := bin_le m k
    have h2 : 2 ^ m ≤ 2 ^ 61 := Nat.pow_le_pow_right (by decide) (by omega)
    have h3 : (2 : Nat) ^ 61 = 2305843009213693952 := by decide
    omega
  · match n, k with
    | 0, 0 => decide
    | 0, k + 1 => show 0 ≤ _; omega
    | 1, 0 => decide
    | 1, 1 => decide
    | 1, k + 2 => rw [bin_big _ _ (by omega)]; decide
    | 2, 0 => decide
    | 2, 1 => decide
    | 2, 2 => decide
    | 2, k + 3 => rw [bin_big _ _ (by omega)]; decide
    | n + 3, _ => omega
theorem bin_small2 (n k : Nat) (hn : n ≤ 63) : bin n k ≤ 3458764513820540928 := by
  by_cases h : 3 ≤ n
  · obtain ⟨m, rfl⟩ : ∃ m, n = m + 3 := ⟨n - 3, by omega⟩
    have h1 := bin_le m k
    have h2 : 2 ^ m ≤ 2 ^ 60 := Nat.pow_le_pow_right (by decide) (by omega)
    have h3 : (2 : Nat) ^ 60 = 1152921504606846976 := by decide
    omega
  · have := bin_le 0 k
    match n, k with
    | 0, 0 => decide
    | 0, k + 1 => show 0 ≤ _; omega
    | 1, 0 => decide
    | 1, 1 => decide
    | 1, k + 2 => rw [bin_big _ _ (by omega)]; decide
    | 2, 0 => decide
    | 2, 1 => decide
    | 2, 2 => decide
    | 2, k + 3 => rw [bin_big _ _ (by omega)]; decide
    | n + 3, _ => omega
/-- The binomial coefficient of ints: 0 where k is negative. -/
def binZ (n k : Int) : Int := if k < 0 then 0 else bin n.toNat k.toNat
theorem binZ_bounds (n k : Int) (hn : n ≤ 64) : 0 ≤ binZ n k ∧ binZ n k ≤ 6917529027641081856 := by
  unfold binZ
  split
  · omega
  · have := bin_small n.toNat k.toNat (by omega)
    omega

theorem drop_gi {zs : List Int} {i : Int} (h0 : 0 ≤ i) (h1 : i < zs.length) : zs.drop i.toNat = gi zs i :: zs.drop (i + 1).toNat := by
  have hi : i.toNat < zs.length := by omega
  have e : (i + 1).toNat = i.toNat + 1 := by omega
  rw [List.drop_eq_getElem_cons hi, e]
  simp [gi, hi]

/-- The lexicographic order of lists: -1, 0 or 1. -/
def cmpL : List Int → List Int → Int
  | [], [] => 0
  | [], _ :: _ => -1
  | _ :: _, [] => 1
  | a :: as, b :: bs => if a < b then -1 else if b < a then 1 else cmpL as bs
theorem cmpL_self : ∀ a : List Int, cmpL a a = 0
  | [] => rfl
  | x :: a => by simp [cmpL, cmpL_self a]
theorem cmpL_range : ∀ a b : List Int, -1 ≤ cmpL a b ∧ cmpL a b ≤ 1
  | [], [] => by simp [cmpL]
  | [], _ :: _ => by simp [cmpL]
  | _ :: _, [] => by simp [cmpL]
  | a :: as, b :: bs => by
    have := cmpL_range as bs
    simp only [cmpL]
    split
    · omega
    · split <;> omega
theorem cmpL_anti : ∀ a b : List Int, cmpL b a = -cmpL a b
  | [], [] => rfl
  | [], _ :: _ => rfl
  | _ :: _, [] => rfl
  | a :: as, b :: bs => by
    have := cmpL_anti as bs
    simp only [cmpL]
    by_cases h1 : a < b
    · rw [if_pos h1, if_neg (by omega), if_pos h1]; rfl
    · by_cases h2 : b < a
      · rw [if_pos h2, if_neg h1, if_pos h2]
      · rw [if_neg h2, if_neg h1, if_neg h1, if_neg h2, this]
theorem cmpL_trans : ∀ a b c : List Int, cmpL a b ≤ 0 → cmpL b c ≤ 0 → cmpL a c ≤ 0
  | [], _, [], _, _ => by simp [cmpL]
  | [], _, _ :: _, _, _ => by simp [cmpL]
  | _ :: _, [], _, h, _ => by simp [cmpL] at h
  | _ :: _, _ :: _, [], _, h => by simp [cmpL] at h
  | a :: as, b :: bs, c :: cs, h1, h2 => by
    simp only [cmpL] at *
    have ih := cmpL_trans as bs cs
    by_cases e1 : a < b
    · by_cases e2 : b < c
      · rw [if_pos (by omega)]; omega
      · rw [if_neg e2] at h2
        by_cases e3 : c < b
        · rw [if_pos e3] at h2; omega
        · rw [if_pos (by omega)]; omega
    · rw [if_neg e1] at h1
      by_cases e2 : b < a
      · rw [if_pos e2] at h1; omega
      · rw [if_neg e2] at h1
        have : a = b := by omega
        subst this
        by_cases e3 : a < c
        · rw [if_pos e3]; omega
        · rw [if_neg e3] at h2 ⊢
          by_cases e4 : c < a
          · rw [if_pos e4] at h2; omega
          · rw [if_neg e4] at h2 ⊢
            exact ih h1 h2
theorem cmpL_eq : ∀ a b : List Int, cmpL a b = 0 ↔ a = b
  | [], [] => by simp [cmpL]
  | [], _ :: _ => by simp [cmpL]
  | _ :: _, [] => by simp [cmpL]
  | a :: as, b :: bs => by
    have ih := cmpL_eq as bs
    simp only [cmpL, List.cons.injEq]
    by_cases h1 : a < b
    · rw [if_pos h1]; simp; intro h; omega
    · by_cases h2 : b < a
      · rw [if_neg h1, if_pos h2]; simp; intro h; omega
      · rw [if_neg h1, if_neg h2, ih]
        simp; intro _; omega
theorem cmpL_drop {a b : List Int} {i : Int} (h0 : 0 ≤ i) (ha : i < a.length) (hb : i < b.length) :
    cmpL (a.drop i.toNat) (b.drop i.toNat) = if gi a i < gi b i then -1 else if gi b i < gi a i then 1 else cmpL (a.drop (i + 1).toNat) (b.drop (i + 1).toNat) := by
  rw [drop_gi h0 ha, drop_gi h0 hb, cmpL]
theorem cmpL_end {a b : List Int} {i : Int} (ha : a.length ≤ i) (hb : b.length ≤ i) : cmpL (a.drop i.toNat) (b.drop i.toNat) = 0 := by
  rw [List.drop_eq_nil_of_le (by omega), List.drop_eq_nil_of_le (by omega)]; rfl
theorem cmpL_short {a b : List Int} {i : Int} (ha : a.length ≤ i) (h0 : 0 ≤ i) (hb : i < b.length) : cmpL (a.drop i.toNat) (b.drop i.toNat) = -1 := by
  rw [List.drop_eq_nil_of_le (by omega), drop_gi h0 hb]; rfl
theorem cmpL_long {a b : List Int} {i : Int} (h0 : 0 ≤ i) (ha : i < a.length) (hb : b.length ≤ i) : cmpL (a.drop i.toNat) (b.drop i.toNat) = 1 := by
  have e : b.drop i.toNat = [] := List.drop_eq_nil_of_le (by omega)
  rw [drop_gi h0 ha, e]; rfl
/-- The order of ints. -/
def cmpZ (x y : Int) : Int := if x < y then -1 else if y < x then 1 else 0
end Go.Pl
