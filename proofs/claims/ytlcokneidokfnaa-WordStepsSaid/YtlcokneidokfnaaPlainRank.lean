/-
  Ranks of subsets in lexicographic order: plain mathematics. No program in sight.
-/
import Derived.Test.YtlcokneidokfnaaPlain
namespace Go.Pl
/-- Strictly ascending, from lo on, below n. -/
def asc (n : Int) : Int → List Int → Bool
  | _, [] => true
  | lo, x :: r => decide (lo ≤ x) && decide (x < n) && asc n (x + 1) r
/-- How many subsets of x, .., x + m - 1 of the size of s come before s. -/
def rk : Nat → Int → List Int → Nat
  | _, _, [] => 0
  | 0, _, _ :: _ => 0
  | m + 1, x, a :: s => if a = x then rk m (x + 1) s else bin m s.length + rk m (x + 1) (a :: s)
/-- The subset of k elements of x, .., x + m - 1 with the rank r. -/
def ur : Nat → Int → Nat → Nat → List Int
  | _, _, 0, _ => []
  | 0, _, _ + 1, _ => []
  | m + 1, x, k + 1, r => if r < bin m k then x :: ur m (x + 1) k r else ur m (x + 1) (k + 1) (r - bin m k)
theorem rk_nil (m : Nat) (x : Int) : rk m x [] = 0 := by cases m <;> rfl
theorem rk_le : ∀ (m : Nat) (x : Int) (s : List Int), rk m x s ≤ bin m s.length
  | m, x, [] => by rw [rk_nil]; omega
  | 0, _, _ :: _ => by simp [rk]
  | m + 1, x, a :: s => by
    have h1 := rk_le m (x + 1) s
    have h2 := rk_le m (x + 1) (a :: s)
    simp only [List.length_cons] at h2 ⊢
    have e : bin (m + 1) (s.length + 1) = bin m s.length + bin m (s.length + 1) := rfl
    rw [rk, e]
    split <;> omega
theorem asc_mono {n lo lo' : Int} : ∀ {s : List Int}, lo' ≤ lo → asc n lo s = true → asc n lo' s = true
  | [], _, _ => rfl
  | x :: r, h, hs => by
    simp only [asc, Bool.and_eq_true, decide_eq_true_eq] at hs ⊢
    exact ⟨⟨by omega, hs.1.2⟩, hs.2⟩
theorem asc_head {n lo x : Int} {r : List Int} : asc n lo (x :: r) = true ↔ lo ≤ x ∧ x < n ∧ asc n (x + 1) r = true := by
  simp only [asc, Bool.and_eq_true, decide_eq_true_eq]
  exact ⟨fun h => ⟨h.1.1, h.1.2, h.2⟩, fun h => ⟨⟨h.1, h.2.1⟩, h.2.2⟩⟩
theorem rk_lt : ∀ (m : Nat) (x : Int) (s : List Int), asc (x + m) x s = true → rk m x s < bin m s.length
  | m, x, [], _ => by rw [rk_nil, List.length_nil, bin_zero]; omega
  | 0, x, a :: s, h => by
    have := asc_head.1 h
    omega
  | m + 1, x, a :: s, h => by
    obtain ⟨h1, h2, h3⟩ := asc_head.1 h
    have e : bin (m + 1) (s.length + 1) = bin m s.length + bin m (s.length + 1) := rfl
    have e2 : x + 1 + (m : Int) = x + (m + 1 : Nat) := by omega
    simp only [List.length_cons]
    rw [rk, e]
    split
    · rename_i ha
      subst ha
      have := rk_lt m (a + 1) s (by rw [e2]; exact h3)
      omega
    · have := rk_lt m (x + 1) (a :: s) (by rw [e2]; exact asc_head.2 ⟨by omega, h2, h3⟩)
      simp only [List.length_cons] at this
      omega
theorem ur_rk : ∀ (m : Nat) (x : Int) (s : List Int), asc (x + m) x s = true → ur m x s.length (rk m x s) = s
  | m, x, [], _ => by cases m <;> rfl
  | 0, x, a :: s, h => by
    have := asc_head.1 h
    omega
  | m + 1, x, a :: s, h => by
    obtain ⟨h1, h2, h3⟩ := asc_head.1 h
    have e2 : x + 1 + (m : Int) = x + (m + 1 : Nat) := by omega
    simp only [List.length_cons]
    rw [rk]
    split
    · rename_i ha
      subst ha
      have hs : asc (a + 1 + m) (a + 1) s = true := by rw [e2]; exact h3
      have := rk_lt m (a + 1) s hs
      rw [ur, if_pos this, ur_rk m (a + 1) s hs]
    · have hs : asc (x + 1 + m) (x + 1) (a :: s) = true := by rw [e2]; exact asc_head.2 ⟨by omega, h2, h3⟩
      have ih := ur_rk m (x + 1) (a :: s) hs
      simp only [List.length_cons] at ih
      rw [ur, if_neg (by omega), Nat.add_sub_cancel_left, ih]
theorem ur_ok : ∀ (m : Nat) (x : Int) (k r : Nat), r < bin m k → (ur m x k r).length = k ∧ asc (x + m) x (ur m x k r) = true ∧ rk m x (ur m x k r) = r
  | m, x, 0, r, h => by
    rw [bin_zero] at h
    have : ur m x 0 r = [] := by cases m <;> rfl
    rw [this, rk_nil]
    exact ⟨rfl, rfl, by omega⟩
  | 0, x, k + 1, r, h => by
    have : bin 0 (k + 1) = 0 := rfl
    omega
  | m + 1, x, k + 1, r, h => by
    have e : bin (m + 1) (k + 1) = bin m k + bin m (k + 1) := rfl
    have e2 : x + 1 + (m : Int) = x + (m + 1 : Nat) := by omega
    rw [ur]
    split
    · rename_i hr
      obtain ⟨h1, h2, h3⟩ := ur_ok m (x + 1) k r hr
      rw [e2] at h2
      refine ⟨by simp [h1], asc_head.2 ⟨by omega, by omega, h2⟩, ?_⟩
      rw [rk, if_pos rfl, h3]
    · rename_i hr
      obtain ⟨h1, h2, h3⟩ := ur_ok m (x + 1) (k + 1) (r - bin m k) (by omega)
      rw [e2] at h2
      refine ⟨h1, asc_mono (by omega) h2, ?_⟩
      revert h1 h2 h3
      generalize ur m (x + 1) (k + 1) (r - bin m k) = s
      intro h1 h2 h3
      match s, h1 with
      | a :: s, h1 =>
        have := asc_head.1 h2
        simp only [List.length_cons, Nat.add_right_cancel_iff] at h1
        rw [rk, if_neg (by omega), h3, h1]
        omega
theorem ur_nil (m : Nat) (x : Int) (r : Nat) : ur m x 0 r = [] := by cases m <;> rfl
theorem rk_next {n y x : Int} {r : List Int} (h : y < x) (hn : y < n) : (rk (n - y).toNat y (x :: r) : Int) = binZ (n - 1 - y) r.length + rk (n - (y + 1)).toNat (y + 1) (x :: r) := by
  obtain ⟨m, hm⟩ : ∃ m, (n - y).toNat = m + 1 := ⟨(n - y).toNat - 1, by omega⟩
  have e1 : (n - (y + 1)).toNat = m := by omega
  have e2 : (n - 1 - y).toNat = m := by omega
  rw [hm, e1, rk, if_neg (by omega), binZ, if_neg (by omega), e2]
  simp
theorem rk_hit {n x : Int} {r : List Int} (hn : x < n) : rk (n - x).toNat x (x :: r) = rk (n - (x + 1)).toNat (x + 1) r := by
  obtain ⟨m, hm⟩ : ∃ m, (n - x).toNat = m + 1 := ⟨(n - x).toNat - 1, by omega⟩
  have e1 : (n - (x + 1)).toNat = m := by omega
  rw [hm, e1, rk, if_pos rfl]
theorem rk_small (n : Int) (x : Int) (s : List Int) (h : n ≤ 64) : (rk n.toNat x s : Int) ≤ 6917529027641081856 := by
  have h1 := rk_le n.toNat x s
  have h2 := bin_small n.toNat s.length (by omega)
  omega
theorem ur_step {n x r : Int} {k : Nat} (hx : x < n) (h0 : 0 ≤ r) (hr : r < binZ (n - 1 - x) k) : ur (n - x).toNat x (k + 1) r.toNat = x :: ur (n - (x + 1)).toNat (x + 1) k r.toNat := by
  obtain ⟨m, hm⟩ : ∃ m, (n - x).toNat = m + 1 := ⟨(n - x).toNat - 1, by omega⟩
  have e1 : (n - (x + 1)).toNat = m := by omega
  have e2 : (n - 1 - x).toNat = m := by omega
  rw [binZ, if_neg (by omega), e2] at hr
  simp only [Int.toNat_natCast] at hr
  rw [hm, e1, ur, if_pos (by omega)]
theorem ur_skip {n x r : Int} {k : Nat} (hx : x < n) (h0 : 0 ≤ r) (hr : binZ (n - 1 - x) k ≤ r) : ur (n - x).toNat x (k + 1) r.toNat = ur (n - (x + 1)).toNat (x + 1) (k + 1) (r - binZ (n - 1 - x) k).toNat := by
  obtain ⟨m, hm⟩ : ∃ m, (n - x).toNat = m + 1 := ⟨(n - x).toNat - 1, by omega⟩
  have e1 : (n - (x + 1)).toNat = m := by omega
  have e2 : (n - 1 - x).toNat = m := by omega
  rw [binZ, if_neg (by omega), e2] at hr ⊢
  simp only [Int.toNat_natCast] at hr ⊢
  rw [hm, e1, ur, if_neg (by omega)]
  congr 1
  omega
theorem binZ_pascal {n x : Int} {k : Int} (hx : x < n) (hk : 1 ≤ k) : binZ (n - x) k = binZ (n - 1 - x) (k - 1) + binZ (n - (x + 1)) k := by
  obtain ⟨m, hm⟩ : ∃ m, (n - x).toNat = m + 1 := ⟨(n - x).toNat - 1, by omega⟩
  obtain ⟨b, hb⟩ : ∃ b, k.toNat = b + 1 := ⟨k.toNat - 1, by omega⟩
  have e1 : (n - (x + 1)).toNat = m := by omega
  have e2 : (n - 1 - x).toNat = m := by omega
  have e3 : (k - 1).toNat = b := by omega
  have e4 : bin (m + 1) (b + 1) = bin m b + bin m (b + 1) := rfl
  rw [binZ, binZ, binZ, if_neg (by omega), if_neg (by omega), if_neg (by omega), hm, hb, e1, e2, e3, e4]
  omega
/-- What Rank answers. -/
def rankAns (n : Int) (s : List Int) : Int × Int := if n < 0 ∨ 64 < n then (0, 6) else if asc n 0 s then ((rk n.toNat 0 s : Int), 0) else (0, 5)
/-- What Unrank answers. -/
def unrankAns (n k r : Int) : List Int × Int := if n < 0 ∨ 64 < n ∨ k < 0 ∨ n < k ∨ r < 0 ∨ binZ n k ≤ r then ([], 6) else (ur n.toNat 0 k.toNat r.toNat, 0)
end Go.Pl
