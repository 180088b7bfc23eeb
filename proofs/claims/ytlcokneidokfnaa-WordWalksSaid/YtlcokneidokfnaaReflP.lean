/-
  The reflected walk over the words of a length: each word differs from the next in one digit, by 1. No program in sight.
-/
import Derived.Test.YtlcokneidokfnaaWordN
namespace Go.Fd
open Go.Pl Go.Alg
/-- What is left of t above the digits behind i; the digit there, and whether it descends. -/
def tq (q : Int) (n : Nat) (t : Int) (i : Nat) : Int := t / q ^ (n - 1 - i)
def dnb (q : Int) (n : Nat) (t : Int) (i : Nat) : Bool := decide (tq q n t i / q % 2 = 1)
def wd (q : Int) (n : Nat) (t : Int) (i : Nat) : Int := if dnb q n t i then q - 1 - tq q n t i % q else tq q n t i % q
def refl (q : Int) (n : Nat) (t : Int) : List Int := tab n (wd q n t)
theorem refl_length (q : Int) (n : Nat) (t : Int) : (refl q n t).length = n := tab_length _ _
theorem tq_nonneg {q : Int} (hq : 2 ≤ q) {n : Nat} {t : Int} (ht : 0 ≤ t) (i : Nat) : 0 ≤ tq q n t i := Int.ediv_nonneg ht (by have := pw_pos hq (n - 1 - i); omega)
theorem wd_range {q : Int} (hq : 2 ≤ q) (n : Nat) (t : Int) (i : Nat) : 0 ≤ wd q n t i ∧ wd q n t i < q := by
  have h0 := Int.emod_nonneg (tq q n t i) (b := q) (by omega)
  have h1 := Int.emod_lt_of_pos (tq q n t i) (b := q) (by omega)
  unfold wd
  split <;> omega
theorem refl_zero {q : Int} (hq : 2 ≤ q) (n : Nat) : refl q n 0 = tab n fun _ => 0 := tab_congr fun t _ => by
  have : tq q n 0 t = 0 := Int.zero_ediv _
  simp [wd, dnb, this]
theorem dns_zero (q : Int) (n i : Nat) : dnb q n 0 i = false := by
  have : tq q n 0 i = 0 := Int.zero_ediv _
  simp [dnb, this]
theorem div_succ {A t : Int} (hA : 1 ≤ A) (h : (t + 1) % A = 0) : (t + 1) / A = t / A + 1 := by
  have h1 := Int.mul_ediv_add_emod (t + 1) A
  rw [h, Int.add_zero] at h1
  have e : t = A * ((t + 1) / A - 1) + (A - 1) := by rw [Int.mul_sub, Int.mul_one]; omega
  have h2 : t / A = (t + 1) / A - 1 := by
    conv => lhs; rw [e]
    rw [Int.add_comm, Int.add_mul_ediv_left _ _ (by omega), Int.ediv_eq_zero_of_lt (by omega) (by omega), Int.zero_add]
  omega
theorem next_lo {q T : Int} (hq : 2 ≤ q) (h : T % q + 1 < q) : (T + 1) / q = T / q ∧ (T + 1) % q = T % q + 1 := by
  have h1 := Int.mul_ediv_add_emod T q
  have h0 := Int.emod_nonneg T (b := q) (by omega)
  have e : T + 1 = (T % q + 1) + q * (T / q) := by omega
  constructor
  · rw [e, Int.add_mul_ediv_left _ _ (by omega), Int.ediv_eq_zero_of_lt (by omega) h, Int.zero_add]
  · rw [e, Int.add_mul_emod_self_left, Int.emod_eq_of_lt (by omega) h]
theorem next_hi {q T : Int} (hq : 2 ≤ q) (h : ¬ T % q + 1 < q) : (T + 1) / q = T / q + 1 ∧ (T + 1) % q = 0 ∧ T % q = q - 1 := by
  have h1 := Int.mul_ediv_add_emod T q
  have h2 := Int.emod_lt_of_pos T (b := q) (by omega)
  have h3 : T % q = q - 1 := by omega
  have e : T + 1 = q * (T / q + 1) := by rw [Int.mul_add, Int.mul_one]; omega
  refine ⟨by rw [e, Int.mul_ediv_cancel_left _ (by omega)], by rw [e, Int.mul_emod_right], h3⟩
/-- The digits behind i have run over. -/
def Car (q : Int) (n : Nat) (t : Int) (i : Int) : Prop := (t + 1) % q ^ ((n : Int) - 1 - i).toNat = 0 ∧ ∀ j : Nat, i < (j : Int) → j < n → wd q n (t + 1) j = wd q n t j
theorem Car.first (q : Int) (n : Nat) (t : Int) : Car q n t ((n : Int) - 1) := by
  refine ⟨?_, fun j h1 h2 => by omega⟩
  rw [show ((n : Int) - 1 - (n - 1)).toNat = 0 by omega, Int.pow_zero, Int.emod_one]
section
variable {q : Int} {n : Nat} {t : Int} {i : Nat}
theorem Car.tq (hq : 2 ≤ q) (h : Car q n t i) (hi : i < n) : tq q n (t + 1) i = Fd.tq q n t i + 1 := by
  have e : ((n : Int) - 1 - (i : Int)).toNat = n - 1 - i := by omega
  have h1 := h.1
  rw [e] at h1
  exact div_succ (pw_pos hq _) h1
theorem tq_lower (hq : 2 ≤ q) (t : Int) {j : Nat} (hj : j < i) (hi : i < n) : Fd.tq q n t j = Fd.tq q n t i / q / q ^ (i - j - 1) := by
  have h1 := pw_pos hq (n - 1 - i)
  have h2 := pw_pos hq 1
  unfold Fd.tq
  rw [show n - 1 - j = (n - 1 - i) + 1 + (i - j - 1) by omega, Int.pow_add, Int.pow_succ, Int.ediv_ediv_of_nonneg (by omega), Int.ediv_ediv_of_nonneg (by omega), Int.mul_assoc]
/-- The new digit where nothing runs over. -/
theorem Car.change (hq : 2 ≤ q) (h : Car q n t i) (hi : i < n) (hd : Fd.tq q n t i % q + 1 < q) :
    wd q n (t + 1) i = (if dnb q n t i then wd q n t i - 1 else wd q n t i + 1) ∧ (∀ j, j < n → j ≠ i → wd q n (t + 1) j = wd q n t j) ∧ (∀ j, j ≤ i → dnb q n (t + 1) j = dnb q n t j) := by
  have ht := h.tq hq hi
  have hn := next_lo hq hd
  have hb : dnb q n (t + 1) i = dnb q n t i := by unfold dnb; rw [ht, hn.1]
  have hlow : ∀ j, j < i → Fd.tq q n (t + 1) j = Fd.tq q n t j := fun j hj => by rw [tq_lower hq _ hj hi, tq_lower hq t hj hi, ht, hn.1]
  refine ⟨?_, fun j hj hne => ?_, fun j hj => ?_⟩
  · unfold wd
    rw [hb, ht, hn.2]
    split <;> omega
  · by_cases hlt : j < i
    · unfold wd dnb
      rw [hlow j hlt]
    · exact h.2 j (by omega) hj
  · by_cases e : j = i
    · rw [e]; exact hb
    · unfold dnb
      rw [hlow j (by omega)]
/-- Where the digit runs over, too. -/
theorem Car.over (hq : 2 ≤ q) (h : Car q n t i) (hi : i < n) (hd : ¬ Fd.tq q n t i % q + 1 < q) :
    Car q n t ((i : Int) - 1) ∧ dnb q n (t + 1) i = !dnb q n t i := by
  have ht := h.tq hq hi
  have hn := next_hi hq hd
  have e : ((n : Int) - 1 - (i : Int)).toNat = n - 1 - i := by omega
  have h1 := h.1
  rw [e] at h1
  have hb : dnb q n (t + 1) i = !dnb q n t i := by
    unfold dnb
    rw [ht, hn.1]
    have : Fd.tq q n t i / q % 2 = 0 ∨ Fd.tq q n t i / q % 2 = 1 := by omega
    rcases this with h2 | h2
    · rw [h2, show (Fd.tq q n t i / q + 1) % 2 = 1 by omega]; rfl
    · rw [h2, show (Fd.tq q n t i / q + 1) % 2 = 0 by omega]; rfl
  refine ⟨⟨?_, fun j hj hjn => ?_⟩, hb⟩
  · rw [show ((n : Int) - 1 - ((i : Int) - 1)).toNat = (n - 1 - i) + 1 by omega, Int.pow_succ]
    have h2 := Int.mul_ediv_add_emod (t + 1) (q ^ (n - 1 - i))
    rw [h1, Int.add_zero] at h2
    have h3 : (t + 1) / q ^ (n - 1 - i) = Fd.tq q n t i + 1 := ht
    have h4 := Int.mul_ediv_add_emod (Fd.tq q n t i + 1) q
    rw [hn.2.1, Int.add_zero] at h4
    rw [h3] at h2
    have h5 : t + 1 = q ^ (n - 1 - i) * q * ((Fd.tq q n t i + 1) / q) := by rw [Int.mul_assoc, h4, h2]
    rw [h5, Int.mul_emod_right]
  · by_cases e2 : j = i
    · subst e2
      unfold wd
      rw [hb, ht, hn.2.1, hn.2.2]
      cases dnb q n t j <;> simp
    · exact h.2 j (by omega) hjn
/-- At the last word everything runs over; before it, something does not. -/
theorem Car.lt (hq : 2 ≤ q) (h : Car q n t i) (hi : i < n) (ht0 : 0 ≤ t) (ht : t < q ^ n) (hd : Fd.tq q n t i % q + 1 < q) : t + 1 < q ^ n := by
  apply Classical.byContradiction
  intro hc
  have e : t + 1 = q ^ n := by omega
  have h1 := h.tq hq hi
  have h2 := (next_lo hq hd).2
  rw [← h1] at h2
  have h3 : Fd.tq q n (t + 1) i = q ^ i * q := by
    unfold Fd.tq
    rw [e, show n = (n - 1 - i) + (i + 1) by omega, Int.pow_add, show (n - 1 - i) + (i + 1) - 1 - i = n - 1 - i by omega, Int.mul_ediv_cancel_left _ (by have := pw_pos hq (n - 1 - i); omega), Int.pow_succ]
  rw [h3, Int.mul_emod_left] at h2
  have := Int.emod_nonneg (Fd.tq q n t i) (b := q) (by omega)
  omega
theorem Car.end (hq : 2 ≤ q) (h : Car q n t (-1)) (ht0 : 0 ≤ t) (ht : t < q ^ n) : t + 1 = q ^ n := by
  have h1 := h.1
  rw [show ((n : Int) - 1 - -1).toNat = n by omega] at h1
  have h2 := Int.mul_ediv_add_emod (t + 1) (q ^ n)
  rw [h1, Int.add_zero] at h2
  have hp := pw_pos hq n
  have h3 : 1 ≤ (t + 1) / q ^ n := by
    apply Classical.byContradiction
    intro hc
    have h0 : 0 ≤ (t + 1) / q ^ n := Int.ediv_nonneg (by omega) (by omega)
    have : (t + 1) / q ^ n = 0 := by omega
    rw [this, Int.mul_zero] at h2
    omega
  have : q ^ n * 1 ≤ q ^ n * ((t + 1) / q ^ n) := Int.mul_le_mul_of_nonneg_left h3 (by omega)
  omega
end
end Go.Fd
