/-
  Commutative rings and fields, as far as these proofs want them; powers; orders of elements. No program in sight.
-/

namespace Go.Alg

class CR (R : Type) extends Add R, Mul R, Neg R, Zero R, One R where
  add_assoc : ∀ a b c : R, a + b + c = a + (b + c)
  add_comm : ∀ a b : R, a + b = b + a
  zero_add : ∀ a : R, 0 + a = a
  neg_add : ∀ a : R, -a + a = 0
  mul_assoc : ∀ a b c : R, a * b * c = a * (b * c)
  mul_comm : ∀ a b : R, a * b = b * a
  one_mul : ∀ a : R, 1 * a = a
  mul_add : ∀ a b c : R, a * (b + c) = a * b + a * c

section
variable {R : Type} [CR R]
theorem add_assoc (a b c : R) : a + b + c = a + (b + c) := CR.add_assoc a b c
theorem add_comm (a b : R) : a + b = b + a := CR.add_comm a b
theorem mul_assoc (a b c : R) : a * b * c = a * (b * c) := CR.mul_assoc a b c
theorem mul_comm (a b : R) : a * b = b * a := CR.mul_comm a b
theorem add_left_comm (a b c : R) : a + (b + c) = b + (a + c) := by rw [← add_assoc, add_comm a b, add_assoc]
theorem mul_left_comm (a b c : R) : a * (b * c) = b * (a * c) := by rw [← mul_assoc, mul_comm a b, mul_assoc]
theorem zero_add (a : R) : 0 + a = a := CR.zero_add a
theorem add_zero (a : R) : a + 0 = a := by rw [add_comm, zero_add]
theorem neg_add (a : R) : -a + a = 0 := CR.neg_add a
theorem add_neg (a : R) : a + -a = 0 := by rw [add_comm, neg_add]
theorem one_mul (a : R) : 1 * a = a := CR.one_mul a
theorem mul_one (a : R) : a * 1 = a := by rw [mul_comm, one_mul]
theorem mul_add (a b c : R) : a * (b + c) = a * b + a * c := CR.mul_add a b c
theorem add_mul (a b c : R) : (a + b) * c = a * c + b * c := by rw [mul_comm, mul_add, mul_comm c a, mul_comm c b]
theorem add_left_cancel {a b c : R} (h : a + b = a + c) : b = c := by
  have : -a + (a + b) = -a + (a + c) := by rw [h]
  rwa [← add_assoc, ← add_assoc, neg_add, zero_add, zero_add] at this
theorem add_right_cancel {a b c : R} (h : b + a = c + a) : b = c := by
  rw [add_comm b a, add_comm c a] at h
  exact add_left_cancel h
theorem mul_zero (a : R) : a * 0 = 0 := by
  have h : a * 0 + a * 0 = a * 0 + 0 := by rw [← mul_add, zero_add, add_zero]
  exact add_left_cancel h
theorem zero_mul (a : R) : 0 * a = 0 := by rw [mul_comm, mul_zero]
theorem neg_of_add {a b : R} (h : a + b = 0) : b = -a := by
  apply add_left_cancel (a := a)
  rw [h, add_neg]
theorem neg_neg (a : R) : - -a = a := (neg_of_add (neg_add a)).symm
theorem neg_zero : -(0 : R) = 0 := (neg_of_add (zero_add (0 : R))).symm
theorem neg_add' (a b : R) : -(a + b) = -a + -b := by
  symm
  apply neg_of_add
  rw [add_assoc, add_left_comm b, add_neg, add_zero, add_neg]
theorem neg_mul (a b : R) : -a * b = -(a * b) := by
  apply neg_of_add
  rw [← add_mul, add_neg, zero_mul]
theorem mul_neg (a b : R) : a * -b = -(a * b) := by rw [mul_comm, neg_mul, mul_comm]
theorem neg_inj {a b : R} (h : -a = -b) : a = b := by rw [← neg_neg a, h, neg_neg]
theorem eq_of_add_neg {a b : R} (h : a + -b = 0) : a = b := by
  have h1 := neg_of_add h
  exact (neg_inj h1).symm
def npow (a : R) : Nat → R
  | 0 => 1
  | n + 1 => npow a n * a
theorem npow_zero (a : R) : npow a 0 = 1 := rfl
theorem npow_succ (a : R) (n : Nat) : npow a (n + 1) = npow a n * a := rfl
theorem npow_one (a : R) : npow a 1 = a := one_mul a
theorem npow_add (a : R) (m : Nat) : ∀ n, npow a (m + n) = npow a m * npow a n
  | 0 => by rw [npow_zero, mul_one]; rfl
  | n + 1 => by rw [← Nat.add_assoc, npow_succ, npow_add a m n, npow_succ, mul_assoc]
theorem npow_mul (a : R) (m : Nat) : ∀ n, npow a (m * n) = npow (npow a m) n
  | 0 => rfl
  | n + 1 => by rw [Nat.mul_succ, npow_add, npow_mul a m n, npow_succ]
theorem one_npow : ∀ n, npow (1 : R) n = 1
  | 0 => rfl
  | n + 1 => by rw [npow_succ, one_npow n, one_mul]
theorem mul_npow (a b : R) : ∀ n, npow (a * b) n = npow a n * npow b n
  | 0 => by rw [npow_zero, npow_zero, npow_zero, one_mul]
  | n + 1 => by
    rw [npow_succ, mul_npow a b n, npow_succ, npow_succ, mul_assoc, mul_assoc, mul_left_comm (npow b n)]
theorem npow_comm (a : R) (n : Nat) : npow a n * a = a * npow a n := mul_comm _ _
theorem zero_npow {n : Nat} (h : 0 < n) : npow (0 : R) n = 0 := by
  obtain ⟨m, rfl⟩ : ∃ m, n = m + 1 := ⟨n - 1, by omega⟩
  rw [npow_succ, mul_zero]
end

/-- A field. -/
class Fld (K : Type) extends CR K where
  one_ne : (1 : K) ≠ 0
  inv : K → K
  mul_inv : ∀ a : K, a ≠ 0 → a * inv a = 1

section
variable {K : Type} [Fld K]
theorem one_ne : (1 : K) ≠ 0 := Fld.one_ne
theorem mul_inv {a : K} (h : a ≠ 0) : a * Fld.inv a = 1 := Fld.mul_inv a h
theorem inv_mul {a : K} (h : a ≠ 0) : Fld.inv a * a = 1 := by rw [mul_comm, mul_inv h]
theorem mul_left_cancel {a b c : K} (ha : a ≠ 0) (h : a * b = a * c) : b = c := by
  have : Fld.inv a * (a * b) = Fld.inv a * (a * c) := by rw [h]
  rwa [← mul_assoc, ← mul_assoc, inv_mul ha, one_mul, one_mul] at this
theorem mul_eq_zero {a b : K} (h : a * b = 0) : a = 0 ∨ b = 0 := by
  by_cases ha : a = 0
  · exact .inl ha
  · exact .inr (mul_left_cancel ha (h.trans (mul_zero a).symm))
theorem mul_ne_zero {a b : K} (ha : a ≠ 0) (hb : b ≠ 0) : a * b ≠ 0 := fun h => by
  rcases mul_eq_zero h with h | h
  · exact ha h
  · exact hb h
theorem npow_ne_zero {a : K} (ha : a ≠ 0) : ∀ n, npow a n ≠ 0
  | 0 => one_ne
  | n + 1 => mul_ne_zero (npow_ne_zero ha n) ha
theorem inv_ne_zero {a : K} (ha : a ≠ 0) : Fld.inv a ≠ 0 := fun h => by
  have := mul_inv ha
  rw [h, mul_zero] at this
  exact one_ne this.symm
theorem inv_unique {a b : K} (h : a * b = 1) : b = Fld.inv a := by
  have ha : a ≠ 0 := fun e => by rw [e, zero_mul] at h; exact one_ne h.symm
  exact mul_left_cancel ha (h.trans (mul_inv ha).symm)
end

/-! ### Orders in a monoid of powers -/
section
variable {R : Type} [CR R]
/-- x has the order n: x^n = 1, and no smaller positive power is 1. -/
def HasOrder (x : R) (n : Nat) : Prop := 0 < n ∧ npow x n = 1 ∧ ∀ k, 0 < k → k < n → npow x k ≠ 1
theorem npow_mod {x : R} {n : Nat} (hx : npow x n = 1) (k : Nat) : npow x k = npow x (k % n) := by
  have h : npow x k = npow x (n * (k / n) + k % n) := by rw [Nat.div_add_mod]
  rw [h, npow_add, npow_mul, hx, one_npow, one_mul]
theorem HasOrder.dvd {x : R} {n k : Nat} (h : HasOrder x n) (hk : npow x k = 1) : n ∣ k := by
  obtain ⟨h0, h1, h2⟩ := h
  rw [npow_mod h1] at hk
  rcases Nat.eq_zero_or_pos (k % n) with hm | hm
  · exact Nat.dvd_of_mod_eq_zero hm
  · exact absurd hk (h2 _ hm (Nat.mod_lt _ h0))
theorem HasOrder.unique {x : R} {n m : Nat} (h : HasOrder x n) (h' : HasOrder x m) : n = m :=
  Nat.dvd_antisymm (h.dvd h'.2.1) (h'.dvd h.2.1)
theorem exists_order {x : R} : ∀ {n : Nat}, 0 < n → npow x n = 1 → ∃ m, HasOrder x m ∧ m ∣ n := by
  intro n
  induction n using Nat.strongRecOn with
  | _ n ih =>
    intro h0 h1
    by_cases h : ∃ k, 0 < k ∧ k < n ∧ npow x k = 1
    · obtain ⟨k, hk0, hk, hk1⟩ := h
      obtain ⟨m, hm, _⟩ := ih k hk hk0 hk1
      exact ⟨m, hm, hm.dvd h1⟩
    · exact ⟨n, ⟨h0, h1, fun k hk0 hk hk1 => h ⟨k, hk0, hk, hk1⟩⟩, Nat.dvd_refl n⟩
end
end Go.Alg
