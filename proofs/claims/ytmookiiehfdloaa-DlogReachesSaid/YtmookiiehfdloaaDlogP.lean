/-
  Orders of residues by the primes that divide the number of residues other than 0. No program in sight.
-/
import Derived.Test.YtmookiiehfdloaaKPow
import Derived.Test.YtmookiiehfdloaaNumPlain
namespace Go.Fd
open Go.Pl Go.Alg Go.Nm
section
variable {P : FP}
/-- The prime r cannot be taken out of the exponent n. -/
def GoodAt (x : K P) (n r : Nat) : Prop := r ∣ n → npow x (n / r) ≠ 1
theorem good_div {x : K P} {n r s : Nat} (h : GoodAt x n s) (hr : r ∣ n) (hr0 : 0 < r) : GoodAt x (n / r) s := by
  intro hs he
  have h1 : s ∣ n := Nat.dvd_trans hs (Nat.div_dvd_of_dvd hr)
  refine h h1 ?_
  obtain ⟨k, hk⟩ := hr
  subst hk
  rw [Nat.mul_div_cancel_left _ hr0] at hs he
  obtain ⟨m, hm⟩ := hs
  subst hm
  rcases Nat.eq_zero_or_pos s with h0 | h0
  · subst h0
    simp at he ⊢
    rfl
  · rw [Nat.mul_div_cancel_left _ h0] at he
    rw [show r * (s * m) = s * (m * r) by rw [Nat.mul_comm r, Nat.mul_assoc], Nat.mul_div_cancel_left _ h0, npow_mul, he, one_npow]
theorem isP_prime {r : Nat} (h : IsP r) : primeN r = true := by
  simp only [primeN, Bool.and_eq_true, decide_eq_true_eq, List.all_eq_true, List.mem_range, Bool.not_eq_true', Bool.and_eq_false_iff, decide_eq_false_iff_not]
  refine ⟨h.1, fun d hd => ?_⟩
  by_cases h2 : 2 ≤ d
  · right
    intro h3
    have := h.2 d h2 (Nat.dvd_of_mod_eq_zero h3)
    omega
  · exact .inl h2
theorem final_order {x : K P} {n N : Nat} (hn : 0 < n) (h1 : npow x n = 1) (hN : n ∣ N) (hN0 : 0 < N) (hg : ∀ r : Nat, (r : Int) ∈ prs N → GoodAt x n r) : HasOrder x n := by
  refine order_test hn h1 fun r hr hd => ?_
  refine hg r ?_ hd
  rw [prs_mem]
  have hd2 := Nat.dvd_trans hd hN
  exact ⟨r, rfl, Nat.le_of_dvd hN0 hd2, Nat.mod_eq_zero_of_dvd hd2, isP_prime hr⟩
theorem HasOrder.good {x : K P} {n : Nat} (h : HasOrder x n) (r : Nat) (hr : 2 ≤ r) : GoodAt x n r := fun hd => by
  have h0 := h.1
  have h1 : n / r < n := Nat.div_lt_self h0 (by omega)
  have h2 : 0 < n / r := Nat.div_pos (Nat.le_of_dvd h0 hd) (by omega)
  exact h.2.2 _ h2 h1
theorem prs_two {n : Nat} {r : Int} (h : r ∈ prs n) : 2 ≤ r ∧ r ≤ n ∧ (n : Int) % r = 0 := by
  obtain ⟨p, rfl, h1, h2, h3⟩ := prs_mem.1 h
  simp only [primeN, Bool.and_eq_true, decide_eq_true_eq] at h3
  refine ⟨by omega, by omega, ?_⟩
  rw [← Int.natCast_emod, h2]
  rfl
theorem powA_nat {g : K P} (hg : HasOrder g (n1 P)) {x : K P} (hx : x ≠ 0) {k : Int} (hk : 0 ≤ k) : powA P x k = (npow x k.toNat, 0) := by
  have h1 := n1_pos (P := P)
  rw [powA]
  by_cases h0 : k = 0
  · subst h0
    rfl
  · rw [if_neg h0, if_neg hx, npow_mod (pow_n1 hg hx) k.toNat]
    congr 2
    have : ((k.toNat % n1 P : Nat) : Int) = k % n1 P := by rw [Int.natCast_emod]; congr 1; omega
    omega
theorem div_nat {a b : Int} (ha : 0 ≤ a) (hb : 0 ≤ b) : ((a.toNat / b.toNat : Nat) : Int) = a / b := by
  rw [Int.natCast_ediv]; congr 1 <;> omega
theorem dvd_nat {a b : Int} (ha : 0 ≤ a) (hb : 0 ≤ b) : b.toNat ∣ a.toNat ↔ a % b = 0 := by
  have := nat_mod ha hb
  constructor
  · intro h
    have := Nat.mod_eq_zero_of_dvd h
    omega
  · intro h
    exact Nat.dvd_of_mod_eq_zero (by omega)
theorem order_one : HasOrder (1 : K P) 1 := ⟨by omega, npow_one _, fun k h0 h1 => by omega⟩
end
end Go.Fd
