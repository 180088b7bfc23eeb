/-
  Powers with integer exponents, inverses and orders in the ring of residues with a residue of the greatest order. No program in sight.
-/
import Derived.Test.YtjpcgjllmpdmhaaZUpd
namespace Go.Fd
open Go.Pl Go.Alg
section
variable {P : FP}
instance decK (P : FP) : DecidableEq (K P) := fun x y => if h : x.1 = y.1 then isTrue (Subtype.ext h) else isFalse (fun e => h (by rw [e]))
theorem pow_n1 {g : K P} (hg : HasOrder g (n1 P)) {x : K P} (hx : x ≠ 0) : npow x (n1 P) = 1 := by
  obtain ⟨i, _, rfl⟩ := gen_all hg x hx
  rw [← npow_mul, Nat.mul_comm, npow_mul, hg.2.1, one_npow]
/-- x to the power of n, and the error. -/
def powA (P : FP) (x : K P) (n : Int) : K P × Int := if n = 0 then (1, 0) else if x = 0 then (0, if n < 0 then 7 else 0) else (npow x (n % n1 P).toNat, 0)
theorem tmod_mod {n k : Int} (hk : 1 ≤ k) : (n.tmod k + k) % k = n % k := by
  rw [Int.tmod_eq_emod, Int.add_emod_right]
  split
  · simp
  · rw [show (k.natAbs : Int) = k by omega, show n % k - k = n % k + k * (-1) by omega, Int.add_mul_emod_self_left, Int.emod_emod_of_dvd _ (Int.dvd_refl _)]
theorem tmod_lo {n k : Int} (hk : 1 ≤ k) : 1 ≤ n.tmod k + k ∧ n.tmod k + k < 2 * k := by
  have h1 := Int.emod_nonneg n (b := k) (by omega)
  have h2 := Int.emod_lt_of_pos n (b := k) (by omega)
  rw [Int.tmod_eq_emod]
  split
  · omega
  · rename_i h
    have h3 : n % k ≠ 0 := fun e => h (.inr (Int.dvd_of_emod_eq_zero e))
    have : (k.natAbs : Int) = k := by omega
    omega
def invK (P : FP) (x : K P) : K P := npow x (n1 P - 1)
theorem mul_invK {g : K P} (hg : HasOrder g (n1 P)) {x : K P} (hx : x ≠ 0) : x * invK P x = 1 := by
  have h := pow_n1 hg hx
  have h1 := n1_pos (P := P)
  rw [invK, mul_comm, ← npow_succ, show n1 P - 1 + 1 = n1 P by omega, h]
theorem inv_uniq {x y z : K P} (hy : x * y = 1) (hz : x * z = 1) : y = z := by
  rw [← mul_one y, ← hz, ← mul_assoc, mul_comm y x, hy, one_mul]
theorem ex_order {g : K P} (hg : HasOrder g (n1 P)) {x : K P} (hx : x ≠ 0) : ∃ m, HasOrder x m ∧ m ∣ n1 P := exists_order n1_pos (pow_n1 hg hx)
theorem ord_le {m : Nat} (h : m ∣ n1 P) : m ≤ n1 P := Nat.le_of_dvd n1_pos h
end
end Go.Fd
