/-
  Primes that divide a small number, least divisors. No program in sight.
-/
import Derived.Test.YtmookiiehfdloaaPlain
import Derived.Test.YtmookiiehfdloaaFieldEval
namespace Go.Nm
open Go.Pl Go.Fd
def divs (n : Nat) : Nat → Bool := fun p => n % p == 0 && primeN p
def prsN (n : Nat) : List Nat := (List.range (n + 1)).filter (divs n)
/-- The primes that divide n. -/
def prs (n : Int) : List Int := (prsN n.toNat).map Int.ofNat
def stripN (p : Nat) : Nat → Nat → Nat
  | 0, m => m
  | f + 1, m => if m % p = 0 then stripN p f (m / p) else m
def leastB (m p : Nat) : Bool := decide (2 ≤ p) && (m % p == 0 && (List.range p).all fun e => decide (e < 2) || !(m % e == 0))
def stepB (m p : Nat) : Bool := !(leastB m p) || decide (prsN m = p :: prsN (stripN p 9 m))
set_option maxRecDepth 100000 in
theorem step_all : ((List.range 257).all fun m => decide (m < 2) || (List.range 257).all fun p => stepB m p) = true := by decide +kernel
/-- d is the least divisor of n from 2 on. -/
def Least (n d : Int) : Prop := 2 ≤ d ∧ n % d = 0 ∧ ∀ e : Int, 2 ≤ e → e < d → n % e ≠ 0
theorem nat_mod {m p : Int} (h0 : 0 ≤ m) (h1 : 0 ≤ p) : ((m.toNat % p.toNat : Nat) : Int) = m % p := by
  rw [Int.natCast_emod]; congr 1 <;> omega
theorem Least.le {n d : Int} (h : Least n d) (hn : 2 ≤ n) : d ≤ n := Int.le_of_dvd (by omega) (Int.dvd_of_emod_eq_zero h.2.1)
theorem prs_step {m p : Int} (h2 : 2 ≤ m) (hm : m ≤ 256) (h : Least m p) : prs m = p :: prs (stripN p.toNat 9 m.toNat) := by
  have hp := h.le h2
  obtain ⟨a, b, c⟩ := h
  have h1 := List.all_eq_true.1 step_all m.toNat (List.mem_range.2 (by omega))
  rw [Bool.or_eq_true] at h1
  rcases h1 with h1 | h1
  · simp at h1; omega
  have h3 := List.all_eq_true.1 h1 p.toNat (List.mem_range.2 (by omega))
  have hl : leastB m.toNat p.toNat = true := by
    simp only [leastB, Bool.and_eq_true, decide_eq_true_eq, beq_iff_eq, List.all_eq_true, List.mem_range, Bool.or_eq_true, Bool.not_eq_true', beq_eq_false_iff_ne]
    refine ⟨by omega, ?_, fun e he => ?_⟩
    · have := nat_mod (m := m) (p := p) (by omega) (by omega); omega
    · by_cases h : e < 2
      · exact .inl h
      · right
        intro h0
        refine c e (by omega) (by omega) ?_
        have := nat_mod (m := m) (p := e) (by omega) (by omega)
        rw [Int.toNat_natCast] at this
        omega
  simp only [stepB, hl, Bool.not_true, Bool.false_or, decide_eq_true_eq] at h3
  rw [prs, h3, prs, List.map_cons, Int.toNat_natCast]
  congr 1
  show ((p.toNat : Nat) : Int) = p
  omega
theorem prs_one : prs 1 = [] := by decide
theorem strip_end {p : Nat} {f m : Nat} (h : ¬ m % p = 0) : stripN p f m = m := by
  cases f with
  | zero => rfl
  | succ f => rw [stripN, if_neg h]

theorem nd7 {n : Int} (h2 : n % 2 ≠ 0) (h3 : n % 3 ≠ 0) (h5 : n % 5 ≠ 0) : ∀ e : Int, 2 ≤ e → e < 7 → n % e ≠ 0 := fun e h0 h1 => by
  have : e = 2 ∨ e = 3 ∨ e = 4 ∨ e = 5 ∨ e = 6 := by omega
  rcases this with rfl | rfl | rfl | rfl | rfl <;> omega
theorem nd11 {n : Int} (h : ∀ e : Int, 2 ≤ e → e < 7 → n % e ≠ 0) (h7 : n % 7 ≠ 0) : ∀ e : Int, 2 ≤ e → e < 11 → n % e ≠ 0 := fun e h0 h1 => by
  have a := h 2 (by omega) (by omega)
  have b := h 3 (by omega) (by omega)
  have c := h 5 (by omega) (by omega)
  by_cases hl : e < 7
  · exact h e h0 hl
  have : e = 7 ∨ e = 8 ∨ e = 9 ∨ e = 10 := by omega
  rcases this with rfl | rfl | rfl | rfl <;> omega
theorem nd13 {n : Int} (h : ∀ e : Int, 2 ≤ e → e < 11 → n % e ≠ 0) (h7 : n % 11 ≠ 0) : ∀ e : Int, 2 ≤ e → e < 13 → n % e ≠ 0 := fun e h0 h1 => by
  have a := h 2 (by omega) (by omega)
  by_cases hl : e < 11
  · exact h e h0 hl
  have : e = 11 ∨ e = 12 := by omega
  rcases this with rfl | rfl <;> omega
theorem nd17 {n : Int} (h : ∀ e : Int, 2 ≤ e → e < 13 → n % e ≠ 0) (h7 : n % 13 ≠ 0) : ∀ e : Int, 2 ≤ e → e < 17 → n % e ≠ 0 := fun e h0 h1 => by
  have a := h 2 (by omega) (by omega)
  have b := h 3 (by omega) (by omega)
  have c := h 5 (by omega) (by omega)
  by_cases hl : e < 13
  · exact h e h0 hl
  have : e = 13 ∨ e = 14 ∨ e = 15 ∨ e = 16 := by omega
  rcases this with rfl | rfl | rfl | rfl <;> omega
theorem least_self {n d : Int} (hn : 2 ≤ n) (hd : 2 ≤ d) (h : ∀ e : Int, 2 ≤ e → e < d → n % e ≠ 0) (hs : n < d * d) : Least n n := by
  refine ⟨hn, Int.emod_self, fun e h0 h1 h2 => ?_⟩
  by_cases hl : e < d
  · exact h e h0 hl h2
  have hm := Int.mul_ediv_add_emod n e
  have hf : n = e * (n / e) := by omega
  have hk : 2 ≤ n / e := by
    apply Classical.byContradiction
    intro hc
    have h0' : 0 ≤ n / e := Int.ediv_nonneg (by omega) (by omega)
    have : n / e = 0 ∨ n / e = 1 := by omega
    rcases this with h | h
    · rw [h] at hf; simp at hf; omega
    · rw [h] at hf; simp at hf; omega
  have hlt : n / e < d := by
    apply Classical.byContradiction
    intro hc
    have : d * d ≤ e * (n / e) := Int.mul_le_mul (by omega) (by omega) (by omega) (by omega)
    omega
  refine h (n / e) hk hlt ?_
  have e3 : n % (n / e) = (e * (n / e)) % (n / e) := by rw [← hf]
  rw [e3, Int.mul_emod_left]
theorem prs_mem {n : Nat} {r : Int} : r ∈ prs n ↔ ∃ p : Nat, r = p ∧ p ≤ n ∧ n % p = 0 ∧ primeN p = true := by
  simp only [prs, prsN, divs, List.mem_map, List.mem_filter, List.mem_range, Bool.and_eq_true, beq_iff_eq, Int.toNat_natCast]
  constructor
  · rintro ⟨a, ⟨h1, h2, h3⟩, rfl⟩
    exact ⟨a, rfl, by omega, h2, h3⟩
  · rintro ⟨p, rfl, h1, h2, h3⟩
    exact ⟨p, ⟨by omega, h2, h3⟩, rfl⟩
/-- The primes below k that divide n. -/
def prsU (n k : Nat) : List Int := ((List.range k).filter (divs n)).map Int.ofNat
theorem prsU_last (n : Nat) : prsU n (n + 1) = prs n := by rw [prs, Int.toNat_natCast]; rfl
theorem prsU_first (n : Nat) (hn : 1 ≤ n) : prsU n 2 = [] := by
  have h0 : divs n 0 = false := by
    have hp : primeN 0 = false := by decide
    simp [divs, hp]
  have h1 : divs n 1 = false := by simp [divs, primeN]
  simp [prsU, List.range_succ, h0, h1]
theorem prsU_next (n k : Nat) : prsU n (k + 1) = if divs n k then prsU n k ++ [(k : Int)] else prsU n k := by
  rw [prsU, List.range_succ, List.filter_append, List.map_append]
  by_cases h : divs n k = true
  · rw [if_pos h]; simp [h, prsU]
  · rw [if_neg h]; simp [h, prsU]
theorem prsU_length (n k : Nat) : (prsU n k).length ≤ k := by
  rw [prsU, List.length_map]
  exact Nat.le_trans (List.length_filter_le _ _) (by simp)
end Go.Nm
