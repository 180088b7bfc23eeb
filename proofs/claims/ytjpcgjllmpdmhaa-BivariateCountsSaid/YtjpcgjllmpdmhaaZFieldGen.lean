/-
  Where some residue has the greatest order, the residues are a field, and each of them but 0 is a power of that one. No program in sight.
-/
import Derived.Test.YtjpcgjllmpdmhaaZFieldPlain
namespace Go.Fd
open Go.Pl Go.Alg

theorem pigeon : ∀ (n : Nat) (l : List Nat), l.Nodup → (∀ x ∈ l, x < n) → l.length ≤ n
  | 0, l, _, h => by
    cases l with
    | nil => simp
    | cons x l => exact absurd (h x (by simp)) (by omega)
  | n + 1, l, hn, h => by
    by_cases hm : n ∈ l
    · have h1 := pigeon n (l.erase n) (hn.erase n) (fun x hx => by
        have hx' := (hn.mem_erase_iff).1 hx
        have := h x hx'.2
        have := hx'.1
        omega)
      rw [List.length_erase_of_mem hm] at h1
      omega
    · have := pigeon n l hn (fun x hx => by
        have := h x hx
        have : x ≠ n := fun e => hm (e ▸ hx)
        omega)
      omega
theorem pigeon_all (n : Nat) (l : List Nat) (hn : l.Nodup) (h : ∀ x ∈ l, x < n) (hl : l.length = n) : ∀ y, y < n → y ∈ l := fun y hy => by
  apply Classical.byContradiction
  intro hc
  have := pigeon n (y :: l) (List.nodup_cons.2 ⟨hc, hn⟩) (fun x hx => by
    rcases List.mem_cons.1 hx with rfl | hx
    · exact hy
    · exact h x hx)
  simp at this
  omega
section
variable {P : FP}
theorem zero_val : (0 : K P).1 = 0 := rfl
theorem one_val : (1 : K P).1 = 1 := rfl
theorem one_ne_zero : (1 : K P) ≠ 0 := fun h => by have := congrArg Subtype.val h; rw [zero_val, one_val] at this; omega
/-- q - 1 as a natural number. -/
def n1 (P : FP) : Nat := (P.q - 1).toNat
theorem n1_pos : 1 ≤ n1 P := by have := P.q_two; unfold n1; omega
theorem n1_eq : ((n1 P : Nat) : Int) = P.q - 1 := by have := P.q_two; unfold n1; omega
theorem pow_unit {R : Type} [CR R] {x : R} {n : Nat} (h : npow x n = 1) {i : Nat} (hi : i ≤ n) : npow x i * npow x (n - i) = 1 := by
  rw [← npow_add, show i + (n - i) = n by omega, h]
theorem pow_inj {R : Type} [CR R] {x : R} {n : Nat} (h : HasOrder x n) {i j : Nat} (hi : i < n) (hj : j < n) (he : npow x i = npow x j) : i = j := by
  have key : ∀ {i j : Nat}, i < j → j < n → npow x i = npow x j → False := fun {i j} hij hj he => by
    refine h.2.2 (j - i) (by omega) (by omega) ?_
    have hu := pow_unit h.2.1 (i := i) (by omega)
    have e : npow x j = npow x i * npow x (j - i) := by rw [← npow_add, show i + (j - i) = j by omega]
    calc npow x (j - i) = (npow x i * npow x (n - i)) * npow x (j - i) := by rw [hu, one_mul]
      _ = npow x (n - i) * (npow x i * npow x (j - i)) := by rw [mul_comm (npow x i), mul_assoc]
      _ = npow x (n - i) * npow x i := by rw [← e, he]
      _ = 1 := by rw [mul_comm, hu]
  rcases Nat.lt_trichotomy i j with hl | hl | hl
  · exact (key hl hj he).elim
  · exact hl
  · exact (key hl hi he.symm).elim
theorem pow_ne {x : K P} {n : Nat} (h : npow x n = 1) {i : Nat} (hi : i ≤ n) : npow x i ≠ 0 := fun e => by
  have := pow_unit h hi
  rw [e, zero_mul] at this
  exact one_ne_zero this.symm
theorem K.pos {y : K P} (h : y ≠ 0) : 1 ≤ y.1 := by
  have := y.2.1
  have : y.1 ≠ 0 := fun e => h (Subtype.ext e)
  omega
theorem gen_all {x : K P} (h : HasOrder x (n1 P)) (y : K P) (hy : y ≠ 0) : ∃ i, i < n1 P ∧ npow x i = y := by
  have hl : ((List.range (n1 P)).map fun i => ((npow x i).1 - 1).toNat).length = n1 P := by simp
  have hpos : ∀ i, i < n1 P → 1 ≤ (npow x i).1 ∧ (npow x i).1 < P.q := fun i hi => ⟨K.pos (pow_ne h.2.1 (by omega)), (npow x i).2.2⟩
  have hn : ((List.range (n1 P)).map fun i => ((npow x i).1 - 1).toNat).Nodup := by
    rw [List.Nodup, List.pairwise_map]
    refine List.Pairwise.imp_of_mem ?_ (List.nodup_range (n := n1 P))
    intro a b ha hb hne he
    rw [List.mem_range] at ha hb
    have h1 := hpos a ha
    have h2 := hpos b hb
    exact hne (pow_inj h ha hb (Subtype.ext (by omega)))
  have hy1 := K.pos hy
  have hy2 := y.2.2
  have := pigeon_all (n1 P) _ hn (fun z hz => by
    obtain ⟨i, hi, rfl⟩ := List.mem_map.1 hz
    have h1 := hpos i (List.mem_range.1 hi)
    have := n1_eq (P := P)
    omega) hl (y.1 - 1).toNat (by have := n1_eq (P := P); omega)
  obtain ⟨i, hi, he⟩ := List.mem_map.1 this
  have hi := List.mem_range.1 hi
  have h1 := hpos i hi
  exact ⟨i, hi, Subtype.ext (by omega)⟩
/-- The field that a residue of the greatest order gives. -/
@[reducible] noncomputable def fldOf {x : K P} (h : HasOrder x (n1 P)) : Fld (K P) where
  one_ne := one_ne_zero
  inv y := open Classical in if hy : y = 0 then 0 else npow x (n1 P - (gen_all h y hy).choose)
  mul_inv y hy := by
    simp only [dif_neg hy]
    have hc := (gen_all h y hy).choose_spec
    have := pow_unit h.2.1 (i := (gen_all h y hy).choose) (by omega)
    rw [hc.2] at this
    exact this
theorem no_zero_div {x : K P} (h : HasOrder x (n1 P)) {a b : K P} (hab : a * b = 0) : a = 0 ∨ b = 0 := by
  by_cases ha : a = 0
  · exact .inl ha
  · refine .inr ?_
    obtain ⟨i, hi, rfl⟩ := gen_all h a ha
    have hu := pow_unit h.2.1 (i := i) (by omega)
    calc b = (npow x i * npow x (n1 P - i)) * b := by rw [hu, one_mul]
      _ = npow x (n1 P - i) * (npow x i * b) := by rw [mul_comm (npow x i), mul_assoc]
      _ = 0 := by rw [hab, mul_zero]
end

/-! ### Primes, and the test of an order -/
def IsP (r : Nat) : Prop := 2 ≤ r ∧ ∀ d, 2 ≤ d → d ∣ r → d = r
theorem prime_factor : ∀ k : Nat, 1 < k → ∃ r, IsP r ∧ r ∣ k := by
  intro k
  induction k using Nat.strongRecOn with
  | _ k ih =>
    intro hk
    by_cases h : ∃ d, 2 ≤ d ∧ d ∣ k ∧ d ≠ k
    · obtain ⟨d, h2, hd, hne⟩ := h
      have hle := Nat.le_of_dvd (by omega) hd
      obtain ⟨r, hr, hrd⟩ := ih d (by omega) (by omega)
      exact ⟨r, hr, Nat.dvd_trans hrd hd⟩
    · exact ⟨k, ⟨by omega, fun d h2 hd => Classical.byContradiction fun hne => h ⟨d, h2, hd, hne⟩⟩, Nat.dvd_refl k⟩
/-- x has the order n if x^n = 1 and no x^(n / r), r a prime divisor of n, is 1. -/
theorem order_test {R : Type} [CR R] {x : R} {n : Nat} (hn : 0 < n) (h1 : npow x n = 1) (hr : ∀ r, IsP r → r ∣ n → npow x (n / r) ≠ 1) : HasOrder x n := by
  obtain ⟨m, hm, hmn⟩ := exists_order hn h1
  by_cases e : m = n
  · rw [← e]; exact hm
  · exfalso
    obtain ⟨k, rfl⟩ := hmn
    have hm0 := hm.1
    have hk : 1 < k := by
      rcases Nat.lt_or_ge 1 k with h | h
      · exact h
      · have : k = 0 ∨ k = 1 := by omega
        rcases this with rfl | rfl
        · simp at hn
        · simp at e
    obtain ⟨r, hrp, c, rfl⟩ := prime_factor k hk
    refine hr r hrp ⟨m * c, by rw [Nat.mul_left_comm]⟩ ?_
    have hr0 : 0 < r := by have := hrp.1; omega
    rw [Nat.mul_left_comm, Nat.mul_div_cancel_left _ hr0, npow_mul, hm.2.1, one_npow]
end Go.Fd
