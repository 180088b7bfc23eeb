/-
  Words as numbers: how many there are, the number of a word, the word of a number, and the lexicographic order. No program in sight.
-/
import Derived.Test.YtlcokneidokfnaaWordP
namespace Go.Fd
open Go.Pl Go.Alg
theorem pw_pos {q : Int} (hq : 2 ≤ q) (n : Nat) : 1 ≤ q ^ n := by
  have := Int.pow_pos (n := q) (m := n) (by omega)
  omega
theorem pw_mono {q : Int} (hq : 2 ≤ q) {m n : Nat} (h : m ≤ n) : q ^ m ≤ q ^ n := by
  obtain ⟨k, rfl⟩ : ∃ k, n = m + k := ⟨n - m, by omega⟩
  rw [Int.pow_add]
  have h1 := pw_pos hq m
  have h2 := pw_pos hq k
  have := Int.mul_le_mul_of_nonneg_left (c := q ^ m) h2 (by omega)
  rw [Int.mul_one] at this
  exact this
def cntA (q n : Int) : Int × Int := if n < 0 ∨ 64 < n then (0, 6) else if q ^ n.toNat ≤ 65536 then (q ^ n.toNat, 0) else (0, 8)
/-- The number with the first digits. -/
def nvN (q : Int) (c : List Int) : Nat → Int
  | 0 => 0
  | n + 1 => nvN q c n * q + c.getD n 0
theorem nvN_range {q : Int} (hq : 2 ≤ q) {c : List Int} (hc : Lo q c) : ∀ n, n ≤ c.length → 0 ≤ nvN q c n ∧ nvN q c n < q ^ n
  | 0, _ => by simp [nvN]
  | n + 1, h => by
    have ih := nvN_range hq hc n (by omega)
    have hn : n < c.length := by omega
    have h1 := hc _ (List.getElem_mem hn)
    have h2 : c.getD n 0 = c[n] := by simp [hn]
    have h3 := Int.mul_nonneg ih.1 (by omega : 0 ≤ q)
    have h4 : nvN q c n * q ≤ (q ^ n - 1) * q := Int.mul_le_mul_of_nonneg_right (by omega) (by omega)
    rw [Int.sub_mul, Int.one_mul] at h4
    rw [nvN, Int.pow_succ, h2]
    omega
def nvA (q : Int) : Int → List Int → Int
  | n, [] => n
  | n, x :: l => nvA q (n * q + x) l
theorem nvN_drop (q : Int) (c : List Int) : ∀ (k n : Nat), n + k = c.length → nvA q (nvN q c n) (c.drop n) = nvN q c c.length
  | 0, n, h => by rw [List.drop_eq_nil_of_le (by omega), nvA, show n = c.length by omega]
  | k + 1, n, h => by
    rw [List.drop_eq_getElem_cons (by omega), nvA, ← nvN_drop q c k (n + 1) (by omega), nvN]
    simp [show n < c.length by omega]
theorem nvN_A (q : Int) (c : List Int) : nvN q c c.length = nvA q 0 c := by
  have := nvN_drop q c c.length 0 (by omega)
  rw [List.drop_zero] at this
  exact this.symm
theorem nvA_range {q : Int} (hq : 2 ≤ q) : ∀ (l : List Int) (n : Int), Lo q l → n * q ^ l.length ≤ nvA q n l ∧ nvA q n l < (n + 1) * q ^ l.length
  | [], n, _ => by simp [nvA]; omega
  | x :: l, n, h => by
    have hx := h x (List.mem_cons_self ..)
    have ih := nvA_range hq l (n * q + x) fun z hz => h z (List.mem_cons_of_mem _ hz)
    have hp := pw_pos hq l.length
    have e1 : n * q * q ^ l.length ≤ (n * q + x) * q ^ l.length := Int.mul_le_mul_of_nonneg_right (by omega) (by omega)
    have e2 : (n * q + x + 1) * q ^ l.length ≤ (n + 1) * q * q ^ l.length := Int.mul_le_mul_of_nonneg_right (by rw [Int.add_mul]; omega) (by omega)
    rw [nvA, List.length_cons, Int.pow_succ, Int.mul_comm (q ^ l.length) q, ← Int.mul_assoc, ← Int.mul_assoc]
    omega
theorem nvA_lt {q : Int} (hq : 2 ≤ q) {a b : List Int} (hl : a.length = b.length) (ha : Lo q a) (hb : Lo q b) {n m : Int} (h : n < m) : nvA q n a < nvA q m b := by
  have h1 := (nvA_range hq a n ha).2
  have h2 := (nvA_range hq b m hb).1
  have h3 : (n + 1) * q ^ a.length ≤ m * q ^ a.length := Int.mul_le_mul_of_nonneg_right (by omega) (by have := pw_pos hq a.length; omega)
  rw [hl] at h1 h3
  omega
theorem cmp_nv {q : Int} (hq : 2 ≤ q) : ∀ (a b : List Int) (n : Int), a.length = b.length → Lo q a → Lo q b → (cmpL a b < 0 ↔ nvA q n a < nvA q n b) ∧ (cmpL a b = 0 ↔ nvA q n a = nvA q n b)
  | [], [], n, _, _, _ => by simp [cmpL, nvA]
  | x :: a, y :: b, n, hl, ha, hb => by
    simp only [List.length_cons, Nat.add_right_cancel_iff] at hl
    have ha' : Lo q a := fun z hz => ha z (List.mem_cons_of_mem _ hz)
    have hb' : Lo q b := fun z hz => hb z (List.mem_cons_of_mem _ hz)
    rw [cmpL, nvA, nvA]
    by_cases h1 : x < y
    · have := nvA_lt hq hl ha' hb' (show n * q + x < n * q + y by omega)
      rw [if_pos h1]
      constructor <;> constructor <;> intro _ <;> omega
    · by_cases h2 : y < x
      · have := nvA_lt hq hl.symm hb' ha' (show n * q + y < n * q + x by omega)
        rw [if_neg h1, if_pos h2]
        constructor <;> constructor <;> intro _ <;> omega
      · have e : x = y := by omega
        subst e
        rw [if_neg h1, if_neg h1]
        exact cmp_nv hq a b _ hl ha' hb'
def idxA (P : FP) (l : List Int) : Int × Int := if (cntA P.q l.length).2 ≠ 0 then (0, (cntA P.q l.length).2) else (nvN P.q (clean P l) l.length, 0)
/-- The word of length n with the number i. -/
def fiw (q : Int) (n : Nat) (i : Int) : List Int := tab n fun k => i / q ^ (n - 1 - k) % q
def fiA (q n i : Int) : List Int × Int := if (cntA q n).2 ≠ 0 then ([], (cntA q n).2) else if i < 0 ∨ (cntA q n).1 ≤ i then ([], 6) else (fiw q n.toNat i, 0)
theorem fiw_lo {q : Int} (hq : 2 ≤ q) (n : Nat) (i : Int) : Lo q (fiw q n i) := fun z hz => by
  simp only [fiw, tab, List.mem_map] at hz
  obtain ⟨k, _, rfl⟩ := hz
  exact ⟨Int.emod_nonneg _ (by omega), Int.emod_lt_of_pos _ (by omega)⟩
theorem fiw_nv {q : Int} (hq : 2 ≤ q) (n : Nat) {i : Int} (h0 : 0 ≤ i) (h1 : i < q ^ n) : ∀ m, m ≤ n → nvN q (fiw q n i) m = i / q ^ (n - m)
  | 0, _ => by rw [nvN, Nat.sub_zero, Int.ediv_eq_zero_of_lt h0 h1]
  | m + 1, h => by
    have hp := pw_pos hq (n - 1 - m)
    rw [nvN, fiw_nv hq n h0 h1 m (by omega), fiw, getD_tab (by omega), show n - m = (n - 1 - m) + 1 by omega, Int.pow_succ, show n - (m + 1) = n - 1 - m by omega, ← Int.ediv_ediv_of_nonneg (by omega), Int.mul_comm, Int.mul_ediv_add_emod]
theorem clean_lo {P : FP} (l : List Int) : Lo P.q (clean P l) := fun z hz => by
  simp only [clean, tab, List.mem_map] at hz
  obtain ⟨k, _, rfl⟩ := hz
  exact (kt P l k).2
theorem clean_of_lo {P : FP} {l : List Int} (h : Lo P.q l) : clean P l = l := by
  rw [clean]
  conv => rhs; rw [list_tab l]
  refine tab_congr fun t ht => ?_
  have h1 := h _ (List.getElem_mem ht)
  have e : l.getD t 0 = l[t] := by simp [ht]
  rw [kt, e, inK_in h1]
theorem fiA_back {P : FP} {n i : Int} (h : (fiA P.q n i).2 = 0) : idxA P (fiA P.q n i).1 = (i, 0) := by
  have hq := P.q_two
  rw [fiA] at h ⊢
  by_cases hc : (cntA P.q n).2 ≠ 0
  · rw [if_pos hc] at h
    exact absurd h hc
  · rw [if_neg hc] at h ⊢
    by_cases hi : i < 0 ∨ (cntA P.q n).1 ≤ i
    · rw [if_pos hi] at h
      simp at h
    · rw [if_neg hi]
      have hn : ¬ (n < 0 ∨ 64 < n) := fun hn => hc (by rw [cntA, if_pos hn]; simp)
      have hp : P.q ^ n.toNat ≤ 65536 := Classical.byContradiction fun hp => hc (by rw [cntA, if_neg hn, if_neg hp]; simp)
      have ht : (cntA P.q n).1 = P.q ^ n.toNat := by rw [cntA, if_neg hn, if_pos hp]
      rw [ht] at hi
      have hl : (fiw P.q n.toNat i).length = n.toNat := tab_length _ _
      have hc2 : (cntA P.q (fiw P.q n.toNat i).length).2 = 0 := by
        rw [hl, show ((n.toNat : Nat) : Int) = n by omega]
        exact Decidable.not_not.1 hc
      rw [idxA, if_neg (by rw [hc2]; simp), clean_of_lo (fiw_lo hq _ _), hl, fiw_nv hq _ (by omega) (by omega) _ (Nat.le_refl _), Nat.sub_self, Int.pow_zero, Int.ediv_one]
end Go.Fd
