/-
  The parameters of the list decoder in plain numbers: terms up to a weighted degree, the least degree with more terms than conditions, the first multiplicity that suffices, the greatest radius.
-/
import Derived.Test.YtmnojknfjbimdaaGreatWMSxa
namespace Go.Ld
def tmJ (d w : Int) : Nat → Int
  | 0 => 0
  | j + 1 => tmJ d w j + (d - w * j + 1)
def tm (d w : Int) : Int := tmJ d w (d / w).toNat.succ
theorem tmJ_pos (d w : Int) (hd : 0 ≤ d) (hw : 1 ≤ w) : ∀ j : Nat, (j = 0 ∨ w * (j - 1 : Int) ≤ d) → (0 < j → d + 1 ≤ tmJ d w j) ∧ 0 ≤ tmJ d w j ∧ tmJ d w j ≤ j * (d + 1)
  | 0, _ => ⟨by omega, by simp [tmJ], by simp [tmJ]⟩
  | j + 1, h => by
    have h : w * (j : Int) ≤ d := by
      rcases h with h | h
      · omega
      · simpa using h
    have hj : 0 ≤ w * (j : Int) := Int.mul_nonneg (by omega) (by omega)
    have ih := tmJ_pos d w hd hw j (by
      right
      have : w * (j - 1 : Int) = w * j - w := by rw [Int.mul_sub, Int.mul_one]
      omega)
    have e : ((j + 1 : Nat) : Int) * (d + 1) = j * (d + 1) + (d + 1) := by
      rw [Int.natCast_add, Int.add_mul]; simp
    simp only [tmJ]
    rw [e]
    refine ⟨fun _ => ?_, by omega, by omega⟩
    rcases Nat.eq_zero_or_pos j with rfl | h0
    · simp [tmJ]
    · have := ih.1 h0
      omega
theorem mul_div_le (d w : Int) (hw : 1 ≤ w) : w * (d / w) ≤ d := Int.mul_ediv_self_le (by omega)
theorem tm_ge (d w : Int) (hd : 0 ≤ d) (hw : 1 ≤ w) : d + 1 ≤ tm d w := by
  have h0 : 0 ≤ d / w := Int.ediv_nonneg hd (by omega)
  refine (tmJ_pos d w hd hw (d / w).toNat.succ (.inr ?_)).1 (by omega)
  have e : (((d / w).toNat.succ : Nat) : Int) - 1 = d / w := by omega
  rw [e]
  exact mul_div_le d w hw
def degF (c w : Int) : Nat → Int → Int
  | 0, d => d
  | f + 1, d => if tm d w ≤ c then degF c w f (d + 1) else d
def deg (c w : Int) : Int := degF c w 9000 0
theorem degF_step {c w d : Int} {f : Nat} (hd : 0 ≤ d) (hw : 1 ≤ w) (hc : c ≤ 8000) (hf : f = (9000 - d).toNat) (h : tm d w ≤ c) : degF c w f d = degF c w (9000 - (d + 1)).toNat (d + 1) := by
  have := tm_ge d w hd hw
  obtain ⟨g, hg⟩ : ∃ g, f = g + 1 := ⟨f - 1, by omega⟩
  rw [hg, degF, if_pos h]
  congr 1
  omega
theorem degF_stop {c w d : Int} {f : Nat} (h : ¬ tm d w ≤ c) : degF c w f d = d := by
  cases f <;> simp [degF, h]
def wt (k : Int) : Int := max (k - 1) 1
def cost (n m : Int) : Int := n * m * (m + 1) / 2
def okB (n k t m : Int) : Bool := decide (cost n m ≤ 4096) && (decide (deg (cost n m) (wt k) / wt k ≤ 64) && decide (deg (cost n m) (wt k) < m * (n - t)))
def parF (n k t : Int) : Nat → Int → List Int × Int
  | 0, _ => ([0, 0, 0], 11)
  | f + 1, m => if okB n k t m then ([m, deg (cost n m) (wt k), deg (cost n m) (wt k) / wt k], 0) else parF n k t f (m + 1)
def bad (n k t : Int) : Bool := decide (n < 1) || decide (64 < n) || decide (k < 0) || decide (n < k) || decide (t < 0) || decide (n < t)
def par (n k t : Int) : List Int × Int := if bad n k t then ([0, 0, 0], 6) else parF n k t 16 1
theorem cost_mono {n m : Int} (hn : 0 ≤ n) (hm : 0 ≤ m) : cost n m ≤ cost n (m + 1) := by
  unfold cost
  have h1 : n * m ≤ n * (m + 1) := Int.mul_le_mul_of_nonneg_left (by omega) hn
  have h2 : n * m * (m + 1) ≤ n * (m + 1) * (m + 1 + 1) := Int.mul_le_mul h1 (by omega) (by omega) (Int.mul_nonneg hn (by omega))
  omega
theorem parF_big {n k t : Int} (hn : 0 ≤ n) : ∀ (f : Nat) (m : Int), 0 ≤ m → 4096 < cost n m → parF n k t f m = ([0, 0, 0], 11)
  | 0, _, _, _ => rfl
  | f + 1, m, hm, hc => by
    have := cost_mono hn hm
    rw [parF, if_neg (by simp [okB]; omega), parF_big hn f (m + 1) (by omega) (by omega)]
theorem cost_le {n m : Int} (hn : 0 ≤ n ∧ n ≤ 64) (hm : 0 ≤ m ∧ m ≤ 17) : (0 ≤ n * m ∧ n * m ≤ 1088) ∧ (0 ≤ n * m * (m + 1) ∧ n * m * (m + 1) ≤ 19584) := by
  have h0 : 0 ≤ n * m := Int.mul_nonneg hn.1 hm.1
  have h1 : n * m ≤ 64 * 17 := Int.mul_le_mul hn.2 hm.2 hm.1 (by omega)
  have h2 : n * m * (m + 1) ≤ 64 * 17 * 18 := Int.mul_le_mul h1 (by omega) (by omega) (by omega)
  exact ⟨⟨h0, by omega⟩, Int.mul_nonneg h0 (by omega), by omega⟩
theorem deg_bound {c w : Int} (hw : 1 ≤ w) : ∀ (f : Nat) (d : Int), 0 ≤ d → d ≤ c.toNat + 1 → 0 ≤ degF c w f d ∧ degF c w f d ≤ c.toNat + 1
  | 0, d, h, h1 => ⟨h, h1⟩
  | f + 1, d, h, h1 => by
    rw [degF]
    split
    · rename_i hc
      have := tm_ge d w h hw
      exact deg_bound hw f (d + 1) (by omega) (by omega)
    · exact ⟨h, h1⟩
theorem parF_err (n k t : Int) : ∀ f m, (parF n k t f m).2 = 0 ∨ (parF n k t f m).2 = 11
  | 0, _ => .inr rfl
  | f + 1, m => by
    rw [parF]
    split
    · exact .inl rfl
    · exact parF_err n k t f (m + 1)
theorem parF_len (n k t : Int) : ∀ f m, (parF n k t f m).1.length = 3
  | 0, _ => rfl
  | f + 1, m => by
    rw [parF]
    split
    · rfl
    · exact parF_len n k t f (m + 1)
theorem par_len (n k t : Int) : (par n k t).1.length = 3 := by
  unfold par
  split
  · rfl
  · exact parF_len n k t 16 1
def limF (n k : Int) : Nat → Int
  | 0 => -1
  | s + 1 => if (par n k s).2 = 0 then s else limF n k s
def lim (n k : Int) : Int × Int := if n < 1 ∨ 64 < n ∨ k < 0 ∨ n < k then (0, 6) else if limF n k (n + 1).toNat = -1 then (0, 11) else (limF n k (n + 1).toNat, 0)
theorem alive1 : par 7 2 4 = ([3, 8, 8], 0) := by decide +kernel
theorem alive2 : lim 7 2 = (4, 0) := by decide +kernel
end Go.Ld

