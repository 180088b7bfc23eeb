/-
  Lists that a loop fills entry by entry; products of polynomials term by term. No program in sight.
-/
import Derived.Test.YtjpcgjllmpdmhaaZKPoly
namespace Go.Fd
open Go.Pl Go.Alg
/-- Entries below i are new. -/
def upd (m : Nat) (f g : Nat → Int) (i : Int) : List Int := tab m fun t => if (t : Int) < i then f t else g t
theorem upd_length (m : Nat) (f g : Nat → Int) (i : Int) : (upd m f g i).length = m := tab_length _ _
theorem upd_zero (l : List Int) (f : Nat → Int) : upd l.length f (fun t => l.getD t 0) 0 = l := by
  conv => rhs; rw [list_tab l]
  exact tab_congr fun t _ => if_neg (by omega)
theorem upd_zero' (m : Nat) (f g : Nat → Int) : upd m f g 0 = tab m g := tab_congr fun t _ => if_neg (by omega)
theorem upd_last (m : Nat) (f g : Nat → Int) {i : Int} (h : (m : Int) ≤ i) : upd m f g i = tab m f := tab_congr fun t ht => if_pos (by omega)
theorem upd_get {m : Nat} {f g : Nat → Int} {i : Int} (h0 : 0 ≤ i) (h1 : i < m) : gi (upd m f g i) i = g i.toNat := by
  rw [upd, gi_tab h1 h0, if_neg (by omega)]
theorem upd_get_lo {m : Nat} {f g : Nat → Int} {i j : Int} (h0 : 0 ≤ j) (h1 : j < m) (h : j < i) : gi (upd m f g i) j = f j.toNat := by
  rw [upd, gi_tab h1 h0, if_pos (by omega)]
theorem upd_get_hi {m : Nat} {f g : Nat → Int} {i j : Int} (h0 : 0 ≤ j) (h1 : j < m) (h : i ≤ j) : gi (upd m f g i) j = g j.toNat := by
  rw [upd, gi_tab h1 h0, if_neg (by omega)]
theorem upd_step {m : Nat} {f g : Nat → Int} {i : Int} (h0 : 0 ≤ i) : si (upd m f g i) i (f i.toNat) = upd m f g (i + 1) := by
  rw [upd, si_tab]
  refine tab_congr fun t _ => ?_
  by_cases e : t = i.toNat
  · rw [if_pos e, if_pos (by omega), e]
  · rw [if_neg e]
    by_cases h : (t : Int) < i
    · rw [if_pos h, if_pos (by omega)]
    · rw [if_neg h, if_neg (by omega)]
section
variable {P : FP}
theorem v_lo (x : K P) (j : Nat) (hj : j < P.M) : 0 ≤ x.v j ∧ x.v j < P.p := by
  have hl := dig_length P.p P.M x.1
  have := dig_lo P.hp P.M x.1 _ (List.getElem_mem (h := by rw [hl]; exact hj) : (dig P.p P.M x.1)[j]'(by rw [hl]; exact hj) ∈ _)
  have e : x.v j = (dig P.p P.M x.1)[j]'(by rw [hl]; exact hj) := by
    show (dig P.p P.M x.1).getD j 0 = _
    simp [hl, hj]
  rw [e]
  exact this
theorem gi_v (x : K P) {j : Int} : gi (dig P.p P.M x.1) j = x.v j.toNat := rfl
theorem pe_mstep (l : List Int) {k i j n : Nat} (hk : k = i + j) (hkn : k < n) (hkl : k < l.length) {u a b : Int} (hu : zK P u = zK P (l.getD k 0) + zK P a * zK P b) :
    pe P (fun t => (l.set k u).getD t 0) n = pe P (fun t => l.getD t 0) n + zK P a * npow (xi P) i * (zK P b * npow (xi P) j) := by
  rw [getD_set l k u hkl, pe_set _ k u n hkn, hu, add_assoc, add_comm (zK P a * zK P b), ← add_assoc, add_neg, zero_add, hk, npow_add]
  congr 1
  rw [mul_assoc, mul_assoc, mul_left_comm (zK P b)]
theorem pe_red (l : List Int) {i m : Nat} {t : Int} {Z : K P} (hi : i = m + P.M) (ht : l.getD i 0 = t) (h : pe P (fun t => l.getD t 0) (i + 1) = Z + zK P (-t) * npow (xi P) m * pe P P.md P.M) :
    pe P (fun t => l.getD t 0) i = Z := by
  have e1 : pe P P.md P.M = -npow (xi P) P.M := by rw [xi_top, neg_neg]
  rw [pe, ht, e1, zK_neg, neg_mul, neg_mul, mul_neg, neg_neg, mul_assoc, ← npow_add, ← hi] at h
  exact add_right_cancel h
/-- The sum of the products of the clean entries. -/
def dotK (P : FP) : List Int → List Int → K P
  | x :: a, y :: b => inK P x * inK P y + dotK P a b
  | _, _ => 0
theorem dotK_end {a b : List Int} {i : Int} (h : (a.length : Int) ≤ i ∨ (b.length : Int) ≤ i) : dotK P (a.drop i.toNat) (b.drop i.toNat) = 0 := by
  rcases h with h | h
  · rw [List.drop_eq_nil_of_le (by omega)]; rfl
  · rw [List.drop_eq_nil_of_le (as := b) (by omega)]
    cases a.drop i.toNat <;> rfl
end
end Go.Fd
