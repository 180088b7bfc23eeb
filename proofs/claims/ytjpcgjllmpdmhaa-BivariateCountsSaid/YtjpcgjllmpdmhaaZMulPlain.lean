/-
  The rounds of the program's multiplication of residues. No program in sight.
-/
import Derived.Test.YtjpcgjllmpdmhaaZFieldGen
import Derived.Test.YtjpcgjllmpdmhaaZMSxa
namespace Go.Fd
open Go.Pl Go.Alg Go Go.Sx
/-- The product after the digits from i on. -/
def ms (P : FP) (x y : Int) (i : Nat) : List Int := tab P.M fun j => H P.M P.md ((dig P.p P.M y).drop i) (vec P x) j % P.p
theorem ms_length (P : FP) (x y : Int) (i : Nat) : (ms P x y i).length = P.M := tab_length _ _
theorem ms_first (P : FP) (x y : Int) : ms P x y P.M = tab P.M fun _ => 0 := by
  have e : (dig P.p P.M y).drop P.M = [] := by
    apply List.drop_eq_nil_of_le
    rw [dig_length]
    exact Nat.le_refl _
  unfold ms
  rw [e]
  exact tab_congr fun t _ => by simp [H, v0]
theorem ms_lo (P : FP) (x y : Int) (i : Nat) : Lo P.p (ms P x y i) := red_lo P _
theorem ms_last (P : FP) (x y : K P) : val P.p (ms P x.1 y.1 0) = (x * y).1 := by
  have e : tab P.M (vec P y.1) = dig P.p P.M y.1 := by
    have hl := dig_length P.p P.M y.1
    rw [list_tab (dig P.p P.M y.1), hl]
    rfl
  show _ = red P (mulV P.M P.md x.v y.v)
  unfold ms red mulV K.v
  rw [e, List.drop_zero]
/-- The list moved up by one place, as copy leaves it, and with 0 in front. -/
def shc (L : List Int) : List Int := tab L.length fun t => if t = 0 then gi L 0 else gi L ((t : Int) - 1)
def sh (L : List Int) : List Int := tab L.length fun t => if t = 0 then 0 else gi L ((t : Int) - 1)
theorem shc_eq (L : List Int) (m : Nat) (hL : L.length = m) (hm : 1 ≤ m) : putAt (L.map (Value.int .i64)) (1 : Int).toNat ((((L.map (Value.int .i64)).drop (0 : Int).toNat).take ((m : Int) - 1 - 0).toNat).take (((L.map (Value.int .i64)).length : Int) - 1).toNat) = (shc L).map (Value.int .i64) := by
  have e1 : (1 : Int).toNat = 1 := rfl
  have e0 : (0 : Int).toNat = 0 := rfl
  have e2 : ((m : Int) - 1 - 0).toNat = m - 1 := by omega
  have e3 : (((L.map (Value.int .i64)).length : Int) - 1).toNat = m - 1 := by simp; omega
  rw [e1, e0, e2, e3]
  subst hL
  apply List.ext_getElem?
  intro j
  simp only [putAt, shc, map_tab, List.getElem?_append, List.length_append, List.length_take, List.length_map, List.length_drop, List.getElem?_take, List.getElem?_drop, List.getElem?_map, List.drop_zero]
  by_cases hj : j < L.length
  · rw [tab_get hj]
    by_cases h0 : j = 0
    · subst h0
      rw [if_pos (by omega), if_pos (by omega), if_pos (by omega)]
      simp [gi, hj]
    · rw [if_pos (by omega), if_neg (by omega), if_pos (by omega), if_pos (by omega), if_neg h0]
      have hk : ((j : Int) - 1).toNat = j - 1 := by omega
      have hlt : j - 1 < L.length := by omega
      have hlt' : j - min 1 L.length = j - 1 := by omega
      simp [gi, hk, hlt, hlt']
  · rw [List.getElem?_eq_none (l := tab _ _) (by rw [tab_length]; omega)]
    rw [if_neg (by omega)]
    rw [List.getElem?_eq_none (by omega)]
    rfl
theorem shc_zero (L : List Int) : si (shc L) 0 0 = sh L := by
  rw [shc, si_tab]
  exact tab_congr fun t _ => by
    by_cases h : t = 0
    · simp [h]
    · simp [h]
/-- The inner loop: the entries below j are new. -/
def mi (P : FP) (x y : Int) (i : Nat) (j : Int) : List Int := tab P.M fun t => if (t : Int) < j then gi (ms P x y i) t else gi (sh (ms P x y (i + 1))) t
theorem mi_length (P : FP) (x y : Int) (i : Nat) (j : Int) : (mi P x y i j).length = P.M := tab_length _ _
theorem mi_first (P : FP) (x y : Int) (i : Nat) : sh (ms P x y (i + 1)) = mi P x y i 0 := by
  have hl : (sh (ms P x y (i + 1))).length = P.M := by rw [sh, tab_length, ms_length]
  rw [list_tab (sh (ms P x y (i + 1))), hl]
  exact tab_congr fun t _ => by rw [if_neg (by omega)]; simp [gi]
theorem mi_last (P : FP) (x y : Int) (i : Nat) : mi P x y i P.M = ms P x y i := by
  rw [list_tab (ms P x y i), ms_length]
  exact tab_congr fun t ht => by rw [if_pos (by omega)]; simp [gi]
theorem mi_get (P : FP) (x y : Int) (i : Nat) {j : Int} (h0 : 0 ≤ j) (h1 : j < P.M) : gi (mi P x y i j) j = gi (sh (ms P x y (i + 1))) j := by
  rw [mi, gi_tab (by omega) h0, if_neg (by omega)]
  congr 1
  omega
theorem sh_get (L : List Int) {j : Int} (h0 : 0 ≤ j) (h1 : j < L.length) : gi (sh L) j = if j = 0 then 0 else gi L (j - 1) := by
  rw [sh, gi_tab (by omega) h0]
  by_cases h : j = 0
  · rw [if_pos (by omega), if_pos h]
  · rw [if_neg (by omega), if_neg h]
    congr 1
    omega
theorem gi_ms (P : FP) (x y : Int) (i : Nat) {j : Int} (h0 : 0 ≤ j) (h1 : j < P.M) : gi (ms P x y i) j = H P.M P.md ((dig P.p P.M y).drop i) (vec P x) j.toNat % P.p := by
  rw [ms, gi_tab h1 h0]
theorem mi_val (P : FP) (x y : Int) (i : Nat) (hi : i < P.M) {j : Int} (h0 : 0 ≤ j) (h1 : j < P.M) :
    (gi (sh (ms P x y (i + 1))) j + (P.p - gi (ms P x y (i + 1)) (P.M - 1)) * P.md j.toNat + gi (dig P.p P.M y) i * gi (dig P.p P.M x) j) % P.p = gi (ms P x y i) j := by
  have hl := dig_length P.p P.M y
  rw [gi_ms P x y i h0 h1, List.drop_eq_getElem_cons (by omega)]
  simp only [H, vadd, vsm]
  have eb : gi (dig P.p P.M y) i = (dig P.p P.M y)[i]'(by omega) := by simp [gi, hl, hi]
  have ea : gi (dig P.p P.M x) j = vec P x j.toNat := rfl
  rw [eb, ea]
  refine emod_add ?_ rfl
  have hj : ((j.toNat : Nat) : Int) = j := by omega
  have e1 : gi (sh (ms P x y (i + 1))) j % P.p = (match j.toNat with | 0 => 0 | k + 1 => H P.M P.md ((dig P.p P.M y).drop (i + 1)) (vec P x) k) % P.p := by
    rw [sh_get _ h0 (by rw [ms_length]; exact h1)]
    by_cases h : j = 0
    · subst h; rfl
    · rw [if_neg h, gi_ms P x y (i + 1) (by omega) (by omega), Int.emod_emod_of_dvd _ (Int.dvd_refl _)]
      obtain ⟨k, hk⟩ : ∃ k, j.toNat = k + 1 := ⟨j.toNat - 1, by omega⟩
      rw [hk, show (j - 1).toNat = k by omega]
  have e2 : (P.p - gi (ms P x y (i + 1)) (P.M - 1)) * P.md j.toNat % P.p = (- (H P.M P.md ((dig P.p P.M y).drop (i + 1)) (vec P x) (P.M - 1) * P.md j.toNat)) % P.p := by
    rw [← Int.neg_mul]
    refine emod_mul ?_ rfl
    rw [gi_ms P x y (i + 1) (by have := P.hM; omega) (by omega), show ((P.M : Int) - 1).toNat = P.M - 1 by omega]
    have h0' : (P.p - H P.M P.md ((dig P.p P.M y).drop (i + 1)) (vec P x) (P.M - 1) % P.p) % P.p = (0 - H P.M P.md ((dig P.p P.M y).drop (i + 1)) (vec P x) (P.M - 1)) % P.p := emod_sub (by simp) (Int.emod_emod_of_dvd _ (Int.dvd_refl _))
    rw [h0']
    simp
  have := emod_add e1 e2
  unfold S
  cases hk : j.toNat with
  | zero => rw [hk] at this; simpa [Int.sub_eq_add_neg] using this
  | succ k => rw [hk] at this; simpa [Int.sub_eq_add_neg] using this
theorem mi_step (P : FP) (x y : Int) (i : Nat) {j : Int} (h0 : 0 ≤ j) (h1 : j < P.M) : si (mi P x y i j) j (gi (ms P x y i) j) = mi P x y i (j + 1) := by
  rw [mi, si_tab]
  refine tab_congr fun t ht => ?_
  by_cases e : t = j.toNat
  · rw [if_pos e, if_pos (by omega), e]
    congr 1
    omega
  · rw [if_neg e]
    by_cases h : (t : Int) < j
    · rw [if_pos h, if_pos (by omega)]
    · rw [if_neg h, if_neg (by omega)]
theorem dig_get {p : Int} (hp : 2 ≤ p) (m : Nat) (x : Int) {j : Int} (h0 : 0 ≤ j) (h1 : j < m) : 0 ≤ gi (dig p m x) j ∧ gi (dig p m x) j < p := by
  have hl := dig_length p m x
  have hk : j.toNat < (dig p m x).length := by omega
  have := dig_lo hp m x _ (List.getElem_mem hk)
  simpa [gi, hk] using this
end Go.Fd
