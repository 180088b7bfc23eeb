/-
  The ring of residues as polynomials in one element: integers as residues, sums of digits and powers. No program in sight.
-/
import Derived.Test.YtjpcgjllmpdmhaaZMulPlain
namespace Go.Fd
open Go.Pl Go.Alg
section
variable {P : FP}
theorem mk_add (u v : V) : K.mk P (vadd u v) = K.mk P u + K.mk P v := K.mk_eq (Cg.add (K.v_mk u) (K.v_mk v)).symm
theorem mk_neg (u : V) : K.mk P (vneg u) = - K.mk P u := K.mk_eq (Cg.neg (K.v_mk u)).symm
theorem mk_mul (u v : V) : K.mk P (mulV P.M P.md u v) = K.mk P u * K.mk P v := K.mk_eq (mulV_cg (K.v_mk u) (K.v_mk v)).symm
theorem mk_zero : K.mk P v0 = 0 := K.ext ((K.v_mk _).trans v_zero.symm)
theorem mk_one : K.mk P e0 = 1 := K.ext ((K.v_mk _).trans v_one.symm)
/-- An integer as a residue. -/
def zK (P : FP) (z : Int) : K P := K.mk P (vsm z e0)
theorem mk_smul (a : Int) (u : V) : K.mk P (vsm a u) = zK P a * K.mk P u := by
  rw [zK, ← mk_mul]
  refine K.mk_eq ?_
  rw [mulV, H_smul]
  exact Cg.smul rfl (mulV_one u).symm
theorem zK_add (a b : Int) : zK P (a + b) = zK P a + zK P b := by
  unfold zK
  rw [← mk_add]
  congr 1
  funext j
  simp only [vsm, vadd, Int.add_mul]
theorem zK_mul (a b : Int) : zK P (a * b) = zK P a * zK P b := by
  have h := mk_smul (P := P) a (vsm b e0)
  rw [zK.eq_1 P b, ← h, zK]
  congr 1
  funext j
  simp only [vsm, Int.mul_assoc]
theorem zK_zero : zK P 0 = 0 := by
  rw [zK, ← mk_zero]
  congr 1
  funext j
  simp [vsm, v0]
theorem zK_one : zK P 1 = 1 := by
  rw [zK, ← mk_one]
  congr 1
  funext j
  simp [vsm]
theorem zK_neg (a : Int) : zK P (-a) = - zK P a := by
  rw [zK, zK, ← mk_neg]
  congr 1
  funext j
  simp [vsm, vneg, Int.neg_mul]
theorem zK_cg {a b : Int} (h : a % P.p = b % P.p) : zK P a = zK P b := K.mk_eq (Cg.smul h (Cg.refl _))
theorem zK_mod (a : Int) : zK P (a % P.p) = zK P a := zK_cg (Int.emod_emod_of_dvd _ (Int.dvd_refl _))
/-- The element that the polynomials are polynomials in. -/
def xi (P : FP) : K P := K.mk P (S P.M P.md e0)
theorem mk_S (u : V) : K.mk P (S P.M P.md u) = xi P * K.mk P u := by
  rw [xi, ← mk_mul, mulV, H_S]
  exact K.mk_eq (Cg.S (unit_id u).symm)
def ej (n : Nat) : V := fun j => if j = n then 1 else 0
theorem S_ej {n : Nat} (h : n + 1 < P.M) : S P.M P.md (ej n) = ej (n + 1) := by
  funext j
  have e : ej n (P.M - 1) = 0 := if_neg (by omega)
  cases j with
  | zero => simp only [S, e]; simp [ej]
  | succ j => simp only [S, e]; simp [ej]
theorem xi_pow : ∀ n, n < P.M → npow (xi P) n = K.mk P (ej n)
  | 0, _ => by rw [npow_zero, ← mk_one]; rfl
  | n + 1, h => by rw [npow_succ, xi_pow n (by omega), ← S_ej h, mk_S, mul_comm]
/-- The sum of the first n terms of the polynomial with the coefficients c. -/
def pe (P : FP) (c : Nat → Int) : Nat → K P
  | 0 => 0
  | n + 1 => pe P c n + zK P (c n) * npow (xi P) n
theorem pe_congr {c d : Nat → Int} : ∀ n, (∀ j, j < n → c j = d j) → pe P c n = pe P d n
  | 0, _ => rfl
  | n + 1, h => by rw [pe, pe, pe_congr n (fun j hj => h j (by omega)), h n (by omega)]
theorem mk_pe' (u : V) : ∀ n, n ≤ P.M → K.mk P (fun j => if j < n then u j else 0) = pe P u n
  | 0, _ => by
    rw [pe, ← mk_zero]
    congr 1
  | n + 1, h => by
    rw [pe, ← mk_pe' u n (by omega), xi_pow n h, ← mk_smul, ← mk_add]
    congr 1
    funext j
    simp only [vadd, vsm, ej]
    by_cases e : j = n
    · subst e; simp
    · by_cases hj : j < n
      · rw [if_pos (by omega), if_pos hj, if_neg e]; simp
      · rw [if_neg (by omega), if_neg hj, if_neg e]; simp
theorem mk_pe (u : V) : K.mk P u = pe P u P.M := by
  rw [← mk_pe' u P.M (Nat.le_refl _)]
  exact K.mk_eq (Cg.of_eq fun j hj => by rw [if_pos hj])
theorem xi_top : npow (xi P) P.M = - pe P P.md P.M := by
  have hM := P.hM
  obtain ⟨m, hm⟩ : ∃ m, P.M = m + 1 := ⟨P.M - 1, by omega⟩
  rw [← mk_pe, ← mk_neg, hm, npow_succ, xi_pow m (by omega), mul_comm, ← mk_S]
  refine K.mk_eq (Cg.of_eq fun j hj => ?_)
  have e : ej m (P.M - 1) = 1 := if_pos (by omega)
  cases j with
  | zero => simp [S, e, vneg]
  | succ j =>
    have e2 : ej m j = 0 := if_neg (by omega)
    simp [S, e, e2, vneg]
theorem pe_set (c : Nat → Int) (k : Nat) (u : Int) : ∀ n, k < n → pe P (fun t => if t = k then u else c t) n = pe P c n + (zK P u + -zK P (c k)) * npow (xi P) k
  | 0, h => absurd h (by omega)
  | n + 1, h => by
    by_cases e : k = n
    · subst e
      rw [pe, pe, pe_congr (d := c) k (fun j hj => if_neg (by omega)), if_pos rfl, add_mul, neg_mul, add_assoc, add_comm (zK P (c k) * _), add_assoc, neg_add, add_zero]
    · rw [pe, pe, pe_set c k u n (by omega), if_neg (by omega), add_assoc, add_assoc, add_comm ((zK P u + -zK P (c k)) * _)]
theorem pe_out (c : Nat → Int) (k : Nat) (u : Int) (n : Nat) (h : n ≤ k) : pe P (fun t => if t = k then u else c t) n = pe P c n := pe_congr n fun j hj => if_neg (by omega)
theorem pe_zero : ∀ n, pe P (fun _ => 0) n = 0
  | 0 => rfl
  | n + 1 => by rw [pe, pe_zero n, zK_zero, zero_mul, add_zero]
theorem pe_self (x : K P) : pe P x.v P.M = x := by rw [← mk_pe, K.mk_v]
theorem val_pe {l : List Int} (hl : P.M ≤ l.length) (hlo : Lo P.p l) : val P.p (l.take P.M) = (pe P (fun j => l.getD j 0) P.M).1 := by
  rw [← mk_pe]
  show _ = val P.p (tab P.M fun j => l.getD j 0 % P.p)
  congr 1
  apply List.ext_getElem?
  intro j
  by_cases hj : j < P.M
  · have hj' : j < l.length := by omega
    have := hlo _ (List.getElem_mem hj')
    rw [tab_get hj, List.getElem?_take, if_pos hj]
    simp only [List.getD_eq_getElem?_getD, List.getElem?_eq_getElem hj', Option.getD_some]
    rw [Int.emod_eq_of_lt this.1 this.2]
  · rw [List.getElem?_eq_none (by simp; omega), List.getElem?_eq_none (by rw [tab_length]; omega)]
theorem getD_set (l : List Int) (k : Nat) (u : Int) (hk : k < l.length) : (fun t => (l.set k u).getD t 0) = fun t => if t = k then u else l.getD t 0 := by
  funext t
  by_cases e : t = k
  · subst e; simp [hk]
  · rw [if_neg e]; simp [List.getElem?_set_ne (Ne.symm e)]

/-! The clean value of an entry. -/
def inK (P : FP) (z : Int) : K P := if h : 0 ≤ z ∧ z < P.q then ⟨z, h⟩ else 0
theorem inK_in {z : Int} (h : 0 ≤ z ∧ z < P.q) : inK P z = ⟨z, h⟩ := dif_pos h
theorem inK_out {z : Int} (h : ¬ (0 ≤ z ∧ z < P.q)) : inK P z = 0 := dif_neg h
theorem inK_val (x : K P) : inK P x.1 = x := dif_pos x.2
def cln (P : FP) (z : Int) : Int := (inK P z).1
theorem cln_eq (z : Int) : cln P z = if 0 ≤ z ∧ z < P.q then z else 0 := by
  by_cases h : 0 ≤ z ∧ z < P.q
  · rw [cln, inK_in h, if_pos h]
  · rw [cln, inK_out h, if_neg h]; rfl
end

/-! Sums of digits. -/
def ps (p : Int) (f : Nat → Int) : Nat → Int
  | 0 => 0
  | n + 1 => ps p f n + f n * p ^ n
theorem val_snoc (p : Int) (d : Int) : ∀ l : List Int, val p (l ++ [d]) = val p l + d * p ^ l.length
  | [] => by simp [val]
  | a :: l => by
    rw [List.cons_append, val, val, val_snoc p d l, List.length_cons, Int.pow_succ, Int.mul_add, Int.add_assoc, Int.mul_left_comm, Int.mul_comm (p ^ l.length) p]
theorem val_tab (p : Int) (f : Nat → Int) : ∀ n, val p (tab n f) = ps p f n
  | 0 => rfl
  | n + 1 => by
    have e : tab (n + 1) f = tab n f ++ [f n] := by simp [tab, List.range_succ]
    rw [e, val_snoc, val_tab p f n, tab_length, ps]
theorem dig_dd {p : Int} (hp : 2 ≤ p) : ∀ (m : Nat) (x : Int) (j : Nat), 0 ≤ x → j < m → (dig p m x).getD j 0 = x / p ^ j % p
  | 0, _, _, _, h => absurd h (by omega)
  | m + 1, x, 0, _, _ => by simp [dig]
  | m + 1, x, j + 1, hx, h => by
    rw [dig, List.getD_cons_succ, dig_dd hp m (x / p) j (Int.ediv_nonneg hx (by omega)) (by omega), Int.pow_succ, Int.mul_comm (p ^ j) p, Int.ediv_ediv, if_neg (by omega), Int.sub_zero]
theorem ps_congr {p : Int} {f g : Nat → Int} : ∀ n, (∀ j, j < n → f j = g j) → ps p f n = ps p g n
  | 0, _ => rfl
  | n + 1, h => by rw [ps, ps, ps_congr n (fun j hj => h j (by omega)), h n (by omega)]
theorem ps_range {p : Int} (hp : 2 ≤ p) {f : Nat → Int} (hf : ∀ j, 0 ≤ f j ∧ f j < p) : ∀ n, 0 ≤ ps p f n ∧ ps p f n < p ^ n
  | 0 => by simp [ps]
  | n + 1 => by
    have ih := ps_range hp hf n
    have h0 : 0 ≤ p ^ n := by omega
    have h1 := Int.mul_nonneg (hf n).1 h0
    have h2 : f n * p ^ n ≤ (p - 1) * p ^ n := Int.mul_le_mul_of_nonneg_right (by have := (hf n).2; omega) h0
    rw [Int.sub_mul, Int.one_mul] at h2
    rw [ps, Int.pow_succ, Int.mul_comm (p ^ n) p]
    omega
theorem ps_more {p : Int} {f : Nat → Int} {k : Nat} (h : ∀ j, k ≤ j → f j = 0) : ∀ n, k ≤ n → ps p f n = ps p f k
  | 0, hn => by
    have : k = 0 := by omega
    rw [this]
  | n + 1, hn => by
    by_cases e : k = n + 1
    · rw [e]
    · rw [ps, ps_more h n (by omega), h n (by omega), Int.zero_mul, Int.add_zero]
def da (p x y : Int) (j : Nat) : Int := (x / p ^ j % p + y / p ^ j % p) % p
def dn (p x : Int) (j : Nat) : Int := (p - x / p ^ j % p) % p
section
variable {P : FP}
theorem add_ps (x y : K P) : (x + y).1 = ps P.p (da P.p x.1 y.1) P.M := by
  show val P.p (tab P.M fun j => vadd x.v y.v j % P.p) = _
  rw [val_tab]
  refine ps_congr _ fun j hj => ?_
  simp only [vadd, K.v, vec]
  rw [dig_dd P.hp _ _ _ x.2.1 hj, dig_dd P.hp _ _ _ y.2.1 hj]
  rfl
theorem neg_ps (x : K P) : (-x).1 = ps P.p (dn P.p x.1) P.M := by
  show val P.p (tab P.M fun j => vneg x.v j % P.p) = _
  rw [val_tab]
  refine ps_congr _ fun j hj => ?_
  simp only [vneg, K.v, vec]
  rw [dig_dd P.hp _ _ _ x.2.1 hj, dn]
  rw [show (P.p - x.1 / P.p ^ j % P.p) = (-(x.1 / P.p ^ j % P.p) + P.p * 1) by omega, Int.add_mul_emod_self_left]
end
theorem xor_low (a b : Nat) : a ^^^ b = 2 * ((a / 2) ^^^ (b / 2)) + (a % 2 + b % 2) % 2 := by
  have h1 : (a ^^^ b) / 2 = (a / 2) ^^^ (b / 2) := Nat.xor_div_two
  have h2 : (a ^^^ b) % 2 = (a % 2 + b % 2) % 2 := by
    have h := Nat.testBit_xor a b 0
    simp only [Nat.testBit_zero] at h
    have ha := Nat.mod_two_eq_zero_or_one a
    have hb := Nat.mod_two_eq_zero_or_one b
    have hc := Nat.mod_two_eq_zero_or_one (a ^^^ b)
    rcases ha with ha | ha <;> rcases hb with hb | hb <;> rcases hc with hc | hc <;> simp [ha, hb, hc] at h ⊢
  omega
theorem ps_low (p : Int) (f : Nat → Int) : ∀ n, ps p f (n + 1) = f 0 + p * ps p (fun j => f (j + 1)) n
  | 0 => by simp [ps]
  | n + 1 => by
    have e : f (n + 1) * (p ^ n * p) = p * (f (n + 1) * p ^ n) := by rw [Int.mul_comm (p ^ n) p, Int.mul_left_comm]
    rw [ps, ps_low p f n, ps, Int.mul_add, Int.pow_succ, Int.add_assoc, e]
theorem xor_ps : ∀ (n : Nat) (a b : Nat), a < 2 ^ n → b < 2 ^ n → ((a ^^^ b : Nat) : Int) = ps 2 (da 2 a b) n
  | 0, a, b, ha, hb => by
    have : a = 0 := by simpa using ha
    have : b = 0 := by simpa using hb
    subst a b
    rfl
  | n + 1, a, b, ha, hb => by
    have hs := xor_ps n (a / 2) (b / 2) (by rw [Nat.pow_succ] at ha; omega) (by rw [Nat.pow_succ] at hb; omega)
    have e : ps 2 (fun j => da 2 a b (j + 1)) n = ps 2 (da 2 (a / 2 : Nat) (b / 2 : Nat)) n := by
      refine ps_congr _ fun j _ => ?_
      unfold da
      rw [Int.pow_succ, Int.mul_comm (2 ^ j) 2, Int.natCast_ediv, Int.natCast_ediv, Int.ediv_ediv, if_neg (by omega), Int.sub_zero, Int.ediv_ediv, if_neg (by omega), Int.sub_zero]
      rfl
    have h0 : da 2 a b 0 = ((a % 2 + b % 2) % 2 : Nat) := by
      unfold da
      simp
    rw [ps_low, e, ← hs, h0, xor_low a b]
    omega
end Go.Fd
