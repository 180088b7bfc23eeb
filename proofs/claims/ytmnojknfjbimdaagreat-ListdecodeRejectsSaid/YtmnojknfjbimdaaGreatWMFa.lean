/-
  Commutative rings and fields, as far as these proofs want them; powers; orders of elements. No program in sight. Residues modulo a monic polynomial over the integers modulo p, as numbers below p^M: they are a commutative ring. No program in sight. Where some residue has the greatest order, the residues are a field, and each of them but 0 is a power of that one. No program in sight. Multiplication of residues on lists of digits (natural numbers), fit for the kernel; it is the multiplication of the ring of residues. No program in sight. Trial division of polynomials, as the reference does it. No program in sight. For each shape of a field of at most 256 elements, by computation: a polynomial is irreducible by trial division just if some residue has the greatest order. No program in sight. The rounds of the program's multiplication of residues. No program in sight. The powers of a residue until one repeats or is 0. No program in sight.
-/
import Derived.Test.YtmnojknfjbimdaaGreatWMSxa
namespace Go.Alg
class CR (R : Type) extends Add R, Mul R, Neg R, Zero R, One R where
  add_assoc : ∀ a b c : R, a + b + c = a + (b + c)
  add_comm : ∀ a b : R, a + b = b + a
  zero_add : ∀ a : R, 0 + a = a
  neg_add : ∀ a : R, -a + a = 0
  mul_assoc : ∀ a b c : R, a * b * c = a * (b * c)
  mul_comm : ∀ a b : R, a * b = b * a
  one_mul : ∀ a : R, 1 * a = a
  mul_add : ∀ a b c : R, a * (b + c) = a * b + a * c
section
variable {R : Type} [CR R]
theorem add_assoc (a b c : R) : a + b + c = a + (b + c) := CR.add_assoc a b c
theorem add_comm (a b : R) : a + b = b + a := CR.add_comm a b
theorem mul_assoc (a b c : R) : a * b * c = a * (b * c) := CR.mul_assoc a b c
theorem mul_comm (a b : R) : a * b = b * a := CR.mul_comm a b
theorem add_left_comm (a b c : R) : a + (b + c) = b + (a + c) := by rw [← add_assoc, add_comm a b, add_assoc]
theorem mul_left_comm (a b c : R) : a * (b * c) = b * (a * c) := by rw [← mul_assoc, mul_comm a b, mul_assoc]
theorem zero_add (a : R) : 0 + a = a := CR.zero_add a
theorem add_zero (a : R) : a + 0 = a := by rw [add_comm, zero_add]
theorem neg_add (a : R) : -a + a = 0 := CR.neg_add a
theorem add_neg (a : R) : a + -a = 0 := by rw [add_comm, neg_add]
theorem one_mul (a : R) : 1 * a = a := CR.one_mul a
theorem mul_one (a : R) : a * 1 = a := by rw [mul_comm, one_mul]
theorem mul_add (a b c : R) : a * (b + c) = a * b + a * c := CR.mul_add a b c
theorem add_mul (a b c : R) : (a + b) * c = a * c + b * c := by rw [mul_comm, mul_add, mul_comm c a, mul_comm c b]
theorem add_left_cancel {a b c : R} (h : a + b = a + c) : b = c := by
  have : -a + (a + b) = -a + (a + c) := by rw [h]
  rwa [← add_assoc, ← add_assoc, neg_add, zero_add, zero_add] at this
theorem add_right_cancel {a b c : R} (h : b + a = c + a) : b = c := by
  rw [add_comm b a, add_comm c a] at h
  exact add_left_cancel h
theorem mul_zero (a : R) : a * 0 = 0 := by
  have h : a * 0 + a * 0 = a * 0 + 0 := by rw [← mul_add, zero_add, add_zero]
  exact add_left_cancel h
theorem zero_mul (a : R) : 0 * a = 0 := by rw [mul_comm, mul_zero]
theorem neg_of_add {a b : R} (h : a + b = 0) : b = -a := by
  apply add_left_cancel (a := a)
  rw [h, add_neg]
theorem neg_neg (a : R) : - -a = a := (neg_of_add (neg_add a)).symm
theorem neg_zero : -(0 : R) = 0 := (neg_of_add (zero_add (0 : R))).symm
theorem neg_mul (a b : R) : -a * b = -(a * b) := by
  apply neg_of_add
  rw [← add_mul, add_neg, zero_mul]
theorem mul_neg (a b : R) : a * -b = -(a * b) := by rw [mul_comm, neg_mul, mul_comm]
theorem neg_inj {a b : R} (h : -a = -b) : a = b := by rw [← neg_neg a, h, neg_neg]
theorem eq_of_add_neg {a b : R} (h : a + -b = 0) : a = b := by
  have h1 := neg_of_add h
  exact (neg_inj h1).symm
def npow (a : R) : Nat → R
  | 0 => 1
  | n + 1 => npow a n * a
theorem npow_zero (a : R) : npow a 0 = 1 := rfl
theorem npow_succ (a : R) (n : Nat) : npow a (n + 1) = npow a n * a := rfl
theorem npow_one (a : R) : npow a 1 = a := one_mul a
theorem npow_add (a : R) (m : Nat) : ∀ n, npow a (m + n) = npow a m * npow a n
  | 0 => by rw [npow_zero, mul_one]; rfl
  | n + 1 => by rw [← Nat.add_assoc, npow_succ, npow_add a m n, npow_succ, mul_assoc]
theorem npow_mul (a : R) (m : Nat) : ∀ n, npow a (m * n) = npow (npow a m) n
  | 0 => rfl
  | n + 1 => by rw [Nat.mul_succ, npow_add, npow_mul a m n, npow_succ]
theorem one_npow : ∀ n, npow (1 : R) n = 1
  | 0 => rfl
  | n + 1 => by rw [npow_succ, one_npow n, one_mul]
theorem zero_npow {n : Nat} (h : 0 < n) : npow (0 : R) n = 0 := by
  obtain ⟨m, rfl⟩ : ∃ m, n = m + 1 := ⟨n - 1, by omega⟩
  rw [npow_succ, mul_zero]
end
class Fld (K : Type) extends CR K where
  one_ne : (1 : K) ≠ 0
  inv : K → K
  mul_inv : ∀ a : K, a ≠ 0 → a * inv a = 1
section
variable {K : Type} [Fld K]
theorem one_ne : (1 : K) ≠ 0 := Fld.one_ne
theorem mul_inv {a : K} (h : a ≠ 0) : a * Fld.inv a = 1 := Fld.mul_inv a h
end
section
variable {R : Type} [CR R]
def HasOrder (x : R) (n : Nat) : Prop := 0 < n ∧ npow x n = 1 ∧ ∀ k, 0 < k → k < n → npow x k ≠ 1
theorem npow_mod {x : R} {n : Nat} (hx : npow x n = 1) (k : Nat) : npow x k = npow x (k % n) := by
  have h : npow x k = npow x (n * (k / n) + k % n) := by rw [Nat.div_add_mod]
  rw [h, npow_add, npow_mul, hx, one_npow, one_mul]
theorem HasOrder.dvd {x : R} {n k : Nat} (h : HasOrder x n) (hk : npow x k = 1) : n ∣ k := by
  obtain ⟨h0, h1, h2⟩ := h
  rw [npow_mod h1] at hk
  rcases Nat.eq_zero_or_pos (k % n) with hm | hm
  · exact Nat.dvd_of_mod_eq_zero hm
  · exact absurd hk (h2 _ hm (Nat.mod_lt _ h0))
theorem exists_order {x : R} : ∀ {n : Nat}, 0 < n → npow x n = 1 → ∃ m, HasOrder x m ∧ m ∣ n := by
  intro n
  induction n using Nat.strongRecOn with
  | _ n ih =>
    intro h0 h1
    by_cases h : ∃ k, 0 < k ∧ k < n ∧ npow x k = 1
    · obtain ⟨k, hk0, hk, hk1⟩ := h
      obtain ⟨m, hm, _⟩ := ih k hk hk0 hk1
      exact ⟨m, hm, hm.dvd h1⟩
    · exact ⟨n, ⟨h0, h1, fun k hk0 hk hk1 => h ⟨k, hk0, hk, hk1⟩⟩, Nat.dvd_refl n⟩
end
end Go.Alg


namespace Go.Fd
open Go.Pl Go.Alg
abbrev V := Nat → Int
def vadd (f g : V) : V := fun j => f j + g j
def vsm (c : Int) (f : V) : V := fun j => c * f j
def vneg (f : V) : V := fun j => - f j
def v0 : V := fun _ => 0
def e0 : V := fun j => if j = 0 then 1 else 0
def S (M : Nat) (md : V) (f : V) : V := fun j => (match j with | 0 => 0 | j + 1 => f j) - f (M - 1) * md j
def H (M : Nat) (md : V) : List Int → V → V
  | [], _ => v0
  | b :: bs, a => vadd (S M md (H M md bs a)) (vsm b a)
section
variable {M : Nat} {md : V}
theorem S_add (f g : V) : S M md (vadd f g) = vadd (S M md f) (S M md g) := by
  funext j
  cases j <;> simp only [S, vadd, Int.add_mul] <;> omega
theorem S_smul (c : Int) (f : V) : S M md (vsm c f) = vsm c (S M md f) := by
  funext j
  cases j <;> simp only [S, vsm, Int.mul_sub, Int.mul_assoc, Int.mul_zero]
theorem S_zero : S M md v0 = v0 := by
  funext j
  cases j <;> simp [S, v0]
theorem vsm_add (c : Int) (f g : V) : vsm c (vadd f g) = vadd (vsm c f) (vsm c g) := by
  funext j
  simp only [vsm, vadd, Int.mul_add]
theorem vsm_smul (c d : Int) (f : V) : vsm c (vsm d f) = vsm d (vsm c f) := by
  funext j
  simp only [vsm]
  rw [← Int.mul_assoc, ← Int.mul_assoc, Int.mul_comm c d]
theorem vadd_four (a b c d : V) : vadd (vadd a b) (vadd c d) = vadd (vadd a c) (vadd b d) := by
  funext j
  simp only [vadd]
  omega
theorem vadd_zero (a : V) : vadd a v0 = a := by funext j; simp [vadd, v0]
theorem H_add : ∀ (bs : List Int) (f g : V), H M md bs (vadd f g) = vadd (H M md bs f) (H M md bs g)
  | [], f, g => by simp only [H]; rw [vadd_zero]
  | b :: bs, f, g => by
    simp only [H]
    rw [H_add bs f g, S_add, vsm_add, vadd_four]
theorem H_smul (c : Int) : ∀ (bs : List Int) (f : V), H M md bs (vsm c f) = vsm c (H M md bs f)
  | [], f => by funext j; simp [H, vsm, v0]
  | b :: bs, f => by
    simp only [H]
    rw [H_smul c bs f, S_smul, vsm_add, vsm_smul]
theorem H_S : ∀ (bs : List Int) (f : V), H M md bs (S M md f) = S M md (H M md bs f)
  | [], f => by simp only [H]; rw [S_zero]
  | b :: bs, f => by
    simp only [H]
    rw [H_S bs f, S_add, S_smul]
theorem H_comm : ∀ (bs cs : List Int) (f : V), H M md bs (H M md cs f) = H M md cs (H M md bs f)
  | [], cs, f => by
    simp only [H]
    have e : (v0 : V) = vsm 0 v0 := by funext j; simp [vsm, v0]
    rw [e, H_smul]
    funext j; simp [vsm]
  | b :: bs, cs, f => by
    simp only [H]
    rw [H_comm bs cs f, ← H_S, ← H_smul, ← H_add]
theorem H_e0 : ∀ (bs : List Int), bs.length ≤ M → ∀ j, H M md bs e0 j = bs.getD j 0
  | [], _, j => by simp [H, v0]
  | b :: bs, h, j => by
    simp only [List.length_cons] at h
    have ih := H_e0 bs (by omega)
    have ht : H M md bs e0 (M - 1) = 0 := by
      rw [ih, List.getD_eq_getElem?_getD, List.getElem?_eq_none (by omega)]; rfl
    cases j with
    | zero => simp [H, vadd, vsm, S, ht, e0]
    | succ j => simp [H, vadd, vsm, S, ht, e0, ih]
def Cg (M : Nat) (p : Int) (f g : V) : Prop := ∀ j, j < M → f j % p = g j % p
variable {p : Int}
theorem Cg.refl (f : V) : Cg M p f f := fun _ _ => rfl
theorem Cg.symm {f g : V} (h : Cg M p f g) : Cg M p g f := fun j hj => (h j hj).symm
theorem Cg.trans {f g k : V} (h : Cg M p f g) (h' : Cg M p g k) : Cg M p f k := fun j hj => (h j hj).trans (h' j hj)
theorem Cg.of_eq {f g : V} (h : ∀ j, j < M → f j = g j) : Cg M p f g := fun j hj => by rw [h j hj]
theorem emod_add {a b c d : Int} (h1 : a % p = b % p) (h2 : c % p = d % p) : (a + c) % p = (b + d) % p := by rw [Int.add_emod, h1, h2, ← Int.add_emod]
theorem emod_sub {a b c d : Int} (h1 : a % p = b % p) (h2 : c % p = d % p) : (a - c) % p = (b - d) % p := by rw [Int.sub_emod, h1, h2, ← Int.sub_emod]
theorem emod_mul {a b c d : Int} (h1 : a % p = b % p) (h2 : c % p = d % p) : (a * c) % p = (b * d) % p := by rw [Int.mul_emod, h1, h2, ← Int.mul_emod]
theorem Cg.add {f g f' g' : V} (h : Cg M p f g) (h' : Cg M p f' g') : Cg M p (vadd f f') (vadd g g') := fun j hj => emod_add (h j hj) (h' j hj)
theorem Cg.smul {f g : V} {c d : Int} (hc : c % p = d % p) (h : Cg M p f g) : Cg M p (vsm c f) (vsm d g) := fun j hj => emod_mul hc (h j hj)
theorem Cg.neg {f g : V} (h : Cg M p f g) : Cg M p (vneg f) (vneg g) := fun j hj => by
  have := emod_sub (p := p) (a := 0) (b := 0) rfl (h j hj)
  simpa [vneg] using this
theorem Cg.S {f g : V} (h : Cg M p f g) : Cg M p (S M md f) (S M md g) := fun j hj => by
  have h1 := h (M - 1) (by omega)
  cases j with
  | zero => exact emod_sub rfl (emod_mul h1 rfl)
  | succ j => exact emod_sub (h j (by omega)) (emod_mul h1 rfl)
theorem Cg.H {f g : V} (h : Cg M p f g) : ∀ (bs : List Int), Cg M p (H M md bs f) (H M md bs g)
  | [] => Cg.refl _
  | _ :: bs => (Cg.S (Cg.H h bs)).add (Cg.smul rfl h)
def Cl (p : Int) : List Int → List Int → Prop
  | [], [] => True
  | a :: l, b :: m => a % p = b % p ∧ Cl p l m
  | _, _ => False
theorem Cg.H2 {f : V} : ∀ (bs cs : List Int), Cl p bs cs → Cg M p (Fd.H M md bs f) (Fd.H M md cs f)
  | [], [], _ => Cg.refl _
  | _ :: bs, _ :: cs, h => (Cg.S (Cg.H2 bs cs h.2)).add (Cg.smul h.1 (Cg.refl _))
theorem Cl.of_get : ∀ (l m : List Int), l.length = m.length → (∀ j, j < l.length → l.getD j 0 % p = m.getD j 0 % p) → Cl p l m
  | [], [], _, _ => trivial
  | [], _ :: _, h, _ => by simp at h
  | _ :: _, [], h, _ => by simp at h
  | a :: l, b :: m, h, hg => ⟨by simpa using hg 0 (by simp), Cl.of_get l m (by simpa using h) (fun j hj => by simpa using hg (j + 1) (by simp; omega))⟩
theorem tab_getD {f : V} {j : Nat} (h : j < M) : (tab M f).getD j 0 = f j := by
  rw [List.getD_eq_getElem?_getD, tab_get h]; rfl
theorem Cl.tab {f g : V} (h : Cg M p f g) : Cl p (tab M f) (tab M g) := Cl.of_get _ _ (by simp [tab_length]) (fun j hj => by
  rw [tab_length] at hj
  rw [tab_getD hj, tab_getD hj]
  exact h j hj)
def mulV (M : Nat) (md : V) (u v : V) : V := H M md (tab M v) u
theorem unit_id (u : V) : Cg M p (H M md (tab M u) e0) u := Cg.of_eq fun j hj => by
  rw [H_e0 _ (by rw [tab_length]; exact Nat.le_refl _), tab_getD hj]
theorem mulV_cg {u u' v v' : V} (hu : Cg M p u u') (hv : Cg M p v v') : Cg M p (mulV M md u v) (mulV M md u' v') :=
  (Cg.H hu _).trans (Cg.H2 _ _ (Cl.tab hv))
theorem mulV_comm (u v : V) : Cg M p (mulV M md u v) (mulV M md v u) := by
  have h1 : Cg M p (mulV M md u v) (H M md (tab M v) (H M md (tab M u) e0)) := Cg.H (unit_id u).symm _
  rw [H_comm] at h1
  exact h1.trans (Cg.H (unit_id v) _)
theorem mulV_assoc (u v w : V) : Cg M p (mulV M md (mulV M md u v) w) (mulV M md u (mulV M md v w)) := by
  refine Cg.symm ((mulV_comm u (mulV M md v w)).trans ?_)
  show Cg M p (H M md (tab M u) (H M md (tab M w) v)) _
  rw [H_comm]
  exact Cg.H (mulV_comm v u) _
theorem mulV_one (u : V) : Cg M p (mulV M md e0 u) u := unit_id u
theorem mulV_add (u v w : V) : mulV M md (vadd v w) u = vadd (mulV M md v u) (mulV M md w u) := H_add _ _ _
end
def val (p : Int) : List Int → Int
  | [] => 0
  | d :: ds => d + p * val p ds
def dig (p : Int) : Nat → Int → List Int
  | 0, _ => []
  | m + 1, x => x % p :: dig p m (x / p)
theorem dig_length (p : Int) : ∀ m x, (dig p m x).length = m
  | 0, _ => rfl
  | m + 1, x => by simp [dig, dig_length p m (x / p)]
def Lo (p : Int) (l : List Int) : Prop := ∀ z ∈ l, 0 ≤ z ∧ z < p
theorem dig_lo {p : Int} (hp : 2 ≤ p) : ∀ m x, Lo p (dig p m x)
  | 0, _ => fun z hz => by simp [dig] at hz
  | m + 1, x => fun z hz => by
    simp only [dig, List.mem_cons] at hz
    rcases hz with rfl | hz
    · exact ⟨Int.emod_nonneg _ (by omega), Int.emod_lt_of_pos _ (by omega)⟩
    · exact dig_lo hp m (x / p) z hz
theorem val_range {p : Int} (hp : 2 ≤ p) : ∀ l : List Int, Lo p l → 0 ≤ val p l ∧ val p l < p ^ l.length
  | [], _ => by simp [val]
  | d :: ds, h => by
    have hd := h d (List.mem_cons_self ..)
    have ih := val_range hp ds (fun z hz => h z (List.mem_cons_of_mem _ hz))
    have e : p ^ (d :: ds).length = p * p ^ ds.length := by rw [List.length_cons, Int.pow_succ, Int.mul_comm]
    rw [e]
    have h1 : 0 ≤ p * val p ds := Int.mul_nonneg (by omega) ih.1
    have h2 : p * (val p ds + 1) ≤ p * p ^ ds.length := Int.mul_le_mul_of_nonneg_left (by omega) (by omega)
    rw [Int.mul_add, Int.mul_one] at h2
    simp only [val]
    omega
theorem val_dig {p : Int} (hp : 2 ≤ p) : ∀ (m : Nat) (x : Int), 0 ≤ x → x < p ^ m → val p (dig p m x) = x
  | 0, x, h0, h1 => by simp at h1; simp [dig, val]; omega
  | m + 1, x, h0, h1 => by
    rw [Int.pow_succ] at h1
    have h2 : x / p < p ^ m := Int.ediv_lt_of_lt_mul (by omega) h1
    rw [dig, val, val_dig hp m (x / p) (Int.ediv_nonneg h0 (by omega)) h2]
    exact Int.emod_add_mul_ediv x p
theorem dig_val {p : Int} (hp : 2 ≤ p) : ∀ (l : List Int), Lo p l → dig p l.length (val p l) = l
  | [], _ => rfl
  | d :: ds, h => by
    have hd := h d (List.mem_cons_self ..)
    have ih := dig_val hp ds (fun z hz => h z (List.mem_cons_of_mem _ hz))
    simp only [List.length_cons, dig, val]
    rw [Int.add_mul_emod_self_left, Int.emod_eq_of_lt hd.1 hd.2, Int.add_mul_ediv_left _ _ (by omega), Int.ediv_eq_zero_of_lt hd.1 hd.2, Int.zero_add, ih]
structure FP where
  p : Int
  M : Nat
  md : V
  hp : 2 ≤ p
  hM : 1 ≤ M
def FP.q (P : FP) : Int := P.p ^ P.M
theorem FP.q_two (P : FP) : 2 ≤ P.q := by
  unfold FP.q
  obtain ⟨m, hm⟩ : ∃ m, P.M = m + 1 := ⟨P.M - 1, by have := P.hM; omega⟩
  rw [hm, Int.pow_succ]
  have h1 : 1 ≤ P.p ^ m := by
    have := Int.pow_pos (n := P.p) (m := m) (by have := P.hp; omega)
    omega
  have := Int.mul_le_mul h1 P.hp (by omega) (by omega)
  omega
def vec (P : FP) (x : Int) : V := fun j => (dig P.p P.M x).getD j 0
def red (P : FP) (u : V) : Int := val P.p (tab P.M fun j => u j % P.p)
theorem red_lo (P : FP) (u : V) : Lo P.p (tab P.M fun j => u j % P.p) := fun z hz => by
  simp only [tab, List.mem_map, List.mem_range] at hz
  obtain ⟨j, _, rfl⟩ := hz
  have := P.hp
  exact ⟨Int.emod_nonneg _ (by omega), Int.emod_lt_of_pos _ (by omega)⟩
theorem red_range (P : FP) (u : V) : 0 ≤ red P u ∧ red P u < P.q := by
  have := val_range P.hp _ (red_lo P u)
  rw [tab_length] at this
  exact this
theorem vec_red (P : FP) (u : V) : Cg P.M P.p (vec P (red P u)) u := fun j hj => by
  have h := dig_val P.hp _ (red_lo P u)
  rw [tab_length] at h
  show (dig P.p P.M (val P.p (tab P.M fun j => u j % P.p))).getD j 0 % P.p = _
  rw [h, tab_getD (f := fun j => u j % P.p) hj, Int.emod_emod_of_dvd _ (Int.dvd_refl _)]
theorem red_cg (P : FP) {u v : V} (h : Cg P.M P.p u v) : red P u = red P v := by
  unfold red
  rw [tab_congr (fun t ht => h t ht)]
theorem red_vec (P : FP) {x : Int} (h0 : 0 ≤ x) (h1 : x < P.q) : red P (vec P x) = x := by
  have e : (tab P.M fun j => vec P x j % P.p) = dig P.p P.M x := by
    have hl := dig_length P.p P.M x
    rw [list_tab (dig P.p P.M x), hl]
    refine tab_congr (fun t ht => ?_)
    have hm := dig_lo P.hp P.M x ((dig P.p P.M x).getD t 0) (by
      rw [List.getD_eq_getElem?_getD, List.getElem?_eq_getElem (by omega)]
      exact List.getElem_mem _)
    exact Int.emod_eq_of_lt hm.1 hm.2
  unfold red
  rw [e]
  exact val_dig P.hp P.M x h0 h1
def K (P : FP) := { x : Int // 0 ≤ x ∧ x < P.q }
def K.mk (P : FP) (u : V) : K P := ⟨red P u, red_range P u⟩
def K.v {P : FP} (x : K P) : V := vec P x.1
theorem K.mk_v {P : FP} (x : K P) : K.mk P x.v = x := Subtype.ext (red_vec P x.2.1 x.2.2)
theorem K.v_mk {P : FP} (u : V) : Cg P.M P.p (K.mk P u).v u := vec_red P u
theorem K.ext {P : FP} {x y : K P} (h : Cg P.M P.p x.v y.v) : x = y := by
  rw [← K.mk_v x, ← K.mk_v y]
  exact Subtype.ext (red_cg P h)
theorem K.mk_eq {P : FP} {u v : V} (h : Cg P.M P.p u v) : K.mk P u = K.mk P v := Subtype.ext (red_cg P h)
theorem vec_zero (P : FP) : Cg P.M P.p (vec P 0) v0 := Cg.of_eq fun j _ => by
  have h : ∀ m j, (dig P.p m 0).getD j 0 = 0 := fun m => by
    induction m with
    | zero => intro j; simp [dig]
    | succ m ih =>
      intro j
      cases j with
      | zero => simp [dig]
      | succ j => simpa [dig] using ih j
  exact h P.M j
theorem vec_one (P : FP) : Cg P.M P.p (vec P 1) e0 := Cg.of_eq fun j _ => by
  obtain ⟨m, hm⟩ : ∃ m, P.M = m + 1 := ⟨P.M - 1, by have := P.hM; omega⟩
  have hp := P.hp
  have h : ∀ m j, (dig P.p m 0).getD j 0 = 0 := fun m => by
    induction m with
    | zero => intro j; simp [dig]
    | succ m ih =>
      intro j
      cases j with
      | zero => simp [dig]
      | succ j => simpa [dig] using ih j
  have e1 : (1 : Int) % P.p = 1 := Int.emod_eq_of_lt (by omega) (by omega)
  have e2 : (1 : Int) / P.p = 0 := Int.ediv_eq_zero_of_lt (by omega) (by omega)
  unfold vec
  rw [hm, dig, e1, e2]
  cases j with
  | zero => rfl
  | succ j => simpa [e0] using h m j
instance (P : FP) : Add (K P) := ⟨fun x y => K.mk P (vadd x.v y.v)⟩
instance (P : FP) : Mul (K P) := ⟨fun x y => K.mk P (mulV P.M P.md x.v y.v)⟩
instance (P : FP) : Neg (K P) := ⟨fun x => K.mk P (vneg x.v)⟩
instance (P : FP) : Zero (K P) := ⟨⟨0, by have := P.q_two; omega⟩⟩
instance (P : FP) : One (K P) := ⟨⟨1, by have := P.q_two; omega⟩⟩
theorem v_add {P : FP} (x y : K P) : Cg P.M P.p (x + y).v (vadd x.v y.v) := K.v_mk _
theorem v_mul {P : FP} (x y : K P) : Cg P.M P.p (x * y).v (mulV P.M P.md x.v y.v) := K.v_mk _
theorem v_neg {P : FP} (x : K P) : Cg P.M P.p (-x).v (vneg x.v) := K.v_mk _
theorem v_zero {P : FP} : Cg P.M P.p (0 : K P).v v0 := vec_zero P
theorem v_one {P : FP} : Cg P.M P.p (1 : K P).v e0 := vec_one P
instance (P : FP) : CR (K P) where
  add_assoc a b c := K.ext ((v_add _ _).trans ((Cg.add (v_add a b) (Cg.refl _)).trans (Cg.symm ((v_add _ _).trans ((Cg.add (Cg.refl _) (v_add b c)).trans (Cg.of_eq fun j _ => by simp only [vadd]; omega))))))
  add_comm a b := K.ext ((v_add _ _).trans (Cg.symm ((v_add _ _).trans (Cg.of_eq fun j _ => by simp only [vadd]; omega))))
  zero_add a := K.ext ((v_add _ _).trans ((Cg.add v_zero (Cg.refl _)).trans (Cg.of_eq fun j _ => by simp [vadd, v0])))
  neg_add a := K.ext ((v_add _ _).trans ((Cg.add (v_neg a) (Cg.refl _)).trans (Cg.symm (v_zero.trans (Cg.of_eq fun j _ => by simp only [vadd, v0, vneg]; omega)))))
  mul_assoc a b c := K.ext ((v_mul _ _).trans ((mulV_cg (v_mul a b) (Cg.refl _)).trans ((mulV_assoc _ _ _).trans (Cg.symm ((v_mul _ _).trans (mulV_cg (Cg.refl _) (v_mul b c)))))))
  mul_comm a b := K.ext ((v_mul _ _).trans ((mulV_comm _ _).trans (v_mul _ _).symm))
  one_mul a := K.ext ((v_mul _ _).trans ((mulV_cg v_one (Cg.refl _)).trans (mulV_one _)))
  mul_add a b c := K.ext ((v_mul _ _).trans ((mulV_comm _ _).trans ((mulV_cg (v_add b c) (Cg.refl _)).trans (Cg.symm ((v_add _ _).trans (by
    rw [mulV_add]
    exact Cg.add ((v_mul _ _).trans (mulV_comm _ _)) ((v_mul _ _).trans (mulV_comm _ _))))))))
end Go.Fd


namespace Go.Fd
open Go.Pl Go.Alg
theorem pigeon : ∀ (n : Nat) (l : List Nat), l.Nodup → (∀ x ∈ l, x < n) → l.length ≤ n
  | 0, l, _, h => by
    cases l with
    | nil => simp
    | cons x l => exact absurd (h x (by simp)) (by omega)
  | n + 1, l, hn, h => by
    by_cases hm : n ∈ l
    · have h1 := pigeon n (l.erase n) (hn.erase n) (fun x hx => by
        have hx' := (hn.mem_erase_iff).1 hx
        have := h x hx'.2
        have := hx'.1
        omega)
      rw [List.length_erase_of_mem hm] at h1
      omega
    · have := pigeon n l hn (fun x hx => by
        have := h x hx
        have : x ≠ n := fun e => hm (e ▸ hx)
        omega)
      omega
theorem pigeon_all (n : Nat) (l : List Nat) (hn : l.Nodup) (h : ∀ x ∈ l, x < n) (hl : l.length = n) : ∀ y, y < n → y ∈ l := fun y hy => by
  apply Classical.byContradiction
  intro hc
  have := pigeon n (y :: l) (List.nodup_cons.2 ⟨hc, hn⟩) (fun x hx => by
    rcases List.mem_cons.1 hx with rfl | hx
    · exact hy
    · exact h x hx)
  simp at this
  omega
section
variable {P : FP}
theorem zero_val : (0 : K P).1 = 0 := rfl
theorem one_val : (1 : K P).1 = 1 := rfl
theorem one_ne_zero : (1 : K P) ≠ 0 := fun h => by have := congrArg Subtype.val h; rw [zero_val, one_val] at this; omega
def n1 (P : FP) : Nat := (P.q - 1).toNat
theorem n1_pos : 1 ≤ n1 P := by have := P.q_two; unfold n1; omega
theorem n1_eq : ((n1 P : Nat) : Int) = P.q - 1 := by have := P.q_two; unfold n1; omega
theorem pow_unit {R : Type} [CR R] {x : R} {n : Nat} (h : npow x n = 1) {i : Nat} (hi : i ≤ n) : npow x i * npow x (n - i) = 1 := by
  rw [← npow_add, show i + (n - i) = n by omega, h]
theorem pow_inj {R : Type} [CR R] {x : R} {n : Nat} (h : HasOrder x n) {i j : Nat} (hi : i < n) (hj : j < n) (he : npow x i = npow x j) : i = j := by
  have key : ∀ {i j : Nat}, i < j → j < n → npow x i = npow x j → False := fun {i j} hij hj he => by
    refine h.2.2 (j - i) (by omega) (by omega) ?_
    have hu := pow_unit h.2.1 (i := i) (by omega)
    have e : npow x j = npow x i * npow x (j - i) := by rw [← npow_add, show i + (j - i) = j by omega]
    calc npow x (j - i) = (npow x i * npow x (n - i)) * npow x (j - i) := by rw [hu, one_mul]
      _ = npow x (n - i) * (npow x i * npow x (j - i)) := by rw [mul_comm (npow x i), mul_assoc]
      _ = npow x (n - i) * npow x i := by rw [← e, he]
      _ = 1 := by rw [mul_comm, hu]
  rcases Nat.lt_trichotomy i j with hl | hl | hl
  · exact (key hl hj he).elim
  · exact hl
  · exact (key hl hi he.symm).elim
theorem pow_ne {x : K P} {n : Nat} (h : npow x n = 1) {i : Nat} (hi : i ≤ n) : npow x i ≠ 0 := fun e => by
  have := pow_unit h hi
  rw [e, zero_mul] at this
  exact one_ne_zero this.symm
theorem K.pos {y : K P} (h : y ≠ 0) : 1 ≤ y.1 := by
  have := y.2.1
  have : y.1 ≠ 0 := fun e => h (Subtype.ext e)
  omega
theorem gen_all {x : K P} (h : HasOrder x (n1 P)) (y : K P) (hy : y ≠ 0) : ∃ i, i < n1 P ∧ npow x i = y := by
  have hl : ((List.range (n1 P)).map fun i => ((npow x i).1 - 1).toNat).length = n1 P := by simp
  have hpos : ∀ i, i < n1 P → 1 ≤ (npow x i).1 ∧ (npow x i).1 < P.q := fun i hi => ⟨K.pos (pow_ne h.2.1 (by omega)), (npow x i).2.2⟩
  have hn : ((List.range (n1 P)).map fun i => ((npow x i).1 - 1).toNat).Nodup := by
    rw [List.Nodup, List.pairwise_map]
    refine List.Pairwise.imp_of_mem ?_ (List.nodup_range (n := n1 P))
    intro a b ha hb hne he
    rw [List.mem_range] at ha hb
    have h1 := hpos a ha
    have h2 := hpos b hb
    exact hne (pow_inj h ha hb (Subtype.ext (by omega)))
  have hy1 := K.pos hy
  have hy2 := y.2.2
  have := pigeon_all (n1 P) _ hn (fun z hz => by
    obtain ⟨i, hi, rfl⟩ := List.mem_map.1 hz
    have h1 := hpos i (List.mem_range.1 hi)
    have := n1_eq (P := P)
    omega) hl (y.1 - 1).toNat (by have := n1_eq (P := P); omega)
  obtain ⟨i, hi, he⟩ := List.mem_map.1 this
  have hi := List.mem_range.1 hi
  have h1 := hpos i hi
  exact ⟨i, hi, Subtype.ext (by omega)⟩
@[reducible] noncomputable def fldOf {x : K P} (h : HasOrder x (n1 P)) : Fld (K P) where
  one_ne := one_ne_zero
  inv y := open Classical in if hy : y = 0 then 0 else npow x (n1 P - (gen_all h y hy).choose)
  mul_inv y hy := by
    simp only [dif_neg hy]
    have hc := (gen_all h y hy).choose_spec
    have := pow_unit h.2.1 (i := (gen_all h y hy).choose) (by omega)
    rw [hc.2] at this
    exact this
theorem no_zero_div {x : K P} (h : HasOrder x (n1 P)) {a b : K P} (hab : a * b = 0) : a = 0 ∨ b = 0 := by
  by_cases ha : a = 0
  · exact .inl ha
  · refine .inr ?_
    obtain ⟨i, hi, rfl⟩ := gen_all h a ha
    have hu := pow_unit h.2.1 (i := i) (by omega)
    calc b = (npow x i * npow x (n1 P - i)) * b := by rw [hu, one_mul]
      _ = npow x (n1 P - i) * (npow x i * b) := by rw [mul_comm (npow x i), mul_assoc]
      _ = 0 := by rw [hab, mul_zero]
end
def IsP (r : Nat) : Prop := 2 ≤ r ∧ ∀ d, 2 ≤ d → d ∣ r → d = r
theorem prime_factor : ∀ k : Nat, 1 < k → ∃ r, IsP r ∧ r ∣ k := by
  intro k
  induction k using Nat.strongRecOn with
  | _ k ih =>
    intro hk
    by_cases h : ∃ d, 2 ≤ d ∧ d ∣ k ∧ d ≠ k
    · obtain ⟨d, h2, hd, hne⟩ := h
      have hle := Nat.le_of_dvd (by omega) hd
      obtain ⟨r, hr, hrd⟩ := ih d (by omega) (by omega)
      exact ⟨r, hr, Nat.dvd_trans hrd hd⟩
    · exact ⟨k, ⟨by omega, fun d h2 hd => Classical.byContradiction fun hne => h ⟨d, h2, hd, hne⟩⟩, Nat.dvd_refl k⟩
theorem order_test {R : Type} [CR R] {x : R} {n : Nat} (hn : 0 < n) (h1 : npow x n = 1) (hr : ∀ r, IsP r → r ∣ n → npow x (n / r) ≠ 1) : HasOrder x n := by
  obtain ⟨m, hm, hmn⟩ := exists_order hn h1
  by_cases e : m = n
  · rw [← e]; exact hm
  · exfalso
    obtain ⟨k, rfl⟩ := hmn
    have hm0 := hm.1
    have hk : 1 < k := by
      rcases Nat.lt_or_ge 1 k with h | h
      · exact h
      · have : k = 0 ∨ k = 1 := by omega
        rcases this with rfl | rfl
        · simp at hn
        · simp at e
    obtain ⟨r, hrp, c, rfl⟩ := prime_factor k hk
    refine hr r hrp ⟨m * c, by rw [Nat.mul_left_comm]⟩ ?_
    have hr0 : 0 < r := by have := hrp.1; omega
    rw [Nat.mul_left_comm, Nat.mul_div_cancel_left _ hr0, npow_mul, hm.2.1, one_npow]
end Go.Fd


namespace Go.Fd
open Go.Pl Go.Alg
def zip3 (p top b : Nat) : List Nat → List Nat → List Nat → List Nat
  | s :: ss, l :: ls, a :: as => ((s + (p - top) * l + b * a) % p) :: zip3 p top b ss ls as
  | _, _, _ => []
def mulN (p : Nat) (md a : List Nat) : List Nat → List Nat
  | [] => md.map fun _ => 0
  | b :: bs => zip3 p ((mulN p md a bs).getD (md.length - 1) 0) b (0 :: mulN p md a bs) md a
def vecN (l : List Nat) : V := fun j => ((l.getD j 0 : Nat) : Int)
theorem zip3_get (p top b : Nat) : ∀ (ss ls as : List Nat) (j : Nat), j < ss.length → j < ls.length → j < as.length → (zip3 p top b ss ls as).getD j 0 = (ss.getD j 0 + (p - top) * ls.getD j 0 + b * as.getD j 0) % p
  | [], _, _, j, h, _, _ => by simp at h
  | _ :: _, [], _, j, _, h, _ => by simp at h
  | _ :: _, _ :: _, [], j, _, _, h => by simp at h
  | s :: ss, l :: ls, a :: as, 0, _, _, _ => by simp [zip3]
  | s :: ss, l :: ls, a :: as, j + 1, h1, h2, h3 => by
    have := zip3_get p top b ss ls as j (by simpa using h1) (by simpa using h2) (by simpa using h3)
    simpa [zip3] using this
theorem zip3_len (p top b : Nat) : ∀ (ss ls as : List Nat) (m : Nat), m ≤ ss.length → ls.length = m → as.length = m → (zip3 p top b ss ls as).length = m
  | [], ls, as, m, h, h1, h2 => by
    have : m = 0 := by simpa using h
    subst this
    simp [zip3]
  | s :: ss, [], as, m, h, h1, h2 => by simp [zip3]; simp at h1; omega
  | s :: ss, l :: ls, [], m, h, h1, h2 => by simp [zip3]; simp at h2; omega
  | s :: ss, l :: ls, a :: as, m, h, h1, h2 => by
    obtain ⟨k, rfl⟩ : ∃ k, m = k + 1 := ⟨m - 1, by simp at h1; omega⟩
    simp only [List.length_cons] at h h1 h2
    simp [zip3, zip3_len p top b ss ls as k (by omega) (by omega) (by omega)]
theorem zip3_lo {p : Nat} (hp : 0 < p) (top b : Nat) : ∀ (ss ls as : List Nat), ∀ z ∈ zip3 p top b ss ls as, z < p
  | [], _, _, z, h => by simp [zip3] at h
  | _ :: _, [], _, z, h => by simp [zip3] at h
  | _ :: _, _ :: _, [], z, h => by simp [zip3] at h
  | s :: ss, l :: ls, a :: as, z, h => by
    simp only [zip3, List.mem_cons] at h
    rcases h with rfl | h
    · exact Nat.mod_lt _ hp
    · exact zip3_lo hp top b ss ls as z h
theorem mulN_len {p : Nat} {md a : List Nat} (ha : a.length = md.length) : ∀ bs, (mulN p md a bs).length = md.length
  | [] => by simp [mulN]
  | b :: bs => zip3_len _ _ _ _ _ _ md.length (by simp [mulN_len ha bs]) rfl ha
theorem mulN_lo {p : Nat} (hp : 0 < p) {md a : List Nat} : ∀ bs, ∀ z ∈ mulN p md a bs, z < p
  | [], z, h => by
    simp [mulN] at h
    omega
  | b :: bs, z, h => zip3_lo hp _ _ _ _ _ z h
def Fits (P : FP) (p : Nat) (md : List Nat) : Prop := P.p = p ∧ P.M = md.length ∧ ∀ j, j < md.length → P.md j = vecN md j
theorem mulN_H {P : FP} {p : Nat} {md : List Nat} (hP : Fits P p md) {a : List Nat} (ha : a.length = md.length) : ∀ bs : List Nat, Cg P.M P.p (vecN (mulN p md a bs)) (H P.M P.md (bs.map Int.ofNat) (vecN a))
  | [] => Cg.of_eq fun j hj => by
    rw [hP.2.1] at hj
    simp [mulN, vecN, H, v0, hj]
  | b :: bs => fun j hj => by
    have ih := mulN_H hP ha bs
    have hM := P.hM
    have hp : 0 < p := by have := P.hp; rw [hP.1] at this; omega
    have hl := mulN_len (p := p) ha bs
    have hj' : j < md.length := by rw [← hP.2.1]; exact hj
    have hg : (mulN p md a (b :: bs)).getD j 0 = _ := zip3_get p ((mulN p md a bs).getD (md.length - 1) 0) b (0 :: mulN p md a bs) md a j (by simp [hl]; omega) hj' (by omega)
    have htop : (mulN p md a bs).getD (md.length - 1) 0 < p := by
      rw [List.getD_eq_getElem?_getD, List.getElem?_eq_getElem (by omega)]
      exact mulN_lo hp bs _ (List.getElem_mem _)
    have hi := ih (P.M - 1) (by omega)
    simp only [vecN] at hi ⊢
    rw [hg]
    rw [hP.2.1] at hi ⊢
    generalize htt : (mulN p md a bs).getD (md.length - 1) 0 = top at *
    have e1 : (((0 :: mulN p md a bs).getD j 0 + (p - top) * md.getD j 0 + b * a.getD j 0) % p : Nat) = ((((0 :: mulN p md a bs).getD j 0 : Nat) : Int) + ((p : Int) - top) * (md.getD j 0 : Nat) + (b : Int) * (a.getD j 0 : Nat)) % (p : Int) := by
      rw [Int.natCast_emod, Int.natCast_add, Int.natCast_add, Int.natCast_mul, Int.natCast_mul, Int.natCast_sub (by omega)]
    rw [e1, hP.1, Int.emod_emod_of_dvd _ (Int.dvd_refl _)]
    simp only [List.map_cons, H, vadd, vsm]
    rw [hP.1] at hi
    refine emod_add ?_ rfl
    have e2 : (((0 :: mulN p md a bs).getD j 0 : Nat) : Int) % p = (match j with | 0 => 0 | j + 1 => H md.length P.md (bs.map Int.ofNat) (vecN a) j) % (p : Int) := by
      cases j with
      | zero => simp
      | succ j =>
        have := ih j (by omega)
        rw [hP.1, hP.2.1] at this
        simpa [vecN] using this
    show _ = (_ - H md.length P.md (bs.map Int.ofNat) (vecN a) (md.length - 1) * P.md j) % (p : Int)
    rw [hP.2.2 j hj']
    have e3 : ((p : Int) - top) * (md.getD j 0 : Nat) % (p : Int) = (- (H md.length P.md (bs.map Int.ofNat) (vecN a) (md.length - 1) * vecN md j)) % (p : Int) := by
      rw [← Int.neg_mul]
      refine emod_mul ?_ rfl
      have h0 : ((p : Int) - top) % p = (0 - top) % p := emod_sub (by simp) rfl
      rw [h0]
      have := emod_sub (p := (p : Int)) (a := 0) (b := 0) rfl hi
      simpa using this
    have := emod_add e2 e3
    cases j with
    | zero => simpa [Int.sub_eq_add_neg] using this
    | succ j => simpa [Int.sub_eq_add_neg] using this
def kN (P : FP) (l : List Nat) : K P := K.mk P (vecN l)
theorem kN_mul {P : FP} {p : Nat} {md : List Nat} (hP : Fits P p md) {a b : List Nat} (ha : a.length = md.length) (hb : b.length = md.length) : kN P (mulN p md a b) = kN P a * kN P b := by
  apply K.ext
  refine (K.v_mk _).trans ((mulN_H hP ha b).trans (Cg.symm ((v_mul _ _).trans ((mulV_cg (K.v_mk _) (K.v_mk _)).trans ?_))))
  have e : tab P.M (vecN b) = b.map Int.ofNat := by
    rw [hP.2.1, ← hb]
    apply List.ext_getElem?
    intro i
    by_cases hi : i < b.length
    · rw [tab_get hi]
      simp [vecN, hi]
    · rw [List.getElem?_eq_none (by rw [tab_length]; omega), List.getElem?_eq_none (by simp; omega)]
  unfold mulV
  rw [e]
  exact Cg.refl _
def digN (p : Nat) : Nat → Nat → List Nat
  | 0, _ => []
  | m + 1, x => x % p :: digN p m (x / p)
theorem digN_len (p : Nat) : ∀ m x, (digN p m x).length = m
  | 0, _ => rfl
  | m + 1, x => by simp [digN, digN_len p m (x / p)]
theorem digN_dig (p : Nat) : ∀ (m x : Nat), (digN p m x).map Int.ofNat = dig p m x
  | 0, _ => rfl
  | m + 1, x => by
    have := digN_dig p m (x / p)
    simp only [digN, dig, List.map_cons, this]
    simp
theorem vecN_dig {P : FP} {p : Nat} (hP : P.p = p) (x : Nat) : vecN (digN p P.M x) = vec P x := by
  funext j
  unfold vec vecN
  rw [hP, ← digN_dig]
  simp only [List.getD_eq_getElem?_getD, List.getElem?_map]
  cases (digN p P.M x)[j]? <;> simp
theorem kN_dig {P : FP} {p : Nat} (hP : P.p = p) (x : Nat) (hx : (x : Int) < P.q) : (kN P (digN p P.M x)).1 = x := by
  unfold kN
  rw [vecN_dig hP]
  exact red_vec P (by omega) hx
def powN (p : Nat) (md one x : List Nat) : Nat → Nat → List Nat
  | 0, _ => one
  | f + 1, n => if n = 0 then one else if n % 2 = 0 then mulN p md (powN p md one x f (n / 2)) (powN p md one x f (n / 2)) else mulN p md (mulN p md (powN p md one x f (n / 2)) (powN p md one x f (n / 2))) x
theorem powN_spec {P : FP} {p : Nat} {md : List Nat} (hP : Fits P p md) {one x : List Nat} (ho : one.length = md.length) (hx : x.length = md.length) (h1 : kN P one = 1) :
    ∀ f n, n < 2 ^ f → (powN p md one x f n).length = md.length ∧ kN P (powN p md one x f n) = npow (kN P x) n
  | 0, n, h => by
    have : n = 0 := by simpa using h
    subst this
    exact ⟨ho, h1⟩
  | f + 1, n, h => by
    rw [Nat.pow_succ] at h
    obtain ⟨l, e⟩ := powN_spec hP ho hx h1 f (n / 2) (by omega)
    unfold powN
    by_cases h0 : n = 0
    · rw [if_pos h0, h0]
      exact ⟨ho, h1⟩
    · rw [if_neg h0]
      have hs : kN P (mulN p md (powN p md one x f (n / 2)) (powN p md one x f (n / 2))) = npow (kN P x) (2 * (n / 2)) := by
        rw [kN_mul hP l l, e, ← npow_add]
        congr 1
        omega
      have hl := mulN_len (p := p) l (powN p md one x f (n / 2))
      by_cases h2 : n % 2 = 0
      · rw [if_pos h2]
        refine ⟨hl, ?_⟩
        rw [hs]
        congr 1
        omega
      · rw [if_neg h2]
        refine ⟨mulN_len hl _, ?_⟩
        rw [kN_mul hP hl hx, hs, ← npow_succ]
        congr 1
        omega
end Go.Fd


namespace Go.Fd
open Go.Pl
def dvJ (p c o : Int) (low r : List Int) : Nat → List Int
  | 0 => r
  | j + 1 => si (dvJ p c o low r j) (o + j) ((gi (dvJ p c o low r j) (o + j) + (p - c) * gi low j) % p)
def dvI (p : Int) (low r : List Int) (top : Int) : Nat → List Int
  | 0 => r
  | k + 1 => si (dvJ p (gi (dvI p low r top k) (top - k)) (top - k - low.length) low (dvI p low r top k) low.length) (top - k) 0
def zeros : List Int → Bool
  | [] => true
  | z :: l => decide (z = 0) && zeros l
def dv (low md : List Int) (p : Int) : Bool := zeros (dvI p low (md ++ [1]) md.length (md.length + 1 - low.length))
def noDv (md : List Int) (p : Int) (d : Nat) : Nat → Bool
  | 0 => true
  | n + 1 => noDv md p d n && !dv (dig p d n) md p
def irrB (md : List Int) (p : Int) : Nat → Bool
  | 0 => true
  | k + 1 => irrB md p k && noDv md p (k + 1) (p ^ (k + 1)).toNat
def irr (md : List Int) (p : Int) : Bool := irrB md p (md.length / 2)
theorem noDv_false {md : List Int} {p : Int} {d v : Nat} (h : dv (dig p d v) md p = true) : ∀ n, v < n → noDv md p d n = false
  | 0, hn => absurd hn (by omega)
  | n + 1, hn => by
    rw [noDv]
    by_cases e : v = n
    · rw [← e, h]; simp
    · rw [noDv_false h n (by omega)]; rfl
theorem irr_false {md : List Int} {p : Int} {d v : Nat} (h : dv (dig p (d + 1) v) md p = true) (hv : v < (p ^ (d + 1)).toNat) : ∀ k, d < k → irrB md p k = false
  | 0, hk => absurd hk (by omega)
  | k + 1, hk => by
    rw [irrB]
    by_cases e : d = k
    · rw [← e, noDv_false h _ hv]; simp
    · rw [irr_false h hv k (by omega)]; rfl
end Go.Fd


namespace Go.Fd
open Go.Pl Go.Alg
def eqL : List Nat → List Nat → Bool
  | [], [] => true
  | a :: l, b :: m => Nat.beq a b && eqL l m
  | _, _ => false
theorem eqL_eq : ∀ {l m : List Nat}, eqL l m = true → l = m
  | [], [], _ => rfl
  | [], _ :: _, h => by simp [eqL] at h
  | _ :: _, [], h => by simp [eqL] at h
  | a :: l, b :: m, h => by
    simp only [eqL, Bool.and_eq_true] at h
    rw [Nat.eq_of_beq_eq_true h.1, eqL_eq h.2]
theorem eqL_refl : ∀ l : List Nat, eqL l l = true
  | [] => rfl
  | a :: l => by simp [eqL, eqL_refl l]
def primeN (n : Nat) : Bool := decide (2 ≤ n) && ((List.range n).all fun d => !(decide (2 ≤ d) && decide (n % d = 0)))
theorem primeN_of {n : Nat} (h : IsP n) : primeN n = true := by
  simp only [primeN, Bool.and_eq_true, decide_eq_true_eq, List.all_eq_true, List.mem_range, Bool.not_eq_true', Bool.and_eq_false_iff, decide_eq_false_iff_not]
  refine ⟨h.1, fun d hd => ?_⟩
  by_cases h2 : 2 ≤ d
  · refine .inr fun hm => ?_
    have := h.2 d h2 (Nat.dvd_of_mod_eq_zero hm)
    omega
  · exact .inl h2
def prOK (n : Nat) (rs : List Nat) : Bool := (List.range (n + 1)).all fun r => !(decide (n % r = 0) && primeN r) || rs.contains r
theorem prOK_spec {n : Nat} {rs : List Nat} (h : prOK n rs = true) (hn : 0 < n) {r : Nat} (hr : IsP r) (hd : r ∣ n) : r ∈ rs := by
  have := List.all_eq_true.1 h r (List.mem_range.2 (by have := Nat.le_of_dvd hn hd; omega))
  simpa [Nat.mod_eq_zero_of_dvd hd, primeN_of hr] using this
def ordOK (p : Nat) (md : List Nat) (g : Nat) (rs : List Nat) : Bool :=
  prOK (p ^ md.length - 1) rs && decide (p ^ md.length ≤ 256) && eqL (powN p md (digN p md.length 1) (digN p md.length g) 8 (p ^ md.length - 1)) (digN p md.length 1) &&
    rs.all fun r => !eqL (powN p md (digN p md.length 1) (digN p md.length g) 8 ((p ^ md.length - 1) / r)) (digN p md.length 1)
def divOK (p M v a b : Nat) : Bool :=
  ((List.range 4).any fun d => decide (d < M / 2) && decide (p ^ (d + 1) ≤ a) && decide (a - p ^ (d + 1) < p ^ (d + 1)) && dv (dig p (d + 1) ((a - p ^ (d + 1) : Nat) : Int)) (dig p M v) p) &&
    decide (0 < a ∧ a < p ^ M ∧ 0 < b ∧ b < p ^ M) && eqL (mulN p (digN p M v) (digN p M a) (digN p M b)) (digN p M 0)
def chk (p M : Nat) (rs : List Nat) (v a b : Nat) : Bool := if a = 0 then irr (dig p M v) p && ordOK p (digN p M v) b rs else divOK p M v a b
def allFrom (p M : Nat) (rs : List Nat) : Nat → List (Nat × Nat) → Bool
  | _, [] => true
  | v, h :: hs => chk p M rs v h.1 h.2 && allFrom p M rs (v + 1) hs
def allOK (p M : Nat) (rs : List Nat) (hs : List (Nat × Nat)) : Bool := decide (hs.length = p ^ M) && allFrom p M rs 0 hs
theorem allFrom_spec {p M : Nat} {rs : List Nat} : ∀ (hs : List (Nat × Nat)) (v : Nat), allFrom p M rs v hs = true → ∀ i, i < hs.length → ∃ a b, chk p M rs (v + i) a b = true
  | [], _, _, i, hi => by simp at hi
  | h :: hs, v, ho, 0, _ => by
    simp only [allFrom, Bool.and_eq_true] at ho
    exact ⟨_, _, ho.1⟩
  | h :: hs, v, ho, i + 1, hi => by
    simp only [allFrom, Bool.and_eq_true] at ho
    obtain ⟨a, b, hab⟩ := allFrom_spec hs (v + 1) ho.2 i (by simpa using hi)
    exact ⟨a, b, by rw [show v + (i + 1) = v + 1 + i by omega]; exact hab⟩
theorem allOK_spec {p M : Nat} {rs : List Nat} {hs : List (Nat × Nat)} (h : allOK p M rs hs = true) {v : Nat} (hv : v < p ^ M) : ∃ a b, chk p M rs v a b = true := by
  simp only [allOK, Bool.and_eq_true, decide_eq_true_eq] at h
  obtain ⟨a, b, hab⟩ := allFrom_spec hs 0 h.2 v (by omega)
  exact ⟨a, b, by simpa using hab⟩
theorem FP.q_nat {P : FP} {p : Nat} {md : List Nat} (hP : Fits P p md) : P.q = ((p ^ md.length : Nat) : Int) := by
  unfold FP.q
  rw [hP.1, hP.2.1, Int.natCast_pow]
theorem ordOK_spec {P : FP} {p : Nat} {md : List Nat} (hP : Fits P p md) {g : Nat} {rs : List Nat} (h : ordOK p md g rs = true) : ∃ x : K P, HasOrder x (n1 P) := by
  simp only [ordOK, Bool.and_eq_true, decide_eq_true_eq, List.all_eq_true, Bool.not_eq_true'] at h
  obtain ⟨⟨⟨h1, h2⟩, h3⟩, h4⟩ := h
  have hq := FP.q_nat hP
  have hq2 := P.q_two
  have hn : n1 P = p ^ md.length - 1 := by unfold n1; omega
  have e1 : kN P (digN p md.length 1) = 1 := Subtype.ext (by
    rw [← hP.2.1, kN_dig hP.1 1 (by omega)]; rfl)
  have spec := powN_spec hP (one := digN p md.length 1) (x := digN p md.length g) (digN_len _ _ _) (digN_len _ _ _) e1 8
  refine ⟨kN P (digN p md.length g), ?_⟩
  rw [hn]
  have e0 : ∀ n, eqL (powN p md (digN p md.length 1) (digN p md.length g) 8 n) (digN p md.length 1) = false → n < 256 → npow (kN P (digN p md.length g)) n ≠ 1 := fun n hne hlt he => by
    have hs := spec n (by omega)
    rw [he, ← e1] at hs
    have hv := congrArg K.v hs.2
    have key : ∀ l m : List Nat, l.length = md.length → m.length = md.length → (∀ z ∈ l, z < p) → (∀ z ∈ m, z < p) → Cg P.M P.p (vecN l) (vecN m) → l = m := fun l m hl hm hl' hm' hc => by
      apply List.ext_getElem (by omega)
      intro j hj1 hj2
      have := hc j (by rw [hP.2.1]; omega)
      simp only [vecN, List.getD_eq_getElem?_getD, List.getElem?_eq_getElem hj1, List.getElem?_eq_getElem hj2, Option.getD_some, hP.1] at this
      have a1 := hl' _ (List.getElem_mem hj1)
      have a2 := hm' _ (List.getElem_mem hj2)
      rw [Int.emod_eq_of_lt (by omega) (by omega), Int.emod_eq_of_lt (by omega) (by omega)] at this
      omega
    have hp : 0 < p := by have := P.hp; rw [hP.1] at this; omega
    have lo1 : ∀ m x, ∀ z ∈ digN p m x, z < p := fun m => by
      induction m with
      | zero => intro x z hz; simp [digN] at hz
      | succ m ih =>
        intro x z hz
        simp only [digN, List.mem_cons] at hz
        rcases hz with rfl | hz
        · exact Nat.mod_lt _ hp
        · exact ih _ z hz
    have lo2 : ∀ f n, ∀ z ∈ powN p md (digN p md.length 1) (digN p md.length g) f n, z < p := fun f n => by
      cases f with
      | zero => exact lo1 _ _
      | succ f =>
        unfold powN
        split
        · exact lo1 _ _
        · split
          · exact mulN_lo hp _
          · exact mulN_lo hp _
    have hc : Cg P.M P.p (vecN (powN p md (digN p md.length 1) (digN p md.length g) 8 n)) (vecN (digN p md.length 1)) :=
      (K.v_mk _).symm.trans ((by show Cg P.M P.p (K.v (kN P _)) (K.v (kN P _)); rw [hs.2]; exact Cg.refl _ : Cg P.M P.p (kN P (powN p md (digN p md.length 1) (digN p md.length g) 8 n)).v (kN P (digN p md.length 1)).v).trans (K.v_mk _))
    have := key _ _ hs.1 (digN_len _ _ _) (lo2 8 n) (lo1 _ _) hc
    rw [this, eqL_refl] at hne
    cases hne
  refine order_test (by omega) ?_ (fun r hr hd => ?_)
  · have hs := spec (p ^ md.length - 1) (by omega)
    rw [eqL_eq h3, e1] at hs
    exact hs.2.symm
  · have hmem := prOK_spec h1 (by omega) hr hd
    exact e0 _ (h4 r hmem) (by have := Nat.div_le_self (p ^ md.length - 1) r; omega)
theorem div_zero {P : FP} {p M v a b : Nat} (hP : Fits P p (digN p M v)) (h : divOK p M v a b = true) : irr (dig p M v) p = false ∧ ∀ x : K P, ¬ HasOrder x (n1 P) := by
  simp only [divOK, Bool.and_eq_true, decide_eq_true_eq, List.any_eq_true, List.mem_range] at h
  obtain ⟨⟨⟨d, _, ⟨⟨h1, h2⟩, h3⟩, h4⟩, ha0, ha1, hb0, hb1⟩, h5⟩ := h
  constructor
  · unfold irr
    rw [dig_length]
    refine irr_false h4 ?_ _ h1
    have e : ((p : Int) ^ (d + 1)).toNat = p ^ (d + 1) := by rw [← Int.natCast_pow, Int.toNat_natCast]
    rw [e]; exact h3
  · intro x hx
    have hM : P.M = M := by rw [hP.2.1, digN_len]
    have hq : P.q = ((p ^ M : Nat) : Int) := by rw [FP.q_nat hP, digN_len]
    have va := kN_dig hP.1 a (by rw [hq]; omega)
    have vb := kN_dig hP.1 b (by rw [hq]; omega)
    have v0 := kN_dig hP.1 0 (by rw [hq]; omega)
    rw [hM] at va vb v0
    have hm := kN_mul hP (a := digN p M a) (b := digN p M b) (by simp [digN_len]) (by simp [digN_len])
    rw [eqL_eq h5] at hm
    have hz : kN P (digN p M a) * kN P (digN p M b) = 0 := by
      rw [← hm]
      exact Subtype.ext v0
    rcases no_zero_div hx hz with e | e
    · rw [e] at va
      have : (0 : Int) = a := va
      omega
    · rw [e] at vb
      have : (0 : Int) = b := vb
      omega
end Go.Fd


namespace Go.Fd
open Go.Pl Go.Alg Go Go.Sx
def ms (P : FP) (x y : Int) (i : Nat) : List Int := tab P.M fun j => H P.M P.md ((dig P.p P.M y).drop i) (vec P x) j % P.p
theorem ms_length (P : FP) (x y : Int) (i : Nat) : (ms P x y i).length = P.M := tab_length _ _
theorem ms_first (P : FP) (x y : Int) : ms P x y P.M = tab P.M fun _ => 0 := by
  have e : (dig P.p P.M y).drop P.M = [] := by
    apply List.drop_eq_nil_of_le
    rw [dig_length]
    exact Nat.le_refl _
  unfold ms
  rw [e]
  exact tab_congr fun t _ => by simp [H, v0]
theorem ms_lo (P : FP) (x y : Int) (i : Nat) : Lo P.p (ms P x y i) := red_lo P _
theorem ms_last (P : FP) (x y : K P) : val P.p (ms P x.1 y.1 0) = (x * y).1 := by
  have e : tab P.M (vec P y.1) = dig P.p P.M y.1 := by
    have hl := dig_length P.p P.M y.1
    rw [list_tab (dig P.p P.M y.1), hl]
    rfl
  show _ = red P (mulV P.M P.md x.v y.v)
  unfold ms red mulV K.v
  rw [e, List.drop_zero]
def shc (L : List Int) : List Int := tab L.length fun t => if t = 0 then gi L 0 else gi L ((t : Int) - 1)
def sh (L : List Int) : List Int := tab L.length fun t => if t = 0 then 0 else gi L ((t : Int) - 1)
theorem shc_eq (L : List Int) (m : Nat) (hL : L.length = m) (hm : 1 ≤ m) : putAt (L.map (Value.int .i64)) (1 : Int).toNat ((((L.map (Value.int .i64)).drop (0 : Int).toNat).take ((m : Int) - 1 - 0).toNat).take (((L.map (Value.int .i64)).length : Int) - 1).toNat) = (shc L).map (Value.int .i64) := by
  have e1 : (1 : Int).toNat = 1 := rfl
  have e0 : (0 : Int).toNat = 0 := rfl
  have e2 : ((m : Int) - 1 - 0).toNat = m - 1 := by omega
  have e3 : (((L.map (Value.int .i64)).length : Int) - 1).toNat = m - 1 := by simp; omega
  rw [e1, e0, e2, e3]
  subst hL
  apply List.ext_getElem?
  intro j
  simp only [putAt, shc, map_tab, List.getElem?_append, List.length_append, List.length_take, List.length_map, List.getElem?_take, List.getElem?_drop, List.getElem?_map, List.drop_zero]
  by_cases hj : j < L.length
  · rw [tab_get hj]
    by_cases h0 : j = 0
    · subst h0
      rw [if_pos (by omega), if_pos (by omega), if_pos (by omega)]
      simp [gi, hj]
    · rw [if_pos (by omega), if_neg (by omega), if_pos (by omega), if_pos (by omega), if_neg h0]
      have hk : ((j : Int) - 1).toNat = j - 1 := by omega
      have hlt : j - 1 < L.length := by omega
      have hlt' : j - min 1 L.length = j - 1 := by omega
      simp [gi, hk, hlt, hlt']
  · rw [List.getElem?_eq_none (l := tab _ _) (by rw [tab_length]; omega)]
    rw [if_neg (by omega)]
    rw [List.getElem?_eq_none (by omega)]
    rfl
theorem shc_zero (L : List Int) : si (shc L) 0 0 = sh L := by
  rw [shc, si_tab]
  exact tab_congr fun t _ => by
    by_cases h : t = 0
    · simp [h]
    · simp [h]
def mi (P : FP) (x y : Int) (i : Nat) (j : Int) : List Int := tab P.M fun t => if (t : Int) < j then gi (ms P x y i) t else gi (sh (ms P x y (i + 1))) t
theorem mi_length (P : FP) (x y : Int) (i : Nat) (j : Int) : (mi P x y i j).length = P.M := tab_length _ _
theorem mi_first (P : FP) (x y : Int) (i : Nat) : sh (ms P x y (i + 1)) = mi P x y i 0 := by
  have hl : (sh (ms P x y (i + 1))).length = P.M := by rw [sh, tab_length, ms_length]
  rw [list_tab (sh (ms P x y (i + 1))), hl]
  exact tab_congr fun t _ => by rw [if_neg (by omega)]; simp [gi]
theorem mi_last (P : FP) (x y : Int) (i : Nat) : mi P x y i P.M = ms P x y i := by
  rw [list_tab (ms P x y i), ms_length]
  exact tab_congr fun t ht => by rw [if_pos (by omega)]; simp [gi]
theorem mi_get (P : FP) (x y : Int) (i : Nat) {j : Int} (h0 : 0 ≤ j) (h1 : j < P.M) : gi (mi P x y i j) j = gi (sh (ms P x y (i + 1))) j := by
  rw [mi, gi_tab (by omega) h0, if_neg (by omega)]
  congr 1
  omega
theorem sh_get (L : List Int) {j : Int} (h0 : 0 ≤ j) (h1 : j < L.length) : gi (sh L) j = if j = 0 then 0 else gi L (j - 1) := by
  rw [sh, gi_tab (by omega) h0]
  by_cases h : j = 0
  · rw [if_pos (by omega), if_pos h]
  · rw [if_neg (by omega), if_neg h]
    congr 1
    omega
theorem gi_ms (P : FP) (x y : Int) (i : Nat) {j : Int} (h0 : 0 ≤ j) (h1 : j < P.M) : gi (ms P x y i) j = H P.M P.md ((dig P.p P.M y).drop i) (vec P x) j.toNat % P.p := by
  rw [ms, gi_tab h1 h0]
theorem mi_val (P : FP) (x y : Int) (i : Nat) (hi : i < P.M) {j : Int} (h0 : 0 ≤ j) (h1 : j < P.M) :
    (gi (sh (ms P x y (i + 1))) j + (P.p - gi (ms P x y (i + 1)) (P.M - 1)) * P.md j.toNat + gi (dig P.p P.M y) i * gi (dig P.p P.M x) j) % P.p = gi (ms P x y i) j := by
  have hl := dig_length P.p P.M y
  rw [gi_ms P x y i h0 h1, List.drop_eq_getElem_cons (by omega)]
  simp only [H, vadd, vsm]
  have eb : gi (dig P.p P.M y) i = (dig P.p P.M y)[i]'(by omega) := by simp [gi, hl, hi]
  have ea : gi (dig P.p P.M x) j = vec P x j.toNat := rfl
  rw [eb, ea]
  refine emod_add ?_ rfl
  have hj : ((j.toNat : Nat) : Int) = j := by omega
  have e1 : gi (sh (ms P x y (i + 1))) j % P.p = (match j.toNat with | 0 => 0 | k + 1 => H P.M P.md ((dig P.p P.M y).drop (i + 1)) (vec P x) k) % P.p := by
    rw [sh_get _ h0 (by rw [ms_length]; exact h1)]
    by_cases h : j = 0
    · subst h; rfl
    · rw [if_neg h, gi_ms P x y (i + 1) (by omega) (by omega), Int.emod_emod_of_dvd _ (Int.dvd_refl _)]
      obtain ⟨k, hk⟩ : ∃ k, j.toNat = k + 1 := ⟨j.toNat - 1, by omega⟩
      rw [hk, show (j - 1).toNat = k by omega]
  have e2 : (P.p - gi (ms P x y (i + 1)) (P.M - 1)) * P.md j.toNat % P.p = (- (H P.M P.md ((dig P.p P.M y).drop (i + 1)) (vec P x) (P.M - 1) * P.md j.toNat)) % P.p := by
    rw [← Int.neg_mul]
    refine emod_mul ?_ rfl
    rw [gi_ms P x y (i + 1) (by have := P.hM; omega) (by omega), show ((P.M : Int) - 1).toNat = P.M - 1 by omega]
    have h0' : (P.p - H P.M P.md ((dig P.p P.M y).drop (i + 1)) (vec P x) (P.M - 1) % P.p) % P.p = (0 - H P.M P.md ((dig P.p P.M y).drop (i + 1)) (vec P x) (P.M - 1)) % P.p := emod_sub (by simp) (Int.emod_emod_of_dvd _ (Int.dvd_refl _))
    rw [h0']
    simp
  have := emod_add e1 e2
  unfold S
  cases hk : j.toNat with
  | zero => rw [hk] at this; simpa [Int.sub_eq_add_neg] using this
  | succ k => rw [hk] at this; simpa [Int.sub_eq_add_neg] using this
theorem mi_step (P : FP) (x y : Int) (i : Nat) {j : Int} (h0 : 0 ≤ j) (_ : j < P.M) : si (mi P x y i j) j (gi (ms P x y i) j) = mi P x y i (j + 1) := by
  rw [mi, si_tab]
  refine tab_congr fun t ht => ?_
  by_cases e : t = j.toNat
  · rw [if_pos e, if_pos (by omega), e]
    congr 1
    omega
  · rw [if_neg e]
    by_cases h : (t : Int) < j
    · rw [if_pos h, if_pos (by omega)]
    · rw [if_neg h, if_neg (by omega)]
theorem dig_get {p : Int} (hp : 2 ≤ p) (m : Nat) (x : Int) {j : Int} (h0 : 0 ≤ j) (h1 : j < m) : 0 ≤ gi (dig p m x) j ∧ gi (dig p m x) j < p := by
  have hl := dig_length p m x
  have hk : j.toNat < (dig p m x).length := by omega
  have := dig_lo hp m x _ (List.getElem_mem hk)
  simpa [gi, hk] using this
end Go.Fd


namespace Go.Fd
open Go.Pl Go.Alg Go Go.Sx
variable {P : FP}
def Dist (x : K P) (n : Nat) : Prop := (∀ i, i < n → npow x i ≠ 0) ∧ ∀ i j, i < j → j < n → npow x i ≠ npow x j
def sn (x : K P) (n : Nat) (k : Int) : Bool := (List.range n).any fun i => decide ((npow x i).1 = k)
theorem sn_iff {x : K P} {n : Nat} {k : Int} : sn x n k = true ↔ ∃ i, i < n ∧ (npow x i).1 = k := by
  simp [sn]
theorem Dist.one (x : K P) : Dist x 1 := ⟨fun i hi => by
    have : i = 0 := by omega
    subst this
    exact one_ne_zero, fun i j h1 h2 => by omega⟩
theorem Dist.succ {x : K P} {n : Nat} (h : Dist x n) (h0 : npow x n ≠ 0) (hs : sn x n (npow x n).1 = false) : Dist x (n + 1) := by
  refine ⟨fun i hi => ?_, fun i j hij hj he => ?_⟩
  · by_cases e : i = n
    · rw [e]; exact h0
    · exact h.1 i (by omega)
  · by_cases e : j = n
    · subst e
      have : sn x j (npow x j).1 = true := sn_iff.2 ⟨i, hij, by rw [he]⟩
      rw [hs] at this
      cases this
    · exact h.2 i j hij (by omega) he
theorem Dist.le {x : K P} {n : Nat} (h : Dist x n) : n ≤ n1 P := by
  have hl : ((List.range n).map fun i => ((npow x i).1 - 1).toNat).length = n := by simp
  have hn : ((List.range n).map fun i => ((npow x i).1 - 1).toNat).Nodup := by
    rw [List.Nodup, List.pairwise_map]
    refine List.Pairwise.imp_of_mem ?_ (List.nodup_range (n := n))
    intro a b ha hb hne he
    rw [List.mem_range] at ha hb
    have h1 := K.pos (h.1 a ha)
    have h2 := K.pos (h.1 b hb)
    have e : npow x a = npow x b := Subtype.ext (by omega)
    rcases Nat.lt_or_gt_of_ne hne with hl | hl
    · exact h.2 a b hl hb e
    · exact h.2 b a hl ha e.symm
  have := pigeon (n1 P) _ hn (fun z hz => by
    obtain ⟨i, hi, rfl⟩ := List.mem_map.1 hz
    have h1 := K.pos (h.1 i (List.mem_range.1 hi))
    have h2 := (npow x i).2.2
    have := n1_eq (P := P)
    omega)
  omega
def Stop (x : K P) (n : Nat) : Prop := 1 ≤ n ∧ Dist x n ∧ (npow x n = 0 ∨ sn x n (npow x n).1 = true)
theorem Stop.order {x : K P} {n : Nat} (h : Stop x n) (hn : n = n1 P) (h1 : npow x n = 1) : HasOrder x (n1 P) := by
  subst hn
  refine ⟨n1_pos, h1, fun k hk hlt he => ?_⟩
  exact h.2.1.2 0 k hk hlt he.symm
theorem Stop.of_order {x : K P} {n : Nat} (h : Stop x n) (ho : HasOrder x (n1 P)) : n = n1 P ∧ npow x n = 1 := by
  have hle := h.2.1.le
  have hn : n = n1 P := by
    apply Classical.byContradiction
    intro hne
    rcases h.2.2 with h0 | hs
    · exact pow_ne ho.2.1 (i := n) (by omega) h0
    · obtain ⟨i, hi, he⟩ := sn_iff.1 hs
      have := pow_inj ho (i := i) (j := n) (by omega) (by omega) (Subtype.ext he)
      omega
  exact ⟨hn, by rw [hn]; exact ho.2.1⟩
def seenL (x : K P) (n : Nat) : List Value := tab P.q.toNat fun k => .bool (sn x n k)
theorem seenL_length (x : K P) (n : Nat) : (seenL x n).length = P.q.toNat := tab_length _ _
theorem seenL_get (x : K P) (n : Nat) (y : K P) : (seenL x n)[y.1.toNat]? = some (.bool (sn x n y.1)) := by
  have := y.2
  rw [seenL, tab_get (by omega)]
  congr 3
  omega
theorem seenL_one (x : K P) : (List.replicate P.q.toNat (Value.bool false)).set 1 (.bool true) = seenL x 1 := by
  have e : List.replicate P.q.toNat (Value.bool false) = tab P.q.toNat fun _ => Value.bool false := by
    apply List.ext_getElem?
    intro i
    by_cases hi : i < P.q.toNat
    · rw [tab_get hi]; simp [hi]
    · rw [List.getElem?_eq_none (by simp; omega), List.getElem?_eq_none (by rw [tab_length]; omega)]
  rw [e, tab_set]
  refine tab_congr fun t _ => ?_
  have : sn x 1 t = decide (t = 1) := by
    have e1 : (npow x 0).1 = 1 := one_val
    by_cases h : t = 1
    · subst h
      simp [sn, List.range_succ, e1]
    · have : ¬ ((1 : Int) = t) := by omega
      simp [sn, List.range_succ, e1, h, this]
  rw [this]
  by_cases h : t = 1
  · simp [h]
  · simp [h]
theorem seenL_succ (x : K P) (n : Nat) : (seenL x n).set (npow x n).1.toNat (.bool true) = seenL x (n + 1) := by
  rw [seenL, tab_set]
  refine tab_congr fun t _ => ?_
  have h0 := (npow x n).2.1
  have : sn x (n + 1) t = (sn x n t || decide ((npow x n).1 = t)) := by
    simp [sn, List.range_succ]
  rw [this]
  by_cases h : t = (npow x n).1.toNat
  · rw [if_pos h]
    have : (npow x n).1 = t := by omega
    simp [this]
  · rw [if_neg h]
    have : ¬ (npow x n).1 = t := by omega
    simp [this]
def pows (x : K P) (n : Nat) : List Int := tab n fun i => (npow x i).1
theorem pows_length (x : K P) (n : Nat) : (pows x n).length = n := tab_length _ _
theorem pows_succ (x : K P) (n : Nat) : pows x n ++ [(npow x n).1] = pows x (n + 1) := by
  simp [pows, tab, List.range_succ]
theorem pows_get (x : K P) {n : Nat} {k : Int} (h0 : 0 ≤ k) (h1 : k < n) : gi (pows x n) k = (npow x k.toNat).1 := by
  rw [pows, gi_tab h1 h0]
end Go.Fd

