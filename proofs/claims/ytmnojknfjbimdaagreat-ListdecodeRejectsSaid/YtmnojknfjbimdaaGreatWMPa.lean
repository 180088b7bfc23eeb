/-
  Formal power series over a commutative ring (functions from the exponents to the coefficients): a commutative ring again. Polynomials in one and in two variables live there. Polynomials (power series that end) and their values in a ring over the coefficients' ring. Hasse derivatives: their values are the coefficients of the polynomial written about another point. Orders of vanishing of series in two variables: the order of a product is the sum of the orders. The ring of polynomials, in one variable and (twice over) in two; values, as homomorphisms. Lists of ints and the polynomials that they describe; canonical lists. Lists of lists of ints and the polynomials in two variables that they describe; canonical ones; values. Polynomials about another point; the values of Hasse derivatives in two variables. Multiplicities of points, and weighted degrees, of polynomials in two variables. A polynomial over a ring without zero divisors has at most as many roots as its degree. The canonical lists of polynomials in one and in two variables, as functions. The step of the search for roots in y: p(x, r + x h) as a polynomial at h. Division of a polynomial in two variables by a power of x; the roots stay. Products term by term, trimming from the end, values coefficient by coefficient. No program in sight. Products in two variables, row by row; bounds of the degrees; the lists that are known in advance. No program in sight. The polynomial about another point, by repeated division; the least degree of what does not vanish. No program in sight. Weighted degrees and multiplicities of products, as ints. No program in sight. Multiples by numbers, in a field of characteristic p; small elements. Binomial coefficients and a prime. Hasse derivatives of lists of lists; binomial coefficients modulo the characteristic, row by row. No program in sight. Taylor's formula in two variables. Koetter's algorithm: polynomials in two variables that meet conditions one after another, and are least. No program in sight. The prime of a field; inverses modulo the prime by powers; binomial coefficients modulo the prime by falling products and inverses. Koetter's algorithm: how it is counted (gaps by Horner's rule, Pascal's table, degrees, numbers of terms). No program in sight. Koetter's algorithm: one step, as the program takes it. No program in sight. Koetter's algorithm: the order of the conditions, their number, and what the interpolation polynomial is. No program in sight. A polynomial in two variables that vanishes with multiplicities at enough points of a polynomial's graph vanishes on the graph. No program in sight. The parameters of the list decoder and the interpolation polynomial. No program in sight. Descriptions of Reed-Solomon codes: what is refused, and in which order. No program in sight. The search for the roots in y: what it lists are all roots, in ascending order. The search for roots, with lists of ints: what it finds. No program in sight. What the search finds: exactly the roots of degree below the bound, each once, in ascending order. No program in sight. The list of the roots: members, order, number. No program in sight. The codewords near a word: the list decoder's answer, and that it has every codeword within the radius. No program in sight. Insertion sort of lists of lists, step by step. No program in sight. Linear algebra with rows: spans, elimination, reduced rows, that they are unique. No program in sight. Rows of field elements as lists of ints; the codewords are the span of the rows that stand for the powers. No program in sight.
-/
import Derived.Test.YtmnojknfjbimdaaGreatWMFa
import Derived.Test.YtmnojknfjbimdaaGreatWMGa
import Derived.Test.YtmnojknfjbimdaaGreatWListdPlain
import Derived.Test.YtmnojknfjbimdaaGreatWMSxa
namespace Go.Alg
section
variable {R : Type} [CR R]
def sm : Nat → (Nat → R) → R
  | 0, _ => 0
  | n + 1, f => sm n f + f n
theorem sm_congr {f g : Nat → R} : ∀ {n : Nat}, (∀ i, i < n → f i = g i) → sm n f = sm n g
  | 0, _ => rfl
  | n + 1, h => by rw [sm, sm, sm_congr (fun i hi => h i (by omega)), h n (by omega)]
theorem sm_zero : ∀ {n : Nat} {f : Nat → R}, (∀ i, i < n → f i = 0) → sm n f = 0
  | 0, _, _ => rfl
  | n + 1, f, h => by rw [sm, sm_zero (fun i hi => h i (by omega)), h n (by omega), zero_add]
theorem sm_add (f g : Nat → R) : ∀ n, sm n (fun i => f i + g i) = sm n f + sm n g
  | 0 => (zero_add (0 : R)).symm
  | n + 1 => by rw [sm, sm, sm, sm_add f g n, add_assoc, add_assoc, add_left_comm (sm n g)]
theorem sm_mul (a : R) (f : Nat → R) : ∀ n, sm n (fun i => a * f i) = a * sm n f
  | 0 => (mul_zero a).symm
  | n + 1 => by rw [sm, sm, sm_mul a f n, mul_add]
theorem sm_mulr (a : R) (f : Nat → R) (n : Nat) : sm n (fun i => f i * a) = sm n f * a := by
  rw [mul_comm, ← sm_mul]
  exact sm_congr fun i _ => mul_comm _ _
theorem sm_neg (f : Nat → R) (n : Nat) : sm n (fun i => -f i) = -sm n f := by
  have h : sm n f + sm n (fun i => -f i) = 0 := by
    rw [← sm_add]
    exact sm_zero fun i _ => add_neg _
  exact neg_of_add h
theorem sm_first (f : Nat → R) : ∀ n, sm (n + 1) f = f 0 + sm n (fun i => f (i + 1))
  | 0 => by rw [sm, sm, sm, add_comm]
  | n + 1 => by rw [sm, sm_first f n, sm, add_assoc]
theorem sm_rev (f : Nat → R) : ∀ n, sm n (fun i => f (n - 1 - i)) = sm n f
  | 0 => rfl
  | n + 1 => by
    rw [sm_first, sm, add_comm (sm n f)]
    have h : sm n (fun i => f (n + 1 - 1 - (i + 1))) = sm n f := by
      rw [← sm_rev f n]
      exact sm_congr fun i _ => by congr 1; omega
    rw [h]
    congr 2
theorem sm_one {n k : Nat} (hk : k < n) {f : Nat → R} (h : ∀ i, i < n → i ≠ k → f i = 0) : sm n f = f k := by
  induction n with
  | zero => omega
  | succ n ih =>
    rw [sm]
    by_cases e : k = n
    · subst e
      rw [sm_zero (fun i hi => h i (by omega) (by omega)), zero_add]
    · rw [ih (by omega) (fun i hi hne => h i (by omega) hne), h n (by omega) (by omega), add_zero]
theorem sm_cut {f : Nat → R} {m : Nat} : ∀ {n : Nat}, m ≤ n → (∀ i, m ≤ i → i < n → f i = 0) → sm n f = sm m f
  | 0, h, _ => by rw [show m = 0 by omega]
  | n + 1, h, hz => by
    by_cases e : m = n + 1
    · rw [e]
    · rw [sm, hz n (by omega) (by omega), add_zero, sm_cut (by omega) (fun i h1 h2 => hz i h1 (by omega))]
theorem sm_tri (F : Nat → Nat → R) : ∀ m, sm m (fun k => sm (k + 1) fun i => F i (k - i)) = sm m fun i => sm (m - i) fun j => F i j
  | 0 => rfl
  | m + 1 => by
    have h1 : sm (m + 1) (fun i => sm (m + 1 - i) fun j => F i j) = sm (m + 1) (fun i => (sm (m - i) fun j => F i j) + F i (m - i)) := sm_congr fun i hi => by
      rw [show m + 1 - i = (m - i) + 1 by omega, sm]
    rw [h1, sm_add, sm, sm_tri F m]
    congr 1
    rw [sm, Nat.sub_self]
    show _ = _ + (0 : R)
    rw [add_zero]
end
def PS (R : Type) : Type := Nat → R
theorem PS.ext {R : Type} {f g : PS R} (h : ∀ n, f n = g n) : f = g := funext h
section
variable {R : Type} [CR R]
instance : Add (PS R) := ⟨fun f g n => f n + g n⟩
instance : Neg (PS R) := ⟨fun f n => -f n⟩
instance : Zero (PS R) := ⟨fun _ => 0⟩
instance : One (PS R) := ⟨fun n => if n = 0 then 1 else 0⟩
instance : Mul (PS R) := ⟨fun f g n => sm (n + 1) fun i => f i * g (n - i)⟩
theorem ps_add (f g : PS R) (n : Nat) : (f + g) n = f n + g n := rfl
theorem ps_neg (f : PS R) (n : Nat) : (-f) n = -f n := rfl
theorem ps_one (n : Nat) : (1 : PS R) n = if n = 0 then 1 else 0 := rfl
theorem ps_mul (f g : PS R) (n : Nat) : (f * g) n = sm (n + 1) fun i => f i * g (n - i) := rfl
theorem ps_mul_comm (f g : PS R) : f * g = g * f := PS.ext fun n => by
  rw [ps_mul, ps_mul, ← sm_rev]
  refine sm_congr fun i hi => ?_
  rw [mul_comm]
  congr 2
  omega
instance : CR (PS R) where
  add_assoc a b c := PS.ext fun n => add_assoc _ _ _
  add_comm a b := PS.ext fun n => add_comm _ _
  zero_add a := PS.ext fun n => zero_add _
  neg_add a := PS.ext fun n => neg_add _
  mul_comm a b := ps_mul_comm a b
  one_mul a := PS.ext fun n => by
    rw [ps_mul, sm_one (k := 0) (by omega) (fun i _ hi => by rw [ps_one, if_neg hi, zero_mul]), ps_one, if_pos rfl, one_mul, Nat.sub_zero]
  mul_add a b c := PS.ext fun n => by
    rw [ps_add, ps_mul, ps_mul, ps_mul, ← sm_add]
    exact sm_congr fun i _ => by rw [ps_add, mul_add]
  mul_assoc a b c := PS.ext fun n => by
    have h1 : ((a * b) * c) n = sm (n + 1) fun k => sm (k + 1) fun i => a i * b (k - i) * c (n - (i + (k - i))) := by
      rw [ps_mul]
      refine sm_congr fun k _ => ?_
      rw [ps_mul, ← sm_mulr]
      refine sm_congr fun i hi => ?_
      congr 2
      omega
    rw [h1, sm_tri (fun i j => a i * b j * c (n - (i + j))), ps_mul]
    refine sm_congr fun i hi => ?_
    rw [ps_mul, ← sm_mul, show n + 1 - i = n - i + 1 by omega]
    refine sm_congr fun j _ => ?_
    rw [mul_assoc, show n - (i + j) = n - i - j by omega]
end
end Go.Alg


namespace Go.Alg
structure Hom {R S : Type} [CR R] [CR S] (φ : R → S) : Prop where
  add : ∀ a b, φ (a + b) = φ a + φ b
  mul : ∀ a b, φ (a * b) = φ a * φ b
  one : φ 1 = 1
section
variable {R S : Type} [CR R] [CR S] {φ : R → S}
theorem Hom.zero (h : Hom φ) : φ 0 = 0 := by
  have h1 := h.add 0 0
  rw [zero_add] at h1
  have h2 : φ 0 + 0 = φ 0 + φ 0 := by rw [add_zero, ← h1]
  exact (add_left_cancel h2).symm
theorem Hom.neg (h : Hom φ) (a : R) : φ (-a) = -φ a := by
  refine neg_of_add ?_
  rw [← h.add, add_neg, h.zero]
theorem Hom.sm (h : Hom φ) (f : Nat → R) : ∀ n, φ (sm n f) = sm n fun i => φ (f i)
  | 0 => h.zero
  | n + 1 => by
    show φ (Go.Alg.sm n f + f n) = _
    rw [h.add, h.sm f n]; rfl
theorem Hom.npow (h : Hom φ) (a : R) : ∀ n, φ (npow a n) = npow (φ a) n
  | 0 => h.one
  | n + 1 => by
    show φ (Go.Alg.npow a n * a) = _
    rw [h.mul, h.npow a n]; rfl
theorem Hom.id : Hom (fun a : R => a) := ⟨fun _ _ => rfl, fun _ _ => rfl, rfl⟩
def Sup (n : Nat) (f : PS R) : Prop := ∀ i, n ≤ i → f i = 0
theorem Sup.mono {n m : Nat} {f : PS R} (h : Sup n f) (hm : n ≤ m) : Sup m f := fun i hi => h i (by omega)
theorem Sup.add {n : Nat} {f g : PS R} (h : Sup n f) (k : Sup n g) : Sup n (f + g) := fun i hi => by rw [ps_add, h i hi, k i hi, zero_add]
theorem Sup.neg {n : Nat} {f : PS R} (h : Sup n f) : Sup n (-f) := fun i hi => by rw [ps_neg, h i hi, neg_zero]
theorem Sup.zero (n : Nat) : Sup n (0 : PS R) := fun _ _ => rfl
theorem Sup.one {n : Nat} (h : 1 ≤ n) : Sup n (1 : PS R) := fun i hi => by rw [ps_one, if_neg (by omega)]
theorem Sup.mul {n m : Nat} {f g : PS R} (h : Sup n f) (k : Sup m g) : Sup (n + m - 1) (f * g) := fun i hi => by
  rw [ps_mul]
  refine sm_zero fun j hj => ?_
  rcases Nat.lt_or_ge j n with e | e
  · rw [k (i - j) (by omega), mul_zero]
  · rw [h j e, zero_mul]
def evp (φ : R → S) (x : S) (n : Nat) (f : PS R) : S := sm n fun i => φ (f i) * npow x i
theorem evp_more (h : Hom φ) (x : S) {n m : Nat} {f : PS R} (hf : Sup n f) (hm : n ≤ m) : evp φ x m f = evp φ x n f :=
  sm_cut hm fun i h1 _ => by rw [hf i h1, h.zero, zero_mul]
theorem evp_same (h : Hom φ) (x : S) {n m : Nat} {f : PS R} (hf : Sup n f) (hg : Sup m f) : evp φ x n f = evp φ x m f := by
  rw [← evp_more h x hf (Nat.le_max_left n m), ← evp_more h x hg (Nat.le_max_right n m)]
theorem evp_add (h : Hom φ) (x : S) (n : Nat) (f g : PS R) : evp φ x n (f + g) = evp φ x n f + evp φ x n g := by
  rw [evp, evp, evp, ← sm_add]
  exact sm_congr fun i _ => by rw [ps_add, h.add, add_mul]
theorem evp_mul (h : Hom φ) (x : S) {n m : Nat} {f g : PS R} (hf : Sup n f) (hg : Sup m g) : evp φ x (n + m) (f * g) = evp φ x n f * evp φ x m g := by
  have h1 : evp φ x (n + m) (f * g) = sm (n + m) fun k => sm (k + 1) fun i => (φ (f i) * npow x i) * (φ (g (k - i)) * npow x (k - i)) := by
    refine sm_congr fun k _ => ?_
    rw [ps_mul, h.sm, ← sm_mulr]
    refine sm_congr fun i hi => ?_
    have hk : npow x k = npow x i * npow x (k - i) := by rw [← npow_add]; congr 1; omega
    rw [h.mul, hk, mul_assoc, mul_assoc, mul_left_comm (φ (g (k - i)))]
  rw [h1, sm_tri (fun i j => (φ (f i) * npow x i) * (φ (g j) * npow x j))]
  rw [sm_cut (m := n) (by omega) (fun i h1 _ => sm_zero fun j _ => by rw [hf i h1, h.zero, zero_mul, zero_mul])]
  rw [evp, evp, ← sm_mulr]
  refine sm_congr fun i hi => ?_
  rw [sm_cut (m := m) (by omega) (fun j h1 _ => by rw [hg j h1, h.zero, zero_mul, mul_zero]), sm_mul]
theorem evp_one (h : Hom φ) (x : S) {n : Nat} (hn : 1 ≤ n) : evp φ x n (1 : PS R) = 1 := by
  rw [evp, sm_one (k := 0) (by omega) (fun i _ hi => by rw [ps_one, if_neg hi, h.zero, zero_mul]), ps_one, if_pos rfl, h.one]
  exact one_mul 1
def PS.tail (f : PS R) : PS R := fun i => f (i + 1)
end
theorem evp_step {R S : Type} [CR S] {φ : R → S} (x : S) (n : Nat) (f : PS R) : evp φ x (n + 1) f = φ (f 0) + x * evp φ x n f.tail := by
  show sm (n + 1) (fun i => φ (f i) * npow x i) = φ (f 0) + x * sm n (fun i => φ (f (i + 1)) * npow x i)
  rw [sm_first, ← sm_mul]
  congr 1
  · exact mul_one _
  · refine sm_congr fun i _ => ?_
    rw [npow_succ, mul_comm (npow x i), mul_left_comm]
section
variable {R : Type} [CR R]
def psC (a : R) : PS R := fun n => if n = 0 then a else 0
def psX : PS R := fun n => if n = 1 then 1 else 0
theorem psC_mul (a : R) (f : PS R) (n : Nat) : (psC a * f) n = a * f n := by
  rw [ps_mul, sm_one (k := 0) (by omega) (fun i _ hi => by rw [psC, if_neg hi, zero_mul]), psC, if_pos rfl, Nat.sub_zero]
theorem psC_hom : Hom (psC : R → PS R) := by
  refine ⟨fun a b => PS.ext fun n => ?_, fun a b => PS.ext fun n => ?_, rfl⟩
  · rw [ps_add, psC, psC, psC]
    by_cases h : n = 0
    · rw [if_pos h, if_pos h, if_pos h]
    · rw [if_neg h, if_neg h, if_neg h, zero_add]
  · rw [psC_mul, psC, psC]
    by_cases h : n = 0
    · rw [if_pos h, if_pos h]
    · rw [if_neg h, if_neg h, mul_zero]
theorem psX_mul_zero (f : PS R) : ((psX : PS R) * f) 0 = 0 := by
  rw [ps_mul, sm, sm, zero_add, psX, if_neg (by omega), zero_mul]
theorem psX_mul (f : PS R) (n : Nat) : ((psX : PS R) * f) (n + 1) = f n := by
  rw [ps_mul, sm_one (k := 1) (by omega) (fun i _ hi => by rw [psX, if_neg hi, zero_mul]), psX, if_pos rfl, one_mul]
  rfl
theorem evp_psX : ∀ (n : Nat) (f : PS R), Sup n f → evp (psC : R → PS R) psX n f = f
  | 0, f, h => PS.ext fun i => (h i (by omega)).symm
  | n + 1, f, h => PS.ext fun i => by
    rw [evp_step, ps_add, evp_psX n f.tail (fun i hi => h (i + 1) (by omega))]
    cases i with
    | zero => rw [psX_mul_zero, psC, if_pos rfl, add_zero]
    | succ i => rw [psX_mul, psC, if_neg (by omega), zero_add]; rfl
end
end Go.Alg


namespace Go.Alg
def bc : Nat → Nat → Nat
  | _, 0 => 1
  | 0, _ + 1 => 0
  | n + 1, k + 1 => bc n k + bc n (k + 1)
theorem bc_zero (n : Nat) : bc n 0 = 1 := by cases n <;> rfl
theorem bc_over : ∀ {n k : Nat}, n < k → bc n k = 0
  | 0, 0, h => by omega
  | 0, _ + 1, _ => rfl
  | n + 1, 0, h => by omega
  | n + 1, k + 1, h => by rw [bc, bc_over (by omega), bc_over (by omega)]
section
variable {R : Type} [CR R]
def nm : Nat → R → R
  | 0, _ => 0
  | n + 1, x => nm n x + x
theorem nm_one (x : R) : nm 1 x = x := zero_add x
theorem nm_zero' : ∀ n, nm n (0 : R) = 0
  | 0 => rfl
  | n + 1 => by rw [nm, nm_zero' n, add_zero]
theorem nm_add (a b : Nat) (x : R) : nm (a + b) x = nm a x + nm b x := by
  induction b with
  | zero => exact (add_zero _).symm
  | succ b ih => rw [← Nat.add_assoc, nm, ih, nm, add_assoc]
theorem nm_mul (a : Nat) (x y : R) : nm a (x * y) = nm a x * y := by
  induction a with
  | zero => exact (zero_mul y).symm
  | succ a ih => rw [nm, nm, ih, add_mul]
theorem nm_mulr (a : Nat) (x y : R) : nm a (x * y) = x * nm a y := by rw [mul_comm, nm_mul, mul_comm]
theorem nm_nm (a b : Nat) (x : R) : nm (a * b) x = nm a (nm b x) := by
  induction a with
  | zero => rw [Nat.zero_mul]; rfl
  | succ a ih => rw [Nat.succ_mul, nm_add, ih]; rfl
def lin (a : R) : PS R := psC a + psX
theorem lin_mul_zero (a : R) (f : PS R) : (lin a * f) 0 = a * f 0 := by rw [lin, add_mul, ps_add, psC_mul, psX_mul_zero, add_zero]
theorem lin_mul (a : R) (f : PS R) (n : Nat) : (lin a * f) (n + 1) = a * f (n + 1) + f n := by rw [lin, add_mul, ps_add, psC_mul, psX_mul]
theorem lin_npow (a : R) : ∀ (i k : Nat), npow (lin a) i k = if k ≤ i then nm (bc i k) (npow a (i - k)) else 0
  | 0, k => by
    show (1 : PS R) k = _
    rw [ps_one]
    by_cases h : k = 0
    · subst h; rw [if_pos rfl, if_pos (Nat.le_refl _)]; exact (nm_one _).symm
    · rw [if_neg h, if_neg (by omega)]
  | i + 1, k => by
    rw [npow_succ, mul_comm]
    cases k with
    | zero =>
      rw [lin_mul_zero, lin_npow a i 0, if_pos (Nat.zero_le _), if_pos (Nat.zero_le _), bc_zero, bc_zero, nm_one, nm_one, mul_comm]
      rfl
    | succ k =>
      rw [lin_mul, lin_npow a i (k + 1), lin_npow a i k]
      by_cases h : k + 1 ≤ i
      · rw [if_pos h, if_pos (by omega), if_pos (by omega), bc, nm_add, ← nm_mulr, mul_comm a, ← npow_succ, show i - (k + 1) + 1 = i - k by omega, show i + 1 - (k + 1) = i - k by omega, add_comm]
      · rw [if_neg h, mul_zero, zero_add]
        by_cases h2 : k ≤ i
        · rw [if_pos h2, if_pos (by omega), show k = i by omega, bc, bc_over (show i < i + 1 by omega), Nat.add_zero, Nat.sub_self, Nat.sub_self]
        · rw [if_neg h2, if_neg (by omega)]
def hs (k : Nat) (f : PS R) : PS R := fun i => nm (bc (i + k) k) (f (i + k))
theorem hs_sup {n k : Nat} {f : PS R} (h : Sup n f) : Sup (n - k) (hs k f) := fun i hi => by rw [hs, h (i + k) (by omega), nm_zero']
def about (a : R) (n : Nat) (f : PS R) : PS R := evp psC (lin a) n f
theorem sm_at (F : Nat → PS R) (k : Nat) : ∀ n, sm n F k = sm n fun i => F i k
  | 0 => rfl
  | n + 1 => by
    show (sm n F + F n) k = _
    rw [ps_add, sm_at F k n]; rfl
theorem about_at (a : R) (n : Nat) (f : PS R) (k : Nat) : about a n f k = sm n fun i => if k ≤ i then nm (bc i k) (f i * npow a (i - k)) else 0 := by
  rw [about, evp, sm_at]
  refine sm_congr fun i _ => ?_
  rw [psC_mul, lin_npow]
  by_cases h : k ≤ i
  · rw [if_pos h, if_pos h, nm_mulr]
  · rw [if_neg h, if_neg h, mul_zero]
theorem hs_value (a : R) {n : Nat} {f : PS R} (k : Nat) : evp (fun x => x) a (n - k) (hs k f) = about a n f k := by
  rw [about_at]
  rcases Nat.lt_or_ge n k with h | h
  · rw [show n - k = 0 by omega]
    exact (sm_zero fun i hi => if_neg (by omega)).symm
  · have key : ∀ m, sm (k + m) (fun i => if k ≤ i then nm (bc i k) (f i * npow a (i - k)) else 0) = sm m fun i => hs k f i * npow a i := by
      intro m
      induction m with
      | zero => exact sm_zero fun i hi => if_neg (by omega)
      | succ m ih =>
        rw [← Nat.add_assoc, sm, ih, sm, if_pos (by omega), show k + m - k = m by omega, nm_mul, hs, Nat.add_comm k m]
    rw [evp, ← key, show k + (n - k) = n by omega]
end
end Go.Alg


namespace Go.Alg
section
variable {R : Type} [CR R]
def form (d : Nat) (f : PS (PS R)) : PS R := fun j => if j ≤ d then f j (d - j) else 0
def Ord (n : Nat) (f : PS (PS R)) : Prop := ∀ i j, i + j < n → f j i = 0
def NZD (R : Type) [CR R] : Prop := ∀ a b : R, a * b = 0 → a = 0 ∨ b = 0
theorem ps_first {f : PS R} (h : f ≠ 0) : ∃ n, f n ≠ 0 ∧ ∀ i, i < n → f i = 0 := by
  have hex : ∃ n, f n ≠ 0 := Classical.byContradiction fun hc => h (PS.ext fun n => Classical.byContradiction fun hn => hc ⟨n, hn⟩)
  obtain ⟨m, hm⟩ := hex
  induction m using Nat.strongRecOn with
  | _ m ih =>
    by_cases hl : ∃ i, i < m ∧ f i ≠ 0
    · obtain ⟨i, hi, hne⟩ := hl
      exact ih i hi hne
    · exact ⟨m, hm, fun i hi => Classical.byContradiction fun hne => hl ⟨i, hi, hne⟩⟩
theorem ps_nzd (hR : NZD R) : NZD (PS R) := fun f g h => by
  refine Classical.byContradiction fun hc => ?_
  have hf : f ≠ 0 := fun e => hc (.inl e)
  have hg : g ≠ 0 := fun e => hc (.inr e)
  obtain ⟨n, hn, hn0⟩ := ps_first hf
  obtain ⟨m, hm, hm0⟩ := ps_first hg
  have h1 : (f * g) (n + m) = 0 := by rw [h]; rfl
  rw [ps_mul, sm_one (k := n) (by omega) (fun i hi hne => ?_), Nat.add_sub_cancel_left] at h1
  · rcases hR _ _ h1 with e | e
    · exact hn e
    · exact hm e
  · rcases Nat.lt_or_ge i n with e | e
    · rw [hn0 i e, zero_mul]
    · rw [hm0 (n + m - i) (by omega), mul_zero]
def OrdIs (n : Nat) (f : PS (PS R)) : Prop := Ord n f ∧ form n f ≠ 0
def Wd (w d : Nat) (f : PS (PS R)) : Prop := ∀ i j, d < i + w * j → f j i = 0
def tform (w d : Nat) (f : PS (PS R)) : PS R := fun j => if w * j ≤ d then f j (d - w * j) else 0
def WdIs (w d : Nat) (f : PS (PS R)) : Prop := Wd w d f ∧ ∃ i j, i + w * j = d ∧ f j i ≠ 0
end
end Go.Alg


namespace Go.Alg
def Pol (R : Type) [CR R] : Type := { f : PS R // ∃ n, Sup n f }
section
variable {R S : Type} [CR R] [CR S]
def Pol.co (f : Pol R) (i : Nat) : R := f.1 i
theorem Pol.ext {f g : Pol R} (h : ∀ i, f.co i = g.co i) : f = g := Subtype.ext (funext h)
instance : Add (Pol R) := ⟨fun f g => ⟨f.1 + g.1, by
  obtain ⟨n, hn⟩ := f.2
  obtain ⟨m, hm⟩ := g.2
  exact ⟨max n m, (hn.mono (Nat.le_max_left n m)).add (hm.mono (Nat.le_max_right n m))⟩⟩⟩
instance : Mul (Pol R) := ⟨fun f g => ⟨f.1 * g.1, by
  obtain ⟨n, hn⟩ := f.2
  obtain ⟨m, hm⟩ := g.2
  exact ⟨_, hn.mul hm⟩⟩⟩
instance : Neg (Pol R) := ⟨fun f => ⟨-f.1, by
  obtain ⟨n, hn⟩ := f.2
  exact ⟨n, hn.neg⟩⟩⟩
instance : Zero (Pol R) := ⟨⟨0, 0, Sup.zero 0⟩⟩
instance : One (Pol R) := ⟨⟨1, 1, Sup.one (Nat.le_refl _)⟩⟩
instance : CR (Pol R) where
  add_assoc a b c := Subtype.ext (add_assoc a.1 b.1 c.1)
  add_comm a b := Subtype.ext (add_comm a.1 b.1)
  zero_add a := Subtype.ext (zero_add a.1)
  neg_add a := Subtype.ext (neg_add a.1)
  mul_assoc a b c := Subtype.ext (mul_assoc a.1 b.1 c.1)
  mul_comm a b := Subtype.ext (mul_comm a.1 b.1)
  one_mul a := Subtype.ext (one_mul a.1)
  mul_add a b c := Subtype.ext (mul_add a.1 b.1 c.1)
theorem co_add (f g : Pol R) (i : Nat) : (f + g).co i = f.co i + g.co i := rfl
theorem co_neg (f : Pol R) (i : Nat) : (-f).co i = -f.co i := rfl
theorem co_zero (i : Nat) : (0 : Pol R).co i = 0 := rfl
theorem co_one (i : Nat) : (1 : Pol R).co i = if i = 0 then 1 else 0 := rfl
theorem co_mul (f g : Pol R) (n : Nat) : (f * g).co n = sm (n + 1) fun i => f.co i * g.co (n - i) := rfl
theorem co_hom : Hom (fun f : Pol R => f.1) := ⟨fun _ _ => rfl, fun _ _ => rfl, rfl⟩
def pC (a : R) : Pol R := ⟨psC a, 1, fun i hi => by rw [psC, if_neg (by omega)]⟩
def pX : Pol R := ⟨psX, 2, fun i hi => by rw [psX, if_neg (by omega)]⟩
theorem pC_hom : Hom (pC : R → Pol R) := ⟨fun a b => Subtype.ext (psC_hom.add a b), fun a b => Subtype.ext (psC_hom.mul a b), Subtype.ext psC_hom.one⟩
theorem co_pC (a : R) (i : Nat) : (pC a).co i = if i = 0 then a else 0 := rfl
theorem co_pC_mul (a : R) (f : Pol R) (i : Nat) : (pC a * f).co i = a * f.co i := psC_mul a f.1 i
theorem co_pX_zero (f : Pol R) : (pX * f).co 0 = 0 := psX_mul_zero f.1
theorem co_pX_mul (f : Pol R) (i : Nat) : (pX * f).co (i + 1) = f.co i := psX_mul f.1 i
noncomputable def pev (φ : R → S) (x : S) (f : Pol R) : S := evp φ x (Classical.choose f.2) f.1
variable {φ : R → S}
theorem pev_eq (h : Hom φ) (x : S) {f : Pol R} {n : Nat} (hn : Sup n f.1) : pev φ x f = evp φ x n f.1 := evp_same h x (Classical.choose_spec f.2) hn
theorem pev_hom (h : Hom φ) (x : S) : Hom (pev φ x) := by
  refine ⟨fun f g => ?_, fun f g => ?_, ?_⟩
  · obtain ⟨n, hn⟩ := f.2
    obtain ⟨m, hm⟩ := g.2
    have h1 := hn.mono (Nat.le_max_left n m)
    have h2 := hm.mono (Nat.le_max_right n m)
    rw [pev_eq h x (f := f + g) (h1.add h2), pev_eq h x h1, pev_eq h x h2]
    exact evp_add h x _ f.1 g.1
  · obtain ⟨n, hn⟩ := f.2
    obtain ⟨m, hm⟩ := g.2
    rw [pev_eq h x (f := f * g) (n := n + m) ((hn.mul hm).mono (by omega)), pev_eq h x hn, pev_eq h x hm]
    exact evp_mul h x hn hm
  · rw [pev_eq h x (f := (1 : Pol R)) (n := 1) (Sup.one (Nat.le_refl _))]
    exact evp_one h x (Nat.le_refl _)
theorem pev_C (h : Hom φ) (x : S) (a : R) : pev φ x (pC a) = φ a := by
  rw [pev_eq h x (f := pC a) (n := 1) (fun i hi => by show psC a i = 0; rw [psC, if_neg (by omega)])]
  show (0 : S) + φ a * 1 = φ a
  rw [zero_add, mul_one]
theorem pev_X (h : Hom φ) (x : S) : pev φ x pX = x := by
  rw [pev_eq h x (f := pX) (n := 2) (fun i hi => by show psX i = 0; rw [psX, if_neg (by omega)])]
  show (0 : S) + φ (psX 0) * 1 + φ (psX 1) * (1 * x) = x
  rw [psX, if_neg (by omega), psX, if_pos rfl, h.zero, h.one, zero_mul, one_mul, one_mul, zero_add, zero_add]
theorem hom_pol {ψ : Pol R → S} (h : Hom ψ) (f : Pol R) : ψ f = pev (fun a => ψ (pC a)) (ψ pX) f := by
  have hφ : Hom (fun a => ψ (pC a)) := ⟨fun a b => by rw [pC_hom.add, h.add], fun a b => by rw [pC_hom.mul, h.mul], by rw [pC_hom.one, h.one]⟩
  obtain ⟨n, hn⟩ := f.2
  have key : ∀ (n : Nat) (f : Pol R), Sup n f.1 → ψ f = evp (fun a => ψ (pC a)) (ψ pX) n f.1 := by
    intro n
    induction n with
    | zero =>
      intro f hf
      have : f = 0 := Pol.ext fun i => hf i (by omega)
      rw [this, h.zero]; rfl
    | succ n ih =>
      intro f hf
      let t : Pol R := ⟨f.1.tail, n, fun i hi => hf (i + 1) (by omega)⟩
      have hft : f = pC (f.co 0) + pX * t := Pol.ext fun i => by
        rw [co_add]
        cases i with
        | zero => rw [co_pX_zero, co_pC, if_pos rfl, add_zero]
        | succ i => rw [co_pX_mul, co_pC, if_neg (by omega), zero_add]; rfl
      rw [evp_step, ← ih t (fun i hi => hf (i + 1) (by omega)), ← h.mul, ← h.add]
      exact congrArg ψ hft
  rw [pev_eq hφ _ hn]
  exact key n f hn
end
end Go.Alg


namespace Go.Fd
open Go.Alg
variable {P : FP}
def pz (P : FP) (z : List Int) : Pol (K P) := ⟨fun i => inK P (z.getD i 0), z.length, fun i hi => by
  have h : z.getD i 0 = 0 := by simp [List.getD_eq_getElem?_getD, List.getElem?_eq_none hi]
  show inK P (z.getD i 0) = 0
  rw [h]; exact inK_in (by have := P.q_two; omega)⟩
theorem co_pz (z : List Int) (i : Nat) : (pz P z).co i = inK P (z.getD i 0) := rfl
structure Cn (P : FP) (r : List Int) (f : Pol (K P)) : Prop where
  rng : ∀ x ∈ r, 0 ≤ x ∧ x < P.q
  co : ∀ i, inK P (r.getD i 0) = f.co i
  last : r ≠ [] → r.getD (r.length - 1) 0 ≠ 0
theorem Cn.pz {r : List Int} {f : Pol (K P)} (h : Cn P r f) : Go.Fd.pz P r = f := Pol.ext h.co
theorem Cn.at {r : List Int} {f : Pol (K P)} (h : Cn P r f) (i : Nat) : r.getD i 0 = (f.co i).1 := by
  rw [← h.co i]
  rcases Nat.lt_or_ge i r.length with e | e
  · have hm : r.getD i 0 ∈ r := by
      rw [List.getD_eq_getElem?_getD, List.getElem?_eq_getElem e]
      exact List.getElem_mem _
    rw [inK_in (h.rng _ hm)]
  · have h0 : r.getD i 0 = 0 := by simp [List.getD_eq_getElem?_getD, List.getElem?_eq_none e]
    rw [h0, inK_in (by have := P.q_two; omega)]
theorem Cn.len {r : List Int} {f : Pol (K P)} (h : Cn P r f) {n : Nat} (hn : ∀ i, n ≤ i → f.co i = 0) : r.length ≤ n := by
  refine Nat.le_of_not_lt fun hc => ?_
  have hne : r ≠ [] := fun e => by subst e; simp at hc
  refine h.last hne ?_
  rw [h.at, hn _ (by omega)]; rfl
theorem Cn.over {r : List Int} {f : Pol (K P)} (h : Cn P r f) (i : Nat) (hi : r.length ≤ i) : f.co i = 0 := by
  rw [← h.co i]
  have h0 : r.getD i 0 = 0 := by simp [List.getD_eq_getElem?_getD, List.getElem?_eq_none hi]
  rw [h0]; exact inK_in (by have := P.q_two; omega)
theorem Cn.uniq {r s : List Int} {f : Pol (K P)} (h : Cn P r f) (k : Cn P s f) : r = s := by
  have hl : r.length = s.length := Nat.le_antisymm (h.len k.over) (k.len h.over)
  apply List.ext_getElem hl
  intro i h1 h2
  have e1 := h.at i
  have e2 := k.at i
  rw [List.getD_eq_getElem?_getD, List.getElem?_eq_getElem h1, Option.getD_some] at e1
  rw [List.getD_eq_getElem?_getD, List.getElem?_eq_getElem h2, Option.getD_some] at e2
  rw [e1, e2]
theorem Cn.nil_iff {r : List Int} {f : Pol (K P)} (h : Cn P r f) : r = [] ↔ f = 0 := by
  constructor
  · intro e
    subst e
    exact Pol.ext fun i => h.over i (by simp)
  · intro e
    subst e
    have := h.len (n := 0) (fun i _ => rfl)
    exact List.eq_nil_of_length_eq_zero (by omega)
theorem Cn.zero : Cn P [] 0 := ⟨fun x h => (by cases h), fun i => by
  show inK P 0 = 0
  exact inK_in (by have := P.q_two; omega), fun h => absurd rfl h⟩
def trimL : List Int → List Int
  | [] => []
  | a :: l => if trimL l = [] ∧ a = 0 then [] else a :: trimL l
theorem trimL_at : ∀ (l : List Int) (i : Nat), (trimL l).getD i 0 = l.getD i 0
  | [], i => rfl
  | a :: l, i => by
    rw [trimL]
    split
    · rename_i h
      have ih := trimL_at l
      cases i with
      | zero => simp [h.2]
      | succ i =>
        have := ih i
        rw [h.1] at this
        simpa using this
    · cases i with
      | zero => rfl
      | succ i => simpa using trimL_at l i
theorem trimL_last : ∀ (l : List Int), trimL l ≠ [] → (trimL l).getD ((trimL l).length - 1) 0 ≠ 0
  | [], h => absurd rfl h
  | a :: l, h => by
    rw [trimL] at h ⊢
    split
    · rename_i h1
      rw [if_pos h1] at h
      exact absurd rfl h
    · rename_i h1
      cases ht : trimL l with
      | nil =>
        have ha : a ≠ 0 := fun e => h1 ⟨ht, e⟩
        simpa using ha
      | cons b m =>
        have ih := trimL_last l (by rw [ht]; simp)
        rw [ht] at ih
        simpa using ih
theorem trimL_mem {l : List Int} : ∀ x ∈ trimL l, x ∈ l := by
  induction l with
  | nil => intro x h; cases h
  | cons a l ih =>
    intro x h
    rw [trimL] at h
    split at h
    · cases h
    · rcases List.mem_cons.1 h with e | e
      · exact e ▸ List.mem_cons_self ..
      · exact List.mem_cons_of_mem _ (ih x e)
theorem Cn.trim {l : List Int} (h : ∀ x ∈ l, 0 ≤ x ∧ x < P.q) : Cn P (trimL l) (Go.Fd.pz P l) :=
  ⟨fun x hx => h x (trimL_mem x hx), fun i => by rw [trimL_at, co_pz], trimL_last l⟩
end Go.Fd


namespace Go.Fd
open Go.Alg
variable {P : FP}
theorem pz_nil : pz P [] = 0 := Pol.ext fun i => by
  show inK P 0 = 0
  exact inK_in (by have := P.q_two; omega)
def bz (P : FP) (L : List (List Int)) : Pol (Pol (K P)) := ⟨fun j => pz P (L.getD j []), L.length, fun j hj => by
  have h : L.getD j [] = [] := by simp [List.getD_eq_getElem?_getD, List.getElem?_eq_none hj]
  show pz P (L.getD j []) = 0
  rw [h, pz_nil]⟩
theorem co_bz (L : List (List Int)) (j : Nat) : (bz P L).co j = pz P (L.getD j []) := rfl
structure BCn (P : FP) (L : List (List Int)) (F : Pol (Pol (K P))) : Prop where
  row : ∀ j, Cn P (L.getD j []) (F.co j)
  last : L ≠ [] → L.getD (L.length - 1) [] ≠ []
theorem BCn.bz {L : List (List Int)} {F : Pol (Pol (K P))} (h : BCn P L F) : Go.Fd.bz P L = F := Pol.ext fun j => (h.row j).pz
theorem BCn.over {L : List (List Int)} {F : Pol (Pol (K P))} (h : BCn P L F) (j : Nat) (hj : L.length ≤ j) : F.co j = 0 := by
  have h0 : L.getD j [] = [] := by simp [List.getD_eq_getElem?_getD, List.getElem?_eq_none hj]
  have := h.row j
  rw [h0] at this
  exact this.nil_iff.1 rfl
theorem BCn.len {L : List (List Int)} {F : Pol (Pol (K P))} (h : BCn P L F) {n : Nat} (hn : ∀ j, n ≤ j → F.co j = 0) : L.length ≤ n := by
  refine Nat.le_of_not_lt fun hc => ?_
  have hne : L ≠ [] := fun e => by subst e; simp at hc
  refine h.last hne ?_
  exact (h.row _).nil_iff.2 (hn _ (by omega))
theorem BCn.uniq {L M : List (List Int)} {F : Pol (Pol (K P))} (h : BCn P L F) (k : BCn P M F) : L = M := by
  have hl : L.length = M.length := Nat.le_antisymm (h.len k.over) (k.len h.over)
  apply List.ext_getElem hl
  intro j h1 h2
  have e := (h.row j).uniq (k.row j)
  rw [List.getD_eq_getElem?_getD, List.getElem?_eq_getElem h1, Option.getD_some, List.getD_eq_getElem?_getD, List.getElem?_eq_getElem h2, Option.getD_some] at e
  exact e
theorem BCn.nil_iff {L : List (List Int)} {F : Pol (Pol (K P))} (h : BCn P L F) : L = [] ↔ F = 0 := by
  constructor
  · intro e
    subst e
    exact Pol.ext fun i => h.over i (by simp)
  · intro e
    subst e
    have := h.len (n := 0) (fun i _ => rfl)
    exact List.eq_nil_of_length_eq_zero (by omega)
def trimB : List (List Int) → List (List Int)
  | [] => []
  | a :: l => if trimB l = [] ∧ a = [] then [] else a :: trimB l
theorem trimB_at : ∀ (l : List (List Int)) (i : Nat), (trimB l).getD i [] = l.getD i []
  | [], i => rfl
  | a :: l, i => by
    rw [trimB]
    split
    · rename_i h
      cases i with
      | zero => simp [h.2]
      | succ i =>
        have := trimB_at l i
        rw [h.1] at this
        simpa using this
    · cases i with
      | zero => rfl
      | succ i => simpa using trimB_at l i
theorem trimB_last : ∀ (l : List (List Int)), trimB l ≠ [] → (trimB l).getD ((trimB l).length - 1) [] ≠ []
  | [], h => absurd rfl h
  | a :: l, h => by
    rw [trimB] at h ⊢
    split
    · rename_i h1
      rw [if_pos h1] at h
      exact absurd rfl h
    · rename_i h1
      cases ht : trimB l with
      | nil =>
        have ha : a ≠ [] := fun e => h1 ⟨ht, e⟩
        simpa using ha
      | cons b m =>
        have ih := trimB_last l (by rw [ht]; simp)
        rw [ht] at ih
        simpa using ih
theorem BCn.trim {L : List (List Int)} {F : Pol (Pol (K P))} (h : ∀ j, Cn P (L.getD j []) (F.co j)) : BCn P (trimB L) F :=
  ⟨fun j => by rw [trimB_at]; exact h j, trimB_last L⟩
noncomputable def val1 (f : Pol (K P)) (x : K P) : K P := pev (fun a => a) x f
noncomputable def val2 (F : Pol (Pol (K P))) (x y : K P) : K P := pev (fun f => val1 f x) y F
noncomputable def subst (F : Pol (Pol (K P))) (h : Pol (K P)) : Pol (K P) := pev (fun f => f) h F
theorem val1_hom (x : K P) : Hom (fun f : Pol (K P) => val1 f x) := pev_hom Hom.id x
theorem val2_hom (x y : K P) : Hom (fun F : Pol (Pol (K P)) => val2 F x y) := pev_hom (val1_hom x) y
theorem subst_hom (h : Pol (K P)) : Hom (fun F : Pol (Pol (K P)) => subst F h) := pev_hom Hom.id h
end Go.Fd


namespace Go.Alg
theorem hom_evp {R S T : Type} [CR S] [CR T] {φ : R → S} {ψ : S → T} (h : Hom ψ) (x : S) (n : Nat) (f : PS R) : ψ (evp φ x n f) = evp (fun a => ψ (φ a)) (ψ x) n f := by
  rw [evp, h.sm, evp]
  exact sm_congr fun i _ => by rw [h.mul, h.npow]
section
variable {R S T : Type} [CR R] [CR S] [CR T]
noncomputable def sh1 (a : R) (f : Pol R) : Pol R := pev pC (pX + pC a) f
theorem sh1_hom (a : R) : Hom (fun f : Pol R => sh1 a f) := pev_hom pC_hom _
theorem sh1_co (a : R) {f : Pol R} {n : Nat} (hn : Sup n f.1) (k : Nat) : (sh1 a f).co k = evp (fun x => x) a (n - k) (hs k f.1) := by
  rw [hs_value, about, sh1, pev_eq pC_hom _ hn]
  have h1 := hom_evp (φ := (pC : R → Pol R)) co_hom (pX + pC a) n f.1
  have h2 : (fun b : R => (pC b : Pol R).1) = psC := rfl
  have h3 : (pX + pC a : Pol R).1 = lin a := add_comm _ _
  show (evp pC (pX + pC a) n f.1).1 k = _
  have h4 : (evp (pC : R → Pol R) (pX + pC a) n f.1).1 = evp psC (lin a) n f.1 := by
    rw [← h3, ← h2]; exact h1
  rw [h4]
def hsP (k : Nat) (f : Pol R) : Pol R := ⟨hs k f.1, by
  obtain ⟨n, hn⟩ := f.2
  exact ⟨n - k, hs_sup hn⟩⟩
theorem co_hsP (k : Nat) (f : Pol R) (i : Nat) : (hsP k f).co i = nm (bc (i + k) k) (f.co (i + k)) := rfl
theorem hsP_value (a : R) (f : Pol R) (k : Nat) : pev (fun x => x) a (hsP k f) = (sh1 a f).co k := by
  obtain ⟨n, hn⟩ := f.2
  rw [sh1_co a hn, pev_eq Hom.id a (f := hsP k f) (n := n - k) (hs_sup hn)]
  rfl
def mapP (φ : R → S) (h : Hom φ) (f : Pol R) : Pol S := ⟨fun i => φ (f.co i), by
  obtain ⟨n, hn⟩ := f.2
  exact ⟨n, fun i hi => by show φ (f.1 i) = 0; rw [hn i hi, h.zero]⟩⟩
theorem co_mapP (φ : R → S) (h : Hom φ) (f : Pol R) (i : Nat) : (mapP φ h f).co i = φ (f.co i) := rfl
theorem mapP_hom (φ : R → S) (h : Hom φ) : Hom (mapP φ h) := by
  refine ⟨fun a b => Pol.ext fun i => ?_, fun a b => Pol.ext fun i => ?_, Pol.ext fun i => ?_⟩
  · rw [co_mapP, co_add, h.add]; rfl
  · rw [co_mapP, co_mul, h.sm, co_mul]
    exact sm_congr fun j _ => h.mul _ _
  · rw [co_mapP, co_one, co_one]
    by_cases e : i = 0
    · rw [if_pos e, if_pos e, h.one]
    · rw [if_neg e, if_neg e, h.zero]
noncomputable def sh2 (a b : R) (F : Pol (Pol R)) : Pol (Pol R) := sh1 (pC b) (mapP (fun f => sh1 a f) (sh1_hom a) F)
theorem sh2_hom (a b : R) : Hom (sh2 a b) := ⟨fun F G => by rw [sh2, (mapP_hom _ _).add, (sh1_hom _).add]; rfl, fun F G => by rw [sh2, (mapP_hom _ _).mul, (sh1_hom _).mul]; rfl, by rw [sh2, (mapP_hom _ _).one, (sh1_hom _).one]⟩
def hs2 (a b : Nat) (F : Pol (Pol R)) : Pol (Pol R) := ⟨fun j => nm (bc (j + b) b) (hsP a (F.co (j + b))), by
  obtain ⟨n, hn⟩ := F.2
  refine ⟨n - b, fun j hj => ?_⟩
  have h0 : F.co (j + b) = 0 := hn (j + b) (by omega)
  have h1 : hsP a (0 : Pol R) = 0 := Pol.ext fun i => by rw [co_hsP, co_zero, nm_zero']; rfl
  show nm (bc (j + b) b) (hsP a (F.co (j + b))) = 0
  rw [h0, h1, nm_zero']⟩
theorem co_nm (m : Nat) (f : Pol R) (i : Nat) : (nm m f).co i = nm m (f.co i) := by
  induction m with
  | zero => rfl
  | succ m ih => rw [nm, co_add, ih]; rfl
theorem hom_nm {φ : R → S} (h : Hom φ) (m : Nat) (x : R) : φ (nm m x) = nm m (φ x) := by
  induction m with
  | zero => exact h.zero
  | succ m ih => rw [nm, h.add, ih]; rfl
theorem sm_co (F : Nat → Pol R) (k : Nat) : ∀ n, (sm n F).co k = sm n fun i => (F i).co k
  | 0 => rfl
  | n + 1 => by rw [sm, co_add, sm_co F k n]; rfl
theorem npow_pC (b : R) (j : Nat) : npow (pC b) j = pC (npow b j) := (pC_hom.npow b j).symm
theorem hs2_value (x y : R) (F : Pol (Pol R)) (a b : Nat) : pev (fun f => pev (fun c => c) x f) y (hs2 a b F) = ((sh2 x y F).co b).co a := by
  obtain ⟨n, hn⟩ := F.2
  have hm : Sup n (mapP (fun f => sh1 x f) (sh1_hom x) F).1 := fun i hi => by
    show sh1 x (F.1 i) = 0
    rw [hn i hi]; exact (sh1_hom x).zero
  have hh : Sup (n - b) (hs2 a b F).1 := fun j hj => by
    show nm (bc (j + b) b) (hsP a (F.co (j + b))) = 0
    have h0 : F.co (j + b) = 0 := hn (j + b) (by omega)
    have h1 : hsP a (0 : Pol R) = 0 := Pol.ext fun i => by rw [co_hsP, co_zero, nm_zero']; rfl
    rw [h0, h1, nm_zero']
  rw [sh2, sh1_co (pC y) hm, pev_eq (pev_hom Hom.id x) y hh, evp, evp, sm_co]
  refine sm_congr fun j _ => ?_
  show pev (fun c => c) x (nm (bc (j + b) b) (hsP a (F.co (j + b)))) * npow y j = (nm (bc (j + b) b) (sh1 x (F.co (j + b))) * npow (pC y) j).co a
  rw [npow_pC, mul_comm (nm _ (sh1 x _)), co_pC_mul, co_nm, ← hsP_value, hom_nm (pev_hom Hom.id x), mul_comm]
end
end Go.Alg


namespace Go.Alg
section
variable {R : Type} [CR R]
theorem pol_self (f : Pol R) : pev pC pX f = f := by
  obtain ⟨n, hn⟩ := f.2
  rw [pev_eq pC_hom pX hn]
  refine Subtype.ext ?_
  have h1 := hom_evp (φ := (pC : R → Pol R)) co_hom pX n f.1
  exact h1.trans (evp_psX n f.1 hn)
theorem sh1_C (a c : R) : sh1 a (pC c) = pC c := pev_C pC_hom _ c
theorem sh1_X (a : R) : sh1 a (pX : Pol R) = pX + pC a := pev_X pC_hom _
theorem sh1_inv (a : R) (f : Pol R) : sh1 (-a) (sh1 a f) = f := by
  have hψ : Hom (fun f : Pol R => sh1 (-a) (sh1 a f)) := ⟨fun f g => by rw [(sh1_hom a).add, (sh1_hom (-a)).add], fun f g => by rw [(sh1_hom a).mul, (sh1_hom (-a)).mul], by rw [(sh1_hom a).one, (sh1_hom (-a)).one]⟩
  have h := hom_pol hψ f
  have e1 : (fun c : R => sh1 (-a) (sh1 a (pC c))) = pC := funext fun c => by rw [sh1_C, sh1_C]
  have e2 : sh1 (-a) (sh1 a (pX : Pol R)) = pX := by
    rw [sh1_X, (sh1_hom (-a)).add, sh1_X, sh1_C, add_assoc, ← pC_hom.add, neg_add, pC_hom.zero, add_zero]
  have h2 : sh1 (-a) (sh1 a f) = pev (fun c : R => sh1 (-a) (sh1 a (pC c))) (sh1 (-a) (sh1 a pX)) f := h
  rw [h2, e1, e2, pol_self]
theorem sh1_zero {a : R} {f : Pol R} (h : sh1 a f = 0) : f = 0 := by
  rw [← sh1_inv a f, h]; exact (sh1_hom (-a)).zero
theorem sh2_zero {a b : R} {F : Pol (Pol R)} (h : sh2 a b F = 0) : F = 0 := by
  have h1 := sh1_zero h
  exact Pol.ext fun j => sh1_zero (a := a) (show sh1 a (F.co j) = 0 from congrArg (fun G => Pol.co G j) h1)
def ser (F : Pol (Pol R)) : PS (PS R) := fun j => (F.co j).1
theorem ser_at (F : Pol (Pol R)) (j i : Nat) : ser F j i = (F.co j).co i := rfl
def Mult (n : Nat) (x y : R) (F : Pol (Pol R)) : Prop := OrdIs n (ser (sh2 x y F))
theorem ordIs_iff {n : Nat} {f : PS (PS R)} : OrdIs n f ↔ (∀ i j, i + j < n → f j i = 0) ∧ ∃ i j, i + j = n ∧ f j i ≠ 0 := by
  constructor
  · rintro ⟨h1, h2⟩
    refine ⟨h1, Classical.byContradiction fun hc => h2 (PS.ext fun j => ?_)⟩
    rw [form]
    by_cases hj : j ≤ n
    · rw [if_pos hj]
      exact Classical.byContradiction fun hne => hc ⟨n - j, j, by omega, hne⟩
    · rw [if_neg hj]; rfl
  · rintro ⟨h1, i, j, h2, h3⟩
    refine ⟨h1, fun e => ?_⟩
    have := congrFun e j
    rw [show form n f j = if j ≤ n then f j (n - j) else 0 from rfl, if_pos (by omega), show n - j = i by omega] at this
    exact h3 this
theorem mult_iff {n : Nat} {x y : R} {F : Pol (Pol R)} : Mult n x y F ↔ (∀ a b, a + b < n → pev (fun f => pev (fun c => c) x f) y (hs2 a b F) = 0) ∧ ∃ a b, a + b = n ∧ pev (fun f => pev (fun c => c) x f) y (hs2 a b F) ≠ 0 := by
  rw [Mult, ordIs_iff]
  simp only [hs2_value, ser_at]
theorem least_exists {p : Nat → Prop} (h : ∃ n, p n) : ∃ n, p n ∧ ∀ m, m < n → ¬ p m := by
  obtain ⟨n, hn⟩ := h
  induction n using Nat.strongRecOn with
  | _ n ih =>
    by_cases hl : ∃ m, m < n ∧ p m
    · obtain ⟨m, hm, hp⟩ := hl
      exact ih m hm hp
    · exact ⟨n, hn, fun m hm hp => hl ⟨m, hm, hp⟩⟩
def Wdeg (w d : Nat) (F : Pol (Pol R)) : Prop := WdIs w d (ser F)
end
end Go.Alg


namespace Go.Alg
section
variable {R : Type} [CR R]
theorem sh1_sup {a : R} {f : Pol R} {n : Nat} (h : Sup n f.1) : Sup n (sh1 a f).1 := fun k hk => by
  show (sh1 a f).co k = 0
  rw [sh1_co a h, show n - k = 0 by omega]
  rfl
theorem sh1_first (a : R) (f : Pol R) : (sh1 a f).co 0 = pev (fun x => x) a f := by
  obtain ⟨n, hn⟩ := f.2
  rw [sh1_co a hn, pev_eq Hom.id a hn, Nat.sub_zero]
  exact sm_congr fun i _ => by rw [hs, Nat.add_zero, bc_zero, nm_one]
def Pol.tl (f : Pol R) : Pol R := ⟨f.1.tail, by
  obtain ⟨n, hn⟩ := f.2
  exact ⟨n, fun i hi => hn (i + 1) (by omega)⟩⟩
theorem pol_tl {f : Pol R} (h : f.co 0 = 0) : f = pX * f.tl := Pol.ext fun i => by
  cases i with
  | zero => rw [co_pX_zero, h]
  | succ i => rw [co_pX_mul]; rfl
theorem root_factor {a : R} {f : Pol R} {n : Nat} (h : pev (fun x => x) a f = 0) (hn : Sup (n + 1) f.1) : ∃ g : Pol R, f = (pX + pC (-a)) * g ∧ Sup n g.1 := by
  have h1 := pol_tl (f := sh1 a f) (by rw [sh1_first, h])
  refine ⟨sh1 (-a) (sh1 a f).tl, ?_, sh1_sup fun i hi => sh1_sup (a := a) hn (i + 1) (by omega)⟩
  rw [← sh1_X, ← (sh1_hom (-a)).mul, ← h1, sh1_inv]
theorem roots_le (hR : NZD R) : ∀ (n : Nat) (f : Pol R), f ≠ 0 → Sup (n + 1) f.1 → ∀ l : List R, l.Nodup → (∀ a ∈ l, pev (fun x => x) a f = 0) → l.length ≤ n
  | _, _, _, _, [], _, _ => Nat.zero_le _
  | 0, f, hf, hs, a :: l, _, hr => by
    exfalso
    refine hf (Pol.ext fun i => ?_)
    have h1 := hr a (List.mem_cons_self ..)
    rw [pev_eq Hom.id a hs] at h1
    have h2 : f.co 0 = 0 := by
      have h3 : (0 : R) + f.1 0 * 1 = 0 := h1
      rw [zero_add, mul_one] at h3
      exact h3
    cases i with
    | zero => exact h2
    | succ i => exact hs (i + 1) (by omega)
  | n + 1, f, hf, hs, a :: l, hnd, hr => by
    obtain ⟨g, hg, hgs⟩ := root_factor (hr a (List.mem_cons_self ..)) hs
    have hg0 : g ≠ 0 := fun e => hf (by rw [hg, e, mul_zero])
    have hnd' := List.nodup_cons.1 hnd
    have := roots_le hR n g hg0 hgs l hnd'.2 fun b hb => by
      have h1 := hr b (List.mem_cons_of_mem _ hb)
      rw [hg, (pev_hom Hom.id b).mul, (pev_hom Hom.id b).add, pev_X Hom.id, pev_C Hom.id] at h1
      rcases hR _ _ h1 with e | e
      · exact absurd (eq_of_add_neg e) (fun e2 => hnd'.1 (e2 ▸ hb))
      · exact e
    simp only [List.length_cons]
    omega
theorem pol_nzd (hR : NZD R) : NZD (Pol R) := fun f g h => by
  have h1 : f.1 * g.1 = 0 := congrArg Subtype.val h
  rcases ps_nzd hR f.1 g.1 h1 with e | e
  · exact .inl (Subtype.ext e)
  · exact .inr (Subtype.ext e)
end
end Go.Alg


namespace Go.Fd
open Go.Pl Go.Alg
variable {P : FP}
theorem inK0 : inK P 0 = 0 := inK_in (by have := P.q_two; omega)
theorem inK1 : inK P 1 = 1 := inK_in (by have := P.q_two; omega)
noncomputable def cl (f : Pol (K P)) : List Int := trimL (tab (Classical.choose f.2) fun i => (f.co i).1)
theorem tab_at {α : Type} {m : Nat} {f : Nat → α} {i : Nat} {d : α} : (tab m f).getD i d = if i < m then f i else d := by
  rw [List.getD_eq_getElem?_getD]
  split
  · rename_i h; rw [tab_get h]; rfl
  · rename_i h
    rw [List.getElem?_eq_none (by rw [tab_length]; omega)]; rfl
theorem tab_cn {f : Pol (K P)} {m : Nat} (h : ∀ i, m ≤ i → f.co i = 0) : Cn P (trimL (tab m fun i => (f.co i).1)) f := by
  have e : pz P (tab m fun i => (f.co i).1) = f := Pol.ext fun i => by
    rw [co_pz, tab_at]
    split
    · rw [inK_val]
    · rename_i hi
      rw [h i (by omega)]
      exact inK_in (by have := P.q_two; omega)
  have h1 := Cn.trim (P := P) (l := tab m fun i => (f.co i).1) (fun x hx => by
    rw [tab, List.mem_map] at hx
    obtain ⟨i, _, rfl⟩ := hx
    exact (f.co i).2)
  rw [e] at h1
  exact h1
theorem cl_cn (f : Pol (K P)) : Cn P (cl f) f := tab_cn (Classical.choose_spec f.2)
theorem cl_of {r : List Int} {f : Pol (K P)} (h : Cn P r f) : cl f = r := (cl_cn f).uniq h
theorem cl_tab {f : Pol (K P)} {m : Nat} (h : ∀ i, m ≤ i → f.co i = 0) : trimL (tab m fun i => (f.co i).1) = cl f := (cl_of (tab_cn h)).symm
theorem pz_cl (f : Pol (K P)) : pz P (cl f) = f := (cl_cn f).pz
theorem cl_len {f : Pol (K P)} {n : Nat} (h : ∀ i, n ≤ i → f.co i = 0) : (cl f).length ≤ n := (cl_cn f).len h
theorem cl_over (f : Pol (K P)) {i : Nat} (h : (cl f).length ≤ i) : f.co i = 0 := (cl_cn f).over i h
theorem co_pz_over {z : List Int} {i : Nat} (h : z.length ≤ i) : (pz P z).co i = 0 := by
  rw [co_pz, List.getD_eq_getElem?_getD, List.getElem?_eq_none h]
  exact inK0
theorem cl_pz_len (z : List Int) : (cl (pz P z)).length ≤ z.length := cl_len fun _ h => co_pz_over h
theorem cl_zero : cl (0 : Pol (K P)) = [] := cl_of Cn.zero
theorem cl_nil {f : Pol (K P)} : cl f = [] ↔ f = 0 := (cl_cn f).nil_iff
theorem co_mul_over {f g : Pol (K P)} {n m : Nat} (hf : ∀ i, n ≤ i → f.co i = 0) (hg : ∀ i, m ≤ i → g.co i = 0) {i : Nat} (h : n + m ≤ i + 1) : (f * g).co i = 0 := by
  rw [co_mul]
  refine sm_zero fun j hj => ?_
  rcases Nat.lt_or_ge j n with e | e
  · rw [hg (i - j) (by omega), mul_zero]
  · rw [hf j e, zero_mul]
theorem cl_mul_len (f g : Pol (K P)) : (cl (f * g)).length ≤ (cl f).length + (cl g).length - 1 := cl_len fun i h => by
  by_cases h0 : (cl f).length = 0
  · have : f = 0 := cl_nil.1 (List.eq_nil_of_length_eq_zero h0)
    rw [this, zero_mul]; rfl
  · exact co_mul_over (fun i hi => cl_over f hi) (fun i hi => cl_over g hi) (by omega)
theorem pz_one : pz P [1] = 1 := Pol.ext fun i => by
  rw [co_pz, co_one]
  cases i with
  | zero => exact inK1
  | succ i => exact inK0
theorem k_one : (1 : K P) = inK P 1 := (inK_in (by have := P.q_two; omega)).symm
theorem k_zero : (0 : K P) = inK P 0 := (inK_in (by have := P.q_two; omega)).symm
theorem cl_mul_tab (hK : NZD (K P)) {f g : Pol (K P)} (hf : f ≠ 0) (hg : g ≠ 0) : tab ((cl f).length + (cl g).length - 1) (fun i => ((f * g).co i).1) = cl (f * g) := by
  have h0 : cl f ≠ [] := fun e => hf (cl_nil.1 e)
  have h1 : cl g ≠ [] := fun e => hg (cl_nil.1 e)
  have l0 : 0 < (cl f).length := List.length_pos_iff.2 h0
  have l1 : 0 < (cl g).length := List.length_pos_iff.2 h1
  have hover : ∀ i, (cl f).length + (cl g).length - 1 ≤ i → (f * g).co i = 0 := fun i hi => co_mul_over (fun i hi => cl_over f hi) (fun i hi => cl_over g hi) (by omega)
  have hl : f.co ((cl f).length - 1) ≠ 0 := fun e => (cl_cn f).last h0 (by rw [(cl_cn f).at, e]; rfl)
  have hm : g.co ((cl g).length - 1) ≠ 0 := fun e => (cl_cn g).last h1 (by rw [(cl_cn g).at, e]; rfl)
  have ht : (f * g).co ((cl f).length + (cl g).length - 1 - 1) ≠ 0 := by
    rw [co_mul, sm_one (k := (cl f).length - 1) (by omega) (fun i hi hne => ?_)]
    · rw [show (cl f).length + (cl g).length - 1 - 1 - ((cl f).length - 1) = (cl g).length - 1 by omega]
      intro e
      rcases hK _ _ e with h | h
      · exact hl h
      · exact hm h
    · rcases Nat.lt_or_ge i ((cl f).length - 1) with e | e
      · rw [cl_over g (i := (cl f).length + (cl g).length - 1 - 1 - i) (by omega), mul_zero]
      · rw [cl_over f (i := i) (by omega), zero_mul]
  refine (cl_of ⟨fun x hx => ?_, fun i => ?_, fun _ => ?_⟩).symm
  · rw [tab, List.mem_map] at hx
    obtain ⟨i, _, rfl⟩ := hx
    exact ((f * g).co i).2
  · rw [tab_at]
    split
    · rw [inK_val]
    · rw [hover i (by omega)]
      exact k_zero.symm
  · rw [tab_length, tab_at, if_pos (by omega)]
    exact fun e => ht (Subtype.ext e)
noncomputable def bcl (F : Pol (Pol (K P))) : List (List Int) := trimB (tab (Classical.choose F.2) fun j => cl (F.co j))
theorem btab_cn {F : Pol (Pol (K P))} {m : Nat} (h : ∀ j, m ≤ j → F.co j = 0) : BCn P (trimB (tab m fun j => cl (F.co j))) F := BCn.trim fun j => by
  rw [tab_at]
  split
  · exact cl_cn _
  · rename_i hj
    rw [h j (by omega)]
    exact Cn.zero
theorem bcl_cn (F : Pol (Pol (K P))) : BCn P (bcl F) F := btab_cn (Classical.choose_spec F.2)
theorem bcl_of {L : List (List Int)} {F : Pol (Pol (K P))} (h : BCn P L F) : bcl F = L := (bcl_cn F).uniq h
theorem bcl_tab {F : Pol (Pol (K P))} {m : Nat} (h : ∀ j, m ≤ j → F.co j = 0) : trimB (tab m fun j => cl (F.co j)) = bcl F := (bcl_of (btab_cn h)).symm
theorem bz_bcl (F : Pol (Pol (K P))) : bz P (bcl F) = F := (bcl_cn F).bz
theorem bcl_len {F : Pol (Pol (K P))} {n : Nat} (h : ∀ j, n ≤ j → F.co j = 0) : (bcl F).length ≤ n := (bcl_cn F).len h
theorem bcl_over (F : Pol (Pol (K P))) {j : Nat} (h : (bcl F).length ≤ j) : F.co j = 0 := (bcl_cn F).over j h
theorem bcl_nil {F : Pol (Pol (K P))} : bcl F = [] ↔ F = 0 := (bcl_cn F).nil_iff
theorem bcl_row (F : Pol (Pol (K P))) (j : Nat) : (bcl F).getD j [] = cl (F.co j) := (cl_of ((bcl_cn F).row j)).symm
theorem co_bz_over {L : List (List Int)} {j : Nat} (h : L.length ≤ j) : (bz P L).co j = 0 := by
  rw [co_bz, List.getD_eq_getElem?_getD, List.getElem?_eq_none h]
  exact pz_nil
theorem bcl_bz_len (L : List (List Int)) : (bcl (bz P L)).length ≤ L.length := bcl_len fun _ h => co_bz_over h
end Go.Fd


namespace Go.Alg
section
variable {R S T : Type} [CR R] [CR S] [CR T]
theorem hom_pev {φ : R → S} {ψ : S → T} (hφ : Hom φ) (hψ : Hom ψ) (x : S) (f : Pol R) : ψ (pev φ x f) = pev (fun a => ψ (φ a)) (ψ x) f := by
  obtain ⟨n, hn⟩ := f.2
  have h2 : Hom (fun a => ψ (φ a)) := ⟨fun a b => by rw [hφ.add, hψ.add], fun a b => by rw [hφ.mul, hψ.mul], by rw [hφ.one, hψ.one]⟩
  rw [pev_eq hφ x hn, pev_eq h2 (ψ x) hn]
  exact hom_evp hψ x n f.1
end
section
variable {R : Type} [CR R]
theorem co_pXn : ∀ (i k : Nat), (npow (pX : Pol R) i).co k = if k = i then 1 else 0
  | 0, k => by rw [npow_zero, co_one]
  | i + 1, k => by
    rw [npow_succ, mul_comm]
    cases k with
    | zero => rw [co_pX_zero, if_neg (by omega)]
    | succ k =>
      rw [co_pX_mul, co_pXn i k]
      by_cases h : k = i
      · rw [if_pos h, if_pos (by omega)]
      · rw [if_neg h, if_neg (by omega)]
noncomputable def sub (F : Pol (Pol R)) (h : Pol R) : Pol R := pev (fun c => c) h F
theorem sub_hom (h : Pol R) : Hom (fun F : Pol (Pol R) => sub F h) := pev_hom Hom.id h
noncomputable def nx (r : R) (F : Pol (Pol R)) : Pol (Pol R) := pev pC (pC (pC r) + pC pX * pX) F
theorem nx_hom (r : R) : Hom (fun F : Pol (Pol R) => nx r F) := pev_hom pC_hom _
theorem sub_nx (r : R) (F : Pol (Pol R)) (h : Pol R) : sub (nx r F) h = sub F (pC r + pX * h) := by
  have h1 := hom_pev (φ := (pC : Pol R → Pol (Pol R))) (ψ := fun G => sub G h) pC_hom (sub_hom h) (pC (pC r) + pC pX * pX) F
  have e1 : (fun c : Pol R => sub (pC c) h) = fun c => c := funext fun c => pev_C Hom.id h c
  have e2 : sub (pC (pC r) + pC pX * pX) h = pC r + pX * h := by
    rw [(sub_hom h).add, (sub_hom h).mul]
    show pev (fun c => c) h (pC (pC r)) + pev (fun c => c) h (pC pX) * pev (fun c => c) h pX = _
    rw [pev_C Hom.id, pev_C Hom.id, pev_X Hom.id]
  show sub (pev pC (pC (pC r) + pC pX * pX) F) h = _
  have h2 : sub (pev pC (pC (pC r) + pC pX * pX) F) h = pev (fun c : Pol R => sub (pC c) h) (sub (pC (pC r) + pC pX * pX) h) F := h1
  rw [h2, e1, e2]; rfl
theorem nx_ne (hR : NZD R) (h1 : (1 : R) ≠ 0) {r : R} {F : Pol (Pol R)} (hF : F ≠ 0) : nx r F ≠ 0 := fun h => by
  obtain ⟨n, hn⟩ := F.2
  have hroot : ∀ g : Pol R, pev (fun c => c) (pC r + pX * g) F = 0 := fun g => by
    have := sub_nx r F g
    rw [h, (sub_hom g).zero] at this
    exact this.symm
  have hinj : ∀ i j : Nat, pC r + pX * npow (pX : Pol R) i = pC r + pX * npow pX j → i = j := fun i j e => by
    have e2 := add_left_cancel e
    have e3 := congrArg (fun g => Pol.co g (i + 1)) e2
    simp only [co_pX_mul] at e3
    rw [co_pXn, if_pos rfl, co_pXn] at e3
    exact Classical.byContradiction fun hne => by rw [if_neg hne] at e3; exact h1 e3
  have hl := roots_le (pol_nzd hR) n F hF (hn.mono (by omega)) ((List.range (n + 1)).map fun i => pC r + pX * npow (pX : Pol R) i)
    (by
      rw [List.Nodup, List.pairwise_map]
      exact List.nodup_range.imp fun {a b} hab e => hab (hinj a b e))
    (fun a ha => by
      obtain ⟨i, _, rfl⟩ := List.mem_map.1 ha
      exact hroot _)
  rw [List.length_map, List.length_range] at hl
  omega
theorem pol_split (h : Pol R) : h = pC (h.co 0) + pX * h.tl := Pol.ext fun i => by
  rw [co_add]
  cases i with
  | zero => rw [co_pX_zero, co_pC, if_pos rfl, add_zero]
  | succ i => rw [co_pX_mul, co_pC, if_neg (by omega), zero_add]; rfl
def line (F : Pol (Pol R)) : Pol R := ⟨fun j => (F.co j).co 0, by
  obtain ⟨n, hn⟩ := F.2
  exact ⟨n, fun j hj => by show (F.1 j).co 0 = 0; rw [hn j hj]; rfl⟩⟩
theorem co0_hom : Hom (fun f : Pol R => f.co 0) := by
  refine ⟨fun _ _ => rfl, fun f g => ?_, ?_⟩
  · rw [co_mul]
    show (0 : R) + f.co 0 * g.co 0 = _
    rw [zero_add]
  · rw [co_one, if_pos rfl]
theorem sub_line (F : Pol (Pol R)) (h : Pol R) : (sub F h).co 0 = pev (fun c => c) (h.co 0) (line F) := by
  obtain ⟨n, hn⟩ := F.2
  have hl : Sup n (line F).1 := fun j hj => by show (F.1 j).co 0 = 0; rw [hn j hj]; rfl
  have h1 := hom_pev (φ := fun c : Pol R => c) (ψ := fun f : Pol R => f.co 0) Hom.id co0_hom h F
  have h2 : (sub F h).co 0 = pev (fun c : Pol R => c.co 0) (h.co 0) F := h1
  rw [h2, pev_eq co0_hom _ hn, pev_eq Hom.id _ hl]
  rfl
end
end Go.Alg


namespace Go.Alg
section
variable {R : Type} [CR R]
theorem co_pXn_mul (f : Pol R) : ∀ (m i : Nat), (npow pX m * f).co i = if m ≤ i then f.co (i - m) else 0
  | 0, i => by rw [npow_zero, one_mul, if_pos (Nat.zero_le _), Nat.sub_zero]
  | m + 1, i => by
    rw [npow_succ, mul_comm (npow pX m), mul_assoc]
    cases i with
    | zero => rw [co_pX_zero, if_neg (by omega)]
    | succ i =>
      rw [co_pX_mul, co_pXn_mul f m i]
      by_cases h : m ≤ i
      · rw [if_pos h, if_pos (by omega), Nat.add_sub_add_right]
      · rw [if_neg h, if_neg (by omega)]
def dropP (m : Nat) (f : Pol R) : Pol R := ⟨fun i => f.1 (i + m), by
  obtain ⟨n, hn⟩ := f.2
  exact ⟨n, fun i hi => hn (i + m) (by omega)⟩⟩
theorem co_dropP (m : Nat) (f : Pol R) (i : Nat) : (dropP m f).co i = f.co (i + m) := rfl
theorem dropP_zero (m : Nat) : dropP m (0 : Pol R) = 0 := rfl
def dv (m : Nat) (F : Pol (Pol R)) : Pol (Pol R) := ⟨fun j => dropP m (F.1 j), by
  obtain ⟨n, hn⟩ := F.2
  exact ⟨n, fun j hj => by show dropP m (F.1 j) = 0; rw [hn j hj, dropP_zero]⟩⟩
theorem co_dv (m : Nat) (F : Pol (Pol R)) (j : Nat) : (dv m F).co j = dropP m (F.co j) := rfl
def Low (m : Nat) (F : Pol (Pol R)) : Prop := (∀ i j, i < m → (F.co j).co i = 0) ∧ ∃ j, (F.co j).co m ≠ 0
theorem low_exists {F : Pol (Pol R)} (h : F ≠ 0) : ∃ m, Low m F := by
  have hne : ∃ m, ∃ j, (F.co j).co m ≠ 0 := Classical.byContradiction fun hc => h (Pol.ext fun j => Pol.ext fun i => Classical.byContradiction fun hn => hc ⟨i, j, hn⟩)
  obtain ⟨m, h1, h2⟩ := least_exists hne
  exact ⟨m, fun i j hi => Classical.byContradiction fun hn => h2 i hi ⟨j, hn⟩, h1⟩
theorem Low.uniq {m n : Nat} {F : Pol (Pol R)} (h : Low m F) (k : Low n F) : m = n := by
  obtain ⟨h1, j, h2⟩ := h
  obtain ⟨k1, i, k2⟩ := k
  rcases Nat.lt_trichotomy m n with e | e | e
  · exact absurd (k1 m j e) h2
  · exact e
  · exact absurd (h1 n i e) k2
theorem Low.dv {m : Nat} {F : Pol (Pol R)} (h : Low m F) : F = pC (npow pX m) * Go.Alg.dv m F := Pol.ext fun j => Pol.ext fun i => by
  rw [co_pC_mul, co_dv, co_pXn_mul]
  by_cases e : m ≤ i
  · rw [if_pos e, co_dropP, Nat.sub_add_cancel e]
  · rw [if_neg e, h.1 i j (by omega)]
theorem Low.line {m : Nat} {F : Pol (Pol R)} (h : Low m F) : Go.Alg.line (Go.Alg.dv m F) ≠ 0 := fun e => by
  obtain ⟨_, j, h2⟩ := h
  refine h2 ?_
  have h3 := congrArg (fun f => Pol.co f j) e
  have h4 : (dropP m (F.co j)).co 0 = 0 := h3
  rw [co_dropP, Nat.zero_add] at h4
  exact h4
theorem pXn_ne (h1 : (1 : R) ≠ 0) (m : Nat) : npow (pX : Pol R) m ≠ 0 := fun e => by
  have h2 := congrArg (fun f => Pol.co f m) e
  simp only [co_pXn, if_pos] at h2
  exact h1 h2
theorem sub_dv (hR : NZD R) (h1 : (1 : R) ≠ 0) {m : Nat} {F : Pol (Pol R)} (h : Low m F) (g : Pol R) : sub F g = 0 ↔ sub (dv m F) g = 0 := by
  have e : sub F g = npow pX m * sub (dv m F) g := by
    have h2 := congrArg (fun G => sub G g) h.dv
    rw [(sub_hom g).mul] at h2
    rw [h2]
    show pev (fun c => c) g (pC (npow pX m)) * _ = _
    rw [pev_C Hom.id]
  rw [e]
  constructor
  · intro h2
    rcases pol_nzd hR _ _ h2 with h3 | h3
    · exact absurd h3 (pXn_ne h1 m)
    · exact h3
  · intro h2; rw [h2, mul_zero]
theorem search_step (hR : NZD R) (h1 : (1 : R) ≠ 0) {m : Nat} {F : Pol (Pol R)} (h : Low m F) (g : Pol R) :
    sub F g = 0 ↔ pev (fun c => c) (g.co 0) (line (dv m F)) = 0 ∧ sub (nx (g.co 0) (dv m F)) g.tl = 0 := by
  rw [sub_dv hR h1 h, sub_nx, ← pol_split, ← sub_line]
  constructor
  · intro h2
    refine ⟨?_, h2⟩
    rw [h2]; rfl
  · exact fun h2 => h2.2
end
end Go.Alg


namespace Go.Alg
section
variable {R : Type} [CR R]
def part (n : Nat) (f : Pol R) : Pol R := ⟨fun i => if i < n then f.co i else 0, n, fun i hi => if_neg (by omega)⟩
def mono (n : Nat) (a : R) : Pol R := ⟨fun i => if i = n then a else 0, n + 1, fun i hi => if_neg (by omega)⟩
theorem co_part (n : Nat) (f : Pol R) (i : Nat) : (part n f).co i = if i < n then f.co i else 0 := rfl
theorem co_mono (n : Nat) (a : R) (i : Nat) : (mono n a).co i = if i = n then a else 0 := rfl
theorem part_zero (f : Pol R) : part 0 f = 0 := Pol.ext fun i => by rw [co_part, if_neg (by omega)]; rfl
theorem part_succ (n : Nat) (f : Pol R) : part (n + 1) f = part n f + mono n (f.co n) := Pol.ext fun i => by
  rw [co_add, co_part, co_part, co_mono]
  rcases Nat.lt_trichotomy i n with h | h | h
  · rw [if_pos (by omega), if_pos h, if_neg (by omega), add_zero]
  · subst h; rw [if_pos (by omega), if_neg (by omega), if_pos rfl, zero_add]
  · rw [if_neg (by omega), if_neg (by omega), if_neg (by omega), zero_add]
theorem part_all {n : Nat} {f : Pol R} (h : ∀ i, n ≤ i → f.co i = 0) : part n f = f := Pol.ext fun i => by
  rw [co_part]
  split
  · rfl
  · exact (h i (by omega)).symm
theorem mono_mul (i j : Nat) (a b : R) : mono i a * mono j b = mono (i + j) (a * b) := Pol.ext fun t => by
  rw [co_mul, co_mono]
  by_cases h : t = i + j
  · subst h
    rw [if_pos rfl, sm_one (k := i) (by omega) (fun s hs hne => by rw [co_mono, if_neg hne, zero_mul]), co_mono, if_pos rfl, co_mono, if_pos (by omega)]
  · rw [if_neg h]
    refine sm_zero fun s hs => ?_
    rw [co_mono, co_mono]
    by_cases e : s = i
    · rw [if_pos e, if_neg (show ¬ t - s = j by omega), mul_zero]
    · rw [if_neg e, zero_mul]
theorem mono_eq (n : Nat) (a : R) : mono n a = npow pX n * pC a := Pol.ext fun t => by
  rw [co_mono, co_pXn_mul]
  by_cases h : t = n
  · rw [if_pos h, if_pos (by omega), co_pC, if_pos (by omega)]
  · rw [if_neg h]
    split
    · rw [co_pC, if_neg (by omega)]
    · rfl
def mst (f g : Pol R) (i j : Nat) : Pol R := part i f * g + mono i (f.co i) * part j g
theorem mst_zero (f g : Pol R) : mst f g 0 0 = 0 := by rw [mst, part_zero, part_zero, zero_mul, mul_zero, zero_add]
theorem mst_step (f g : Pol R) (i j t : Nat) : (mst f g i (j + 1)).co t = if t = i + j then (mst f g i j).co t + f.co i * g.co j else (mst f g i j).co t := by
  rw [mst, part_succ, mul_add, mono_mul, ← add_assoc, co_add, co_mono]
  split
  · rfl
  · rw [add_zero]; rfl
theorem mst_row {f g : Pol R} {i m : Nat} (h : ∀ t, m ≤ t → g.co t = 0) : mst f g i m = mst f g (i + 1) 0 := by
  rw [mst, mst, part_all h, part_zero, mul_zero, add_zero, part_succ, add_mul]
theorem mst_all {f g : Pol R} {n : Nat} (h : ∀ t, n ≤ t → f.co t = 0) : mst f g n 0 = f * g := by
  rw [mst, part_all h, part_zero, mul_zero, add_zero]
theorem pev_mono {S : Type} [CR S] {φ : R → S} (h : Hom φ) (x : S) (n : Nat) (a : R) : pev φ x (mono n a) = npow x n * φ a := by
  rw [mono_eq, (pev_hom h x).mul, (pev_hom h x).npow, pev_X h, pev_C h]
theorem pev_part {S : Type} [CR S] {φ : R → S} (h : Hom φ) (x : S) (n : Nat) (f : Pol R) : pev φ x (part (n + 1) f) = pev φ x (part n f) + npow x n * φ (f.co n) := by
  rw [part_succ, (pev_hom h x).add, pev_mono h]
theorem dropP_step (n : Nat) (f : Pol R) : dropP n f = pC (f.co n) + pX * dropP (n + 1) f := Pol.ext fun i => by
  rw [co_add, co_dropP]
  cases i with
  | zero => rw [co_pX_zero, co_pC, if_pos rfl, add_zero, Nat.zero_add]
  | succ i => rw [co_pX_mul, co_pC, if_neg (by omega), zero_add, co_dropP, show i + 1 + n = i + (n + 1) by omega]
theorem dropP_all {n : Nat} {f : Pol R} (h : ∀ i, n ≤ i → f.co i = 0) : dropP n f = 0 := Pol.ext fun i => by
  rw [co_dropP, h _ (by omega)]; rfl
theorem dropP_none (f : Pol R) : dropP 0 f = f := Pol.ext fun i => by rw [co_dropP, Nat.add_zero]
theorem pev_horner {S : Type} [CR S] {φ : R → S} (h : Hom φ) (x : S) (n : Nat) (f : Pol R) : pev φ x (dropP n f) = φ (f.co n) + x * pev φ x (dropP (n + 1) f) := by
  rw [dropP_step, (pev_hom h x).add, (pev_hom h x).mul, pev_X h, pev_C h]
end
end Go.Alg
namespace Go.Fd
open Go.Pl Go.Alg
variable {P : FP}
theorem trimL_snoc0 : ∀ l : List Int, trimL (l ++ [0]) = trimL l
  | [] => rfl
  | a :: l => by rw [List.cons_append, trimL, trimL, trimL_snoc0 l]
theorem trimL_snoc {a : Int} (ha : a ≠ 0) : ∀ l : List Int, trimL (l ++ [a]) = l ++ [a]
  | [] => by
    show trimL [a] = [a]
    rw [trimL, if_neg (fun h => ha h.2)]; rfl
  | b :: l => by
    rw [List.cons_append, trimL, trimL_snoc ha l, if_neg (fun h => by have := h.1; simp at this)]
theorem take_snoc {α : Type} {l : List α} {k : Nat} (h : k < l.length) : l.take (k + 1) = l.take k ++ [l[k]] := by
  rw [List.take_add_one, List.getElem?_eq_getElem h]; rfl
theorem trimL_take0 {l : List Int} {k : Nat} (h : k < l.length) (h0 : l.getD k 0 = 0) : trimL (l.take (k + 1)) = trimL (l.take k) := by
  rw [List.getD_eq_getElem?_getD, List.getElem?_eq_getElem h, Option.getD_some] at h0
  rw [take_snoc h, h0, trimL_snoc0]
theorem trimL_takeN {l : List Int} {k : Nat} (h : k < l.length) (h0 : l.getD k 0 ≠ 0) : trimL (l.take (k + 1)) = l.take (k + 1) := by
  rw [List.getD_eq_getElem?_getD, List.getElem?_eq_getElem h, Option.getD_some] at h0
  rw [take_snoc h, trimL_snoc h0]
theorem trimL_len : ∀ l : List Int, (trimL l).length ≤ l.length
  | [] => Nat.le_refl _
  | a :: l => by
    rw [trimL]
    split
    · simp
    · have := trimL_len l
      simp only [List.length_cons]; omega
theorem trimL_take : ∀ l : List Int, l.take (trimL l).length = trimL l
  | [] => rfl
  | a :: l => by
    rw [trimL]
    split
    · rfl
    · rw [List.length_cons, List.take_succ_cons, trimL_take l]
theorem trimB_snoc0 : ∀ l : List (List Int), trimB (l ++ [[]]) = trimB l
  | [] => rfl
  | a :: l => by rw [List.cons_append, trimB, trimB, trimB_snoc0 l]
theorem trimB_snoc {a : List Int} (ha : a ≠ []) : ∀ l : List (List Int), trimB (l ++ [a]) = l ++ [a]
  | [] => by
    show trimB [a] = [a]
    rw [trimB, if_neg (fun h => ha h.2)]; rfl
  | b :: l => by
    rw [List.cons_append, trimB, trimB_snoc ha l, if_neg (fun h => by have := h.1; simp at this)]
theorem trimB_take0 {l : List (List Int)} {k : Nat} (h : k < l.length) (h0 : l.getD k [] = []) : trimB (l.take (k + 1)) = trimB (l.take k) := by
  rw [List.getD_eq_getElem?_getD, List.getElem?_eq_getElem h, Option.getD_some] at h0
  rw [take_snoc h, h0, trimB_snoc0]
theorem trimB_takeN {l : List (List Int)} {k : Nat} (h : k < l.length) (h0 : l.getD k [] ≠ []) : trimB (l.take (k + 1)) = l.take (k + 1) := by
  rw [List.getD_eq_getElem?_getD, List.getElem?_eq_getElem h, Option.getD_some] at h0
  rw [take_snoc h, trimB_snoc h0]
theorem trimB_len : ∀ l : List (List Int), (trimB l).length ≤ l.length
  | [] => Nat.le_refl _
  | a :: l => by
    rw [trimB]
    split
    · simp
    · have := trimB_len l
      simp only [List.length_cons]; omega
theorem trimB_take : ∀ l : List (List Int), l.take (trimB l).length = trimB l
  | [] => rfl
  | a :: l => by
    rw [trimB]
    split
    · rfl
    · rw [List.length_cons, List.take_succ_cons, trimB_take l]
noncomputable def prodP (P : FP) (L : List (List Int)) : Pol (K P) := L.foldl (fun f z => f * pz P z) 1
theorem prodP_snoc (L : List (List Int)) (z : List Int) : prodP P (L ++ [z]) = prodP P L * pz P z := by simp [prodP]
theorem prodP_two (a b : List Int) : prodP P [a, b] = pz P a * pz P b := by
  show 1 * pz P a * pz P b = _
  rw [one_mul]
theorem k_nzd {g : K P} (hg : HasOrder g (n1 P)) : NZD (K P) := fun a b h => by
  apply Classical.byContradiction
  intro hc
  have ha : a ≠ 0 := fun e => hc (.inl e)
  have hb : b ≠ 0 := fun e => hc (.inr e)
  apply hb
  have h1 := mul_invK hg ha
  rw [← one_mul b, ← h1, mul_comm a, mul_assoc, h, mul_zero]
theorem cl_one : cl (1 : Pol (K P)) = [1] := cl_of ⟨fun x hx => by
    obtain rfl : x = 1 := by simpa using hx
    have := P.q_two
    omega, fun i => by
    have h := congrArg (fun f : Pol (K P) => f.co i) (pz_one (P := P))
    exact h, fun _ => by simp⟩
theorem co_gi (z : List Int) {i : Int} (_ : 0 ≤ i) : inK P (gi z i) = (pz P z).co i.toNat := rfl
theorem cl_getD (f : Pol (K P)) (i : Nat) : (cl f).getD i 0 = (f.co i).1 := (cl_cn f).at i
theorem cl_gi (f : Pol (K P)) (i : Int) : gi (cl f) i = (f.co i.toNat).1 := (cl_cn f).at i.toNat
def mstL (f h : Pol (K P)) (N i j : Nat) : List Int := tab N fun t => ((mst f h i j).co t).1
theorem mstL_length (f h : Pol (K P)) (N i j : Nat) : (mstL f h N i j).length = N := tab_length _ _
theorem mstL_zero (f h : Pol (K P)) (N : Nat) : mstL f h N 0 0 = tab N fun _ => 0 := tab_congr fun t _ => by rw [mst_zero]; rfl
theorem mstL_get {f h : Pol (K P)} {N i j : Nat} (hl : i + j < N) : gi (mstL f h N i j) ((i : Int) + j) = ((mst f h i j).co (i + j)).1 := by
  rw [mstL, gi_tab (by omega) (by omega)]
  congr 3
theorem mstL_step {f h : Pol (K P)} {N i j : Nat} {a b : Int} (ha : inK P a = f.co i) (hb : inK P b = h.co j) : si (mstL f h N i j) ((i : Int) + j) ((mst f h i j).co (i + j) + inK P a * inK P b).1 = mstL f h N i (j + 1) := by
  rw [mstL, si_tab]
  refine tab_congr fun t _ => ?_
  rw [mst_step, show ((i : Int) + j).toNat = i + j by omega, ha, hb]
  split
  · rename_i e; rw [e]
  · rfl
theorem mstL_row {f h : Pol (K P)} {N i m : Nat} (hh : ∀ t, m ≤ t → h.co t = 0) : mstL f h N i m = mstL f h N (i + 1) 0 := by rw [mstL, mstL, mst_row hh]
theorem mstL_all {f h : Pol (K P)} {N n : Nat} (hf : ∀ t, n ≤ t → f.co t = 0) : mstL f h N n 0 = tab N fun t => ((f * h).co t).1 := by rw [mstL, mst_all hf]
theorem cl_at (f : Pol (K P)) (i : Nat) : inK P (gi (cl f) i) = f.co i := by rw [cl_gi, inK_val]; rfl
theorem val1_horner (z : List Int) (x : K P) (i : Nat) : val1 (dropP i (pz P z)) x = val1 (dropP (i + 1) (pz P z)) x * x + inK P (gi z i) := by
  rw [val1, pev_horner Hom.id, add_comm, mul_comm]
  rfl
theorem val1_last (z : List Int) (x : K P) : val1 (dropP z.length (pz P z)) x = 0 := by
  rw [dropP_all (fun i h => co_pz_over h)]
  exact (val1_hom x).zero
end Go.Fd


namespace Go.Alg
section
variable {R : Type} [CR R]
theorem mul_over {f g : Pol R} {n m : Nat} (hf : ∀ i, n ≤ i → f.co i = 0) (hg : ∀ i, m ≤ i → g.co i = 0) {i : Nat} (h : n + m ≤ i + 1) : (f * g).co i = 0 := by
  rw [co_mul]
  refine sm_zero fun j hj => ?_
  rcases Nat.lt_or_ge j n with e | e
  · rw [hg (i - j) (by omega), mul_zero]
  · rw [hf j e, zero_mul]
def YB (n : Nat) (F : Pol R) : Prop := ∀ i, n ≤ i → F.co i = 0
theorem YB.mono {n m : Nat} {F : Pol R} (h : YB n F) (hm : n ≤ m) : YB m F := fun i hi => h i (by omega)
theorem YB.add {n : Nat} {F G : Pol R} (h : YB n F) (k : YB n G) : YB n (F + G) := fun i hi => by rw [co_add, h i hi, k i hi, zero_add]
theorem YB.mul {n m : Nat} {F G : Pol R} (h : YB n F) (k : YB m G) : YB (n + m) (F * G) := fun i hi => mul_over h k (by omega)
theorem YB.mul' {n m : Nat} {F G : Pol R} (h : YB n F) (k : YB (m + 1) G) : YB (n + m) (F * G) := fun i hi => mul_over h k (by omega)
theorem YB.zero (n : Nat) : YB n (0 : Pol R) := fun _ _ => rfl
theorem YB.pC (a : R) : YB 1 (Go.Alg.pC a) := fun i hi => by rw [co_pC, if_neg (by omega)]
theorem YB.pX : YB 2 (pX : Pol R) := fun i hi => by show psX i = 0; rw [psX, if_neg (by omega)]
def XB (n : Nat) (F : Pol (Pol R)) : Prop := ∀ j, YB n (F.co j)
theorem XB.mono {n m : Nat} {F : Pol (Pol R)} (h : XB n F) (hm : n ≤ m) : XB m F := fun j => (h j).mono hm
theorem XB.add {n : Nat} {F G : Pol (Pol R)} (h : XB n F) (k : XB n G) : XB n (F + G) := fun j => (h j).add (k j)
theorem XB.zero (n : Nat) : XB n (0 : Pol (Pol R)) := fun _ => YB.zero n
theorem XB.mul {n m : Nat} {F G : Pol (Pol R)} (h : XB n F) (k : XB m G) : XB (n + m) (F * G) := fun j i hi => by
  rw [co_mul, sm_co]
  exact sm_zero fun s _ => (h s).mul (k (j - s)) i hi
theorem XB.mul' {n m : Nat} {F G : Pol (Pol R)} (h : XB n F) (k : XB (m + 1) G) : XB (n + m) (F * G) := fun j i hi => by
  rw [co_mul, sm_co]
  exact sm_zero fun s _ => (h s).mul' (k (j - s)) i hi
theorem XB.pC {n : Nat} {a : Pol R} (h : YB n a) : XB n (Go.Alg.pC a) := fun j => by
  rw [co_pC]
  split
  · exact h
  · exact YB.zero n
theorem XB.pX {n : Nat} : XB (n + 1) (pX : Pol (Pol R)) := fun j i hi => by
  show (psX j : Pol R).co i = 0
  rw [psX]
  split
  · rw [co_one, if_neg (by omega)]
  · rfl
theorem XB.part {n m : Nat} {F : Pol (Pol R)} (h : XB n F) : XB n (part m F) := fun j => by
  rw [co_part]
  split
  · exact h j
  · exact YB.zero n
theorem XB.mono' {n m : Nat} {a : Pol R} (h : YB n a) : XB n (Go.Alg.mono m a) := fun j => by
  rw [co_mono]
  split
  · exact h
  · exact YB.zero n
theorem XB.mst {n m i j : Nat} {F G : Pol (Pol R)} (h : XB n F) (k : XB m G) : XB (n + m) (mst F G i j) :=
  XB.add (XB.mul h.part k) (XB.mul (XB.mono' (h i)) k.part)
theorem nx_horner (r : R) (F : Pol (Pol R)) (n : Nat) : nx r (dropP n F) = nx r (dropP (n + 1) F) * (pC (pC r) + pC pX * pX) + pC (F.co n) := by
  rw [nx, pev_horner pC_hom, add_comm, mul_comm]; rfl
theorem nx_bounds (r : R) {F : Pol (Pol R)} {n m : Nat} (hn : YB n F) (hm : XB m F) : ∀ i j, i + j = n → YB (j + 1) (nx r (dropP i F)) ∧ XB (m + j) (nx r (dropP i F))
  | i, 0, h => by
    rw [dropP_all (fun k hk => hn k (by omega)), (nx_hom r).zero]
    exact ⟨YB.zero _, XB.zero _⟩
  | i, j + 1, h => by
    obtain ⟨h1, h2⟩ := nx_bounds r hn hm (i + 1) j (by omega)
    rw [nx_horner]
    have y1 : YB 2 (pC (pC r) + pC pX * pX : Pol (Pol R)) := YB.add ((YB.pC _).mono (by omega)) (by rw [mul_comm]; exact YB.mul' YB.pX (YB.pC _))
    have x1 : XB 2 (pC (pC r) + pC pX * pX : Pol (Pol R)) := XB.add (XB.pC ((YB.pC r).mono (by omega))) (XB.mul' (XB.pC YB.pX) (XB.pX (n := 0)))
    exact ⟨YB.add (YB.mul' h1 y1) ((YB.pC _).mono (by omega)), XB.add (XB.mul' (n := m + j) (m := 1) h2 x1) ((XB.pC (hm i)).mono (by omega))⟩
end
end Go.Alg
namespace Go.Fd
open Go.Pl Go.Alg
variable {P : FP}
def RB (n : Nat) (L : List (List Int)) : Prop := ∀ j, (L.getD j []).length ≤ n
theorem RB.mono {n m : Nat} {L : List (List Int)} (h : RB n L) (hm : n ≤ m) : RB m L := fun j => Nat.le_trans (h j) hm
theorem RB.xb {n : Nat} {L : List (List Int)} (h : RB n L) : XB n (bz P L) := fun j i hi => by
  rw [co_bz]
  exact co_pz_over (Nat.le_trans (h j) hi)
theorem XB.rb {n : Nat} {F : Pol (Pol (K P))} (h : XB n F) : RB n (bcl F) := fun j => by
  rw [bcl_row]
  exact cl_len (h j)
theorem YB.bz (L : List (List Int)) : YB L.length (Go.Fd.bz P L) := fun _ h => co_bz_over h
noncomputable def mstB (F G : Pol (Pol (K P))) (N i j : Nat) : List (List Int) := tab N fun t => cl ((mst F G i j).co t)
theorem mstB_length (F G : Pol (Pol (K P))) (N i j : Nat) : (mstB F G N i j).length = N := tab_length _ _
theorem mstB_zero (F G : Pol (Pol (K P))) (N : Nat) : mstB F G N 0 0 = tab N fun _ => [] := tab_congr fun t _ => by rw [mst_zero]; exact cl_zero
theorem mstB_get {F G : Pol (Pol (K P))} {N i j t : Nat} (hl : t < N) : (mstB F G N i j).getD t [] = cl ((mst F G i j).co t) := by rw [mstB, tab_at, if_pos hl]
theorem mstB_step {F G : Pol (Pol (K P))} {N i j : Nat} {a b : Pol (K P)} (ha : a = F.co i) (hb : b = G.co j) : (mstB F G N i j).set ((i : Int) + j).toNat (cl ((mst F G i j).co (i + j) + a * b)) = mstB F G N i (j + 1) := by
  rw [mstB, tab_set]
  refine tab_congr fun t _ => ?_
  rw [mst_step, show ((i : Int) + j).toNat = i + j by omega, ha, hb]
  split
  · rename_i e; rw [e]
  · rfl
theorem mstB_row {F G : Pol (Pol (K P))} {N i m : Nat} (hh : ∀ t, m ≤ t → G.co t = 0) : mstB F G N i m = mstB F G N (i + 1) 0 := by rw [mstB, mstB, mst_row hh]
theorem mstB_all {F G : Pol (Pol (K P))} {N n : Nat} (hf : ∀ t, n ≤ t → F.co t = 0) : mstB F G N n 0 = tab N fun t => cl ((F * G).co t) := by rw [mstB, mst_all hf]
def updB (m : Nat) (f g : Nat → List Int) (i : Nat) : List (List Int) := tab m fun t => if t < i then f t else g t
theorem updB_length (m : Nat) (f g : Nat → List Int) (i : Nat) : (updB m f g i).length = m := tab_length _ _
theorem updB_zero (m : Nat) (f g : Nat → List Int) : updB m f g 0 = tab m g := tab_congr fun t _ => if_neg (by omega)
theorem updB_last (m : Nat) (f g : Nat → List Int) : updB m f g m = tab m f := tab_congr fun _ h => if_pos h
theorem updB_step {m : Nat} {f g : Nat → List Int} {i : Nat} : (updB m f g i).set ((i : Int)).toNat (f i) = updB m f g (i + 1) := by
  rw [updB, tab_set]
  refine tab_congr fun t _ => ?_
  rw [Int.toNat_natCast]
  by_cases h : t = i
  · rw [if_pos h, if_pos (by omega), h]
  · rw [if_neg h]
    by_cases h2 : t < i
    · rw [if_pos h2, if_pos (by omega)]
    · rw [if_neg h2, if_neg (by omega)]
theorem updB_skip {m : Nat} {f g : Nat → List Int} {i : Nat} (h : g i = f i) : updB m f g i = updB m f g (i + 1) := by
  refine tab_congr fun t _ => ?_
  by_cases h1 : t = i
  · rw [if_neg (by omega), if_pos (by omega), h1, h]
  · by_cases h2 : t < i
    · rw [if_pos h2, if_pos (by omega)]
    · rw [if_neg h2, if_neg (by omega)]
theorem updB_get {m : Nat} {f g : Nat → List Int} {i t : Nat} (h : t < m) : (updB m f g i).getD t [] = if t < i then f t else g t := by rw [updB, tab_at, if_pos h]
theorem bz_two (a b : List Int) : bz P [a, b] = pC (pz P a) + pC (pz P b) * pX := Pol.ext fun j => by
  rw [co_add, co_bz, co_pC, co_pC_mul]
  match j with
  | 0 =>
    show pz P a = _ + _ * (psX 0 : Pol (K P))
    rw [if_pos rfl, psX, if_neg (by omega), mul_zero, add_zero]
  | 1 =>
    show pz P b = _ + _ * (psX 1 : Pol (K P))
    rw [if_neg (by omega), psX, if_pos rfl, mul_one, zero_add]
  | j + 2 =>
    show pz P [] = _ + _ * (psX (j + 2) : Pol (K P))
    rw [if_neg (by omega), psX, if_neg (by omega), mul_zero, add_zero, pz_nil]
theorem bz_one (a : List Int) : bz P [a] = pC (pz P a) := Pol.ext fun j => by
  rw [co_bz, co_pC]
  match j with
  | 0 => rfl
  | j + 1 => rw [if_neg (by omega)]; exact pz_nil
theorem pz_single (a : Int) : pz P [a] = pC (inK P a) := Pol.ext fun j => by
  rw [co_pz, co_pC]
  match j with
  | 0 => rfl
  | j + 1 => rw [if_neg (by omega)]; exact inK0
theorem pz_x : pz P [0, 1] = pX := Pol.ext fun j => by
  rw [co_pz]
  match j with
  | 0 => exact inK0
  | 1 => exact inK1
  | j + 2 => exact inK0
theorem bcl_zero : bcl (0 : Pol (Pol (K P))) = [] := bcl_nil.2 rfl
end Go.Fd


namespace Go.Alg
section
variable {R : Type} [CR R]
theorem sh1_yb (a : R) {n : Nat} {f : Pol R} (h : YB n f) : YB n (sh1 a f) := fun k hk => by
  rw [sh1_co a h k, show n - k = 0 by omega]; rfl
theorem sh1_step (a : R) (f : Pol R) (n : Nat) : sh1 a (dropP n f) = pC (f.co n) + (pX + pC a) * sh1 a (dropP (n + 1) f) := by
  rw [dropP_step, (sh1_hom a).add, (sh1_hom a).mul, sh1_C, sh1_X]
theorem mono_pC (i : Nat) (a : R) : mono i 1 * pC a = mono i a := by
  have : pC a = mono 0 a := rfl
  rw [this, mono_mul, one_mul]; rfl
theorem mono_pX (i : Nat) : mono i (1 : R) * pX = mono (i + 1) 1 := by
  have : (pX : Pol R) = mono 1 1 := rfl
  rw [this, mono_mul, one_mul]
def Inner (a : R) (c0 c : Pol R) (j : Nat) : Prop := sh1 a (dropP j c0) = pC (c.co j) + pX * sh1 a (dropP (j + 1) c) ∧ ∀ t, t < j → c.co t = c0.co t
theorem Inner.first (a : R) {c0 : Pol R} {n : Nat} (h : YB (n + 1) c0) : Inner a c0 c0 n := by
  refine ⟨?_, fun t _ => rfl⟩
  rw [sh1_step, dropP_all h, (sh1_hom a).zero, mul_zero, mul_zero]
theorem Inner.step {a : R} {c0 c c' : Pol R} {j : Nat} (h : Inner a c0 c (j + 1)) (hc : ∀ t, c'.co t = if t = j then c.co j + a * c.co (j + 1) else c.co t) : Inner a c0 c' j := by
  obtain ⟨h1, h2⟩ := h
  have hd : ∀ k, j < k → dropP k c' = dropP k c := fun k hk => Pol.ext fun i => by rw [co_dropP, co_dropP, hc, if_neg (by omega)]
  refine ⟨?_, fun t ht => by rw [hc, if_neg (by omega), h2 t (by omega)]⟩
  rw [sh1_step, h1, hd (j + 1) (by omega), sh1_step a c (j + 1), hc j, if_pos rfl, h2 j (by omega), pC_hom.add, pC_hom.mul]
  generalize sh1 a (dropP (j + 1 + 1) c) = T
  generalize (pX : Pol R) = X
  generalize pC (c0.co j) = u
  generalize pC (c.co (j + 1)) = v
  generalize pC a = A
  simp only [mul_add, mul_comm, mul_left_comm, add_assoc, add_comm, add_left_comm]
def Outer (a : R) (f c : Pol R) (i : Nat) : Prop := part i c + mono i 1 * sh1 a (dropP i c) = sh1 a f
theorem Outer.first (a : R) (f : Pol R) : Outer a f f 0 := by
  have : mono 0 (1 : R) = 1 := Pol.ext fun i => by rw [co_mono, co_one]
  rw [Outer, part_zero, zero_add, this, one_mul, dropP_none]
theorem Outer.step {a : R} {f c0 c : Pol R} {i : Nat} (h : Outer a f c0 i) (k : Inner a c0 c i) : Outer a f c (i + 1) := by
  rw [Outer] at h ⊢
  have e : part i c = part i c0 := Pol.ext fun t => by
    rw [co_part, co_part]
    split
    · exact k.2 t (by assumption)
    · rfl
  rw [← h, k.1, mul_add, mono_pC, ← mul_assoc, mono_pX, part_succ, e, add_assoc]
theorem Outer.last {a : R} {f c : Pol R} {n : Nat} (hn : YB n c) (h : Outer a f c n) : c = sh1 a f := by
  rw [Outer, part_all hn, dropP_all hn, (sh1_hom a).zero, mul_zero, add_zero] at h
  exact h
def trn (i : Nat) (G : Pol (Pol R)) : Pol R := ⟨fun j => (G.co j).co i, by
  obtain ⟨n, hn⟩ := G.2
  exact ⟨n, fun j hj => by show (G.1 j).co i = 0; rw [hn j hj]; rfl⟩⟩
theorem co_trn (i : Nat) (G : Pol (Pol R)) (j : Nat) : (trn i G).co j = (G.co j).co i := rfl
theorem sh2_at (x y : R) (F : Pol (Pol R)) (i j : Nat) : ((sh2 x y F).co j).co i = (sh1 y (trn i (mapP (fun f => sh1 x f) (sh1_hom x) F))).co j := by
  rw [sh2]
  generalize mapP (fun f => sh1 x f) (sh1_hom x) F = M
  obtain ⟨n, hn⟩ := M.2
  have hn2 : Sup n (trn i M).1 := fun t ht => by show (M.1 t).co i = 0; rw [hn t ht]; rfl
  rw [sh1_co (pC y) hn j, sh1_co y hn2 j, evp, evp, sm_co]
  refine sm_congr fun t _ => ?_
  rw [npow_pC, mul_comm, co_pC_mul, mul_comm]
  congr 1
  exact co_nm _ _ _
def BestP (G : Pol (Pol R)) (V : Nat → Nat → Prop) (b : Int) : Prop :=
  (b = -1 ∧ ∀ i j, V i j → (G.co j).co i = 0) ∨ ∃ n : Nat, b = n ∧ (∃ i j, V i j ∧ i + j = n ∧ (G.co j).co i ≠ 0) ∧ ∀ i j, V i j → i + j < n → (G.co j).co i = 0
theorem BestP.keep {G : Pol (Pol R)} {V V' : Nat → Nat → Prop} {b : Int} {i j : Nat} (h : BestP G V b) (hV : ∀ s t, V' s t ↔ V s t ∨ (s = i ∧ t = j)) (hk : (G.co j).co i = 0 ∨ (0 ≤ b ∧ b ≤ (i : Int) + j)) : BestP G V' b := by
  rcases h with ⟨rfl, h⟩ | ⟨n, rfl, ⟨i0, j0, h1, h2, h3⟩, h4⟩
  · refine .inl ⟨rfl, fun s t hst => ?_⟩
    rcases (hV s t).1 hst with h0 | ⟨rfl, rfl⟩
    · exact h s t h0
    · rcases hk with h0 | h0
      · exact h0
      · omega
  · refine .inr ⟨n, rfl, ⟨i0, j0, (hV _ _).2 (.inl h1), h2, h3⟩, fun s t hst hlt => ?_⟩
    rcases (hV s t).1 hst with h0 | ⟨rfl, rfl⟩
    · exact h4 s t h0 hlt
    · rcases hk with h0 | h0
      · exact h0
      · omega
theorem BestP.take {G : Pol (Pol R)} {V V' : Nat → Nat → Prop} {b : Int} {i j : Nat} (h : BestP G V b) (hV : ∀ s t, V' s t ↔ V s t ∨ (s = i ∧ t = j)) (hc : (G.co j).co i ≠ 0) (hk : b < 0 ∨ (i : Int) + j < b) : BestP G V' ((i : Int) + j) := by
  refine .inr ⟨i + j, by omega, ⟨i, j, (hV _ _).2 (.inr ⟨rfl, rfl⟩), rfl, hc⟩, fun s t hst hlt => ?_⟩
  rcases (hV s t).1 hst with h0 | ⟨rfl, rfl⟩
  · rcases h with ⟨rfl, h⟩ | ⟨n, rfl, _, h4⟩
    · exact h s t h0
    · exact h4 s t h0 (by omega)
  · omega
theorem BestP.same {G : Pol (Pol R)} {V V' : Nat → Nat → Prop} {b : Int} (h : BestP G V b) (h1 : ∀ s t, V s t → V' s t) (h2 : ∀ s t, V' s t → V s t ∨ (G.co t).co s = 0) : BestP G V' b := by
  rcases h with ⟨rfl, h⟩ | ⟨n, rfl, ⟨i0, j0, k1, k2, k3⟩, h4⟩
  · exact .inl ⟨rfl, fun s t hst => (h2 s t hst).elim (h s t) id⟩
  · exact .inr ⟨n, rfl, ⟨i0, j0, h1 _ _ k1, k2, k3⟩, fun s t hst hlt => (h2 s t hst).elim (fun h0 => h4 s t h0 hlt) id⟩
def MulIs (x y : R) (F : Pol (Pol R)) (v : Int) : Prop := (F = 0 ∧ v = -1) ∨ ∃ n : Nat, Mult n x y F ∧ v = n
theorem BestP.mul {x y : R} {F : Pol (Pol R)} {b : Int} (h : BestP (sh2 x y F) (fun _ _ => True) b) : MulIs x y F b := by
  rcases h with ⟨rfl, h⟩ | ⟨n, rfl, ⟨i, j, _, h2, h3⟩, h4⟩
  · refine .inl ⟨sh2_zero (a := x) (b := y) ?_, rfl⟩
    exact Pol.ext fun j => Pol.ext fun i => h i j trivial
  · refine .inr ⟨n, ?_, rfl⟩
    exact ordIs_iff.2 ⟨fun i j hij => h4 i j trivial hij, i, j, h2, h3⟩
end
end Go.Alg
namespace Go.Fd
open Go.Pl Go.Alg
variable {P : FP}
theorem co_pz_si {z : List Int} {k : Int} {v : Int} (h0 : 0 ≤ k) (h1 : k < z.length) (t : Nat) : (pz P (si z k v)).co t = if t = k.toNat then inK P v else (pz P z).co t := by
  rw [co_pz, co_pz, si, List.getD_eq_getElem?_getD, List.getElem?_set]
  by_cases e : k.toNat = t
  · rw [if_pos e, if_pos (by omega), if_pos e.symm]; try rfl
  · rw [if_neg e, if_neg (fun h => e h.symm), ← List.getD_eq_getElem?_getD]
theorem list_pz {z : List Int} (h : Lo P.q z) : z = tab z.length fun t => ((pz P z).co t).1 := by
  apply List.ext_getElem
  · rw [tab_length]
  · intro i h1 h2
    have h3 := h z[i] (List.getElem_mem h1)
    simp only [tab, List.getElem_map, List.getElem_range]
    rw [co_pz, List.getD_eq_getElem?_getD, List.getElem?_eq_getElem h1, Option.getD_some, inK_in h3]
theorem lo_si2 {q : Int} {z : List Int} (h : Lo q z) {k v : Int} (h0 : 0 ≤ v ∧ v < q) : Lo q (si z k v) := fun u hu => by
  rcases List.mem_or_eq_of_mem_set hu with h1 | h1
  · exact h u h1
  · subst h1; exact h0
theorem lo_cl (f : Pol (K P)) : Lo P.q (cl f) := (cl_cn f).rng
noncomputable def shl (a : K P) (f : Pol (K P)) : List Int := tab (cl f).length fun t => ((sh1 a f).co t).1
theorem shl_length (a : K P) (f : Pol (K P)) : (shl a f).length = (cl f).length := tab_length _ _
theorem shl_getD (a : K P) (f : Pol (K P)) (i : Nat) : (shl a f).getD i 0 = ((sh1 a f).co i).1 := by
  rw [shl, tab_at]
  split
  · rfl
  · rename_i h
    rw [sh1_yb a (fun j hj => cl_over f hj) i (by omega)]; rfl
noncomputable def wdN (F : Pol (Pol (K P))) (w : Int) : Nat → Int
  | 0 => -1
  | j + 1 => if cl (F.co j) = [] then wdN F w j else max (wdN F w j) ((cl (F.co j)).length - 1 + w * j)
theorem wdN_more {F : Pol (Pol (K P))} {n : Nat} (h : YB n F) (w : Int) : ∀ m, n ≤ m → wdN F w m = wdN F w n
  | 0, hm => by rw [show n = 0 by omega]
  | m + 1, hm => by
    by_cases e : n = m + 1
    · rw [e]
    · rw [wdN, if_pos (by rw [h m (by omega)]; exact cl_zero), wdN_more h w m (by omega)]
noncomputable def wdg (F : Pol (Pol (K P))) (w : Int) : Int := wdN F w (bcl F).length
theorem wdN_wdg {F : Pol (Pol (K P))} {n : Nat} (h : YB n F) (w : Int) : wdN F w n = wdg F w := wdN_more (fun _ hj => bcl_over F hj) w n (bcl_len h)
theorem wdN_lo (F : Pol (Pol (K P))) {w : Int} (hw : 0 ≤ w) {b : Nat} (hb : XB b F) : ∀ n, -1 ≤ wdN F w n ∧ wdN F w n ≤ b + w * n
  | 0 => by simp only [wdN]; omega
  | n + 1 => by
    obtain ⟨h1, h2⟩ := wdN_lo F hw hb n
    have h3 : (cl (F.co n)).length ≤ b := cl_len (hb n)
    have h4 : w * ((n + 1 : Nat) : Int) = w * n + w := by rw [Int.natCast_add, Int.mul_add]; simp
    rw [wdN, h4]
    split
    · omega
    · constructor <;> omega
end Go.Fd


namespace Go.Fd
open Go.Pl Go.Alg
variable {P : FP}
theorem wdN_spec (F : Pol (Pol (K P))) (w : Nat) : ∀ n, (wdN F w n = -1 ∧ ∀ j, j < n → F.co j = 0) ∨ ∃ d : Nat, wdN F w n = d ∧ (∃ i j, j < n ∧ i + w * j = d ∧ (F.co j).co i ≠ 0) ∧ ∀ i j, j < n → d < i + w * j → (F.co j).co i = 0
  | 0 => .inl ⟨rfl, fun j h => by omega⟩
  | n + 1 => by
    have ih := wdN_spec F w n
    rw [wdN]
    by_cases h0 : cl (F.co n) = []
    · rw [if_pos h0]
      have hz := cl_nil.1 h0
      rcases ih with ⟨h1, h2⟩ | ⟨d, h1, ⟨i, j, hj, hd, hne⟩, h3⟩
      · refine .inl ⟨h1, fun j hj => ?_⟩
        by_cases e : j = n
        · rw [e]; exact hz
        · exact h2 j (by omega)
      · refine .inr ⟨d, h1, ⟨i, j, by omega, hd, hne⟩, fun i j hj hij => ?_⟩
        by_cases e : j = n
        · rw [e, hz]; rfl
        · exact h3 i j (by omega) hij
    · rw [if_neg h0]
      have hl : 0 < (cl (F.co n)).length := List.length_pos_iff.2 h0
      have htop : (F.co n).co ((cl (F.co n)).length - 1) ≠ 0 := fun e => (cl_cn (F.co n)).last h0 (by rw [cl_getD, e]; rfl)
      have hover : ∀ i, (cl (F.co n)).length ≤ i → (F.co n).co i = 0 := fun i hi => cl_over _ hi
      have hcast : ((w : Int) * (n : Int)) = ((w * n : Nat) : Int) := by simp
      rw [hcast]
      rcases ih with ⟨h1, h2⟩ | ⟨d, h1, ⟨i, j, hj, hd, hne⟩, h3⟩
      · rw [h1]
        refine .inr ⟨(cl (F.co n)).length - 1 + w * n, by omega, ⟨(cl (F.co n)).length - 1, n, by omega, rfl, htop⟩, fun i j hj hij => ?_⟩
        by_cases e : j = n
        · subst e; exact hover i (by omega)
        · rw [h2 j (by omega)]; rfl
      · rw [h1]
        by_cases hm : d ≤ (cl (F.co n)).length - 1 + w * n
        · refine .inr ⟨(cl (F.co n)).length - 1 + w * n, by omega, ⟨(cl (F.co n)).length - 1, n, by omega, rfl, htop⟩, fun i j hj hij => ?_⟩
          by_cases e : j = n
          · subst e; exact hover i (by omega)
          · exact h3 i j (by omega) (by omega)
        · refine .inr ⟨d, by omega, ⟨i, j, by omega, hd, hne⟩, fun i j hj hij => ?_⟩
          by_cases e : j = n
          · subst e; exact hover i (by omega)
          · exact h3 i j (by omega) hij
theorem wdg_spec (F : Pol (Pol (K P))) (w : Nat) : (wdg F w = -1 ∧ F = 0) ∨ ∃ d : Nat, wdg F w = d ∧ Wdeg w d F := by
  rcases wdN_spec F w (bcl F).length with ⟨h1, h2⟩ | ⟨d, h1, ⟨i, j, hj, hd, hne⟩, h3⟩
  · refine .inl ⟨h1, Pol.ext fun j => ?_⟩
    rcases Nat.lt_or_ge j (bcl F).length with e | e
    · exact h2 j e
    · exact bcl_over F e
  · refine .inr ⟨d, h1, fun i j hij => ?_, i, j, hd, hne⟩
    rcases Nat.lt_or_ge j (bcl F).length with e | e
    · exact h3 i j e hij
    · show (F.co j).co i = 0
      rw [bcl_over F e]; rfl
end Go.Fd


namespace Go.Fd
open Go.Alg
variable {P : FP}
theorem nm_zK (n : Nat) (x : K P) : nm n x = zK P n * x := by
  induction n with
  | zero => rw [show ((0 : Nat) : Int) = 0 from rfl, zK_zero, zero_mul]; rfl
  | succ n ih =>
    rw [nm, ih, show ((n + 1 : Nat) : Int) = (n : Int) + 1 from by omega, zK_add, zK_one, add_mul, one_mul]
theorem nm_cg {a b : Nat} (h : (a : Int) % P.p = b % P.p) (x : K P) : nm a x = nm b x := by rw [nm_zK, nm_zK, zK_cg h]
end Go.Fd


namespace Go.Alg
theorem bc_self : ∀ n, bc n n = 1
  | 0 => rfl
  | n + 1 => by rw [bc, bc_self n, bc_over (Nat.lt_succ_self n)]
end Go.Alg


namespace Go.Fd
open Go.Pl Go.Alg
variable {P : FP}
def pasc (p : Int) (i j : Nat) : List Int := tab (i + 2) fun t => if t < j then (bc (i + 1) t : Int) % p else if t = j ∧ 0 < j then (bc i (j - 1) : Int) % p else 0
def pascR (p : Int) (i : Nat) : List Int := tab (i + 1) fun t => (bc i t : Int) % p
theorem pasc_length (p : Int) (i j : Nat) : (pasc p i j).length = i + 2 := tab_length _ _
theorem pascR_length (p : Int) (i : Nat) : (pascR p i).length = i + 1 := tab_length _ _
theorem bc_rec (n k : Nat) : bc (n + 1) (k + 1) = bc n k + bc n (k + 1) := rfl
theorem pascR_get {p : Int} {i j : Nat} (h : j ≤ i) : gi (pascR p i) j = (bc i j : Int) % p := by
  rw [pascR, gi_tab (by omega) (by omega)]; rfl
theorem pasc_get {p : Int} {i j : Nat} (h : j ≤ i) : gi (pasc p i j) j = if 0 < j then (bc i (j - 1) : Int) % p else 0 := by
  rw [pasc, gi_tab (by omega) (by omega), Int.toNat_natCast, if_neg (by omega)]
  by_cases e : 0 < j
  · rw [if_pos ⟨rfl, e⟩, if_pos e]
  · rw [if_neg (fun h => e h.2), if_neg e]
theorem pasc_first (p : Int) (i : Nat) : pasc p i 0 = tab (i + 2) fun _ => 0 := tab_congr fun t _ => by rw [if_neg (by omega), if_neg (by omega)]
theorem pasc_step {p : Int} {i j : Nat} (h : j ≤ i) : si (si (pasc p i j) j ((gi (pasc p i j) j + gi (pascR p i) j) % p)) ((j : Int) + 1) (gi (pascR p i) j) = pasc p i (j + 1) := by
  rw [pasc_get h, pascR_get h, pasc, si_tab, si_tab]
  refine tab_congr fun t ht => ?_
  rw [show ((j : Int) + 1).toNat = j + 1 by omega, Int.toNat_natCast]
  by_cases e1 : t = j + 1
  · rw [if_pos e1, if_neg (by omega), if_pos (by omega), Nat.add_sub_cancel]
  · rw [if_neg e1]
    by_cases e2 : t = j
    · subst e2
      rw [if_pos rfl, if_pos (show t < t + 1 by omega)]
      cases t with
      | zero => rw [if_neg (by omega), Int.zero_add, Int.emod_emod_of_dvd _ (Int.dvd_refl _), bc_zero, bc_zero]
      | succ t => rw [if_pos (by omega), Nat.add_sub_cancel, bc_rec, ← Int.add_emod]; rfl
    · rw [if_neg e2]
      by_cases e3 : t < j
      · rw [if_pos e3, if_pos (by omega)]
      · rw [if_neg e3, if_neg (by omega), if_neg (by omega), if_neg (by omega)]
theorem pasc_last (p : Int) (i : Nat) : pasc p i (i + 1) = pascR p (i + 1) := tab_congr fun t ht => by
  by_cases e : t < i + 1
  · rw [if_pos e]
  · have : t = i + 1 := by omega
    subst this
    rw [if_neg e, if_pos ⟨rfl, by omega⟩, Nat.add_sub_cancel, bc_self, bc_self]
theorem hs2_co (a b : Nat) (F : Pol (Pol (K P))) (t s : Nat) : ((hs2 a b F).co t).co s = nm (bc (s + a) a * bc (t + b) b) ((F.co (t + b)).co (s + a)) := by
  have h1 : (hs2 a b F).co t = nm (bc (t + b) b) (hsP a (F.co (t + b))) := rfl
  rw [h1, co_nm, co_hsP, Nat.mul_comm, nm_nm]
theorem nm_mod {c : Int} {n : Nat} (hc : c = (n : Int) % P.p) (x : K P) : nm c.toNat x = nm n x := by
  have hp := P.hp
  have h0 := Int.emod_nonneg (n : Int) (b := P.p) (by omega)
  refine nm_cg ?_ x
  rw [show ((c.toNat : Nat) : Int) = c by omega, hc, Int.emod_emod_of_dvd _ (Int.dvd_refl _)]
theorem mod_mul2 {p : Int} (a b : Nat) : ((a : Int) % p * ((b : Int) % p)) % p = ((a * b : Nat) : Int) % p := by
  rw [← Int.mul_emod]; simp
theorem hs2_bounds {F : Pol (Pol (K P))} {n m : Nat} (a b : Nat) (hn : YB n F) (hm : XB m F) : YB (n - b) (hs2 a b F) ∧ XB (m - a) (hs2 a b F) := by
  refine ⟨fun t ht => Pol.ext fun s => ?_, fun t s hs => ?_⟩
  · rw [hs2_co, hn (t + b) (by omega), co_zero, nm_zero']; rfl
  · rw [hs2_co, hm (t + b) (s + a) (by omega), nm_zero']
end Go.Fd


namespace Go.Fd
open Go.Pl Go.Alg
variable {P : FP}
noncomputable def tt (F : Pol (Pol (K P))) (x0 y0 dx dy : K P) (b a : Nat) : K P := val2 (hs2 a b F) x0 y0 * (npow dx a * npow dy b)
noncomputable def tay (F : Pol (Pol (K P))) (x0 y0 dx dy : K P) (m b a : Nat) : K P := sm b (fun b => sm m (tt F x0 y0 dx dy b)) + sm a (tt F x0 y0 dx dy b)
end Go.Fd


namespace Go.Fd
open Go.Pl Go.Alg
variable {P : FP}
noncomputable def dd (x y : K P) (a b : Nat) (F : Pol (Pol (K P))) : K P := val2 (hs2 a b F) x y
theorem dd_sh (x y : K P) (a b : Nat) (F : Pol (Pol (K P))) : dd x y a b F = ((sh2 x y F).co b).co a := hs2_value x y F a b
theorem sh2_CC (x y : K P) (f : Pol (K P)) : sh2 x y (pC f) = pC (sh1 x f) := by
  have h1 : mapP (fun f => sh1 x f) (sh1_hom x) (pC f) = pC (sh1 x f) := Pol.ext fun i => by
    rw [co_mapP, co_pC, co_pC]
    split
    · rfl
    · exact (sh1_hom x).zero
  rw [sh2, h1, sh1_C]
noncomputable def mulX (F : Pol (Pol (K P))) : Pol (Pol (K P)) := pC pX * F
def rc (w L : Nat) (F : Pol (Pol (K P))) (r : Nat) : K P := if w * (r % L) ≤ r / L then (F.co (r % L)).co (r / L - w * (r % L)) else 0
def Low' (w L n : Nat) (F : Pol (Pol (K P))) : Prop := ∀ r, n ≤ r → rc w L F r = 0
def Lead (w L n : Nat) (F : Pol (Pol (K P))) : Prop := rc w L F n ≠ 0 ∧ Low' w L (n + 1) F
noncomputable def mulXs : Nat → Pol (Pol (K P)) → Pol (Pol (K P))
  | 0, F => F
  | k + 1, F => mulX (mulXs k F)
theorem k_one_ne : (1 : K P) ≠ 0 := fun e => by
  have h := congrArg Subtype.val e
  have h1 : ((1 : K P)).1 = 1 := by
    have h2 := congrArg Subtype.val (inK1 (P := P))
    rw [inK_in ⟨by omega, by have := P.q_two; omega⟩] at h2
    exact h2.symm
  rw [h1] at h
  exact absurd h (by show ¬ ((1 : Int) = 0); omega)
def MC (L : Nat) (C : K P → K P → Nat → Nat → Prop) (F : Pol (Pol (K P))) : Prop := YB L F ∧ ∀ x y a b, C x y a b → dd x y a b F = 0
def Dn (C : K P → K P → Nat → Nat → Prop) : Prop := ∀ x y a b, C x y (a + 1) b → C x y a b
structure KI (w L : Nat) (C : K P → K P → Nat → Nat → Prop) (B : Nat → Pol (Pol (K P))) (d : Nat → Nat) : Prop where
  mem : ∀ j, j < L → MC L C (B j)
  lead : ∀ j, j < L → Lead w L (d j * L + j) (B j)
  least : ∀ F r, MC L C F → Lead w L r F → d (r % L) * L + r % L ≤ r
def Cs (C : K P → K P → Nat → Nat → Prop) (x y : K P) (a b : Nat) : K P → K P → Nat → Nat → Prop := fun x' y' a' b' => C x' y' a' b' ∨ (x' = x ∧ y' = y ∧ a' = a ∧ b' = b)
end Go.Fd


namespace Go.Fd
open Go.Alg
variable {P : FP}
def ivl (p a : Int) : Nat → Int
  | 0 => 1
  | i + 1 => (ivl p a i * a) % p
def inv (p a : Int) : Int := ivl p a (p - 2).toNat
def lp1 (p : Int) (a : Nat) (o : Int) : Nat → Int
  | 0 => o
  | i + 1 => (lp1 p a o i * (a - i)) % p
def lp2 (p o : Int) : Nat → Int
  | 0 => o
  | i + 1 => (lp2 p o i * inv p ((i : Int) + 1)) % p
def fac : Nat → Nat
  | 0 => 1
  | n + 1 => fac n * (n + 1)
end Go.Fd


namespace Go.Fd
open Go.Pl Go.Alg
variable {P : FP}
noncomputable def gsm (x y : K P) (a b : Nat) (F : Pol (Pol (K P))) (t : Nat) : K P := sm t fun t => val1 ((hs2 a b F).co t) x * npow y t
noncomputable def grow (x : K P) (a : Nat) (f : Pol (K P)) (i : Nat) : K P := val1 (dropP i (hsP a f)) x
def pct (p : Int) (cols n : Nat) : List Int := tab cols fun k => (bc n k : Int) % p
def pctU (p : Int) (cols n k : Nat) : List Int := tab cols fun t => if t < k then (bc n t : Int) % p else 0
def pcT (p : Int) (rows cols : Nat) : List (List Int) := tab rows fun n => pct p cols n
def ns : Nat → (Nat → Nat) → Nat
  | 0, _ => 0
  | n + 1, f => ns n f + f n
theorem ns_le {f g : Nat → Nat} : ∀ n, (∀ j, j < n → f j ≤ g j) → ns n f ≤ ns n g
  | 0, _ => Nat.le_refl _
  | n + 1, h => Nat.add_le_add (ns_le n fun j hj => h j (by omega)) (h n (by omega))
def terms (w L D : Nat) : Nat := ns L fun j => if w * j ≤ D then D - w * j + 1 else 0
end Go.Fd


namespace Go.Fd
open Go.Pl Go.Alg
variable {P : FP}
def Bst (gp : Nat → K P) (d : Nat → Nat) (j : Nat) (best : Int) : Prop :=
  (best = -1 ∧ ∀ t, t < j → gp t = 0) ∨ ∃ t : Nat, best = t ∧ t < j ∧ gp t ≠ 0 ∧ ∀ s, s < j → gp s ≠ 0 → d t < d s ∨ (d t = d s ∧ t ≤ s)
noncomputable def tk (gp : Nat → K P) (t s : Nat) : K P := -gp s * invK P (gp t)
noncomputable def oth (gp : Nat → K P) (t : Nat) (Bs : Nat → Pol (Pol (K P))) (s : Nat) : Pol (Pol (K P)) := by
  classical exact if s ≠ t ∧ gp s ≠ 0 then Bs s + pC (pC (tk gp t s)) * Bs t else Bs s
noncomputable def bls (L : Nat) (f g : Nat → Pol (Pol (K P))) (j : Nat) : List (List (List Int)) := (List.range L).map fun s => bcl (if s < j then f s else g s)
noncomputable def bl (L : Nat) (f : Nat → Pol (Pol (K P))) : List (List (List Int)) := (List.range L).map fun s => bcl (f s)
def Stp (L : Nat) (x y : K P) (a b : Nat) (Bs : Nat → Pol (Pol (K P))) (d : Nat → Nat) (Bs' : Nat → Pol (Pol (K P))) (d' : Nat → Nat) : Prop :=
  ((∀ j, j < L → dd x y a b (Bs j) = 0) ∧ Bs' = Bs ∧ d' = d) ∨
  ∃ t, t < L ∧ dd x y a b (Bs t) ≠ 0 ∧ (∀ s, s < L → dd x y a b (Bs s) ≠ 0 → d t < d s ∨ (d t = d s ∧ t ≤ s)) ∧ (Bs' = fun s => if s = t then mulX (Bs t) + pC (pC (-x)) * Bs t else oth (fun s => dd x y a b (Bs s)) t Bs s) ∧ d' = fun s => if s = t then d t + 1 else d s
end Go.Fd


namespace Go.Fd
open Go.Pl Go.Alg
variable {P : FP}
def Van (x y : K P) (F : Pol (Pol (K P))) (m : Nat) : Prop := ∀ a b, a + b < m → dd x y a b F = 0
def Cst (X Y : Nat → K P) (m i b a : Nat) : K P → K P → Nat → Nat → Prop := fun x y a' b' => a' + b' < m ∧ ∃ i', x = X i' ∧ y = Y i' ∧ (i' < i ∨ (i' = i ∧ (b' < b ∨ (b' = b ∧ a' < a))))
def rs (m : Nat) : Nat → Nat
  | 0 => 0
  | b + 1 => rs m b + (m - b)
def cnt (m i b a : Nat) : Nat := i * rs m m + rs m b + a
structure KS (X Y : Nat → K P) (w L m i b a : Nat) (Bs : Nat → Pol (Pol (K P))) (d : Nat → Nat) : Prop where
  ki : KI w L (Cst X Y m i b a) Bs d
  xb : ∀ j, j < L → XB (cnt m i b a + 1) (Bs j)
  ns : ns L d ≤ ns L (fun j => w * j) + cnt m i b a
structure IntP (X Y : Nat → K P) (n m w L : Nat) (Q : Pol (Pol (K P))) : Prop where
  ne : Q ≠ 0
  yb : YB L Q
  xb : XB (n * rs m m + 1) Q
  van : ∀ i, i < n → Van (X i) (Y i) Q m
  least : ∀ F k, F ≠ 0 → YB L F → XB k F → (∀ i, i < n → Van (X i) (Y i) F m) → wdg Q w ≤ wdg F w
  small : ∀ D, n * rs m m < terms w L D → wdg Q w ≤ D
end Go.Fd


namespace Go.Fd
open Go.Pl Go.Alg
variable {P : FP}
def Ord (m : Nat) (x : K P) (R : Pol (K P)) : Prop := ∀ s, s < m → (sh1 x R).co s = 0
theorem mulX1_co0 (_ c : K P) (S : Pol (K P)) : ((pX + pC c) * S).co 0 = c * S.co 0 := by rw [add_mul, co_add, co_pX_zero, co_pC_mul, zero_add]
theorem mulX1_co (c : K P) (S : Pol (K P)) (s : Nat) : ((pX + pC c) * S).co (s + 1) = S.co s + c * S.co (s + 1) := by rw [add_mul, co_add, co_pX_mul, co_pC_mul]
theorem Ord.split {m n : Nat} {x : K P} {R : Pol (K P)} (h : Ord (m + 1) x R) (hn : YB (n + 1) R) : ∃ S, R = (pX + pC (-x)) * S ∧ Ord m x S ∧ YB n S := by
  obtain ⟨T, hT⟩ : ∃ T : Pol (K P), T = dropP 1 (sh1 x R) := ⟨_, rfl⟩
  have h0 : (sh1 x R).co 0 = 0 := h 0 (by omega)
  have h1 : sh1 x R = pX * T := Pol.ext fun i => by
    cases i with
    | zero => rw [co_pX_zero, h0]
    | succ i => rw [co_pX_mul, hT, co_dropP]
  have h2 : R = (pX + pC (-x)) * sh1 (-x) T := by
    rw [← sh1_inv x R, h1, (sh1_hom (-x)).mul, sh1_X]
  have h3 : sh1 x (sh1 (-x) T) = T := by
    have := sh1_inv (-x) T
    rwa [neg_neg] at this
  have hy : YB (n + 1) (sh1 x R) := fun i hi => sh1_yb x (n := n + 1) (fun j hj => hn j hj) i hi
  have hyT : YB n T := fun i hi => by rw [hT, co_dropP]; exact hy _ (by omega)
  refine ⟨sh1 (-x) T, h2, fun s hs => ?_, fun i hi => sh1_yb (-x) (n := n) (fun j hj => hyT j hj) i hi⟩
  rw [h3, hT, co_dropP]
  exact h (s + 1) (by omega)
theorem Ord.other (hK : NZD (K P)) {m : Nat} {x x' : K P} (hx : x' ≠ x) {S : Pol (K P)} (h : Ord m x' ((pX + pC (-x)) * S)) : Ord m x' S := by
  have hc : x' + -x ≠ 0 := fun e => hx (by
    have : x' = x' + -x + x := by rw [add_assoc, neg_add, add_zero]
    rw [this, e, zero_add])
  have he : sh1 x' ((pX + pC (-x)) * S) = (pX + pC (x' + -x)) * sh1 x' S := by
    rw [(sh1_hom x').mul, (sh1_hom x').add, sh1_X, sh1_C, add_assoc, ← pC_hom.add]
  intro s
  induction s with
  | zero =>
    intro hs
    have h1 := h 0 hs
    rw [he, mulX1_co0 x'] at h1
    exact (hK _ _ h1).resolve_left hc
  | succ s ih =>
    intro hs
    have h1 := h (s + 1) hs
    rw [he, mulX1_co, ih (by omega), zero_add] at h1
    exact (hK _ _ h1).resolve_left hc
theorem ns_upd {f : Nat → Nat} {t : Nat} : ∀ n, t < n → 1 ≤ f t → ns n f = ns n (fun i => if i = t then f t - 1 else f i) + 1
  | 0, h, _ => by omega
  | n + 1, h, h1 => by
    show ns n f + f n = ns n (fun i => if i = t then f t - 1 else f i) + (if n = t then f t - 1 else f n) + 1
    by_cases e : t = n
    · subst e
      rw [if_pos rfl]
      have h2 : ns t f = ns t (fun i => if i = t then f t - 1 else f i) := Nat.le_antisymm (ns_le t fun j hj => by rw [if_neg (by omega)]; exact Nat.le_refl _) (ns_le t fun j hj => by rw [if_neg (by omega)]; exact Nat.le_refl _)
      omega
    · rw [if_neg (fun h => e h.symm)]
      have := ns_upd (f := f) (t := t) n (by omega) h1
      omega
theorem ns_pos {f : Nat → Nat} : ∀ n, 0 < ns n f → ∃ t, t < n ∧ 1 ≤ f t
  | 0, h => by simp [ns] at h
  | n + 1, h => by
    by_cases h1 : 1 ≤ f n
    · exact ⟨n, by omega, h1⟩
    · have h2 : 0 < ns n f + f n := h
      obtain ⟨t, ht, h3⟩ := ns_pos (f := f) n (by omega)
      exact ⟨t, by omega, h3⟩
theorem zeros_zero (hK : NZD (K P)) {c : Nat} {X : Nat → K P} (hX : ∀ i j, i < c → j < c → i ≠ j → X i ≠ X j) : ∀ (n : Nat) (μ : Nat → Nat) (R : Pol (K P)), YB n R → (∀ i, i < c → Ord (μ i) (X i) R) → n ≤ ns c μ → R = 0
  | 0, _, R, hR, _, _ => Pol.ext fun i => hR i (Nat.zero_le _)
  | n + 1, μ, R, hR, ho, hs => by
    obtain ⟨t, ht, h1⟩ := ns_pos (f := μ) c (by omega)
    obtain ⟨k, hk⟩ : ∃ k, μ t = k + 1 := ⟨μ t - 1, by omega⟩
    have hot := ho t ht
    rw [hk] at hot
    obtain ⟨S, hS, hoS, hyS⟩ := hot.split hR
    have h2 := ns_upd c ht h1
    have hz : S = 0 := by
      refine zeros_zero hK hX n (fun i => if i = t then μ t - 1 else μ i) S hyS (fun i hi => ?_) (by omega)
      show Ord (if i = t then μ t - 1 else μ i) (X i) S
      by_cases e : i = t
      · rw [if_pos e, hk, e, Nat.add_sub_cancel]; exact hoS
      · rw [if_neg e]
        have := ho i hi
        rw [hS] at this
        exact this.other hK (hX i t hi ht e)
    rw [hS, hz, mul_zero]
theorem subst_about (x y : K P) (Q : Pol (Pol (K P))) (f : Pol (K P)) : sh1 x (subst Q f) = subst (sh2 x y Q) (sh1 x f + pC (-y)) := by
  have h1 : Hom (fun Q : Pol (Pol (K P)) => sh1 x (subst Q f)) := ⟨fun a b => by rw [(subst_hom f).add, (sh1_hom x).add], fun a b => by rw [(subst_hom f).mul, (sh1_hom x).mul], by rw [(subst_hom f).one, (sh1_hom x).one]⟩
  have h2 : Hom (fun Q : Pol (Pol (K P)) => subst (sh2 x y Q) (sh1 x f + pC (-y))) := ⟨fun a b => by rw [(sh2_hom x y).add, (subst_hom _).add], fun a b => by rw [(sh2_hom x y).mul, (subst_hom _).mul], by rw [(sh2_hom x y).one, (subst_hom _).one]⟩
  rw [hom_pol h1 Q, hom_pol h2 Q]
  have c1 : (fun a : Pol (K P) => sh1 x (subst (pC a) f)) = fun a => sh1 x a := funext fun a => by rw [subst, pev_C Hom.id]
  have c2 : (fun a : Pol (K P) => subst (sh2 x y (pC a)) (sh1 x f + pC (-y))) = fun a => sh1 x a := funext fun a => by rw [sh2_CC, subst, pev_C Hom.id]
  have hX : sh2 x y (pX : Pol (Pol (K P))) = pX + pC (pC y) := by
    have h1 : mapP (fun f => sh1 x f) (sh1_hom x) (pX : Pol (Pol (K P))) = pX := Pol.ext fun i => by
      rw [co_mapP]
      show sh1 x (psX i) = psX i
      rw [psX]
      split
      · exact (sh1_hom x).one
      · exact (sh1_hom x).zero
    rw [sh2, h1, sh1_X]
  have v1 : sh1 x (subst (pX : Pol (Pol (K P))) f) = sh1 x f := by rw [subst, pev_X Hom.id]
  have v2 : subst (sh2 x y (pX : Pol (Pol (K P)))) (sh1 x f + pC (-y)) = sh1 x f := by
    rw [hX, (subst_hom _).add, subst, pev_X Hom.id, subst, pev_C Hom.id, add_assoc, ← pC_hom.add, neg_add, pC_hom.zero, add_zero]
  rw [c1, c2, v1, v2]
theorem npow_low {h : Pol (K P)} (h0 : h.co 0 = 0) : ∀ b t, t < b → (npow h b).co t = 0
  | 0, t, ht => by omega
  | b + 1, t, ht => by
    rw [npow_succ, co_mul]
    refine sm_zero fun i hi => ?_
    by_cases e : i < b
    · rw [npow_low h0 b i e, zero_mul]
    · have : t - i = 0 := by omega
      rw [this, h0, mul_zero]
theorem val1_sh (x : K P) (f : Pol (K P)) : (sh1 x f).co 0 = val1 f x := by
  have h := hsP_value x f 0
  have h2 : hsP 0 f = f := Pol.ext fun i => by rw [co_hsP, bc_zero, nm_one, Nat.add_zero]
  rw [h2] at h
  exact h.symm
theorem van_ord {x y : K P} {m : Nat} {Q : Pol (Pol (K P))} {f : Pol (K P)} (hv : Van x y Q m) (hf : val1 f x = y) : Ord m x (subst Q f) := by
  intro s hs
  obtain ⟨h, hh⟩ : ∃ h, h = sh1 x f + pC (-y) := ⟨_, rfl⟩
  have h0 : h.co 0 = 0 := by rw [hh, co_add, val1_sh, hf, co_pC, if_pos rfl, add_neg]
  obtain ⟨n, hn⟩ := (sh2 x y Q).2
  rw [subst_about x y, ← hh, subst, pev_eq Hom.id h hn, evp, sm_co]
  refine sm_zero fun b _ => ?_
  show ((sh2 x y Q).co b * npow h b).co s = 0
  rw [co_mul]
  refine sm_zero fun a ha => ?_
  by_cases e : s - a < b
  · rw [npow_low h0 b _ e, mul_zero]
  · have : ((sh2 x y Q).co b).co a = 0 := by
      rw [← dd_sh]
      exact hv a b (by omega)
    rw [this, zero_mul]
theorem npow_yb {f : Pol (K P)} {k : Nat} (hf : YB (k + 1) f) : ∀ j, YB (k * j + 1) (npow f j)
  | 0 => by rw [npow_zero]; intro i hi; rw [co_one, if_neg (by omega)]
  | j + 1 => by
    rw [npow_succ]
    intro i hi
    rw [co_mul]
    refine sm_zero fun a ha => ?_
    have h1 : k * (j + 1) = k * j + k := by rw [Nat.mul_add, Nat.mul_one]
    by_cases e : k * j + 1 ≤ a
    · rw [npow_yb hf j a e, zero_mul]
    · rw [hf (i - a) (by omega), mul_zero]
theorem subst_yb {w D k : Nat} {Q : Pol (Pol (K P))} {f : Pol (K P)} (hf : YB (k + 1) f) (hkw : k ≤ w) (hD : wdg Q w ≤ D) : YB (D + 1) (subst Q f) := by
  have hco : ∀ i j, D < i + w * j → (Q.co j).co i = 0 := fun i j hij => by
    rcases wdg_spec Q w with ⟨_, h⟩ | ⟨d, h1, h2, _⟩
    · rw [h]; rfl
    · exact h2 i j (by omega)
  obtain ⟨n, hn⟩ := Q.2
  intro s hs
  rw [subst, pev_eq Hom.id f hn, evp, sm_co]
  refine sm_zero fun j _ => ?_
  show (Q.co j * npow f j).co s = 0
  rw [co_mul]
  refine sm_zero fun a ha => ?_
  have h3 : k * j ≤ w * j := Nat.mul_le_mul_right j hkw
  by_cases e : D < a + w * j
  · rw [hco a j e, zero_mul]
  · rw [npow_yb hf j (s - a) (by omega), mul_zero]
theorem gs (hK : NZD (K P)) {w D k m n : Nat} {X Y : Nat → K P} (hX : ∀ i j, i < n → j < n → i ≠ j → X i ≠ X j) {Q : Pol (Pol (K P))} {f : Pol (K P)} (hf : YB (k + 1) f) (hkw : k ≤ w) (hD : wdg Q w ≤ D) (hv : ∀ i, i < n → Van (X i) (Y i) Q m)
    (good : Nat → Bool) (hg : ∀ i, i < n → good i = true → val1 f (X i) = Y i) (hc : D < m * ns n (fun i => if good i then 1 else 0)) : subst Q f = 0 := by
  refine zeros_zero hK hX (D + 1) (fun i => if good i then m else 0) _ (subst_yb hf hkw hD) (fun i hi => ?_) ?_
  · show Ord (if good i then m else 0) (X i) _
    by_cases e : good i = true
    · rw [if_pos e]
      exact van_ord (hv i hi) (hg i hi e)
    · rw [if_neg e]
      exact fun s hs => by omega
  · have h1 : ∀ n, ns n (fun i => if good i then m else 0) = m * ns n (fun i => if good i then 1 else 0) := by
      intro n
      induction n with
      | zero => rfl
      | succ n ih =>
        show ns n _ + (if good n then m else 0) = m * (ns n _ + (if good n then 1 else 0))
        rw [ih, Nat.mul_add]
        by_cases e : good n = true
        · rw [if_pos e, if_pos e, Nat.mul_one]
        · rw [if_neg e, if_neg e, Nat.mul_zero]
    rw [h1]
    omega
end Go.Fd


namespace Go.Ld
theorem degF_spec {c w : Int} (hw : 1 ≤ w) : ∀ (f : Nat) (d : Int), 0 ≤ d → c < d + f → 0 ≤ degF c w f d ∧ c < tm (degF c w f d) w
  | 0, d, hd, h => ⟨hd, by have := tm_ge d w hd hw; simp only [degF]; omega⟩
  | f + 1, d, hd, h => by
    rw [degF]
    split
    · exact degF_spec hw f (d + 1) (by omega) (by omega)
    · exact ⟨hd, by omega⟩
theorem deg_spec {c w : Int} (hw : 1 ≤ w) (hc : c ≤ 8000) : 0 ≤ deg c w ∧ c < tm (deg c w) w := degF_spec hw 9000 0 (Int.le_refl _) (by omega)
theorem parF_ok {n k t : Int} : ∀ (f : Nat) (m : Int), (parF n k t f m).2 = 0 → ∃ q, m ≤ q ∧ q < m + f ∧ okB n k t q = true ∧ parF n k t f m = ([q, deg (cost n q) (wt k), deg (cost n q) (wt k) / wt k], 0)
  | 0, m, h => by simp [parF] at h
  | f + 1, m, h => by
    rw [parF] at h ⊢
    by_cases e : okB n k t m = true
    · rw [if_pos e]; exact ⟨m, by omega, by omega, e, rfl⟩
    · rw [if_neg e] at h ⊢
      obtain ⟨q, h1, h2, h3, h4⟩ := parF_ok f (m + 1) h
      exact ⟨q, by omega, by omega, h3, h4⟩
structure ParOk (n k t m D L : Int) : Prop where
  hn : 1 ≤ n ∧ n ≤ 64
  hk : 0 ≤ k ∧ k ≤ n
  ht : 0 ≤ t ∧ t ≤ n
  hm : 1 ≤ m ∧ m ≤ 16
  hcost : cost n m ≤ 4096
  hD : 0 ≤ D
  hterms : cost n m < tm D (wt k)
  hL : L = D / wt k
  h64 : L ≤ 64
  hlt : D < m * (n - t)
theorem par_ok {n k t : Int} (h : (par n k t).2 = 0) : ∃ m D L, par n k t = ([m, D, L], 0) ∧ ParOk n k t m D L := by
  rw [par] at h ⊢
  by_cases hb : bad n k t = true
  · rw [if_pos hb] at h; simp at h
  · rw [if_neg hb] at h ⊢
    obtain ⟨q, h1, h2, h3, h4⟩ := parF_ok 16 1 h
    simp only [bad, Bool.or_eq_true, decide_eq_true_eq, not_or] at hb
    simp only [okB, Bool.and_eq_true, decide_eq_true_eq] at h3
    have hw : 1 ≤ wt k := by unfold wt; omega
    obtain ⟨d1, d2⟩ := deg_spec hw (show cost n q ≤ 8000 by omega)
    exact ⟨q, _, _, h4, ⟨by omega, by omega⟩, ⟨by omega, by omega⟩, ⟨by omega, by omega⟩, ⟨by omega, by omega⟩, h3.1, d1, d2, rfl, h3.2.1, h3.2.2⟩
end Go.Ld
namespace Go.Fd
open Go.Pl Go.Alg Go.Ld
end Go.Fd


namespace Go.Fd
open Go.Pl Go.Alg
def AllIn (q : Int) (l : List Int) : Prop := ∀ i : Nat, i < l.length → 0 ≤ gi l i ∧ gi l i < q
def DifI (xs : List Int) : Prop := ∀ i : Nat, i < xs.length → ∀ j : Nat, j < i → gi xs i ≠ gi xs j
def NoZ (l : List Int) : Prop := ∀ i : Nat, i < l.length → gi l i ≠ 0
open Classical in
noncomputable def grsE (q : Int) (xs ms : List Int) (K : Int) : Int :=
  if (xs.length : Int) < 1 ∨ 64 < (xs.length : Int) then 4 else if ms.length ≠ xs.length then 10 else if ¬ AllIn q xs ∨ ¬ AllIn q ms then 2 else if ¬ DifI xs then 18 else if ¬ NoZ ms then 7 else if K < 0 ∨ (xs.length : Int) < K then 6 else 0
structure GrsOk (q : Int) (xs ms : List Int) (K : Int) : Prop where
  n1 : 1 ≤ xs.length
  n64 : xs.length ≤ 64
  ml : ms.length = xs.length
  xin : AllIn q xs
  min : AllIn q ms
  dif : DifI xs
  noz : NoZ ms
  k0 : 0 ≤ K
  kn : K ≤ xs.length
theorem grsE_ok {q : Int} {xs ms : List Int} {K : Int} : grsE q xs ms K = 0 ↔ GrsOk q xs ms K := by
  rw [grsE]
  constructor
  · intro h
    split at h
    · omega
    · split at h
      · omega
      · split at h
        · omega
        · split at h
          · omega
          · split at h
            · omega
            · split at h
              · omega
              · rename_i h1 h2 h3 h4 h5 h6
                exact ⟨by omega, by omega, by omega, Classical.byContradiction fun hc => h3 (.inl hc), Classical.byContradiction fun hc => h3 (.inr hc), Classical.byContradiction h4, Classical.byContradiction h5, by omega, by omega⟩
  · rintro ⟨h1, h2, h3, h4, h5, h6, h7, h8, h9⟩
    rw [if_neg (by omega), if_neg (by omega), if_neg (by rintro (h | h) <;> contradiction), if_neg (by simpa using h6), if_neg (by simpa using h7), if_neg (by omega)]
open Classical in
noncomputable def elE (q : Int) (l : List Int) (n e : Int) : Int := if (l.length : Int) ≠ n then e else if ¬ AllIn q l then 2 else 0
open Classical in
noncomputable def taskE (q : Int) (xs ms : List Int) (K : Int) (ws : List Int) (t : Int) : Int :=
  if grsE q xs ms K ≠ 0 then grsE q xs ms K else if elE q ws xs.length 4 ≠ 0 then elE q ws xs.length 4 else (Go.Ld.par xs.length K t).2
theorem elE_ok {q : Int} {l : List Int} {n e : Int} (he : e ≠ 0) : elE q l n e = 0 ↔ (l.length : Int) = n ∧ AllIn q l := by
  rw [elE]
  constructor
  · intro h
    split at h
    · exact absurd h he
    · split at h
      · omega
      · rename_i h1 h2
        exact ⟨by omega, Classical.byContradiction h2⟩
  · rintro ⟨h1, h2⟩
    rw [if_neg (by omega), if_neg (by simpa using h2)]
variable {P : FP}
theorem grs_dif {xs : List Int} (h : AllIn P.q xs) (hd : DifI xs) : ∀ i j : Nat, i < xs.length → j < xs.length → i ≠ j → inK P (gi xs i) ≠ inK P (gi xs j) := fun i j hi hj hne e => by
  have h1 := congrArg Subtype.val e
  rw [inK_in (h i hi), inK_in (h j hj)] at h1
  rcases Nat.lt_or_ge i j with hl | hl
  · exact hd j hj i hl h1.symm
  · exact hd i hi j (by omega) h1
noncomputable def vals (P : FP) (ws ms : List Int) : List Int := tab ws.length fun i => (inK P (gi ws i) * invK P (inK P (gi ms i))).1
theorem vals_length (ws ms : List Int) : (vals P ws ms).length = ws.length := tab_length _ _
theorem inK_ne {z : Int} (h : 0 ≤ z ∧ z < P.q) (h0 : z ≠ 0) : inK P z ≠ 0 := fun e => by
  have := congrArg Subtype.val e
  rw [inK_in h] at this
  exact h0 this
end Go.Fd


namespace Go.Alg
section
variable {R : Type} [CR R]
def plist : List R → Pol R
  | [] => 0
  | r :: c => pC r + pX * plist c
theorem co_plist : ∀ (c : List R) (i : Nat), (plist c).co i = c.getD i 0
  | [], i => rfl
  | r :: c, 0 => by
    show (pC r + pX * plist c).co 0 = _
    rw [co_add, co_pX_zero, co_pC, if_pos rfl, add_zero]; rfl
  | r :: c, i + 1 => by
    show (pC r + pX * plist c).co (i + 1) = _
    rw [co_add, co_pX_mul, co_pC, if_neg (by omega), zero_add, co_plist c i]; rfl
theorem plist_tl (r : R) (c : List R) : (plist (r :: c)).tl = plist c := Pol.ext fun i => by
  show (plist (r :: c)).co (i + 1) = _
  rw [co_plist, co_plist]; rfl
theorem plist_co0 (r : R) (c : List R) : (plist (r :: c)).co 0 = r := by rw [co_plist]; rfl
open Classical in
noncomputable def rts (els : List R) : Nat → Pol (Pol R) → List (List R)
  | 0, F => if sub F 0 = 0 then [[]] else []
  | k + 1, F => els.flatMap fun r => if h : ∃ m, Low m F ∧ pev (fun c => c) r (line (dv m F)) = 0 then (rts els k (nx r (dv (Classical.choose h) F))).map (r :: ·) else []
theorem dv_ne {m : Nat} {F : Pol (Pol R)} (h : Low m F) : dv m F ≠ 0 := fun e => h.line (by rw [e]; rfl)
theorem mem_rts (hR : NZD R) (h1 : (1 : R) ≠ 0) (els : List R) : ∀ (k : Nat) (F : Pol (Pol R)), F ≠ 0 → ∀ c, c ∈ rts els k F ↔ c.length = k ∧ (∀ x ∈ c, x ∈ els) ∧ sub F (plist c) = 0
  | 0, F, _, c => by
    rw [rts]
    by_cases h : sub F 0 = 0
    · rw [if_pos h]
      constructor
      · intro hc
        obtain rfl : c = [] := by simpa using hc
        exact ⟨rfl, fun x hx => (by cases hx), h⟩
      · rintro ⟨hc, _⟩
        rw [List.eq_nil_of_length_eq_zero hc]; exact List.mem_cons_self ..
    · rw [if_neg h]
      constructor
      · intro hc; cases hc
      · rintro ⟨hc, _, hs⟩
        rw [List.eq_nil_of_length_eq_zero hc] at hs
        exact absurd hs h
  | k + 1, F, hF, c => by
    obtain ⟨m, hm⟩ := low_exists hF
    rw [rts, List.mem_flatMap]
    constructor
    · rintro ⟨r, hr, hc⟩
      split at hc
      · rename_i h
        have hch := Classical.choose_spec h
        have hmm := hm.uniq hch.1
        rw [← hmm] at hc hch
        obtain ⟨d, hd, rfl⟩ := List.mem_map.1 hc
        obtain ⟨d1, d2, d3⟩ := (mem_rts hR h1 els k _ (nx_ne hR h1 (dv_ne hm)) d).1 hd
        refine ⟨by rw [List.length_cons, d1], fun x hx => ?_, ?_⟩
        · rcases List.mem_cons.1 hx with e | e
          · rw [e]; exact hr
          · exact d2 x e
        · rw [search_step hR h1 hm, plist_co0, plist_tl]
          exact ⟨hch.2, d3⟩
      · cases hc
    · rintro ⟨hl, he, hs⟩
      obtain ⟨r, d, rfl⟩ : ∃ r d, c = r :: d := by
        cases c with
        | nil => simp at hl
        | cons r d => exact ⟨r, d, rfl⟩
      rw [search_step hR h1 hm, plist_co0, plist_tl] at hs
      refine ⟨r, he r (List.mem_cons_self ..), ?_⟩
      have hex : ∃ m, Low m F ∧ pev (fun c => c) r (line (dv m F)) = 0 := ⟨m, hm, hs.1⟩
      rw [dif_pos hex]
      have hmm := hm.uniq (Classical.choose_spec hex).1
      rw [← hmm]
      exact List.mem_map.2 ⟨d, (mem_rts hR h1 els k _ (nx_ne hR h1 (dv_ne hm)) d).2 ⟨by simpa using hl, fun x hx => he x (List.mem_cons_of_mem _ hx), hs.2⟩, rfl⟩
def LexLt (lt : R → R → Prop) : List R → List R → Prop
  | a :: l, b :: m => lt a b ∨ (a = b ∧ LexLt lt l m)
  | _, _ => False
theorem rts_sorted {lt : R → R → Prop} {els : List R} (hs : els.Pairwise lt) : ∀ (k : Nat) (F : Pol (Pol R)), (rts els k F).Pairwise (LexLt lt)
  | 0, F => by
    rw [rts]
    split
    · exact List.pairwise_singleton _ _
    · exact List.Pairwise.nil
  | k + 1, F => by
    rw [rts, List.pairwise_flatMap]
    refine ⟨fun r _ => ?_, hs.imp fun {a b} hab x hx y hy => ?_⟩
    · split
      · rw [List.pairwise_map]
        exact (rts_sorted hs k _).imp fun {x y} h => .inr ⟨rfl, h⟩
      · exact List.Pairwise.nil
    · split at hx
      · split at hy
        · obtain ⟨x', _, rfl⟩ := List.mem_map.1 hx
          obtain ⟨y', _, rfl⟩ := List.mem_map.1 hy
          exact .inl hab
        · cases hy
      · cases hx
end
end Go.Alg


namespace Go.Fd
open Go.Pl Go.Alg
variable {P : FP}
noncomputable def lowOf (F : Pol (Pol (K P))) : Nat := open Classical in if h : F ≠ 0 then Classical.choose (low_exists h) else 0
theorem lowOf_spec {F : Pol (Pol (K P))} (h : F ≠ 0) : Low (lowOf F) F := by
  rw [lowOf, dif_pos h]
  exact Classical.choose_spec (low_exists h)
theorem lowOf_eq {F : Pol (Pol (K P))} {m : Nat} (h : Low m F) : lowOf F = m := by
  have hF : F ≠ 0 := fun e => by
    obtain ⟨_, j, hj⟩ := h
    rw [e] at hj
    exact hj rfl
  exact (lowOf_spec hF).uniq h
def LowP (F : Pol (Pol (K P))) (i : Nat) (low : Int) : Prop :=
  (low = -1 ∧ ∀ j, j < i → F.co j = 0) ∨ ∃ m : Nat, low = m ∧ (∃ j, j < i ∧ (F.co j).co m ≠ 0) ∧ ∀ j, j < i → ∀ t, t < m → (F.co j).co t = 0
theorem LowP.first (F : Pol (Pol (K P))) : LowP F 0 (-1) := .inl ⟨rfl, fun j h => by omega⟩
theorem LowP.zero {F : Pol (Pol (K P))} {i : Nat} {low : Int} (h : LowP F i low) (h0 : F.co i = 0) : LowP F (i + 1) low := by
  rcases h with ⟨rfl, h⟩ | ⟨m, rfl, ⟨j, hj, hm⟩, h⟩
  · refine .inl ⟨rfl, fun j hj => ?_⟩
    by_cases e : j = i
    · rw [e]; exact h0
    · exact h j (by omega)
  · refine .inr ⟨m, rfl, ⟨j, by omega, hm⟩, fun j hj t ht => ?_⟩
    by_cases e : j = i
    · rw [e, h0]; rfl
    · exact h j (by omega) t ht
theorem LowP.take {F : Pol (Pol (K P))} {i : Nat} {low : Int} {t : Nat} (h : LowP F i low) (h0 : ∀ s, s < t → (F.co i).co s = 0) (h1 : (F.co i).co t ≠ 0) (hl : low < 0 ∨ (t : Int) < low) : LowP F (i + 1) t := by
  refine .inr ⟨t, rfl, ⟨i, by omega, h1⟩, fun j hj s hs => ?_⟩
  by_cases e : j = i
  · rw [e]; exact h0 s hs
  · rcases h with ⟨rfl, h⟩ | ⟨m, rfl, _, h⟩
    · rw [h j (by omega)]; rfl
    · exact h j (by omega) s (by omega)
theorem LowP.keep {F : Pol (Pol (K P))} {i : Nat} {low : Int} {t : Nat} (h : LowP F i low) (h0 : ∀ s, s < t → (F.co i).co s = 0) (hl : ¬ (low < 0 ∨ (t : Int) < low)) : LowP F (i + 1) low := by
  rcases h with ⟨rfl, h⟩ | ⟨m, rfl, ⟨j, hj, hm⟩, h⟩
  · exact absurd (.inl (by omega)) hl
  · refine .inr ⟨m, rfl, ⟨j, by omega, hm⟩, fun j hj s hs => ?_⟩
    by_cases e : j = i
    · rw [e]; exact h0 s (by omega)
    · exact h j (by omega) s hs
theorem LowP.last {F : Pol (Pol (K P))} {n : Nat} {low : Int} (hF : F ≠ 0) (hn : YB n F) (h : LowP F n low) : low = lowOf F := by
  rcases h with ⟨rfl, h⟩ | ⟨m, rfl, ⟨j, hj, hm⟩, h⟩
  · exfalso
    refine hF (Pol.ext fun j => ?_)
    rcases Nat.lt_or_ge j n with e | e
    · exact h j e
    · exact hn j e
  · rw [lowOf_eq (m := m) ⟨fun i j hi => ?_, j, hm⟩]
    rcases Nat.lt_or_ge j n with e | e
    · exact h j e i hi
    · rw [hn j e]; rfl
theorem cl_drop (f : Pol (K P)) (m : Nat) : cl (dropP m f) = (cl f).drop m := cl_of ⟨fun x hx => (cl_cn f).rng x (List.mem_of_mem_drop hx), fun i => by
    rw [List.getD_eq_getElem?_getD, List.getElem?_drop, ← List.getD_eq_getElem?_getD, cl_getD, inK_val, co_dropP, Nat.add_comm], fun h => by
    have hl : m < (cl f).length := by
      apply Classical.byContradiction
      intro hc
      exact h (List.drop_eq_nil_of_le (by omega))
    rw [List.length_drop, List.getD_eq_getElem?_getD, List.getElem?_drop, ← List.getD_eq_getElem?_getD, show m + ((cl f).length - m - 1) = (cl f).length - 1 by omega]
    exact (cl_cn f).last (List.ne_nil_of_length_pos (by omega))⟩
theorem low_len {F : Pol (Pol (K P))} {m : Nat} (h : Low m F) {j : Nat} (hj : cl (F.co j) ≠ []) : m < (cl (F.co j)).length := by
  apply Classical.byContradiction
  intro hc
  refine (cl_cn (F.co j)).last hj ?_
  have h0 : 0 < (cl (F.co j)).length := List.length_pos_iff.2 hj
  rw [cl_getD, h.1 _ j (by omega)]; rfl
theorem dv_rows {F : Pol (Pol (K P))} {m : Nat} (h : Low m F) : tab (bcl F).length (fun j => cl ((Go.Alg.dv m F).co j)) = bcl (Go.Alg.dv m F) := by
  refine (bcl_of ⟨fun j => ?_, fun hne => ?_⟩).symm
  · rw [tab_at]
    split
    · exact cl_cn _
    · rename_i hj
      rw [co_dv, bcl_over F (by omega), dropP_zero]
      exact Cn.zero
  · rw [tab_length, tab_at]
    have hl : 0 < (bcl F).length := by
      rcases Nat.eq_zero_or_pos (bcl F).length with e | e
      · rw [e] at hne; exact absurd rfl hne
      · exact e
    rw [if_pos (by omega), co_dv, cl_drop]
    have hlast := (bcl_cn F).last (List.length_pos_iff.1 hl)
    rw [bcl_row] at hlast
    have := low_len h hlast
    exact List.ne_nil_of_length_pos (by rw [List.length_drop]; omega)
theorem dv_bounds {F : Pol (Pol (K P))} {n b m : Nat} (hn : YB n F) (hb : XB b F) : YB n (Go.Alg.dv m F) ∧ XB b (Go.Alg.dv m F) := by
  refine ⟨fun j hj => by rw [co_dv, hn j hj, dropP_zero], fun j i hi => ?_⟩
  rw [co_dv, co_dropP]
  exact hb j _ (by omega)
def rootsIn (P : FP) (f : K P → K P) (xs : List Int) : List Int := xs.filter fun x => decide ((f (inK P x)).1 = 0)
def els (n : Nat) : List Int := (List.range n).map fun k : Nat => (k : Int)
theorem els_succ (n : Nat) : els (n + 1) = els n ++ [(n : Int)] := by simp [els, List.range_succ]
theorem els_length (n : Nat) : (els n).length = n := by simp [els]
theorem mem_els {n : Nat} {y : Int} : y ∈ els n ↔ 0 ≤ y ∧ y < n := by
  simp only [els, List.mem_map, List.mem_range]
  constructor
  · rintro ⟨k, h, rfl⟩; omega
  · intro h; exact ⟨y.toNat, by omega, by omega⟩
theorem rootsIn_snoc (P : FP) (f : K P → K P) (xs : List Int) (x : Int) : rootsIn P f (xs ++ [x]) = if (f (inK P x)).1 = 0 then rootsIn P f xs ++ [x] else rootsIn P f xs := by
  rw [rootsIn, List.filter_append]
  by_cases h : (f (inK P x)).1 = 0
  · rw [if_pos h, List.filter_cons_of_pos (by simp [h])]; rfl
  · rw [if_neg h, List.filter_cons_of_neg (by simp [h]), List.filter_nil, List.append_nil]; rfl
theorem rootsIn_len (P : FP) (f : K P → K P) (xs : List Int) : (rootsIn P f xs).length ≤ xs.length := List.length_filter_le _ _
noncomputable def srch (P : FP) : Nat → Pol (Pol (K P)) → List Int → List (List Int)
  | 0, F, f => if cl (F.co 0) = [] then [f] else []
  | k + 1, F, f => (rootsIn P (fun x => val1 (line (Go.Alg.dv (lowOf F) F)) x) (els P.q.toNat)).flatMap fun r => srch P k (nx (inK P r) (Go.Alg.dv (lowOf F) F)) (f ++ [r])
end Go.Fd


namespace Go.Fd
open Go.Pl Go.Alg
variable {P : FP}
def elsK (P : FP) : List (K P) := (els P.q.toNat).map (inK P)
theorem mem_elsK (x : K P) : x ∈ elsK P := List.mem_map.2 ⟨x.1, mem_els.2 (by have := x.2; omega), inK_val x⟩
theorem filter_flatMap {α β : Type} (p : α → Bool) (g : α → List β) : ∀ l : List α, (l.filter p).flatMap g = l.flatMap fun x => if p x then g x else []
  | [] => rfl
  | a :: l => by
    rw [List.flatMap_cons, ← filter_flatMap p g l]
    by_cases h : p a = true
    · rw [List.filter_cons_of_pos h, List.flatMap_cons, if_pos h]
    · rw [List.filter_cons_of_neg h, if_neg h, List.nil_append]
theorem flatMap_congr' {α β : Type} {f g : α → List β} : ∀ {l : List α}, (∀ x ∈ l, f x = g x) → l.flatMap f = l.flatMap g
  | [], _ => rfl
  | a :: l, h => by rw [List.flatMap_cons, List.flatMap_cons, h a (List.mem_cons_self ..), flatMap_congr' fun x hx => h x (List.mem_cons_of_mem _ hx)]
theorem val1_pev (f : Pol (K P)) (x : K P) : val1 f x = pev (fun c => c) x f := rfl
theorem srch_rts (hK : NZD (K P)) (h1 : (1 : K P) ≠ 0) : ∀ (k : Nat) (F : Pol (Pol (K P))) (f : List Int), F ≠ 0 → srch P k F f = (rts (elsK P) k F).map fun c => f ++ c.map (·.1)
  | 0, F, f, hF => by
    rw [srch, rts]
    have e : sub F 0 = F.co 0 := by
      rw [sub, ← dropP_none F, pev_horner Hom.id, zero_mul, add_zero, dropP_none]
    rw [e]
    by_cases h : F.co 0 = 0
    · rw [if_pos (cl_nil.2 h), if_pos h]; simp
    · rw [if_neg (fun e => h (cl_nil.1 e)), if_neg h]; rfl
  | k + 1, F, f, hF => by
    have hLow := lowOf_spec hF
    have hne := dv_ne hLow
    rw [srch, rts, rootsIn, filter_flatMap, elsK, List.flatMap_map, List.map_flatMap]
    refine flatMap_congr' fun r hr => ?_
    have hr' := mem_els.1 hr
    have hrv : (inK P r).1 = r := by rw [inK_in (by have := P.q_two; omega)]
    by_cases h : (val1 (line (Go.Alg.dv (lowOf F) F)) (inK P r)).1 = 0
    · have h0 : pev (fun c => c) (inK P r) (line (Go.Alg.dv (lowOf F) F)) = 0 := Subtype.ext h
      have hex : ∃ m, Low m F ∧ pev (fun c => c) (inK P r) (line (Go.Alg.dv m F)) = 0 := ⟨_, hLow, h0⟩
      have hmm := hLow.uniq (Classical.choose_spec hex).1
      rw [if_pos (by simp [h]), dif_pos hex, ← hmm, srch_rts hK h1 k _ _ (nx_ne hK h1 hne), List.map_map]
      refine List.map_congr_left fun c hc => ?_
      simp [hrv]
    · rw [if_neg (by simp [h]), dif_neg ?_, List.map_nil]
      rintro ⟨m, hm, hz⟩
      rw [hLow.uniq hm] at h
      exact h (by rw [val1_pev, hz]; rfl)
theorem lexLt_irr {lt : K P → K P → Prop} (hl : ∀ x, ¬ lt x x) : ∀ l : List (K P), ¬ LexLt lt l l
  | [], h => h
  | a :: l, h => by
    rcases h with h | ⟨_, h⟩
    · exact hl a h
    · exact lexLt_irr hl l h
theorem plist_inj : ∀ {c d : List (K P)}, c.length = d.length → plist c = plist d → c = d
  | [], [], _, _ => rfl
  | a :: c, b :: d, hl, h => by
    have h0 := congrArg (fun f => Pol.co f 0) h
    have ht := congrArg Pol.tl h
    rw [plist_tl, plist_tl] at ht
    simp only [plist_co0] at h0
    rw [h0, plist_inj (by simpa using hl) ht]
theorem els_sorted : ∀ n, (els n).Pairwise (· < ·)
  | 0 => List.Pairwise.nil
  | n + 1 => by
    rw [els_succ, List.pairwise_append]
    refine ⟨els_sorted n, List.pairwise_singleton _ _, fun a ha b hb => ?_⟩
    obtain rfl : b = n := by simpa using hb
    exact (mem_els.1 ha).2
def ltK (x y : K P) : Prop := x.1 < y.1
theorem elsK_sorted : (elsK P).Pairwise ltK := by
  rw [elsK, List.pairwise_map]
  refine List.Pairwise.imp_of_mem ?_ (els_sorted P.q.toNat)
  intro a b ha hb hab
  have ha' := mem_els.1 ha
  have hb' := mem_els.1 hb
  have := P.q_two
  show (inK P a).1 < (inK P b).1
  rw [inK_in (by omega), inK_in (by omega)]
  exact hab
theorem rts_nodup (k : Nat) (F : Pol (Pol (K P))) : (rts (elsK P) k F).Nodup := by
  refine (rts_sorted elsK_sorted k F).imp ?_
  intro a b hab e
  subst e
  exact lexLt_irr (fun x h => by have : x.1 < x.1 := h; omega) a hab
theorem rts_len (hK : NZD (K P)) (h1 : (1 : K P) ≠ 0) {F : Pol (Pol (K P))} (hF : F ≠ 0) {n : Nat} (hn : YB (n + 1) F) (k : Nat) : (rts (elsK P) k F).length ≤ n := by
  have h := roots_le (pol_nzd hK) n F hF hn ((rts (elsK P) k F).map plist) ?_ ?_
  · rwa [List.length_map] at h
  · rw [List.Nodup, List.pairwise_map]
    refine List.Pairwise.imp_of_mem ?_ (rts_nodup k F)
    intro a b ha hb hab e
    have ha' := ((mem_rts hK h1 (elsK P) k F hF a).1 ha).1
    have hb' := ((mem_rts hK h1 (elsK P) k F hF b).1 hb).1
    exact hab (plist_inj (ha'.trans hb'.symm) e)
  · intro a ha
    obtain ⟨c, hc, rfl⟩ := List.mem_map.1 ha
    exact ((mem_rts hK h1 (elsK P) k F hF c).1 hc).2.2
theorem k_one_ne' : (1 : K P) ≠ 0 := fun e => by
  have := congrArg Subtype.val e
  exact absurd this (by show ¬ ((1 : Int) = 0); omega)
theorem srch_len (hK : NZD (K P)) {F : Pol (Pol (K P))} (hF : F ≠ 0) {n : Nat} (hn : YB n F) (k : Nat) (f : List Int) : (srch P k F f).length ≤ n := by
  rw [srch_rts hK k_one_ne' k F f hF, List.length_map]
  exact rts_len hK k_one_ne' hF (hn.mono (by omega)) k
end Go.Fd


namespace Go.Fd
open Go.Pl Go.Alg
variable {P : FP}
theorem pz_map (c : List (K P)) : pz P (c.map (·.1)) = plist c := Pol.ext fun i => by
  rw [co_pz, co_plist, List.getD_eq_getElem?_getD, List.getElem?_map, List.getD_eq_getElem?_getD]
  cases c[i]? with
  | none => exact inK0
  | some x => exact inK_val x
structure RtL (F : Pol (Pol (K P))) (k : Nat) (L : List (List Int)) (R : List (List (K P))) : Prop where
  eq : L = R.map fun c => cl (plist c)
  mem : ∀ c, c ∈ R ↔ c.length = k ∧ subst F (plist c) = 0
  sorted : R.Pairwise (LexLt ltK)
  len : ∀ n, YB (n + 1) F → R.length ≤ n
theorem found_list (hK : NZD (K P)) {F : Pol (Pol (K P))} (hF : F ≠ 0) (k : Nat) : RtL F k ((srch P k F []).map fun f => cl (pz P f)) (rts (elsK P) k F) := by
  refine ⟨?_, fun c => ?_, rts_sorted elsK_sorted k F, fun n hn => rts_len hK k_one_ne' hF hn k⟩
  · rw [srch_rts hK k_one_ne' k F [] hF, List.map_map]
    refine List.map_congr_left fun c _ => ?_
    show cl (pz P ([] ++ c.map (·.1))) = _
    rw [List.nil_append, pz_map]
  · rw [mem_rts hK k_one_ne' (elsK P) k F hF c]
    exact ⟨fun h => ⟨h.1, h.2.2⟩, fun h => ⟨h.1, fun x _ => mem_elsK x, h.2⟩⟩
theorem RtL.has {F : Pol (Pol (K P))} {k : Nat} {L : List (List Int)} {R : List (List (K P))} (h : RtL F k L R) {g : Pol (K P)} (hg : YB k g) (h0 : subst F g = 0) : cl g ∈ L := by
  have e : plist (tab k fun i => g.co i) = g := Pol.ext fun i => by
    rw [co_plist, tab_at]
    split
    · rfl
    · exact (hg i (by omega)).symm
  rw [h.eq]
  refine List.mem_map.2 ⟨tab k fun i => g.co i, (h.mem _).2 ⟨tab_length _ _, by rw [e]; exact h0⟩, ?_⟩
  rw [e]
theorem RtL.row {F : Pol (Pol (K P))} {k : Nat} {L : List (List Int)} {R : List (List (K P))} (h : RtL F k L R) {i : Nat} (hi : i < L.length) : ∃ g : Pol (K P), L.getD i [] = cl g ∧ YB k g ∧ subst F g = 0 := by
  have hR : i < R.length := by rw [h.eq, List.length_map] at hi; exact hi
  obtain ⟨h1, h2⟩ := (h.mem _).1 (List.getElem_mem hR)
  refine ⟨plist R[i], ?_, fun j hj => ?_, h2⟩
  · rw [h.eq, List.getD_eq_getElem?_getD, List.getElem?_map, List.getElem?_eq_getElem hR]; rfl
  · rw [co_plist, List.getD_eq_getElem?_getD, List.getElem?_eq_none (by omega)]; rfl
end Go.Fd


namespace Go.Fd
open Go.Pl Go.Alg
variable {P : FP}
noncomputable def encW (P : FP) (xs ms : List Int) (f : Pol (K P)) : List Int := tab xs.length fun i => (inK P (gi ms i) * val1 f (inK P (gi xs i))).1
theorem encW_length (xs ms : List Int) (f : Pol (K P)) : (encW P xs ms f).length = xs.length := tab_length _ _
theorem encW_get {xs ms : List Int} {f : Pol (K P)} {i : Nat} (h : i < xs.length) : gi (encW P xs ms f) i = (inK P (gi ms i) * val1 f (inK P (gi xs i))).1 := by
  rw [encW, gi_tab (by omega) (by omega)]; rfl
theorem encW_in (xs ms : List Int) (f : Pol (K P)) : AllIn P.q (encW P xs ms f) := fun i hi => by
  rw [encW_get (by rwa [encW_length] at hi)]
  exact (inK P (gi ms i) * val1 f (inK P (gi xs i))).2
def disN (a b : List Int) (n : Nat) : Nat := ns n fun i => if gi a i = gi b i then 0 else 1
theorem disN_step (a b : List Int) (n : Nat) : disN a b (n + 1) = disN a b n + (if gi a n = gi b n then 0 else 1) := rfl
theorem disN_le (a b : List Int) : ∀ n, disN a b n ≤ n
  | 0 => Nat.le_refl _
  | n + 1 => by
    rw [disN_step]
    have := disN_le a b n
    split <;> omega
theorem ns_const (n : Nat) : ns n (fun _ => 1) = n := by
  induction n with
  | zero => rfl
  | succ n ih => show ns n _ + 1 = n + 1; rw [ih]
theorem few_zeros (hK : NZD (K P)) {c : Nat} {X : Nat → K P} (hX : ∀ i j, i < c → j < c → i ≠ j → X i ≠ X j) {f : Pol (K P)} (hf : YB c f) (h0 : ∀ i, i < c → val1 f (X i) = 0) : f = 0 := by
  refine zeros_zero hK hX c (fun _ => 1) f hf (fun i hi s hs => ?_) (by rw [ns_const]; exact Nat.le_refl _)
  obtain rfl : s = 0 := by omega
  rw [val1_sh]
  exact h0 i hi
theorem encW_inj (hK : NZD (K P)) {xs ms : List Int} {k : Int} (h : GrsOk P.q xs ms k) {f g : Pol (K P)} (hf : YB k.toNat f) (hg : YB k.toNat g) (e : encW P xs ms f = encW P xs ms g) : f = g := by
  have hd := grs_dif (P := P) h.xin h.dif
  have hz : f + -g = 0 := by
    refine few_zeros hK (c := xs.length) (X := fun i => inK P (gi xs i)) hd (fun i hi => ?_) (fun i hi => ?_)
    · have := h.kn
      rw [co_add, co_neg, hf i (by omega), hg i (by omega), neg_zero, add_zero]
    · have h1 : inK P (gi ms i) * val1 f (inK P (gi xs i)) = inK P (gi ms i) * val1 g (inK P (gi xs i)) := by
        have : gi (encW P xs ms f) i = gi (encW P xs ms g) i := by rw [e]
        rw [encW_get hi, encW_get hi] at this
        exact Subtype.ext this
      have hm : inK P (gi ms i) ≠ 0 := inK_ne (h.min i (by rw [h.ml]; exact hi)) (h.noz i (by rw [h.ml]; exact hi))
      rw [(val1_hom _).add, (val1_hom _).neg]
      have h2 : inK P (gi ms i) * (val1 f (inK P (gi xs i)) + -val1 g (inK P (gi xs i))) = 0 := by rw [mul_add, h1, mul_neg, add_neg]
      exact (hK _ _ h2).resolve_left hm
  exact eq_of_add_neg hz
def Asc (L : List (List Int)) : Prop := L.Pairwise fun a b => cmpL a b < 0
theorem cmpL_lt_trans {a b c : List Int} (h : cmpL a b < 0) (k : cmpL b c < 0) : cmpL a c < 0 := by
  have h1 := cmpL_trans a b c (by omega) (by omega)
  rcases Int.lt_or_eq_of_le h1 with h2 | h2
  · exact h2
  · exfalso
    rw [cmpL_eq] at h2
    subst h2
    have := cmpL_anti a b
    omega
theorem asc_ext : ∀ {A B : List (List Int)}, Asc A → Asc B → (∀ c, c ∈ A ↔ c ∈ B) → A = B
  | [], [], _, _, _ => rfl
  | [], b :: B, _, _, h => by have := (h b).2 (List.mem_cons_self ..); cases this
  | a :: A, [], _, _, h => by have := (h a).1 (List.mem_cons_self ..); cases this
  | a :: A, b :: B, hA, hB, h => by
    obtain ⟨ha, hA'⟩ := List.pairwise_cons.1 hA
    obtain ⟨hb, hB'⟩ := List.pairwise_cons.1 hB
    have hself := fun x : List Int => cmpL_self x
    have e : a = b := by
      rcases List.mem_cons.1 ((h a).1 (List.mem_cons_self ..)) with h1 | h1
      · exact h1
      · rcases List.mem_cons.1 ((h b).2 (List.mem_cons_self ..)) with h2 | h2
        · exact h2.symm
        · have h3 := cmpL_lt_trans (ha b h2) (hb a h1)
          rw [hself] at h3
          omega
    subst e
    rw [asc_ext hA' hB' fun c => ⟨fun hc => ?_, fun hc => ?_⟩]
    · rcases List.mem_cons.1 ((h c).1 (List.mem_cons_of_mem _ hc)) with rfl | h1
      · have := ha c hc
        rw [hself] at this
        omega
      · exact h1
    · rcases List.mem_cons.1 ((h c).2 (List.mem_cons_of_mem _ hc)) with rfl | h1
      · have := hb c hc
        rw [hself] at this
        omega
      · exact h1
structure IsNear (P : FP) (xs ms ws : List Int) (k t : Int) (Q : Pol (Pol (K P))) (L : List (List Int)) : Prop where
  asc : Asc L
  mem : ∀ c, c ∈ L ↔ ∃ f, YB k.toNat f ∧ subst Q f = 0 ∧ c = encW P xs ms f ∧ (disN c ws xs.length : Int) ≤ t
theorem IsNear.uniq {xs ms ws : List Int} {k t : Int} {Q : Pol (Pol (K P))} {L L' : List (List Int)} (h : IsNear P xs ms ws k t Q L) (h' : IsNear P xs ms ws k t Q L') : L = L' :=
  asc_ext h.asc h'.asc fun c => (h.mem c).trans (h'.mem c).symm
noncomputable def nearL (P : FP) (xs ms ws : List Int) (t : Int) (R : List (List Int)) : List (List Int) := (R.map fun z => encW P xs ms (pz P z)).filter fun c => decide ((disN c ws xs.length : Int) ≤ t)
theorem nearL_snoc (xs ms ws : List Int) (t : Int) (R : List (List Int)) (z : List Int) : nearL P xs ms ws t (R ++ [z]) = if (disN (encW P xs ms (pz P z)) ws xs.length : Int) ≤ t then nearL P xs ms ws t R ++ [encW P xs ms (pz P z)] else nearL P xs ms ws t R := by
  rw [nearL, List.map_append, List.filter_append, ← nearL]
  by_cases h : (disN (encW P xs ms (pz P z)) ws xs.length : Int) ≤ t
  · rw [if_pos h]; simp [h]
  · rw [if_neg h]; simp [h]
theorem nearL_len (xs ms ws : List Int) (t : Int) (R : List (List Int)) : (nearL P xs ms ws t R).length ≤ R.length := by
  rw [nearL]
  exact Nat.le_trans (List.length_filter_le _ _) (by rw [List.length_map]; exact Nat.le_refl _)
theorem near_of (hK : NZD (K P)) {xs ms ws : List Int} {k t : Int} (h : GrsOk P.q xs ms k) {Q : Pol (Pol (K P))} {R : List (List Int)} {RR : List (List (K P))} (hR : RtL Q k.toNat R RR) {L : List (List Int)} (hp : L.Perm (nearL P xs ms ws t R)) (hs : L.Pairwise fun a b => cmpL a b ≤ 0) : IsNear P xs ms ws k t Q L := by
  have hrow : ∀ z, z ∈ R → ∃ c, c ∈ RR ∧ z = cl (plist c) := fun z hz => by
    rw [hR.eq] at hz
    obtain ⟨c, h1, h2⟩ := List.mem_map.1 hz
    exact ⟨c, h1, h2.symm⟩
  have hyb : ∀ c, c ∈ RR → YB k.toNat (plist c) := fun c hc i hi => by
    have h1 := ((hR.mem c).1 hc).1
    rw [co_plist, List.getD_eq_getElem?_getD, List.getElem?_eq_none (by omega)]; rfl
  have hnd : RR.Nodup := hR.sorted.imp fun {a b} hab e => by
    subst e
    exact lexLt_irr (fun x hx => by have : x.1 < x.1 := hx; omega) a hab
  have hnd2 : (R.map fun z => encW P xs ms (pz P z)).Nodup := by
    rw [hR.eq, List.map_map]
    refine List.pairwise_map.2 ?_
    refine (List.pairwise_iff_getElem.2 fun i j hi hj hij => ?_)
    have h1 := List.pairwise_iff_getElem.1 hnd i j hi hj hij
    intro e
    have e2 : encW P xs ms (plist RR[i]) = encW P xs ms (plist RR[j]) := by
      have : encW P xs ms (pz P (cl (plist RR[i]))) = encW P xs ms (pz P (cl (plist RR[j]))) := e
      rwa [pz_cl, pz_cl] at this
    have e3 := encW_inj hK h (hyb _ (List.getElem_mem hi)) (hyb _ (List.getElem_mem hj)) e2
    exact h1 (plist_inj (by rw [((hR.mem _).1 (List.getElem_mem hi)).1, ((hR.mem _).1 (List.getElem_mem hj)).1]) e3)
  have hndL : L.Nodup := hp.nodup_iff.2 (hnd2.sublist (List.filter_sublist ..))
  refine ⟨?_, fun c => ?_⟩
  · refine List.pairwise_iff_getElem.2 fun i j hi hj hij => ?_
    have h1 := List.pairwise_iff_getElem.1 hs i j hi hj hij
    have h2 := List.pairwise_iff_getElem.1 hndL i j hi hj hij
    rcases Int.lt_or_eq_of_le h1 with h3 | h3
    · exact h3
    · exact absurd ((cmpL_eq _ _).1 h3) h2
  · rw [hp.mem_iff, nearL, List.mem_filter]
    constructor
    · rintro ⟨h1, h2⟩
      obtain ⟨z, hz, rfl⟩ := List.mem_map.1 h1
      obtain ⟨d, hd, rfl⟩ := hrow z hz
      refine ⟨plist d, hyb d hd, ((hR.mem d).1 hd).2, by rw [pz_cl], by simpa using h2⟩
    · rintro ⟨f, hf, hq, rfl, hd⟩
      exact ⟨List.mem_map.2 ⟨cl f, hR.has hf hq, by rw [pz_cl]⟩, by simpa using hd⟩
theorem near_len {xs ms ws : List Int} {k t : Int} {Q : Pol (Pol (K P))} {R : List (List Int)} {RR : List (List (K P))} (hR : RtL Q k.toNat R RR) {L : List (List Int)} (hp : L.Perm (nearL P xs ms ws t R)) {n : Nat} (hn : YB (n + 1) Q) : L.length ≤ n := by
  rw [hp.length_eq]
  refine Nat.le_trans (nearL_len _ _ _ _ _) ?_
  rw [hR.eq, List.length_map]
  exact hR.len n hn
end Go.Fd


namespace Go.Fd
open Go.Pl
def swL (L : List (List Int)) (i j : Nat) : List (List Int) := (L.set i (L.getD j [])).set j (L.getD i [])
theorem swL_get {L : List (List Int)} {i j : Nat} (hi : i < L.length) (hj : j < L.length) (t : Nat) : (swL L i j).getD t [] = if t = j then L.getD i [] else if t = i then L.getD j [] else L.getD t [] := by
  simp only [swL, List.getD_eq_getElem?_getD, List.getElem?_set, List.length_set]
  by_cases e1 : t = j
  · subst e1; simp [hj]
  · rw [if_neg (fun h => e1 h.symm), if_neg e1]
    by_cases e2 : t = i
    · subst e2; simp [hi]
    · rw [if_neg (fun h => e2 h.symm), if_neg e2]
theorem swL_perm {L : List (List Int)} {i j : Nat} (hi : i < L.length) (hj : j < L.length) : (swL L i j).Perm L := by
  have h := List.set_set_perm (as := L) hi hj
  rw [swL, List.getD_eq_getElem?_getD, List.getD_eq_getElem?_getD, List.getElem?_eq_getElem hi, List.getElem?_eq_getElem hj]
  exact h
def SoJ (L : List (List Int)) (i j : Nat) : Prop := ∀ p q, p < q → q ≤ i → q ≠ j → cmpL (L.getD p []) (L.getD q []) ≤ 0
def SoI (L : List (List Int)) (i : Nat) : Prop := ∀ p q, p < q → q < i → cmpL (L.getD p []) (L.getD q []) ≤ 0
theorem SoI.begin {L : List (List Int)} {i : Nat} (h : SoI L i) : SoJ L i i := fun p q hpq hq hne => h p q hpq (by omega)
theorem SoJ.step {L : List (List Int)} {i j : Nat} (h : SoJ L i (j + 1)) (hj : j + 1 ≤ i) (hi : i < L.length) (hlt : cmpL (L.getD (j + 1) []) (L.getD j []) < 0) : SoJ (swL L (j + 1) j) i j := by
  intro p q hpq hq hne
  rw [swL_get (by omega) (by omega), swL_get (by omega) (by omega), if_neg (show q ≠ j from hne)]
  by_cases e1 : q = j + 1
  · rw [if_pos e1]
    by_cases e2 : p = j
    · rw [if_pos e2]; omega
    · rw [if_neg e2, if_neg (by omega)]
      exact h p j (by omega) (by omega) (by omega)
  · rw [if_neg e1]
    by_cases e2 : p = j
    · rw [if_pos e2]
      exact h (j + 1) q (by omega) hq (by omega)
    · rw [if_neg e2]
      by_cases e3 : p = j + 1
      · rw [if_pos e3]
        exact h j q (by omega) hq (by omega)
      · rw [if_neg e3]
        exact h p q hpq hq e1
theorem SoJ.stop {L : List (List Int)} {i j : Nat} (h : SoJ L i j) (hs : j = 0 ∨ ∃ k, j = k + 1 ∧ ¬ cmpL (L.getD j []) (L.getD k []) < 0) (hji : j ≤ i) : SoI L (i + 1) := by
  intro p q hpq hq
  by_cases e : q = j
  · rcases hs with rfl | ⟨k, rfl, hk⟩
    · omega
    · have h0 := cmpL_anti (L.getD k []) (L.getD (k + 1) [])
      have h1 : cmpL (L.getD k []) (L.getD (k + 1) []) ≤ 0 := by omega
      rw [e]
      by_cases e2 : p = k
      · rw [e2]; exact h1
      · exact cmpL_trans _ _ _ (h p k (by omega) (by omega) (by omega)) h1
  · exact h p q hpq (by omega) e
theorem SoI.pairwise {L : List (List Int)} (h : SoI L L.length) : L.Pairwise fun a b => cmpL a b ≤ 0 := List.pairwise_iff_getElem.2 fun i j hi hj hij => by
  have h1 := h i j hij hj
  rw [List.getD_eq_getElem?_getD, List.getD_eq_getElem?_getD, List.getElem?_eq_getElem hi, List.getElem?_eq_getElem hj] at h1
  exact h1
theorem SoI.le {L : List (List Int)} {i j : Nat} (h : SoI L i) (hj : j ≤ i) : SoI L j := fun p q hpq hq => h p q hpq (by omega)
end Go.Fd


namespace Go.Alg
section
variable {R : Type} [CR R]
def Sp (m n : Nat) (M : Nat → Nat → R) (v : Nat → R) : Prop := ∃ x : Nat → R, ∀ j, j < n → v j = sm m fun i => x i * M i j
variable {m n : Nat} {M M' : Nat → Nat → R} {u v : Nat → R}
theorem Sp.congr (h : Sp m n M v) (e : ∀ j, j < n → u j = v j) : Sp m n M u := by
  obtain ⟨x, hx⟩ := h
  exact ⟨x, fun j hj => (e j hj).trans (hx j hj)⟩
theorem Sp.zero : Sp m n M (fun _ => 0) := ⟨fun _ => 0, fun _ _ => (sm_zero fun _ _ => zero_mul _).symm⟩
theorem Sp.add (h : Sp m n M u) (k : Sp m n M v) : Sp m n M (fun j => u j + v j) := by
  obtain ⟨x, hx⟩ := h
  obtain ⟨y, hy⟩ := k
  refine ⟨fun i => x i + y i, fun j hj => ?_⟩
  dsimp only
  rw [hx j hj, hy j hj, ← sm_add]
  exact sm_congr fun i _ => (add_mul _ _ _).symm
theorem Sp.smul (c : R) (h : Sp m n M v) : Sp m n M (fun j => c * v j) := by
  obtain ⟨x, hx⟩ := h
  refine ⟨fun i => c * x i, fun j hj => ?_⟩
  dsimp only
  rw [hx j hj, ← sm_mul]
  exact sm_congr fun i _ => (mul_assoc _ _ _).symm
theorem Sp.row {i : Nat} (hi : i < m) : Sp m n M (M i) := ⟨fun k => if k = i then 1 else 0, fun j _ => by
  rw [sm_one hi fun k _ hk => by dsimp only; rw [if_neg hk, zero_mul]]
  dsimp only
  rw [if_pos rfl, one_mul]⟩
theorem Sp.sum {f : Nat → Nat → R} (x : Nat → R) : ∀ k, (∀ i, i < k → Sp m n M (f i)) → Sp m n M (fun j => sm k fun i => x i * f i j)
  | 0, _ => Sp.zero
  | k + 1, h => (Sp.sum x k fun i hi => h i (by omega)).add ((h k (by omega)).smul (x k))
theorem Sp.trans {k : Nat} (h : Sp m n M v) (hM : ∀ i, i < m → Sp k n M' (M i)) : Sp k n M' v := by
  obtain ⟨x, hx⟩ := h
  exact (Sp.sum x m hM).congr hx
theorem Sp.more {k : Nat} (h : Sp m n M v) (hk : m ≤ k) : Sp k n M v := h.trans fun _ hi => Sp.row (by omega)
theorem Sp.less {k : Nat} (h : Sp m n M v) (h0 : ∀ i, k ≤ i → i < m → ∀ j, j < n → M i j = 0) : Sp k n M v := h.trans fun i hi => by
  by_cases e : i < k
  · exact Sp.row e
  · exact Sp.zero.congr fun j hj => h0 i (by omega) hi j hj
structure Rr (a n : Nat) (G : Nat → Nat → R) (pv : Nat → Nat) : Prop where
  lt : ∀ i, i < a → pv i < n
  asc : ∀ i j, i < j → j < a → pv i < pv j
  piv : ∀ i j, i < a → j < a → G i (pv j) = if i = j then 1 else 0
  lead : ∀ i x, i < a → x < pv i → G i x = 0
variable {a : Nat} {G : Nat → Nat → R} {pv : Nat → Nat}
theorem Rr.coef (h : Rr a n G pv) {x : Nat → R} (hx : ∀ j, j < n → v j = sm a fun i => x i * G i j) {i : Nat} (hi : i < a) : v (pv i) = x i := by
  rw [hx _ (h.lt i hi), sm_one hi fun k hk hne => by rw [h.piv k i hk hi, if_neg hne, mul_zero], h.piv i i hi hi, if_pos rfl, mul_one]
theorem Rr.comb (h : Rr a n G pv) (hv : Sp a n G v) {j : Nat} (hj : j < n) : v j = sm a fun i => v (pv i) * G i j := by
  obtain ⟨x, hx⟩ := hv
  rw [hx j hj]
  exact sm_congr fun i hi => by rw [h.coef hx hi]
theorem Rr.zero (h : Rr a n G pv) (hv : Sp a n G v) (h0 : ∀ i, i < a → v (pv i) = 0) {j : Nat} (hj : j < n) : v j = 0 := by
  rw [h.comb hv hj]
  exact sm_zero fun i hi => by rw [h0 i hi, zero_mul]
theorem Rr.first (h : Rr a n G pv) (hv : Sp a n G v) {p : Nat} (hp : p < n) (h0 : ∀ x, x < p → v x = 0) (h1 : v p ≠ 0) : ∃ i, i < a ∧ pv i = p := by
  apply Classical.byContradiction
  intro hc
  have hc' : ∀ i, i < a → pv i ≠ p := fun i hi e => hc ⟨i, hi, e⟩
  refine h1 ?_
  rw [h.comb hv hp]
  refine sm_zero fun i hi => ?_
  rcases Nat.lt_or_gt_of_ne (hc' i hi) with e | e
  · rw [h0 _ e, zero_mul]
  · rw [h.lead i p hi e, mul_zero]
theorem Rr.same {b : Nat} {H : Nat → Nat → R} {qv : Nat → Nat} (h1 : (1 : R) ≠ 0) (h : Rr a n G pv) (k : Rr b n H qv) (hs : ∀ i, i < a → Sp b n H (G i)) : ∀ i, i < a → ∃ j, j < b ∧ qv j = pv i := fun i hi =>
  k.first (hs i hi) (h.lt i hi) (fun x hx => h.lead i x hi hx) (by rw [h.piv i i hi hi, if_pos rfl]; exact h1)
theorem asc_mono {pv : Nat → Nat} (ha : ∀ i j, i < j → j < a → pv i < pv j) {i j : Nat} (hi : i < a) (_ : j < a) (h : pv i < pv j) : i < j := by
  apply Classical.byContradiction
  intro hc
  rcases Nat.lt_or_eq_of_le (Nat.le_of_not_lt hc) with e | e
  · have := ha j i e hi; omega
  · subst e; omega
theorem asc_inj {pv : Nat → Nat} (ha : ∀ i j, i < j → j < a → pv i < pv j) {i j : Nat} (hi : i < a) (hj : j < a) (h : pv i = pv j) : i = j := by
  rcases Nat.lt_trichotomy i j with e | e | e
  · have := ha i j e hj; omega
  · exact e
  · have := ha j i e hi; omega
theorem pivots_same {b : Nat} {pv qv : Nat → Nat} (hp : ∀ i j, i < j → j < a → pv i < pv j) (hq : ∀ i j, i < j → j < b → qv i < qv j) (h1 : ∀ i, i < a → ∃ j, j < b ∧ qv j = pv i) (h2 : ∀ j, j < b → ∃ i, i < a ∧ pv i = qv j) : ∀ i, i < a → i < b ∧ qv i = pv i := by
  intro i
  induction i using Nat.strongRecOn with
  | _ i ih =>
    intro hi
    obtain ⟨j, hj, e⟩ := h1 i hi
    have hij : i ≤ j := by
      apply Classical.byContradiction
      intro hc
      have h3 := (ih j (by omega) (by omega)).2
      have h4 := hp j i (by omega) hi
      omega
    rcases Nat.lt_or_eq_of_le hij with hlt | rfl
    · exfalso
      obtain ⟨k, hk, ek⟩ := h2 i (by omega)
      have h3 := hq i j hlt hj
      have h4 := asc_mono hp hk hi (by omega)
      have h5 := (ih k h4 hk)
      have h6 := asc_inj hq (i := k) (j := i) h5.1 (by omega) (by rw [h5.2, ek])
      omega
    · exact ⟨hj, e⟩
theorem Rr.uniq {b : Nat} {H : Nat → Nat → R} {qv : Nat → Nat} (h1 : (1 : R) ≠ 0) (h : Rr a n G pv) (k : Rr b n H qv) (hs : ∀ i, i < a → Sp b n H (G i)) (ks : ∀ i, i < b → Sp a n G (H i)) : a = b ∧ ∀ i, i < a → pv i = qv i ∧ ∀ j, j < n → G i j = H i j := by
  have p1 := pivots_same h.asc k.asc (h.same h1 k hs) (k.same h1 h ks)
  have p2 := pivots_same k.asc h.asc (k.same h1 h ks) (h.same h1 k hs)
  have hab : a = b := by
    rcases Nat.lt_trichotomy a b with e | e | e
    · have := (p2 a e).1; omega
    · exact e
    · have := (p1 b e).1; omega
  subst hab
  refine ⟨rfl, fun i hi => ⟨(p1 i hi).2.symm, fun j hj => ?_⟩⟩
  have hd : Sp a n G (fun j => G i j + (-1) * H i j) := (Sp.row hi).add ((ks i hi).smul (-1))
  have h0 := h.zero hd (fun t ht => by
    try dsimp only
    rw [h.piv i t hi ht, ← (p1 t ht).2, k.piv i t hi ht, neg_mul, one_mul, add_neg]) hj
  try dsimp only at h0
  rw [neg_mul, one_mul] at h0
  exact eq_of_add_neg h0
structure El (m n : Nat) (M0 M : Nat → Nat → R) (a : Nat) (pv : Nat → Nat) (c : Nat) : Prop where
  fwd : ∀ i, i < m → Sp m n M (M0 i)
  bwd : ∀ i, i < m → Sp m n M0 (M i)
  am : a ≤ m
  lt : ∀ i, i < a → pv i < c
  asc : ∀ i j, i < j → j < a → pv i < pv j
  piv : ∀ i j, i < m → j < a → M i (pv j) = if i = j then 1 else 0
  lead : ∀ i x, i < a → x < pv i → M i x = 0
  low : ∀ i x, a ≤ i → i < m → x < c → M i x = 0
variable {M0 : Nat → Nat → R} {c : Nat}
theorem El.first (M0 : Nat → Nat → R) (pv : Nat → Nat) : El m n M0 M0 0 pv 0 :=
  ⟨fun _ hi => Sp.row hi, fun _ hi => Sp.row hi, Nat.zero_le _, fun _ h => by omega, fun _ _ _ h => by omega, fun _ _ _ h => by omega, fun _ _ h => by omega, fun _ _ _ _ h => by omega⟩
theorem El.skip (h : El m n M0 M a pv c) (h0 : ∀ i, a ≤ i → i < m → M i c = 0) : El m n M0 M a pv (c + 1) :=
  ⟨h.fwd, h.bwd, h.am, fun i hi => Nat.lt_succ_of_lt (h.lt i hi), h.asc, h.piv, h.lead, fun i x h1 h2 h3 => by
    by_cases e : x = c
    · rw [e]; exact h0 i h1 h2
    · exact h.low i x h1 h2 (by omega)⟩
def swR (M : Nat → Nat → R) (a k : Nat) : Nat → Nat → R := fun i => if i = a then M k else if i = k then M a else M i
def elR (M : Nat → Nat → R) (a k c : Nat) (s : R) : Nat → Nat → R := fun i j => if i = a then s * M k j else swR M a k i j + -(swR M a k i c) * (s * M k j)
theorem El.step {k : Nat} {s : R} (h : El m n M0 M a pv c) (hk : a ≤ k) (hkm : k < m) (hs : s * M k c = 1) : El m n M0 (elR M a k c s) (a + 1) (fun i => if i = a then c else pv i) (c + 1) := by
  have hsw : ∀ i, i < m → ∃ i', i' < m ∧ swR M a k i = M i' ∧ (i < a → i' = i) ∧ (a ≤ i → a ≤ i') := fun i hi => by
    rw [swR]
    by_cases e1 : i = a
    · exact ⟨k, hkm, by rw [if_pos e1], fun h => by omega, fun _ => hk⟩
    · rw [if_neg e1]
      by_cases e2 : i = k
      · exact ⟨a, by omega, by rw [if_pos e2], fun h => by omega, fun _ => Nat.le_refl _⟩
      · exact ⟨i, hi, by rw [if_neg e2], fun _ => rfl, fun h => h⟩
  have hrowk : ∀ x, x < c → M k x = 0 := fun x hx => h.low k x hk hkm hx
  have ha : ∀ j, elR M a k c s a j = s * M k j := fun j => by rw [elR, if_pos rfl]
  have hne : ∀ i j, i ≠ a → elR M a k c s i j = swR M a k i j + -(swR M a k i c) * (s * M k j) := fun i j e => by rw [elR, if_neg e]
  have hin : ∀ i, i < m → Sp m n (elR M a k c s) (swR M a k i) := fun i hi => by
    by_cases e : i = a
    · subst e
      refine ((Sp.row (M := elR M i k c s) (i := i) hi).smul (M k c)).congr fun j _ => ?_
      rw [ha, ← mul_assoc, mul_comm (M k c), hs, one_mul]
      rw [swR, if_pos rfl]
    · refine ((Sp.row (M := elR M a k c s) (i := i) hi).add ((Sp.row (M := elR M a k c s) (i := a) (by omega)).smul (swR M a k i c))).congr fun j _ => ?_
      rw [hne i j e, ha, add_assoc, neg_mul, neg_add, add_zero]
  refine ⟨fun i hi => (h.fwd i hi).trans fun t ht => ?_, fun i hi => ?_, by omega, fun i hi => ?_, fun i j hij hj => ?_, fun i j hi hj => ?_, fun i x hi hx => ?_, fun i x hi hi2 hx => ?_⟩
  · by_cases e1 : t = a
    · have := hin k hkm
      rw [e1]
      by_cases e2 : k = a
      · rw [swR, if_pos e2] at this; rw [← e2]; rw [e2] at this ⊢; exact this
      · rw [swR, if_neg e2, if_pos rfl] at this; exact this
    · by_cases e2 : t = k
      · have := hin a (by omega)
        rw [swR, if_pos rfl] at this
        rw [e2]; exact this
      · have := hin t ht
        rw [swR, if_neg e1, if_neg e2] at this; exact this
  · by_cases e : i = a
    · rw [e]
      exact ((h.bwd k hkm).smul s).congr fun j _ => ha j
    · obtain ⟨i', hi', e', _⟩ := hsw i hi
      refine ((h.bwd i' hi').add ((h.bwd k hkm).smul (-(swR M a k i c) * s))).congr fun j _ => ?_
      rw [hne i j e, e', mul_assoc]
  · try dsimp only
    by_cases e : i = a
    · rw [if_pos e]; omega
    · rw [if_neg e]; have := h.lt i (by omega); omega
  · try dsimp only
    rw [if_neg (show i ≠ a by omega)]
    by_cases e : j = a
    · rw [if_pos e]; exact h.lt i (by omega)
    · rw [if_neg e]; exact h.asc i j hij (by omega)
  · try dsimp only
    by_cases e : j = a
    · rw [if_pos e]
      by_cases e2 : i = a
      · rw [e2, ha, hs, if_pos (by omega)]
      · rw [hne i c e2, hs, mul_one, add_neg, if_neg (by omega)]
    · rw [if_neg e]
      have hj' : j < a := by omega
      have hkj : M k (pv j) = 0 := by rw [h.piv k j hkm hj', if_neg (by omega)]
      by_cases e2 : i = a
      · rw [e2, ha, hkj, mul_zero, if_neg (by omega)]
      · rw [hne i _ e2, hkj, mul_zero, mul_zero, add_zero]
        obtain ⟨i', hi', e', h3, h4⟩ := hsw i hi
        rw [e', h.piv i' j hi' hj']
        by_cases e5 : i < a
        · rw [h3 e5]
        · rw [if_neg (by have := h4 (by omega); omega), if_neg (by omega)]
  · try dsimp only at hx
    by_cases e : i = a
    · rw [if_pos e] at hx
      rw [e, ha, hrowk x hx, mul_zero]
    · rw [if_neg e] at hx
      have hia : i < a := by omega
      obtain ⟨i', hi', e', h3, h4⟩ := hsw i (by have := h.am; omega)
      rw [hne i x e, e', h3 hia, h.lead i x hia hx, hrowk x (by have := h.lt i hia; omega), mul_zero, mul_zero, add_zero]
  · obtain ⟨i', hi', e', h3, h4⟩ := hsw i hi2
    have e : i ≠ a := by omega
    by_cases e2 : x = c
    · rw [e2, hne i c e, hs, mul_one, add_neg]
    · rw [hne i x e, hrowk x (by omega), mul_zero, mul_zero, add_zero, e', h.low i' x (h4 (by omega)) hi' (by omega)]
theorem El.last (h : El m n M0 M a pv c) (hc : c = n ∨ a = m) (hcn : c ≤ n) : Rr a n M pv ∧ ∀ v, Sp a n M v ↔ Sp m n M0 v := by
  refine ⟨⟨fun i hi => by have := h.lt i hi; omega, h.asc, fun i j hi hj => h.piv i j (by have := h.am; omega) hj, h.lead⟩, fun v => ⟨fun hv => (hv.more h.am).trans h.bwd, fun hv => (hv.trans h.fwd).less fun i hi hi2 j hj => ?_⟩⟩
  rcases hc with e | e
  · exact h.low i j hi hi2 (by omega)
  · omega
end
end Go.Alg


namespace Go.Fd
open Go.Pl Go.Alg
variable {P : FP}
noncomputable def rowL (P : FP) (n : Nat) (f : Nat → K P) : List Int := tab n fun j => (f j).1
theorem rowL_length (n : Nat) (f : Nat → K P) : (rowL P n f).length = n := tab_length _ _
theorem rowL_gi {n : Nat} {f : Nat → K P} {j : Nat} (h : j < n) : gi (rowL P n f) j = (f j).1 := by rw [rowL, gi_tab (by omega) (by omega)]; rfl
theorem rowL_in {n : Nat} {f : Nat → K P} {j : Nat} (h : j < n) : inK P (gi (rowL P n f) j) = f j := by rw [rowL_gi h, inK_val]
theorem rowL_all (n : Nat) (f : Nat → K P) : AllIn P.q (rowL P n f) := fun i hi => by
  rw [rowL_length] at hi
  rw [rowL_gi hi]
  exact (f i).2
theorem rowL_congr {n : Nat} {f g : Nat → K P} (h : ∀ j, j < n → f j = g j) : rowL P n f = rowL P n g := tab_congr fun j hj => by rw [h j hj]
theorem gi_ge {l : List Int} {i : Nat} (h : i < l.length) : gi l i = l[i] := by simp [gi, List.getD_eq_getElem?_getD, h]
theorem rowL_of {l : List Int} (h : AllIn P.q l) : l = rowL P l.length fun j => inK P (gi l j) := List.ext_getElem (by rw [rowL_length]) fun i h1 h2 => by
  rw [← gi_ge h1, ← gi_ge h2, rowL_gi h1, inK_in (h i h1)]
noncomputable def matL (P : FP) (m n : Nat) (M : Nat → Nat → K P) : List (List Int) := tab m fun i => rowL P n (M i)
theorem matL_length (m n : Nat) (M : Nat → Nat → K P) : (matL P m n M).length = m := tab_length _ _
theorem matL_row {m n : Nat} {M : Nat → Nat → K P} {i : Nat} (h : i < m) : (matL P m n M).getD i [] = rowL P n (M i) := by rw [matL, tab_at, if_pos h]
theorem matL_set {m n : Nat} {M : Nat → Nat → K P} {i : Nat} {f : Nat → K P} : (matL P m n M).set i (rowL P n f) = matL P m n fun t => if t = i then f else M t := by
  rw [matL, tab_set, matL]
  refine tab_congr fun t _ => ?_
  by_cases e : t = i
  · rw [if_pos e, if_pos e]
  · rw [if_neg e, if_neg e]
theorem matL_congr {m n : Nat} {M M' : Nat → Nat → K P} (h : ∀ i j, i < m → j < n → M i j = M' i j) : matL P m n M = matL P m n M' := tab_congr fun i hi => rowL_congr fun j hj => h i j hi hj
theorem matL_take {m n a : Nat} {M : Nat → Nat → K P} (h : a ≤ m) : (matL P m n M).take a = matL P a n M := List.ext_getElem (by rw [List.length_take, matL_length, matL_length]; omega) fun i h1 h2 => by
  rw [matL_length] at h2
  simp [matL, tab]
theorem matL_snoc (m n : Nat) (M : Nat → Nat → K P) : matL P m n M ++ [rowL P n (M m)] = matL P (m + 1) n M := by simp [matL, tab, List.range_succ]
noncomputable def genM (P : FP) (xs ms : List Int) : Nat → Nat → K P := fun i j => inK P (gi ms j) * npow (inK P (gi xs j)) i
theorem val1_sm {k : Nat} {f : Pol (K P)} (hf : YB k f) (x : K P) : val1 f x = sm k fun i => f.co i * npow x i := pev_eq Hom.id x (f := f) (n := k) hf
theorem encW_span {xs ms : List Int} {k : Nat} {f : Pol (K P)} (hf : YB k f) : Sp k xs.length (genM P xs ms) fun j => inK P (gi (encW P xs ms f) j) := ⟨fun i => f.co i, fun j hj => by
  dsimp only
  rw [encW_get hj, inK_val, val1_sm hf, ← sm_mul]
  refine sm_congr fun i _ => ?_
  rw [genM, mul_left_comm]⟩
def powL (i : Nat) : List Int := tab (i + 1) fun t => if t = i then 1 else 0
theorem powL_length (i : Nat) : (powL i).length = i + 1 := tab_length _ _
theorem powL_of (i : Nat) : (tab (i + 1) fun _ => (0 : Int)).set i 1 = powL i := by rw [tab_set]; rfl
theorem val1_powL (i : Nat) (x : K P) : val1 (pz P (powL i)) x = npow x i := by
  have hy : YB (i + 1) (pz P (powL i)) := fun t ht => co_pz_over (by rw [powL_length]; exact ht)
  rw [val1_sm hy, sm_one (k := i) (by omega) fun t ht hne => by
    rw [co_pz, powL, tab_at, if_pos ht, if_neg hne, inK0, zero_mul]]
  rw [co_pz, powL, tab_at, if_pos (by omega), if_pos rfl, inK1, one_mul]
theorem encW_powL (xs ms : List Int) (i : Nat) : encW P xs ms (pz P (powL i)) = rowL P xs.length (genM P xs ms i) := tab_congr fun j _ => by rw [val1_powL]; rfl
def Red (P : FP) (m n : Nat) (M0 : Nat → Nat → K P) (a : Nat) (M : Nat → Nat → K P) (pv : Nat → Nat) : Prop := a ≤ m ∧ Rr a n M pv ∧ ∀ v, Sp a n M v ↔ Sp m n M0 v
theorem Red.same {a n b : Nat} {G M : Nat → Nat → K P} {pv qv : Nat → Nat} (h1 : (1 : K P) ≠ 0) (hG : Rr a n G pv) (h : Red P a n G b M qv) : b = a ∧ matL P b n M = matL P a n G := by
  obtain ⟨_, hR, hs⟩ := h
  obtain ⟨e, hq⟩ := hR.uniq h1 hG (fun i hi => (hs _).1 (Sp.row hi)) (fun i hi => (hs _).2 (Sp.row hi))
  subst e
  exact ⟨rfl, matL_congr fun i j hi hj => (hq i hi).2 j hj⟩
end Go.Fd

