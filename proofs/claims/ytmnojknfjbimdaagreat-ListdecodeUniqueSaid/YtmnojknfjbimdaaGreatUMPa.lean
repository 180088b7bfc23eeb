/-
  Formal power series over a commutative ring (functions from the exponents to the coefficients): a commutative ring again. Polynomials in one and in two variables live there. Polynomials (power series that end) and their values in a ring over the coefficients' ring. Hasse derivatives: their values are the coefficients of the polynomial written about another point. Orders of vanishing of series in two variables: the order of a product is the sum of the orders. The ring of polynomials, in one variable and (twice over) in two; values, as homomorphisms. Lists of ints and the polynomials that they describe; canonical lists. Lists of lists of ints and the polynomials in two variables that they describe; canonical ones; values. Polynomials about another point; the values of Hasse derivatives in two variables. Multiplicities of points, and weighted degrees, of polynomials in two variables. A polynomial over a ring without zero divisors has at most as many roots as its degree. The canonical lists of polynomials in one and in two variables, as functions. The step of the search for roots in y: p(x, r + x h) as a polynomial at h. Division of a polynomial in two variables by a power of x; the roots stay. Products term by term, trimming from the end, values coefficient by coefficient. No program in sight. Products in two variables, row by row; bounds of the degrees; the lists that are known in advance. No program in sight. The polynomial about another point, by repeated division; the least degree of what does not vanish. No program in sight. Weighted degrees and multiplicities of products, as ints. No program in sight. Multiples by numbers, in a field of characteristic p; small elements. Binomial coefficients and a prime. Hasse derivatives of lists of lists; binomial coefficients modulo the characteristic, row by row. No program in sight. Taylor's formula in two variables. Koetter's algorithm: polynomials in two variables that meet conditions one after another, and are least. No program in sight. The prime of a field; inverses modulo the prime by powers; binomial coefficients modulo the prime by falling products and inverses. Koetter's algorithm: how it is counted (gaps by Horner's rule, Pascal's table, degrees, numbers of terms). No program in sight. Koetter's algorithm: one step, as the program takes it. No program in sight. Koetter's algorithm: the order of the conditions, their number, and what the interpolation polynomial is. No program in sight. A polynomial in two variables that vanishes with multiplicities at enough points of a polynomial's graph vanishes on the graph. No program in sight. The parameters of the list decoder and the interpolation polynomial. No program in sight. Descriptions of Reed-Solomon codes: what is refused, and in which order. No program in sight. The search for the roots in y: what it lists are all roots, in ascending order. The search for roots, with lists of ints: what it finds. No program in sight. What the search finds: exactly the roots of degree below the bound, each once, in ascending order. No program in sight. The list of the roots: members, order, number. No program in sight. The codewords near a word: the list decoder's answer, and that it has every codeword within the radius. No program in sight. Gao's decoder: Euclid's algorithm for the locator of all points and the interpolation polynomial finds the message. No program in sight. Division of polynomials, round by round; interpolation by Newton's steps. No program in sight. Linear algebra with rows: spans, elimination, reduced rows, that they are unique. No program in sight. Rows of field elements as lists of ints; the codewords are the span of the rows that stand for the powers. No program in sight. Insertion sort of lists of lists, step by step. No program in sight. Ascending lists of words by their places. No program in sight.
-/
import Derived.Test.YtmnojknfjbimdaaGreatUMFa
import Derived.Test.YtmnojknfjbimdaaGreatUMGa
import Derived.Test.YtmnojknfjbimdaaGreatUListdPlain
import Derived.Test.YtmnojknfjbimdaaGreatUMSxa
namespace Go.Alg
section
variable {R : Type} [CR R]
def sm : Nat → (Nat → R) → R
  | 0, _ => 0
  | n + 1, f => sm n f + f n
theorem sm_congr {f g : Nat → R} : ∀ {n : Nat}, (∀ i, i < n → f i = g i) → sm n f = sm n g
  | 0, _ => rfl
  | n + 1, h => by rw [sm, sm, sm_congr (fun i hi => h i (by omega)), h n (by omega)]
theorem sm_zero : ∀ {n : Nat} {f : Nat → R}, (∀ i, i < n → f i = 0) → sm n f = 0
  | 0, _, _ => rfl
  | n + 1, f, h => by rw [sm, sm_zero (fun i hi => h i (by omega)), h n (by omega), zero_add]
theorem sm_add (f g : Nat → R) : ∀ n, sm n (fun i => f i + g i) = sm n f + sm n g
  | 0 => (zero_add (0 : R)).symm
  | n + 1 => by rw [sm, sm, sm, sm_add f g n, add_assoc, add_assoc, add_left_comm (sm n g)]
theorem sm_mul (a : R) (f : Nat → R) : ∀ n, sm n (fun i => a * f i) = a * sm n f
  | 0 => (mul_zero a).symm
  | n + 1 => by rw [sm, sm, sm_mul a f n, mul_add]
theorem sm_mulr (a : R) (f : Nat → R) (n : Nat) : sm n (fun i => f i * a) = sm n f * a := by
  rw [mul_comm, ← sm_mul]
  exact sm_congr fun i _ => mul_comm _ _
theorem sm_first (f : Nat → R) : ∀ n, sm (n + 1) f = f 0 + sm n (fun i => f (i + 1))
  | 0 => by rw [sm, sm, sm, add_comm]
  | n + 1 => by rw [sm, sm_first f n, sm, add_assoc]
theorem sm_rev (f : Nat → R) : ∀ n, sm n (fun i => f (n - 1 - i)) = sm n f
  | 0 => rfl
  | n + 1 => by
    rw [sm_first, sm, add_comm (sm n f)]
    have h : sm n (fun i => f (n + 1 - 1 - (i + 1))) = sm n f := by
      rw [← sm_rev f n]
      exact sm_congr fun i _ => by congr 1; omega
    rw [h]
    congr 2
theorem sm_one {n k : Nat} (hk : k < n) {f : Nat → R} (h : ∀ i, i < n → i ≠ k → f i = 0) : sm n f = f k := by
  induction n with
  | zero => omega
  | succ n ih =>
    rw [sm]
    by_cases e : k = n
    · subst e
      rw [sm_zero (fun i hi => h i (by omega) (by omega)), zero_add]
    · rw [ih (by omega) (fun i hi hne => h i (by omega) hne), h n (by omega) (by omega), add_zero]
theorem sm_cut {f : Nat → R} {m : Nat} : ∀ {n : Nat}, m ≤ n → (∀ i, m ≤ i → i < n → f i = 0) → sm n f = sm m f
  | 0, h, _ => by rw [show m = 0 by omega]
  | n + 1, h, hz => by
    by_cases e : m = n + 1
    · rw [e]
    · rw [sm, hz n (by omega) (by omega), add_zero, sm_cut (by omega) (fun i h1 h2 => hz i h1 (by omega))]
theorem sm_tri (F : Nat → Nat → R) : ∀ m, sm m (fun k => sm (k + 1) fun i => F i (k - i)) = sm m fun i => sm (m - i) fun j => F i j
  | 0 => rfl
  | m + 1 => by
    have h1 : sm (m + 1) (fun i => sm (m + 1 - i) fun j => F i j) = sm (m + 1) (fun i => (sm (m - i) fun j => F i j) + F i (m - i)) := sm_congr fun i hi => by
      rw [show m + 1 - i = (m - i) + 1 by omega, sm]
    rw [h1, sm_add, sm, sm_tri F m]
    congr 1
    rw [sm, Nat.sub_self]
    show _ = _ + (0 : R)
    rw [add_zero]
end
def PS (R : Type) : Type := Nat → R
theorem PS.ext {R : Type} {f g : PS R} (h : ∀ n, f n = g n) : f = g := funext h
section
variable {R : Type} [CR R]
instance : Add (PS R) := ⟨fun f g n => f n + g n⟩
instance : Neg (PS R) := ⟨fun f n => -f n⟩
instance : Zero (PS R) := ⟨fun _ => 0⟩
instance : One (PS R) := ⟨fun n => if n = 0 then 1 else 0⟩
instance : Mul (PS R) := ⟨fun f g n => sm (n + 1) fun i => f i * g (n - i)⟩
theorem ps_add (f g : PS R) (n : Nat) : (f + g) n = f n + g n := rfl
theorem ps_neg (f : PS R) (n : Nat) : (-f) n = -f n := rfl
theorem ps_one (n : Nat) : (1 : PS R) n = if n = 0 then 1 else 0 := rfl
theorem ps_mul (f g : PS R) (n : Nat) : (f * g) n = sm (n + 1) fun i => f i * g (n - i) := rfl
theorem ps_mul_comm (f g : PS R) : f * g = g * f := PS.ext fun n => by
  rw [ps_mul, ps_mul, ← sm_rev]
  refine sm_congr fun i hi => ?_
  rw [mul_comm]
  congr 2
  omega
instance : CR (PS R) where
  add_assoc a b c := PS.ext fun n => add_assoc _ _ _
  add_comm a b := PS.ext fun n => add_comm _ _
  zero_add a := PS.ext fun n => zero_add _
  neg_add a := PS.ext fun n => neg_add _
  mul_comm a b := ps_mul_comm a b
  one_mul a := PS.ext fun n => by
    rw [ps_mul, sm_one (k := 0) (by omega) (fun i _ hi => by rw [ps_one, if_neg hi, zero_mul]), ps_one, if_pos rfl, one_mul, Nat.sub_zero]
  mul_add a b c := PS.ext fun n => by
    rw [ps_add, ps_mul, ps_mul, ps_mul, ← sm_add]
    exact sm_congr fun i _ => by rw [ps_add, mul_add]
  mul_assoc a b c := PS.ext fun n => by
    have h1 : ((a * b) * c) n = sm (n + 1) fun k => sm (k + 1) fun i => a i * b (k - i) * c (n - (i + (k - i))) := by
      rw [ps_mul]
      refine sm_congr fun k _ => ?_
      rw [ps_mul, ← sm_mulr]
      refine sm_congr fun i hi => ?_
      congr 2
      omega
    rw [h1, sm_tri (fun i j => a i * b j * c (n - (i + j))), ps_mul]
    refine sm_congr fun i hi => ?_
    rw [ps_mul, ← sm_mul, show n + 1 - i = n - i + 1 by omega]
    refine sm_congr fun j _ => ?_
    rw [mul_assoc, show n - (i + j) = n - i - j by omega]
end
end Go.Alg


namespace Go.Alg
structure Hom {R S : Type} [CR R] [CR S] (φ : R → S) : Prop where
  add : ∀ a b, φ (a + b) = φ a + φ b
  mul : ∀ a b, φ (a * b) = φ a * φ b
  one : φ 1 = 1
section
variable {R S : Type} [CR R] [CR S] {φ : R → S}
theorem Hom.zero (h : Hom φ) : φ 0 = 0 := by
  have h1 := h.add 0 0
  rw [zero_add] at h1
  have h2 : φ 0 + 0 = φ 0 + φ 0 := by rw [add_zero, ← h1]
  exact (add_left_cancel h2).symm
theorem Hom.neg (h : Hom φ) (a : R) : φ (-a) = -φ a := by
  refine neg_of_add ?_
  rw [← h.add, add_neg, h.zero]
theorem Hom.sm (h : Hom φ) (f : Nat → R) : ∀ n, φ (sm n f) = sm n fun i => φ (f i)
  | 0 => h.zero
  | n + 1 => by
    show φ (Go.Alg.sm n f + f n) = _
    rw [h.add, h.sm f n]; rfl
theorem Hom.npow (h : Hom φ) (a : R) : ∀ n, φ (npow a n) = npow (φ a) n
  | 0 => h.one
  | n + 1 => by
    show φ (Go.Alg.npow a n * a) = _
    rw [h.mul, h.npow a n]; rfl
theorem Hom.id : Hom (fun a : R => a) := ⟨fun _ _ => rfl, fun _ _ => rfl, rfl⟩
def Sup (n : Nat) (f : PS R) : Prop := ∀ i, n ≤ i → f i = 0
theorem Sup.mono {n m : Nat} {f : PS R} (h : Sup n f) (hm : n ≤ m) : Sup m f := fun i hi => h i (by omega)
theorem Sup.add {n : Nat} {f g : PS R} (h : Sup n f) (k : Sup n g) : Sup n (f + g) := fun i hi => by rw [ps_add, h i hi, k i hi, zero_add]
theorem Sup.neg {n : Nat} {f : PS R} (h : Sup n f) : Sup n (-f) := fun i hi => by rw [ps_neg, h i hi, neg_zero]
theorem Sup.zero (n : Nat) : Sup n (0 : PS R) := fun _ _ => rfl
theorem Sup.one {n : Nat} (h : 1 ≤ n) : Sup n (1 : PS R) := fun i hi => by rw [ps_one, if_neg (by omega)]
theorem Sup.mul {n m : Nat} {f g : PS R} (h : Sup n f) (k : Sup m g) : Sup (n + m - 1) (f * g) := fun i hi => by
  rw [ps_mul]
  refine sm_zero fun j hj => ?_
  rcases Nat.lt_or_ge j n with e | e
  · rw [k (i - j) (by omega), mul_zero]
  · rw [h j e, zero_mul]
def evp (φ : R → S) (x : S) (n : Nat) (f : PS R) : S := sm n fun i => φ (f i) * npow x i
theorem evp_more (h : Hom φ) (x : S) {n m : Nat} {f : PS R} (hf : Sup n f) (hm : n ≤ m) : evp φ x m f = evp φ x n f :=
  sm_cut hm fun i h1 _ => by rw [hf i h1, h.zero, zero_mul]
theorem evp_same (h : Hom φ) (x : S) {n m : Nat} {f : PS R} (hf : Sup n f) (hg : Sup m f) : evp φ x n f = evp φ x m f := by
  rw [← evp_more h x hf (Nat.le_max_left n m), ← evp_more h x hg (Nat.le_max_right n m)]
theorem evp_add (h : Hom φ) (x : S) (n : Nat) (f g : PS R) : evp φ x n (f + g) = evp φ x n f + evp φ x n g := by
  rw [evp, evp, evp, ← sm_add]
  exact sm_congr fun i _ => by rw [ps_add, h.add, add_mul]
theorem evp_mul (h : Hom φ) (x : S) {n m : Nat} {f g : PS R} (hf : Sup n f) (hg : Sup m g) : evp φ x (n + m) (f * g) = evp φ x n f * evp φ x m g := by
  have h1 : evp φ x (n + m) (f * g) = sm (n + m) fun k => sm (k + 1) fun i => (φ (f i) * npow x i) * (φ (g (k - i)) * npow x (k - i)) := by
    refine sm_congr fun k _ => ?_
    rw [ps_mul, h.sm, ← sm_mulr]
    refine sm_congr fun i hi => ?_
    have hk : npow x k = npow x i * npow x (k - i) := by rw [← npow_add]; congr 1; omega
    rw [h.mul, hk, mul_assoc, mul_assoc, mul_left_comm (φ (g (k - i)))]
  rw [h1, sm_tri (fun i j => (φ (f i) * npow x i) * (φ (g j) * npow x j))]
  rw [sm_cut (m := n) (by omega) (fun i h1 _ => sm_zero fun j _ => by rw [hf i h1, h.zero, zero_mul, zero_mul])]
  rw [evp, evp, ← sm_mulr]
  refine sm_congr fun i hi => ?_
  rw [sm_cut (m := m) (by omega) (fun j h1 _ => by rw [hg j h1, h.zero, zero_mul, mul_zero]), sm_mul]
theorem evp_one (h : Hom φ) (x : S) {n : Nat} (hn : 1 ≤ n) : evp φ x n (1 : PS R) = 1 := by
  rw [evp, sm_one (k := 0) (by omega) (fun i _ hi => by rw [ps_one, if_neg hi, h.zero, zero_mul]), ps_one, if_pos rfl, h.one]
  exact one_mul 1
def PS.tail (f : PS R) : PS R := fun i => f (i + 1)
end
theorem evp_step {R S : Type} [CR S] {φ : R → S} (x : S) (n : Nat) (f : PS R) : evp φ x (n + 1) f = φ (f 0) + x * evp φ x n f.tail := by
  show sm (n + 1) (fun i => φ (f i) * npow x i) = φ (f 0) + x * sm n (fun i => φ (f (i + 1)) * npow x i)
  rw [sm_first, ← sm_mul]
  congr 1
  · exact mul_one _
  · refine sm_congr fun i _ => ?_
    rw [npow_succ, mul_comm (npow x i), mul_left_comm]
section
variable {R : Type} [CR R]
def psC (a : R) : PS R := fun n => if n = 0 then a else 0
def psX : PS R := fun n => if n = 1 then 1 else 0
theorem psC_mul (a : R) (f : PS R) (n : Nat) : (psC a * f) n = a * f n := by
  rw [ps_mul, sm_one (k := 0) (by omega) (fun i _ hi => by rw [psC, if_neg hi, zero_mul]), psC, if_pos rfl, Nat.sub_zero]
theorem psC_hom : Hom (psC : R → PS R) := by
  refine ⟨fun a b => PS.ext fun n => ?_, fun a b => PS.ext fun n => ?_, rfl⟩
  · rw [ps_add, psC, psC, psC]
    by_cases h : n = 0
    · rw [if_pos h, if_pos h, if_pos h]
    · rw [if_neg h, if_neg h, if_neg h, zero_add]
  · rw [psC_mul, psC, psC]
    by_cases h : n = 0
    · rw [if_pos h, if_pos h]
    · rw [if_neg h, if_neg h, mul_zero]
theorem psX_mul_zero (f : PS R) : ((psX : PS R) * f) 0 = 0 := by
  rw [ps_mul, sm, sm, zero_add, psX, if_neg (by omega), zero_mul]
theorem psX_mul (f : PS R) (n : Nat) : ((psX : PS R) * f) (n + 1) = f n := by
  rw [ps_mul, sm_one (k := 1) (by omega) (fun i _ hi => by rw [psX, if_neg hi, zero_mul]), psX, if_pos rfl, one_mul]
  rfl
theorem evp_psX : ∀ (n : Nat) (f : PS R), Sup n f → evp (psC : R → PS R) psX n f = f
  | 0, f, h => PS.ext fun i => (h i (by omega)).symm
  | n + 1, f, h => PS.ext fun i => by
    rw [evp_step, ps_add, evp_psX n f.tail (fun i hi => h (i + 1) (by omega))]
    cases i with
    | zero => rw [psX_mul_zero, psC, if_pos rfl, add_zero]
    | succ i => rw [psX_mul, psC, if_neg (by omega), zero_add]; rfl
end
end Go.Alg


namespace Go.Alg
def bc : Nat → Nat → Nat
  | _, 0 => 1
  | 0, _ + 1 => 0
  | n + 1, k + 1 => bc n k + bc n (k + 1)
theorem bc_zero (n : Nat) : bc n 0 = 1 := by cases n <;> rfl
theorem bc_over : ∀ {n k : Nat}, n < k → bc n k = 0
  | 0, 0, h => by omega
  | 0, _ + 1, _ => rfl
  | n + 1, 0, h => by omega
  | n + 1, k + 1, h => by rw [bc, bc_over (by omega), bc_over (by omega)]
section
variable {R : Type} [CR R]
def nm : Nat → R → R
  | 0, _ => 0
  | n + 1, x => nm n x + x
theorem nm_one (x : R) : nm 1 x = x := zero_add x
theorem nm_zero' : ∀ n, nm n (0 : R) = 0
  | 0 => rfl
  | n + 1 => by rw [nm, nm_zero' n, add_zero]
theorem nm_add (a b : Nat) (x : R) : nm (a + b) x = nm a x + nm b x := by
  induction b with
  | zero => exact (add_zero _).symm
  | succ b ih => rw [← Nat.add_assoc, nm, ih, nm, add_assoc]
theorem nm_mul (a : Nat) (x y : R) : nm a (x * y) = nm a x * y := by
  induction a with
  | zero => exact (zero_mul y).symm
  | succ a ih => rw [nm, nm, ih, add_mul]
theorem nm_mulr (a : Nat) (x y : R) : nm a (x * y) = x * nm a y := by rw [mul_comm, nm_mul, mul_comm]
def lin (a : R) : PS R := psC a + psX
theorem lin_mul_zero (a : R) (f : PS R) : (lin a * f) 0 = a * f 0 := by rw [lin, add_mul, ps_add, psC_mul, psX_mul_zero, add_zero]
theorem lin_mul (a : R) (f : PS R) (n : Nat) : (lin a * f) (n + 1) = a * f (n + 1) + f n := by rw [lin, add_mul, ps_add, psC_mul, psX_mul]
theorem lin_npow (a : R) : ∀ (i k : Nat), npow (lin a) i k = if k ≤ i then nm (bc i k) (npow a (i - k)) else 0
  | 0, k => by
    show (1 : PS R) k = _
    rw [ps_one]
    by_cases h : k = 0
    · subst h; rw [if_pos rfl, if_pos (Nat.le_refl _)]; exact (nm_one _).symm
    · rw [if_neg h, if_neg (by omega)]
  | i + 1, k => by
    rw [npow_succ, mul_comm]
    cases k with
    | zero =>
      rw [lin_mul_zero, lin_npow a i 0, if_pos (Nat.zero_le _), if_pos (Nat.zero_le _), bc_zero, bc_zero, nm_one, nm_one, mul_comm]
      rfl
    | succ k =>
      rw [lin_mul, lin_npow a i (k + 1), lin_npow a i k]
      by_cases h : k + 1 ≤ i
      · rw [if_pos h, if_pos (by omega), if_pos (by omega), bc, nm_add, ← nm_mulr, mul_comm a, ← npow_succ, show i - (k + 1) + 1 = i - k by omega, show i + 1 - (k + 1) = i - k by omega, add_comm]
      · rw [if_neg h, mul_zero, zero_add]
        by_cases h2 : k ≤ i
        · rw [if_pos h2, if_pos (by omega), show k = i by omega, bc, bc_over (show i < i + 1 by omega), Nat.add_zero, Nat.sub_self, Nat.sub_self]
        · rw [if_neg h2, if_neg (by omega)]
def hs (k : Nat) (f : PS R) : PS R := fun i => nm (bc (i + k) k) (f (i + k))
theorem hs_sup {n k : Nat} {f : PS R} (h : Sup n f) : Sup (n - k) (hs k f) := fun i hi => by rw [hs, h (i + k) (by omega), nm_zero']
def about (a : R) (n : Nat) (f : PS R) : PS R := evp psC (lin a) n f
theorem sm_at (F : Nat → PS R) (k : Nat) : ∀ n, sm n F k = sm n fun i => F i k
  | 0 => rfl
  | n + 1 => by
    show (sm n F + F n) k = _
    rw [ps_add, sm_at F k n]; rfl
theorem about_at (a : R) (n : Nat) (f : PS R) (k : Nat) : about a n f k = sm n fun i => if k ≤ i then nm (bc i k) (f i * npow a (i - k)) else 0 := by
  rw [about, evp, sm_at]
  refine sm_congr fun i _ => ?_
  rw [psC_mul, lin_npow]
  by_cases h : k ≤ i
  · rw [if_pos h, if_pos h, nm_mulr]
  · rw [if_neg h, if_neg h, mul_zero]
theorem hs_value (a : R) {n : Nat} {f : PS R} (k : Nat) : evp (fun x => x) a (n - k) (hs k f) = about a n f k := by
  rw [about_at]
  rcases Nat.lt_or_ge n k with h | h
  · rw [show n - k = 0 by omega]
    exact (sm_zero fun i hi => if_neg (by omega)).symm
  · have key : ∀ m, sm (k + m) (fun i => if k ≤ i then nm (bc i k) (f i * npow a (i - k)) else 0) = sm m fun i => hs k f i * npow a i := by
      intro m
      induction m with
      | zero => exact sm_zero fun i hi => if_neg (by omega)
      | succ m ih =>
        rw [← Nat.add_assoc, sm, ih, sm, if_pos (by omega), show k + m - k = m by omega, nm_mul, hs, Nat.add_comm k m]
    rw [evp, ← key, show k + (n - k) = n by omega]
end
end Go.Alg


namespace Go.Alg
section
variable {R : Type} [CR R]
def form (d : Nat) (f : PS (PS R)) : PS R := fun j => if j ≤ d then f j (d - j) else 0
def Ord (n : Nat) (f : PS (PS R)) : Prop := ∀ i j, i + j < n → f j i = 0
theorem ord_form {n d : Nat} {f : PS (PS R)} (h : Ord n f) (hd : d < n) : form d f = 0 := PS.ext fun j => by
  rw [form]
  by_cases hj : j ≤ d
  · rw [if_pos hj, h (d - j) j (by omega)]; rfl
  · rw [if_neg hj]; rfl
theorem mul_at2 (f g : PS (PS R)) (j i : Nat) : (f * g) j i = sm (j + 1) fun b => sm (i + 1) fun a => f b a * g (j - b) (i - a) := by
  rw [ps_mul, sm_at]
  exact sm_congr fun b _ => ps_mul _ _ _
theorem ord_mul {n m : Nat} {f g : PS (PS R)} (hf : Ord n f) (hg : Ord m g) : Ord (n + m) (f * g) := fun i j h => by
  rw [mul_at2]
  refine sm_zero fun b hb => sm_zero fun a ha => ?_
  rcases Nat.lt_or_ge (a + b) n with e | e
  · rw [hf a b e, zero_mul]
  · rw [hg (i - a) (j - b) (by omega), mul_zero]
theorem form_mul {n m : Nat} {f g : PS (PS R)} (hf : Ord n f) (hg : Ord m g) : form (n + m) (f * g) = form n f * form m g := PS.ext fun j => by
  rw [ps_mul, form]
  by_cases hj : j ≤ n + m
  · rw [if_pos hj, mul_at2]
    refine sm_congr fun b hb => ?_
    rw [form, form]
    by_cases hb2 : b ≤ n
    · rw [if_pos hb2]
      by_cases hb3 : j - b ≤ m
      · rw [if_pos hb3, sm_one (k := n - b) (by omega) (fun a ha hne => ?_), show n + m - j - (n - b) = m - (j - b) by omega]
        rcases Nat.lt_or_ge (a + b) n with e | e
        · rw [hf a b e, zero_mul]
        · rw [hg (n + m - j - a) (j - b) (by omega), mul_zero]
      · rw [if_neg hb3, mul_zero]
        refine sm_zero fun a ha => ?_
        rcases Nat.lt_or_ge (a + b) n with e | e
        · rw [hf a b e, zero_mul]
        · rw [hg (n + m - j - a) (j - b) (by omega), mul_zero]
    · rw [if_neg hb2, zero_mul]
      refine sm_zero fun a ha => ?_
      rw [hg (n + m - j - a) (j - b) (by omega), mul_zero]
  · rw [if_neg hj]
    refine (sm_zero fun b hb => ?_).symm
    rw [form, form]
    by_cases hb2 : b ≤ n
    · rw [if_neg (show ¬ j - b ≤ m by omega), mul_zero]
    · rw [if_neg hb2, zero_mul]
def NZD (R : Type) [CR R] : Prop := ∀ a b : R, a * b = 0 → a = 0 ∨ b = 0
theorem ps_first {f : PS R} (h : f ≠ 0) : ∃ n, f n ≠ 0 ∧ ∀ i, i < n → f i = 0 := by
  have hex : ∃ n, f n ≠ 0 := Classical.byContradiction fun hc => h (PS.ext fun n => Classical.byContradiction fun hn => hc ⟨n, hn⟩)
  obtain ⟨m, hm⟩ := hex
  induction m using Nat.strongRecOn with
  | _ m ih =>
    by_cases hl : ∃ i, i < m ∧ f i ≠ 0
    · obtain ⟨i, hi, hne⟩ := hl
      exact ih i hi hne
    · exact ⟨m, hm, fun i hi => Classical.byContradiction fun hne => hl ⟨i, hi, hne⟩⟩
theorem ps_nzd (hR : NZD R) : NZD (PS R) := fun f g h => by
  refine Classical.byContradiction fun hc => ?_
  have hf : f ≠ 0 := fun e => hc (.inl e)
  have hg : g ≠ 0 := fun e => hc (.inr e)
  obtain ⟨n, hn, hn0⟩ := ps_first hf
  obtain ⟨m, hm, hm0⟩ := ps_first hg
  have h1 : (f * g) (n + m) = 0 := by rw [h]; rfl
  rw [ps_mul, sm_one (k := n) (by omega) (fun i hi hne => ?_), Nat.add_sub_cancel_left] at h1
  · rcases hR _ _ h1 with e | e
    · exact hn e
    · exact hm e
  · rcases Nat.lt_or_ge i n with e | e
    · rw [hn0 i e, zero_mul]
    · rw [hm0 (n + m - i) (by omega), mul_zero]
def OrdIs (n : Nat) (f : PS (PS R)) : Prop := Ord n f ∧ form n f ≠ 0
theorem OrdIs.mul (hR : NZD R) {n m : Nat} {f g : PS (PS R)} (hf : OrdIs n f) (hg : OrdIs m g) : OrdIs (n + m) (f * g) :=
  ⟨ord_mul hf.1 hg.1, fun h => by
    rw [form_mul hf.1 hg.1] at h
    rcases ps_nzd hR _ _ h with e | e
    · exact hf.2 e
    · exact hg.2 e⟩
theorem OrdIs.uniq {n m : Nat} {f : PS (PS R)} (h : OrdIs n f) (k : OrdIs m f) : n = m := by
  rcases Nat.lt_trichotomy n m with e | e | e
  · exact absurd (ord_form k.1 e) h.2
  · exact e
  · exact absurd (ord_form h.1 e) k.2
def Wd (w d : Nat) (f : PS (PS R)) : Prop := ∀ i j, d < i + w * j → f j i = 0
def tform (w d : Nat) (f : PS (PS R)) : PS R := fun j => if w * j ≤ d then f j (d - w * j) else 0
theorem wd_mul {w n m : Nat} {f g : PS (PS R)} (hf : Wd w n f) (hg : Wd w m g) : Wd w (n + m) (f * g) := fun i j h => by
  rw [mul_at2]
  refine sm_zero fun b hb => sm_zero fun a ha => ?_
  have hj : w * j = w * b + w * (j - b) := by rw [← Nat.mul_add]; congr 1; omega
  rcases Nat.lt_or_ge n (a + w * b) with e | e
  · rw [hf a b e, zero_mul]
  · rw [hg (i - a) (j - b) (by omega), mul_zero]
theorem tform_mul {w n m : Nat} {f g : PS (PS R)} (hf : Wd w n f) (hg : Wd w m g) : tform w (n + m) (f * g) = tform w n f * tform w m g := PS.ext fun j => by
  rw [ps_mul, tform]
  have hs : ∀ b, b < j + 1 → w * j = w * b + w * (j - b) := fun b hb => by rw [← Nat.mul_add]; congr 1; omega
  by_cases hj : w * j ≤ n + m
  · rw [if_pos hj, mul_at2]
    refine sm_congr fun b hb => ?_
    have hjb := hs b hb
    rw [tform, tform]
    by_cases hb2 : w * b ≤ n
    · rw [if_pos hb2]
      by_cases hb3 : w * (j - b) ≤ m
      · rw [if_pos hb3, sm_one (k := n - w * b) (by omega) (fun a ha hne => ?_), show n + m - w * j - (n - w * b) = m - w * (j - b) by omega]
        rcases Nat.lt_or_ge n (a + w * b) with e | e
        · rw [hf a b e, zero_mul]
        · rw [hg (n + m - w * j - a) (j - b) (by omega), mul_zero]
      · rw [if_neg hb3, mul_zero]
        refine sm_zero fun a ha => ?_
        rw [hg (n + m - w * j - a) (j - b) (by omega), mul_zero]
    · rw [if_neg hb2, zero_mul]
      refine sm_zero fun a ha => ?_
      rw [hf a b (by omega), zero_mul]
  · rw [if_neg hj]
    refine (sm_zero fun b hb => ?_).symm
    have hjb := hs b hb
    rw [tform, tform]
    by_cases hb2 : w * b ≤ n
    · rw [if_neg (show ¬ w * (j - b) ≤ m by omega), mul_zero]
    · rw [if_neg hb2, zero_mul]
def WdIs (w d : Nat) (f : PS (PS R)) : Prop := Wd w d f ∧ ∃ i j, i + w * j = d ∧ f j i ≠ 0
theorem tform_ne {w d : Nat} {f : PS (PS R)} (h : ∃ i j, i + w * j = d ∧ f j i ≠ 0) : tform w d f ≠ 0 := fun e => by
  obtain ⟨i, j, h1, h2⟩ := h
  have h3 := congrFun e j
  rw [show tform w d f j = if w * j ≤ d then f j (d - w * j) else 0 from rfl, if_pos (by omega), show d - w * j = i by omega] at h3
  exact h2 h3
theorem WdIs.mul (hR : NZD R) {w n m : Nat} {f g : PS (PS R)} (hf : WdIs w n f) (hg : WdIs w m g) : WdIs w (n + m) (f * g) := by
  refine ⟨wd_mul hf.1 hg.1, Classical.byContradiction fun hc => ?_⟩
  have h0 : tform w (n + m) (f * g) = 0 := PS.ext fun j => by
    rw [tform]
    by_cases hj : w * j ≤ n + m
    · rw [if_pos hj]
      exact Classical.byContradiction fun hne => hc ⟨n + m - w * j, j, by omega, hne⟩
    · rw [if_neg hj]; rfl
  rw [tform_mul hf.1 hg.1] at h0
  rcases ps_nzd hR _ _ h0 with e | e
  · exact tform_ne hf.2 e
  · exact tform_ne hg.2 e
theorem WdIs.uniq {w n m : Nat} {f : PS (PS R)} (h : WdIs w n f) (k : WdIs w m f) : n = m := by
  obtain ⟨h1, i, j, h2, h3⟩ := h
  obtain ⟨k1, a, b, k2, k3⟩ := k
  rcases Nat.lt_trichotomy n m with e | e | e
  · exact absurd (h1 a b (by omega)) k3
  · exact e
  · exact absurd (k1 i j (by omega)) h3
end
end Go.Alg


namespace Go.Alg
def Pol (R : Type) [CR R] : Type := { f : PS R // ∃ n, Sup n f }
section
variable {R S : Type} [CR R] [CR S]
def Pol.co (f : Pol R) (i : Nat) : R := f.1 i
theorem Pol.ext {f g : Pol R} (h : ∀ i, f.co i = g.co i) : f = g := Subtype.ext (funext h)
instance : Add (Pol R) := ⟨fun f g => ⟨f.1 + g.1, by
  obtain ⟨n, hn⟩ := f.2
  obtain ⟨m, hm⟩ := g.2
  exact ⟨max n m, (hn.mono (Nat.le_max_left n m)).add (hm.mono (Nat.le_max_right n m))⟩⟩⟩
instance : Mul (Pol R) := ⟨fun f g => ⟨f.1 * g.1, by
  obtain ⟨n, hn⟩ := f.2
  obtain ⟨m, hm⟩ := g.2
  exact ⟨_, hn.mul hm⟩⟩⟩
instance : Neg (Pol R) := ⟨fun f => ⟨-f.1, by
  obtain ⟨n, hn⟩ := f.2
  exact ⟨n, hn.neg⟩⟩⟩
instance : Zero (Pol R) := ⟨⟨0, 0, Sup.zero 0⟩⟩
instance : One (Pol R) := ⟨⟨1, 1, Sup.one (Nat.le_refl _)⟩⟩
instance : CR (Pol R) where
  add_assoc a b c := Subtype.ext (add_assoc a.1 b.1 c.1)
  add_comm a b := Subtype.ext (add_comm a.1 b.1)
  zero_add a := Subtype.ext (zero_add a.1)
  neg_add a := Subtype.ext (neg_add a.1)
  mul_assoc a b c := Subtype.ext (mul_assoc a.1 b.1 c.1)
  mul_comm a b := Subtype.ext (mul_comm a.1 b.1)
  one_mul a := Subtype.ext (one_mul a.1)
  mul_add a b c := Subtype.ext (mul_add a.1 b.1 c.1)
theorem co_add (f g : Pol R) (i : Nat) : (f + g).co i = f.co i + g.co i := rfl
theorem co_neg (f : Pol R) (i : Nat) : (-f).co i = -f.co i := rfl
theorem co_zero (i : Nat) : (0 : Pol R).co i = 0 := rfl
theorem co_one (i : Nat) : (1 : Pol R).co i = if i = 0 then 1 else 0 := rfl
theorem co_mul (f g : Pol R) (n : Nat) : (f * g).co n = sm (n + 1) fun i => f.co i * g.co (n - i) := rfl
theorem co_hom : Hom (fun f : Pol R => f.1) := ⟨fun _ _ => rfl, fun _ _ => rfl, rfl⟩
def pC (a : R) : Pol R := ⟨psC a, 1, fun i hi => by rw [psC, if_neg (by omega)]⟩
def pX : Pol R := ⟨psX, 2, fun i hi => by rw [psX, if_neg (by omega)]⟩
theorem pC_hom : Hom (pC : R → Pol R) := ⟨fun a b => Subtype.ext (psC_hom.add a b), fun a b => Subtype.ext (psC_hom.mul a b), Subtype.ext psC_hom.one⟩
theorem co_pC (a : R) (i : Nat) : (pC a).co i = if i = 0 then a else 0 := rfl
theorem co_pC_mul (a : R) (f : Pol R) (i : Nat) : (pC a * f).co i = a * f.co i := psC_mul a f.1 i
theorem co_pX_zero (f : Pol R) : (pX * f).co 0 = 0 := psX_mul_zero f.1
theorem co_pX_mul (f : Pol R) (i : Nat) : (pX * f).co (i + 1) = f.co i := psX_mul f.1 i
noncomputable def pev (φ : R → S) (x : S) (f : Pol R) : S := evp φ x (Classical.choose f.2) f.1
variable {φ : R → S}
theorem pev_eq (h : Hom φ) (x : S) {f : Pol R} {n : Nat} (hn : Sup n f.1) : pev φ x f = evp φ x n f.1 := evp_same h x (Classical.choose_spec f.2) hn
theorem pev_hom (h : Hom φ) (x : S) : Hom (pev φ x) := by
  refine ⟨fun f g => ?_, fun f g => ?_, ?_⟩
  · obtain ⟨n, hn⟩ := f.2
    obtain ⟨m, hm⟩ := g.2
    have h1 := hn.mono (Nat.le_max_left n m)
    have h2 := hm.mono (Nat.le_max_right n m)
    rw [pev_eq h x (f := f + g) (h1.add h2), pev_eq h x h1, pev_eq h x h2]
    exact evp_add h x _ f.1 g.1
  · obtain ⟨n, hn⟩ := f.2
    obtain ⟨m, hm⟩ := g.2
    rw [pev_eq h x (f := f * g) (n := n + m) ((hn.mul hm).mono (by omega)), pev_eq h x hn, pev_eq h x hm]
    exact evp_mul h x hn hm
  · rw [pev_eq h x (f := (1 : Pol R)) (n := 1) (Sup.one (Nat.le_refl _))]
    exact evp_one h x (Nat.le_refl _)
theorem pev_C (h : Hom φ) (x : S) (a : R) : pev φ x (pC a) = φ a := by
  rw [pev_eq h x (f := pC a) (n := 1) (fun i hi => by show psC a i = 0; rw [psC, if_neg (by omega)])]
  show (0 : S) + φ a * 1 = φ a
  rw [zero_add, mul_one]
theorem pev_X (h : Hom φ) (x : S) : pev φ x pX = x := by
  rw [pev_eq h x (f := pX) (n := 2) (fun i hi => by show psX i = 0; rw [psX, if_neg (by omega)])]
  show (0 : S) + φ (psX 0) * 1 + φ (psX 1) * (1 * x) = x
  rw [psX, if_neg (by omega), psX, if_pos rfl, h.zero, h.one, zero_mul, one_mul, one_mul, zero_add, zero_add]
theorem hom_pol {ψ : Pol R → S} (h : Hom ψ) (f : Pol R) : ψ f = pev (fun a => ψ (pC a)) (ψ pX) f := by
  have hφ : Hom (fun a => ψ (pC a)) := ⟨fun a b => by rw [pC_hom.add, h.add], fun a b => by rw [pC_hom.mul, h.mul], by rw [pC_hom.one, h.one]⟩
  obtain ⟨n, hn⟩ := f.2
  have key : ∀ (n : Nat) (f : Pol R), Sup n f.1 → ψ f = evp (fun a => ψ (pC a)) (ψ pX) n f.1 := by
    intro n
    induction n with
    | zero =>
      intro f hf
      have : f = 0 := Pol.ext fun i => hf i (by omega)
      rw [this, h.zero]; rfl
    | succ n ih =>
      intro f hf
      let t : Pol R := ⟨f.1.tail, n, fun i hi => hf (i + 1) (by omega)⟩
      have hft : f = pC (f.co 0) + pX * t := Pol.ext fun i => by
        rw [co_add]
        cases i with
        | zero => rw [co_pX_zero, co_pC, if_pos rfl, add_zero]
        | succ i => rw [co_pX_mul, co_pC, if_neg (by omega), zero_add]; rfl
      rw [evp_step, ← ih t (fun i hi => hf (i + 1) (by omega)), ← h.mul, ← h.add]
      exact congrArg ψ hft
  rw [pev_eq hφ _ hn]
  exact key n f hn
end
end Go.Alg


namespace Go.Fd
open Go.Alg
variable {P : FP}
def pz (P : FP) (z : List Int) : Pol (K P) := ⟨fun i => inK P (z.getD i 0), z.length, fun i hi => by
  have h : z.getD i 0 = 0 := by simp [List.getD_eq_getElem?_getD, List.getElem?_eq_none hi]
  show inK P (z.getD i 0) = 0
  rw [h]; exact inK_in (by have := P.q_two; omega)⟩
theorem co_pz (z : List Int) (i : Nat) : (pz P z).co i = inK P (z.getD i 0) := rfl
structure Cn (P : FP) (r : List Int) (f : Pol (K P)) : Prop where
  rng : ∀ x ∈ r, 0 ≤ x ∧ x < P.q
  co : ∀ i, inK P (r.getD i 0) = f.co i
  last : r ≠ [] → r.getD (r.length - 1) 0 ≠ 0
theorem Cn.pz {r : List Int} {f : Pol (K P)} (h : Cn P r f) : Go.Fd.pz P r = f := Pol.ext h.co
theorem Cn.at {r : List Int} {f : Pol (K P)} (h : Cn P r f) (i : Nat) : r.getD i 0 = (f.co i).1 := by
  rw [← h.co i]
  rcases Nat.lt_or_ge i r.length with e | e
  · have hm : r.getD i 0 ∈ r := by
      rw [List.getD_eq_getElem?_getD, List.getElem?_eq_getElem e]
      exact List.getElem_mem _
    rw [inK_in (h.rng _ hm)]
  · have h0 : r.getD i 0 = 0 := by simp [List.getD_eq_getElem?_getD, List.getElem?_eq_none e]
    rw [h0, inK_in (by have := P.q_two; omega)]
theorem Cn.len {r : List Int} {f : Pol (K P)} (h : Cn P r f) {n : Nat} (hn : ∀ i, n ≤ i → f.co i = 0) : r.length ≤ n := by
  refine Nat.le_of_not_lt fun hc => ?_
  have hne : r ≠ [] := fun e => by subst e; simp at hc
  refine h.last hne ?_
  rw [h.at, hn _ (by omega)]; rfl
theorem Cn.over {r : List Int} {f : Pol (K P)} (h : Cn P r f) (i : Nat) (hi : r.length ≤ i) : f.co i = 0 := by
  rw [← h.co i]
  have h0 : r.getD i 0 = 0 := by simp [List.getD_eq_getElem?_getD, List.getElem?_eq_none hi]
  rw [h0]; exact inK_in (by have := P.q_two; omega)
theorem Cn.uniq {r s : List Int} {f : Pol (K P)} (h : Cn P r f) (k : Cn P s f) : r = s := by
  have hl : r.length = s.length := Nat.le_antisymm (h.len k.over) (k.len h.over)
  apply List.ext_getElem hl
  intro i h1 h2
  have e1 := h.at i
  have e2 := k.at i
  rw [List.getD_eq_getElem?_getD, List.getElem?_eq_getElem h1, Option.getD_some] at e1
  rw [List.getD_eq_getElem?_getD, List.getElem?_eq_getElem h2, Option.getD_some] at e2
  rw [e1, e2]
theorem Cn.nil_iff {r : List Int} {f : Pol (K P)} (h : Cn P r f) : r = [] ↔ f = 0 := by
  constructor
  · intro e
    subst e
    exact Pol.ext fun i => h.over i (by simp)
  · intro e
    subst e
    have := h.len (n := 0) (fun i _ => rfl)
    exact List.eq_nil_of_length_eq_zero (by omega)
theorem Cn.zero : Cn P [] 0 := ⟨fun x h => (by cases h), fun i => by
  show inK P 0 = 0
  exact inK_in (by have := P.q_two; omega), fun h => absurd rfl h⟩
def trimL : List Int → List Int
  | [] => []
  | a :: l => if trimL l = [] ∧ a = 0 then [] else a :: trimL l
theorem trimL_at : ∀ (l : List Int) (i : Nat), (trimL l).getD i 0 = l.getD i 0
  | [], i => rfl
  | a :: l, i => by
    rw [trimL]
    split
    · rename_i h
      have ih := trimL_at l
      cases i with
      | zero => simp [h.2]
      | succ i =>
        have := ih i
        rw [h.1] at this
        simpa using this
    · cases i with
      | zero => rfl
      | succ i => simpa using trimL_at l i
theorem trimL_last : ∀ (l : List Int), trimL l ≠ [] → (trimL l).getD ((trimL l).length - 1) 0 ≠ 0
  | [], h => absurd rfl h
  | a :: l, h => by
    rw [trimL] at h ⊢
    split
    · rename_i h1
      rw [if_pos h1] at h
      exact absurd rfl h
    · rename_i h1
      cases ht : trimL l with
      | nil =>
        have ha : a ≠ 0 := fun e => h1 ⟨ht, e⟩
        simpa using ha
      | cons b m =>
        have ih := trimL_last l (by rw [ht]; simp)
        rw [ht] at ih
        simpa using ih
theorem trimL_mem {l : List Int} : ∀ x ∈ trimL l, x ∈ l := by
  induction l with
  | nil => intro x h; cases h
  | cons a l ih =>
    intro x h
    rw [trimL] at h
    split at h
    · cases h
    · rcases List.mem_cons.1 h with e | e
      · exact e ▸ List.mem_cons_self ..
      · exact List.mem_cons_of_mem _ (ih x e)
theorem Cn.trim {l : List Int} (h : ∀ x ∈ l, 0 ≤ x ∧ x < P.q) : Cn P (trimL l) (Go.Fd.pz P l) :=
  ⟨fun x hx => h x (trimL_mem x hx), fun i => by rw [trimL_at, co_pz], trimL_last l⟩
end Go.Fd


namespace Go.Fd
open Go.Alg
variable {P : FP}
theorem pz_nil : pz P [] = 0 := Pol.ext fun i => by
  show inK P 0 = 0
  exact inK_in (by have := P.q_two; omega)
def bz (P : FP) (L : List (List Int)) : Pol (Pol (K P)) := ⟨fun j => pz P (L.getD j []), L.length, fun j hj => by
  have h : L.getD j [] = [] := by simp [List.getD_eq_getElem?_getD, List.getElem?_eq_none hj]
  show pz P (L.getD j []) = 0
  rw [h, pz_nil]⟩
theorem co_bz (L : List (List Int)) (j : Nat) : (bz P L).co j = pz P (L.getD j []) := rfl
structure BCn (P : FP) (L : List (List Int)) (F : Pol (Pol (K P))) : Prop where
  row : ∀ j, Cn P (L.getD j []) (F.co j)
  last : L ≠ [] → L.getD (L.length - 1) [] ≠ []
theorem BCn.bz {L : List (List Int)} {F : Pol (Pol (K P))} (h : BCn P L F) : Go.Fd.bz P L = F := Pol.ext fun j => (h.row j).pz
theorem BCn.over {L : List (List Int)} {F : Pol (Pol (K P))} (h : BCn P L F) (j : Nat) (hj : L.length ≤ j) : F.co j = 0 := by
  have h0 : L.getD j [] = [] := by simp [List.getD_eq_getElem?_getD, List.getElem?_eq_none hj]
  have := h.row j
  rw [h0] at this
  exact this.nil_iff.1 rfl
theorem BCn.len {L : List (List Int)} {F : Pol (Pol (K P))} (h : BCn P L F) {n : Nat} (hn : ∀ j, n ≤ j → F.co j = 0) : L.length ≤ n := by
  refine Nat.le_of_not_lt fun hc => ?_
  have hne : L ≠ [] := fun e => by subst e; simp at hc
  refine h.last hne ?_
  exact (h.row _).nil_iff.2 (hn _ (by omega))
theorem BCn.uniq {L M : List (List Int)} {F : Pol (Pol (K P))} (h : BCn P L F) (k : BCn P M F) : L = M := by
  have hl : L.length = M.length := Nat.le_antisymm (h.len k.over) (k.len h.over)
  apply List.ext_getElem hl
  intro j h1 h2
  have e := (h.row j).uniq (k.row j)
  rw [List.getD_eq_getElem?_getD, List.getElem?_eq_getElem h1, Option.getD_some, List.getD_eq_getElem?_getD, List.getElem?_eq_getElem h2, Option.getD_some] at e
  exact e
theorem BCn.nil_iff {L : List (List Int)} {F : Pol (Pol (K P))} (h : BCn P L F) : L = [] ↔ F = 0 := by
  constructor
  · intro e
    subst e
    exact Pol.ext fun i => h.over i (by simp)
  · intro e
    subst e
    have := h.len (n := 0) (fun i _ => rfl)
    exact List.eq_nil_of_length_eq_zero (by omega)
def trimB : List (List Int) → List (List Int)
  | [] => []
  | a :: l => if trimB l = [] ∧ a = [] then [] else a :: trimB l
theorem trimB_at : ∀ (l : List (List Int)) (i : Nat), (trimB l).getD i [] = l.getD i []
  | [], i => rfl
  | a :: l, i => by
    rw [trimB]
    split
    · rename_i h
      cases i with
      | zero => simp [h.2]
      | succ i =>
        have := trimB_at l i
        rw [h.1] at this
        simpa using this
    · cases i with
      | zero => rfl
      | succ i => simpa using trimB_at l i
theorem trimB_last : ∀ (l : List (List Int)), trimB l ≠ [] → (trimB l).getD ((trimB l).length - 1) [] ≠ []
  | [], h => absurd rfl h
  | a :: l, h => by
    rw [trimB] at h ⊢
    split
    · rename_i h1
      rw [if_pos h1] at h
      exact absurd rfl h
    · rename_i h1
      cases ht : trimB l with
      | nil =>
        have ha : a ≠ [] := fun e => h1 ⟨ht, e⟩
        simpa using ha
      | cons b m =>
        have ih := trimB_last l (by rw [ht]; simp)
        rw [ht] at ih
        simpa using ih
theorem BCn.trim {L : List (List Int)} {F : Pol (Pol (K P))} (h : ∀ j, Cn P (L.getD j []) (F.co j)) : BCn P (trimB L) F :=
  ⟨fun j => by rw [trimB_at]; exact h j, trimB_last L⟩
noncomputable def val1 (f : Pol (K P)) (x : K P) : K P := pev (fun a => a) x f
noncomputable def val2 (F : Pol (Pol (K P))) (x y : K P) : K P := pev (fun f => val1 f x) y F
noncomputable def subst (F : Pol (Pol (K P))) (h : Pol (K P)) : Pol (K P) := pev (fun f => f) h F
theorem val1_hom (x : K P) : Hom (fun f : Pol (K P) => val1 f x) := pev_hom Hom.id x
theorem subst_hom (h : Pol (K P)) : Hom (fun F : Pol (Pol (K P)) => subst F h) := pev_hom Hom.id h
theorem val1_C (x a : K P) : val1 (pC a) x = a := pev_C Hom.id x a
end Go.Fd


namespace Go.Alg
theorem hom_evp {R S T : Type} [CR S] [CR T] {φ : R → S} {ψ : S → T} (h : Hom ψ) (x : S) (n : Nat) (f : PS R) : ψ (evp φ x n f) = evp (fun a => ψ (φ a)) (ψ x) n f := by
  rw [evp, h.sm, evp]
  exact sm_congr fun i _ => by rw [h.mul, h.npow]
section
variable {R S T : Type} [CR R] [CR S] [CR T]
noncomputable def sh1 (a : R) (f : Pol R) : Pol R := pev pC (pX + pC a) f
theorem sh1_hom (a : R) : Hom (fun f : Pol R => sh1 a f) := pev_hom pC_hom _
theorem sh1_co (a : R) {f : Pol R} {n : Nat} (hn : Sup n f.1) (k : Nat) : (sh1 a f).co k = evp (fun x => x) a (n - k) (hs k f.1) := by
  rw [hs_value, about, sh1, pev_eq pC_hom _ hn]
  have h1 := hom_evp (φ := (pC : R → Pol R)) co_hom (pX + pC a) n f.1
  have h2 : (fun b : R => (pC b : Pol R).1) = psC := rfl
  have h3 : (pX + pC a : Pol R).1 = lin a := add_comm _ _
  show (evp pC (pX + pC a) n f.1).1 k = _
  have h4 : (evp (pC : R → Pol R) (pX + pC a) n f.1).1 = evp psC (lin a) n f.1 := by
    rw [← h3, ← h2]; exact h1
  rw [h4]
def hsP (k : Nat) (f : Pol R) : Pol R := ⟨hs k f.1, by
  obtain ⟨n, hn⟩ := f.2
  exact ⟨n - k, hs_sup hn⟩⟩
theorem co_hsP (k : Nat) (f : Pol R) (i : Nat) : (hsP k f).co i = nm (bc (i + k) k) (f.co (i + k)) := rfl
theorem hsP_value (a : R) (f : Pol R) (k : Nat) : pev (fun x => x) a (hsP k f) = (sh1 a f).co k := by
  obtain ⟨n, hn⟩ := f.2
  rw [sh1_co a hn, pev_eq Hom.id a (f := hsP k f) (n := n - k) (hs_sup hn)]
  rfl
def mapP (φ : R → S) (h : Hom φ) (f : Pol R) : Pol S := ⟨fun i => φ (f.co i), by
  obtain ⟨n, hn⟩ := f.2
  exact ⟨n, fun i hi => by show φ (f.1 i) = 0; rw [hn i hi, h.zero]⟩⟩
theorem co_mapP (φ : R → S) (h : Hom φ) (f : Pol R) (i : Nat) : (mapP φ h f).co i = φ (f.co i) := rfl
theorem mapP_hom (φ : R → S) (h : Hom φ) : Hom (mapP φ h) := by
  refine ⟨fun a b => Pol.ext fun i => ?_, fun a b => Pol.ext fun i => ?_, Pol.ext fun i => ?_⟩
  · rw [co_mapP, co_add, h.add]; rfl
  · rw [co_mapP, co_mul, h.sm, co_mul]
    exact sm_congr fun j _ => h.mul _ _
  · rw [co_mapP, co_one, co_one]
    by_cases e : i = 0
    · rw [if_pos e, if_pos e, h.one]
    · rw [if_neg e, if_neg e, h.zero]
noncomputable def sh2 (a b : R) (F : Pol (Pol R)) : Pol (Pol R) := sh1 (pC b) (mapP (fun f => sh1 a f) (sh1_hom a) F)
theorem sh2_hom (a b : R) : Hom (sh2 a b) := ⟨fun F G => by rw [sh2, (mapP_hom _ _).add, (sh1_hom _).add]; rfl, fun F G => by rw [sh2, (mapP_hom _ _).mul, (sh1_hom _).mul]; rfl, by rw [sh2, (mapP_hom _ _).one, (sh1_hom _).one]⟩
def hs2 (a b : Nat) (F : Pol (Pol R)) : Pol (Pol R) := ⟨fun j => nm (bc (j + b) b) (hsP a (F.co (j + b))), by
  obtain ⟨n, hn⟩ := F.2
  refine ⟨n - b, fun j hj => ?_⟩
  have h0 : F.co (j + b) = 0 := hn (j + b) (by omega)
  have h1 : hsP a (0 : Pol R) = 0 := Pol.ext fun i => by rw [co_hsP, co_zero, nm_zero']; rfl
  show nm (bc (j + b) b) (hsP a (F.co (j + b))) = 0
  rw [h0, h1, nm_zero']⟩
theorem co_nm (m : Nat) (f : Pol R) (i : Nat) : (nm m f).co i = nm m (f.co i) := by
  induction m with
  | zero => rfl
  | succ m ih => rw [nm, co_add, ih]; rfl
theorem hom_nm {φ : R → S} (h : Hom φ) (m : Nat) (x : R) : φ (nm m x) = nm m (φ x) := by
  induction m with
  | zero => exact h.zero
  | succ m ih => rw [nm, h.add, ih]; rfl
theorem sm_co (F : Nat → Pol R) (k : Nat) : ∀ n, (sm n F).co k = sm n fun i => (F i).co k
  | 0 => rfl
  | n + 1 => by rw [sm, co_add, sm_co F k n]; rfl
theorem npow_pC (b : R) (j : Nat) : npow (pC b) j = pC (npow b j) := (pC_hom.npow b j).symm
theorem hs2_value (x y : R) (F : Pol (Pol R)) (a b : Nat) : pev (fun f => pev (fun c => c) x f) y (hs2 a b F) = ((sh2 x y F).co b).co a := by
  obtain ⟨n, hn⟩ := F.2
  have hm : Sup n (mapP (fun f => sh1 x f) (sh1_hom x) F).1 := fun i hi => by
    show sh1 x (F.1 i) = 0
    rw [hn i hi]; exact (sh1_hom x).zero
  have hh : Sup (n - b) (hs2 a b F).1 := fun j hj => by
    show nm (bc (j + b) b) (hsP a (F.co (j + b))) = 0
    have h0 : F.co (j + b) = 0 := hn (j + b) (by omega)
    have h1 : hsP a (0 : Pol R) = 0 := Pol.ext fun i => by rw [co_hsP, co_zero, nm_zero']; rfl
    rw [h0, h1, nm_zero']
  rw [sh2, sh1_co (pC y) hm, pev_eq (pev_hom Hom.id x) y hh, evp, evp, sm_co]
  refine sm_congr fun j _ => ?_
  show pev (fun c => c) x (nm (bc (j + b) b) (hsP a (F.co (j + b)))) * npow y j = (nm (bc (j + b) b) (sh1 x (F.co (j + b))) * npow (pC y) j).co a
  rw [npow_pC, mul_comm (nm _ (sh1 x _)), co_pC_mul, co_nm, ← hsP_value, hom_nm (pev_hom Hom.id x), mul_comm]
end
end Go.Alg


namespace Go.Alg
section
variable {R : Type} [CR R]
theorem pol_self (f : Pol R) : pev pC pX f = f := by
  obtain ⟨n, hn⟩ := f.2
  rw [pev_eq pC_hom pX hn]
  refine Subtype.ext ?_
  have h1 := hom_evp (φ := (pC : R → Pol R)) co_hom pX n f.1
  exact h1.trans (evp_psX n f.1 hn)
theorem sh1_C (a c : R) : sh1 a (pC c) = pC c := pev_C pC_hom _ c
theorem sh1_X (a : R) : sh1 a (pX : Pol R) = pX + pC a := pev_X pC_hom _
theorem sh1_inv (a : R) (f : Pol R) : sh1 (-a) (sh1 a f) = f := by
  have hψ : Hom (fun f : Pol R => sh1 (-a) (sh1 a f)) := ⟨fun f g => by rw [(sh1_hom a).add, (sh1_hom (-a)).add], fun f g => by rw [(sh1_hom a).mul, (sh1_hom (-a)).mul], by rw [(sh1_hom a).one, (sh1_hom (-a)).one]⟩
  have h := hom_pol hψ f
  have e1 : (fun c : R => sh1 (-a) (sh1 a (pC c))) = pC := funext fun c => by rw [sh1_C, sh1_C]
  have e2 : sh1 (-a) (sh1 a (pX : Pol R)) = pX := by
    rw [sh1_X, (sh1_hom (-a)).add, sh1_X, sh1_C, add_assoc, ← pC_hom.add, neg_add, pC_hom.zero, add_zero]
  have h2 : sh1 (-a) (sh1 a f) = pev (fun c : R => sh1 (-a) (sh1 a (pC c))) (sh1 (-a) (sh1 a pX)) f := h
  rw [h2, e1, e2, pol_self]
theorem sh1_zero {a : R} {f : Pol R} (h : sh1 a f = 0) : f = 0 := by
  rw [← sh1_inv a f, h]; exact (sh1_hom (-a)).zero
theorem sh2_zero {a b : R} {F : Pol (Pol R)} (h : sh2 a b F = 0) : F = 0 := by
  have h1 := sh1_zero h
  exact Pol.ext fun j => sh1_zero (a := a) (show sh1 a (F.co j) = 0 from congrArg (fun G => Pol.co G j) h1)
def ser (F : Pol (Pol R)) : PS (PS R) := fun j => (F.co j).1
theorem ser_hom : Hom (ser : Pol (Pol R) → PS (PS R)) := by
  refine ⟨fun F G => rfl, fun F G => PS.ext fun n => ?_, PS.ext fun n => ?_⟩
  · show ((F * G).co n).1 = _
    rw [co_mul, co_hom.sm, ps_mul]
    rfl
  · show ((1 : Pol (Pol R)).co n).1 = _
    rw [co_one, ps_one]
    by_cases h : n = 0
    · rw [if_pos h, if_pos h]; rfl
    · rw [if_neg h, if_neg h]; rfl
def Mult (n : Nat) (x y : R) (F : Pol (Pol R)) : Prop := OrdIs n (ser (sh2 x y F))
theorem Mult.uniq {n m : Nat} {x y : R} {F : Pol (Pol R)} (h : Mult n x y F) (k : Mult m x y F) : n = m := OrdIs.uniq h k
theorem Mult.mul (hR : NZD R) {n m : Nat} {x y : R} {F G : Pol (Pol R)} (h : Mult n x y F) (k : Mult m x y G) : Mult (n + m) x y (F * G) := by
  show OrdIs (n + m) (ser (sh2 x y (F * G)))
  rw [(sh2_hom x y).mul, ser_hom.mul]
  exact OrdIs.mul hR h k
theorem Mult.ne {n : Nat} {x y : R} {F : Pol (Pol R)} (h : Mult n x y F) : F ≠ 0 := fun e => by
  subst e
  have h2 := h.2
  rw [(sh2_hom x y).zero, ser_hom.zero] at h2
  refine h2 (PS.ext fun j => ?_)
  rw [form]
  by_cases hj : j ≤ n
  · rw [if_pos hj]; rfl
  · rw [if_neg hj]; rfl
theorem ordIs_iff {n : Nat} {f : PS (PS R)} : OrdIs n f ↔ (∀ i j, i + j < n → f j i = 0) ∧ ∃ i j, i + j = n ∧ f j i ≠ 0 := by
  constructor
  · rintro ⟨h1, h2⟩
    refine ⟨h1, Classical.byContradiction fun hc => h2 (PS.ext fun j => ?_)⟩
    rw [form]
    by_cases hj : j ≤ n
    · rw [if_pos hj]
      exact Classical.byContradiction fun hne => hc ⟨n - j, j, by omega, hne⟩
    · rw [if_neg hj]; rfl
  · rintro ⟨h1, i, j, h2, h3⟩
    refine ⟨h1, fun e => ?_⟩
    have := congrFun e j
    rw [show form n f j = if j ≤ n then f j (n - j) else 0 from rfl, if_pos (by omega), show n - j = i by omega] at this
    exact h3 this
theorem least_exists {p : Nat → Prop} (h : ∃ n, p n) : ∃ n, p n ∧ ∀ m, m < n → ¬ p m := by
  obtain ⟨n, hn⟩ := h
  induction n using Nat.strongRecOn with
  | _ n ih =>
    by_cases hl : ∃ m, m < n ∧ p m
    · obtain ⟨m, hm, hp⟩ := hl
      exact ih m hm hp
    · exact ⟨n, hn, fun m hm hp => hl ⟨m, hm, hp⟩⟩
def Wdeg (w d : Nat) (F : Pol (Pol R)) : Prop := WdIs w d (ser F)
theorem Wdeg.mul (hR : NZD R) {w n m : Nat} {F G : Pol (Pol R)} (h : Wdeg w n F) (k : Wdeg w m G) : Wdeg w (n + m) (F * G) := by
  show WdIs w (n + m) (ser (F * G))
  rw [ser_hom.mul]
  exact WdIs.mul hR h k
theorem Wdeg.uniq {w n m : Nat} {F : Pol (Pol R)} (h : Wdeg w n F) (k : Wdeg w m F) : n = m := WdIs.uniq h k
theorem Wdeg.ne {w n : Nat} {F : Pol (Pol R)} (h : Wdeg w n F) : F ≠ 0 := fun e => by
  subst e
  obtain ⟨_, i, j, _, h2⟩ := h
  exact h2 rfl
end
end Go.Alg


namespace Go.Alg
section
variable {R : Type} [CR R]
theorem sh1_sup {a : R} {f : Pol R} {n : Nat} (h : Sup n f.1) : Sup n (sh1 a f).1 := fun k hk => by
  show (sh1 a f).co k = 0
  rw [sh1_co a h, show n - k = 0 by omega]
  rfl
theorem sh1_first (a : R) (f : Pol R) : (sh1 a f).co 0 = pev (fun x => x) a f := by
  obtain ⟨n, hn⟩ := f.2
  rw [sh1_co a hn, pev_eq Hom.id a hn, Nat.sub_zero]
  exact sm_congr fun i _ => by rw [hs, Nat.add_zero, bc_zero, nm_one]
def Pol.tl (f : Pol R) : Pol R := ⟨f.1.tail, by
  obtain ⟨n, hn⟩ := f.2
  exact ⟨n, fun i hi => hn (i + 1) (by omega)⟩⟩
theorem pol_tl {f : Pol R} (h : f.co 0 = 0) : f = pX * f.tl := Pol.ext fun i => by
  cases i with
  | zero => rw [co_pX_zero, h]
  | succ i => rw [co_pX_mul]; rfl
theorem root_factor {a : R} {f : Pol R} {n : Nat} (h : pev (fun x => x) a f = 0) (hn : Sup (n + 1) f.1) : ∃ g : Pol R, f = (pX + pC (-a)) * g ∧ Sup n g.1 := by
  have h1 := pol_tl (f := sh1 a f) (by rw [sh1_first, h])
  refine ⟨sh1 (-a) (sh1 a f).tl, ?_, sh1_sup fun i hi => sh1_sup (a := a) hn (i + 1) (by omega)⟩
  rw [← sh1_X, ← (sh1_hom (-a)).mul, ← h1, sh1_inv]
theorem roots_le (hR : NZD R) : ∀ (n : Nat) (f : Pol R), f ≠ 0 → Sup (n + 1) f.1 → ∀ l : List R, l.Nodup → (∀ a ∈ l, pev (fun x => x) a f = 0) → l.length ≤ n
  | _, _, _, _, [], _, _ => Nat.zero_le _
  | 0, f, hf, hs, a :: l, _, hr => by
    exfalso
    refine hf (Pol.ext fun i => ?_)
    have h1 := hr a (List.mem_cons_self ..)
    rw [pev_eq Hom.id a hs] at h1
    have h2 : f.co 0 = 0 := by
      have h3 : (0 : R) + f.1 0 * 1 = 0 := h1
      rw [zero_add, mul_one] at h3
      exact h3
    cases i with
    | zero => exact h2
    | succ i => exact hs (i + 1) (by omega)
  | n + 1, f, hf, hs, a :: l, hnd, hr => by
    obtain ⟨g, hg, hgs⟩ := root_factor (hr a (List.mem_cons_self ..)) hs
    have hg0 : g ≠ 0 := fun e => hf (by rw [hg, e, mul_zero])
    have hnd' := List.nodup_cons.1 hnd
    have := roots_le hR n g hg0 hgs l hnd'.2 fun b hb => by
      have h1 := hr b (List.mem_cons_of_mem _ hb)
      rw [hg, (pev_hom Hom.id b).mul, (pev_hom Hom.id b).add, pev_X Hom.id, pev_C Hom.id] at h1
      rcases hR _ _ h1 with e | e
      · exact absurd (eq_of_add_neg e) (fun e2 => hnd'.1 (e2 ▸ hb))
      · exact e
    simp only [List.length_cons]
    omega
theorem pol_nzd (hR : NZD R) : NZD (Pol R) := fun f g h => by
  have h1 : f.1 * g.1 = 0 := congrArg Subtype.val h
  rcases ps_nzd hR f.1 g.1 h1 with e | e
  · exact .inl (Subtype.ext e)
  · exact .inr (Subtype.ext e)
end
end Go.Alg


namespace Go.Fd
open Go.Pl Go.Alg
variable {P : FP}
theorem inK0 : inK P 0 = 0 := inK_in (by have := P.q_two; omega)
theorem inK1 : inK P 1 = 1 := inK_in (by have := P.q_two; omega)
noncomputable def cl (f : Pol (K P)) : List Int := trimL (tab (Classical.choose f.2) fun i => (f.co i).1)
theorem tab_at {α : Type} {m : Nat} {f : Nat → α} {i : Nat} {d : α} : (tab m f).getD i d = if i < m then f i else d := by
  rw [List.getD_eq_getElem?_getD]
  split
  · rename_i h; rw [tab_get h]; rfl
  · rename_i h
    rw [List.getElem?_eq_none (by rw [tab_length]; omega)]; rfl
theorem tab_cn {f : Pol (K P)} {m : Nat} (h : ∀ i, m ≤ i → f.co i = 0) : Cn P (trimL (tab m fun i => (f.co i).1)) f := by
  have e : pz P (tab m fun i => (f.co i).1) = f := Pol.ext fun i => by
    rw [co_pz, tab_at]
    split
    · rw [inK_val]
    · rename_i hi
      rw [h i (by omega)]
      exact inK_in (by have := P.q_two; omega)
  have h1 := Cn.trim (P := P) (l := tab m fun i => (f.co i).1) (fun x hx => by
    rw [tab, List.mem_map] at hx
    obtain ⟨i, _, rfl⟩ := hx
    exact (f.co i).2)
  rw [e] at h1
  exact h1
theorem cl_cn (f : Pol (K P)) : Cn P (cl f) f := tab_cn (Classical.choose_spec f.2)
theorem cl_of {r : List Int} {f : Pol (K P)} (h : Cn P r f) : cl f = r := (cl_cn f).uniq h
theorem cl_tab {f : Pol (K P)} {m : Nat} (h : ∀ i, m ≤ i → f.co i = 0) : trimL (tab m fun i => (f.co i).1) = cl f := (cl_of (tab_cn h)).symm
theorem pz_cl (f : Pol (K P)) : pz P (cl f) = f := (cl_cn f).pz
theorem cl_len {f : Pol (K P)} {n : Nat} (h : ∀ i, n ≤ i → f.co i = 0) : (cl f).length ≤ n := (cl_cn f).len h
theorem cl_over (f : Pol (K P)) {i : Nat} (h : (cl f).length ≤ i) : f.co i = 0 := (cl_cn f).over i h
theorem co_pz_over {z : List Int} {i : Nat} (h : z.length ≤ i) : (pz P z).co i = 0 := by
  rw [co_pz, List.getD_eq_getElem?_getD, List.getElem?_eq_none h]
  exact inK0
theorem cl_pz_len (z : List Int) : (cl (pz P z)).length ≤ z.length := cl_len fun _ h => co_pz_over h
theorem cl_zero : cl (0 : Pol (K P)) = [] := cl_of Cn.zero
theorem cl_nil {f : Pol (K P)} : cl f = [] ↔ f = 0 := (cl_cn f).nil_iff
theorem co_mul_over {f g : Pol (K P)} {n m : Nat} (hf : ∀ i, n ≤ i → f.co i = 0) (hg : ∀ i, m ≤ i → g.co i = 0) {i : Nat} (h : n + m ≤ i + 1) : (f * g).co i = 0 := by
  rw [co_mul]
  refine sm_zero fun j hj => ?_
  rcases Nat.lt_or_ge j n with e | e
  · rw [hg (i - j) (by omega), mul_zero]
  · rw [hf j e, zero_mul]
theorem cl_mul_len (f g : Pol (K P)) : (cl (f * g)).length ≤ (cl f).length + (cl g).length - 1 := cl_len fun i h => by
  by_cases h0 : (cl f).length = 0
  · have : f = 0 := cl_nil.1 (List.eq_nil_of_length_eq_zero h0)
    rw [this, zero_mul]; rfl
  · exact co_mul_over (fun i hi => cl_over f hi) (fun i hi => cl_over g hi) (by omega)
theorem pz_one : pz P [1] = 1 := Pol.ext fun i => by
  rw [co_pz, co_one]
  cases i with
  | zero => exact inK1
  | succ i => exact inK0
theorem k_zero : (0 : K P) = inK P 0 := (inK_in (by have := P.q_two; omega)).symm
theorem cl_mul_tab (hK : NZD (K P)) {f g : Pol (K P)} (hf : f ≠ 0) (hg : g ≠ 0) : tab ((cl f).length + (cl g).length - 1) (fun i => ((f * g).co i).1) = cl (f * g) := by
  have h0 : cl f ≠ [] := fun e => hf (cl_nil.1 e)
  have h1 : cl g ≠ [] := fun e => hg (cl_nil.1 e)
  have l0 : 0 < (cl f).length := List.length_pos_iff.2 h0
  have l1 : 0 < (cl g).length := List.length_pos_iff.2 h1
  have hover : ∀ i, (cl f).length + (cl g).length - 1 ≤ i → (f * g).co i = 0 := fun i hi => co_mul_over (fun i hi => cl_over f hi) (fun i hi => cl_over g hi) (by omega)
  have hl : f.co ((cl f).length - 1) ≠ 0 := fun e => (cl_cn f).last h0 (by rw [(cl_cn f).at, e]; rfl)
  have hm : g.co ((cl g).length - 1) ≠ 0 := fun e => (cl_cn g).last h1 (by rw [(cl_cn g).at, e]; rfl)
  have ht : (f * g).co ((cl f).length + (cl g).length - 1 - 1) ≠ 0 := by
    rw [co_mul, sm_one (k := (cl f).length - 1) (by omega) (fun i hi hne => ?_)]
    · rw [show (cl f).length + (cl g).length - 1 - 1 - ((cl f).length - 1) = (cl g).length - 1 by omega]
      intro e
      rcases hK _ _ e with h | h
      · exact hl h
      · exact hm h
    · rcases Nat.lt_or_ge i ((cl f).length - 1) with e | e
      · rw [cl_over g (i := (cl f).length + (cl g).length - 1 - 1 - i) (by omega), mul_zero]
      · rw [cl_over f (i := i) (by omega), zero_mul]
  refine (cl_of ⟨fun x hx => ?_, fun i => ?_, fun _ => ?_⟩).symm
  · rw [tab, List.mem_map] at hx
    obtain ⟨i, _, rfl⟩ := hx
    exact ((f * g).co i).2
  · rw [tab_at]
    split
    · rw [inK_val]
    · rw [hover i (by omega)]
      exact k_zero.symm
  · rw [tab_length, tab_at, if_pos (by omega)]
    exact fun e => ht (Subtype.ext e)
noncomputable def bcl (F : Pol (Pol (K P))) : List (List Int) := trimB (tab (Classical.choose F.2) fun j => cl (F.co j))
theorem btab_cn {F : Pol (Pol (K P))} {m : Nat} (h : ∀ j, m ≤ j → F.co j = 0) : BCn P (trimB (tab m fun j => cl (F.co j))) F := BCn.trim fun j => by
  rw [tab_at]
  split
  · exact cl_cn _
  · rename_i hj
    rw [h j (by omega)]
    exact Cn.zero
theorem bcl_cn (F : Pol (Pol (K P))) : BCn P (bcl F) F := btab_cn (Classical.choose_spec F.2)
theorem bcl_of {L : List (List Int)} {F : Pol (Pol (K P))} (h : BCn P L F) : bcl F = L := (bcl_cn F).uniq h
theorem bcl_tab {F : Pol (Pol (K P))} {m : Nat} (h : ∀ j, m ≤ j → F.co j = 0) : trimB (tab m fun j => cl (F.co j)) = bcl F := (bcl_of (btab_cn h)).symm
theorem bz_bcl (F : Pol (Pol (K P))) : bz P (bcl F) = F := (bcl_cn F).bz
theorem bcl_len {F : Pol (Pol (K P))} {n : Nat} (h : ∀ j, n ≤ j → F.co j = 0) : (bcl F).length ≤ n := (bcl_cn F).len h
theorem bcl_over (F : Pol (Pol (K P))) {j : Nat} (h : (bcl F).length ≤ j) : F.co j = 0 := (bcl_cn F).over j h
theorem bcl_nil {F : Pol (Pol (K P))} : bcl F = [] ↔ F = 0 := (bcl_cn F).nil_iff
theorem bcl_row (F : Pol (Pol (K P))) (j : Nat) : (bcl F).getD j [] = cl (F.co j) := (cl_of ((bcl_cn F).row j)).symm
theorem co_bz_over {L : List (List Int)} {j : Nat} (h : L.length ≤ j) : (bz P L).co j = 0 := by
  rw [co_bz, List.getD_eq_getElem?_getD, List.getElem?_eq_none h]
  exact pz_nil
end Go.Fd


namespace Go.Alg
section
variable {R S T : Type} [CR R] [CR S] [CR T]
theorem hom_pev {φ : R → S} {ψ : S → T} (hφ : Hom φ) (hψ : Hom ψ) (x : S) (f : Pol R) : ψ (pev φ x f) = pev (fun a => ψ (φ a)) (ψ x) f := by
  obtain ⟨n, hn⟩ := f.2
  have h2 : Hom (fun a => ψ (φ a)) := ⟨fun a b => by rw [hφ.add, hψ.add], fun a b => by rw [hφ.mul, hψ.mul], by rw [hφ.one, hψ.one]⟩
  rw [pev_eq hφ x hn, pev_eq h2 (ψ x) hn]
  exact hom_evp hψ x n f.1
end
section
variable {R : Type} [CR R]
theorem co_pXn : ∀ (i k : Nat), (npow (pX : Pol R) i).co k = if k = i then 1 else 0
  | 0, k => by rw [npow_zero, co_one]
  | i + 1, k => by
    rw [npow_succ, mul_comm]
    cases k with
    | zero => rw [co_pX_zero, if_neg (by omega)]
    | succ k =>
      rw [co_pX_mul, co_pXn i k]
      by_cases h : k = i
      · rw [if_pos h, if_pos (by omega)]
      · rw [if_neg h, if_neg (by omega)]
noncomputable def sub (F : Pol (Pol R)) (h : Pol R) : Pol R := pev (fun c => c) h F
theorem sub_hom (h : Pol R) : Hom (fun F : Pol (Pol R) => sub F h) := pev_hom Hom.id h
noncomputable def nx (r : R) (F : Pol (Pol R)) : Pol (Pol R) := pev pC (pC (pC r) + pC pX * pX) F
theorem nx_hom (r : R) : Hom (fun F : Pol (Pol R) => nx r F) := pev_hom pC_hom _
theorem sub_nx (r : R) (F : Pol (Pol R)) (h : Pol R) : sub (nx r F) h = sub F (pC r + pX * h) := by
  have h1 := hom_pev (φ := (pC : Pol R → Pol (Pol R))) (ψ := fun G => sub G h) pC_hom (sub_hom h) (pC (pC r) + pC pX * pX) F
  have e1 : (fun c : Pol R => sub (pC c) h) = fun c => c := funext fun c => pev_C Hom.id h c
  have e2 : sub (pC (pC r) + pC pX * pX) h = pC r + pX * h := by
    rw [(sub_hom h).add, (sub_hom h).mul]
    show pev (fun c => c) h (pC (pC r)) + pev (fun c => c) h (pC pX) * pev (fun c => c) h pX = _
    rw [pev_C Hom.id, pev_C Hom.id, pev_X Hom.id]
  show sub (pev pC (pC (pC r) + pC pX * pX) F) h = _
  have h2 : sub (pev pC (pC (pC r) + pC pX * pX) F) h = pev (fun c : Pol R => sub (pC c) h) (sub (pC (pC r) + pC pX * pX) h) F := h1
  rw [h2, e1, e2]; rfl
theorem nx_ne (hR : NZD R) (h1 : (1 : R) ≠ 0) {r : R} {F : Pol (Pol R)} (hF : F ≠ 0) : nx r F ≠ 0 := fun h => by
  obtain ⟨n, hn⟩ := F.2
  have hroot : ∀ g : Pol R, pev (fun c => c) (pC r + pX * g) F = 0 := fun g => by
    have := sub_nx r F g
    rw [h, (sub_hom g).zero] at this
    exact this.symm
  have hinj : ∀ i j : Nat, pC r + pX * npow (pX : Pol R) i = pC r + pX * npow pX j → i = j := fun i j e => by
    have e2 := add_left_cancel e
    have e3 := congrArg (fun g => Pol.co g (i + 1)) e2
    simp only [co_pX_mul] at e3
    rw [co_pXn, if_pos rfl, co_pXn] at e3
    exact Classical.byContradiction fun hne => by rw [if_neg hne] at e3; exact h1 e3
  have hl := roots_le (pol_nzd hR) n F hF (hn.mono (by omega)) ((List.range (n + 1)).map fun i => pC r + pX * npow (pX : Pol R) i)
    (by
      rw [List.Nodup, List.pairwise_map]
      exact List.nodup_range.imp fun {a b} hab e => hab (hinj a b e))
    (fun a ha => by
      obtain ⟨i, _, rfl⟩ := List.mem_map.1 ha
      exact hroot _)
  rw [List.length_map, List.length_range] at hl
  omega
theorem pol_split (h : Pol R) : h = pC (h.co 0) + pX * h.tl := Pol.ext fun i => by
  rw [co_add]
  cases i with
  | zero => rw [co_pX_zero, co_pC, if_pos rfl, add_zero]
  | succ i => rw [co_pX_mul, co_pC, if_neg (by omega), zero_add]; rfl
def line (F : Pol (Pol R)) : Pol R := ⟨fun j => (F.co j).co 0, by
  obtain ⟨n, hn⟩ := F.2
  exact ⟨n, fun j hj => by show (F.1 j).co 0 = 0; rw [hn j hj]; rfl⟩⟩
theorem co0_hom : Hom (fun f : Pol R => f.co 0) := by
  refine ⟨fun _ _ => rfl, fun f g => ?_, ?_⟩
  · rw [co_mul]
    show (0 : R) + f.co 0 * g.co 0 = _
    rw [zero_add]
  · rw [co_one, if_pos rfl]
theorem sub_line (F : Pol (Pol R)) (h : Pol R) : (sub F h).co 0 = pev (fun c => c) (h.co 0) (line F) := by
  obtain ⟨n, hn⟩ := F.2
  have hl : Sup n (line F).1 := fun j hj => by show (F.1 j).co 0 = 0; rw [hn j hj]; rfl
  have h1 := hom_pev (φ := fun c : Pol R => c) (ψ := fun f : Pol R => f.co 0) Hom.id co0_hom h F
  have h2 : (sub F h).co 0 = pev (fun c : Pol R => c.co 0) (h.co 0) F := h1
  rw [h2, pev_eq co0_hom _ hn, pev_eq Hom.id _ hl]
  rfl
end
end Go.Alg


namespace Go.Alg
section
variable {R : Type} [CR R]
theorem co_pXn_mul (f : Pol R) : ∀ (m i : Nat), (npow pX m * f).co i = if m ≤ i then f.co (i - m) else 0
  | 0, i => by rw [npow_zero, one_mul, if_pos (Nat.zero_le _), Nat.sub_zero]
  | m + 1, i => by
    rw [npow_succ, mul_comm (npow pX m), mul_assoc]
    cases i with
    | zero => rw [co_pX_zero, if_neg (by omega)]
    | succ i =>
      rw [co_pX_mul, co_pXn_mul f m i]
      by_cases h : m ≤ i
      · rw [if_pos h, if_pos (by omega), Nat.add_sub_add_right]
      · rw [if_neg h, if_neg (by omega)]
def dropP (m : Nat) (f : Pol R) : Pol R := ⟨fun i => f.1 (i + m), by
  obtain ⟨n, hn⟩ := f.2
  exact ⟨n, fun i hi => hn (i + m) (by omega)⟩⟩
theorem co_dropP (m : Nat) (f : Pol R) (i : Nat) : (dropP m f).co i = f.co (i + m) := rfl
theorem dropP_zero (m : Nat) : dropP m (0 : Pol R) = 0 := rfl
def dv (m : Nat) (F : Pol (Pol R)) : Pol (Pol R) := ⟨fun j => dropP m (F.1 j), by
  obtain ⟨n, hn⟩ := F.2
  exact ⟨n, fun j hj => by show dropP m (F.1 j) = 0; rw [hn j hj, dropP_zero]⟩⟩
theorem co_dv (m : Nat) (F : Pol (Pol R)) (j : Nat) : (dv m F).co j = dropP m (F.co j) := rfl
def Low (m : Nat) (F : Pol (Pol R)) : Prop := (∀ i j, i < m → (F.co j).co i = 0) ∧ ∃ j, (F.co j).co m ≠ 0
theorem low_exists {F : Pol (Pol R)} (h : F ≠ 0) : ∃ m, Low m F := by
  have hne : ∃ m, ∃ j, (F.co j).co m ≠ 0 := Classical.byContradiction fun hc => h (Pol.ext fun j => Pol.ext fun i => Classical.byContradiction fun hn => hc ⟨i, j, hn⟩)
  obtain ⟨m, h1, h2⟩ := least_exists hne
  exact ⟨m, fun i j hi => Classical.byContradiction fun hn => h2 i hi ⟨j, hn⟩, h1⟩
theorem Low.uniq {m n : Nat} {F : Pol (Pol R)} (h : Low m F) (k : Low n F) : m = n := by
  obtain ⟨h1, j, h2⟩ := h
  obtain ⟨k1, i, k2⟩ := k
  rcases Nat.lt_trichotomy m n with e | e | e
  · exact absurd (k1 m j e) h2
  · exact e
  · exact absurd (h1 n i e) k2
theorem Low.dv {m : Nat} {F : Pol (Pol R)} (h : Low m F) : F = pC (npow pX m) * Go.Alg.dv m F := Pol.ext fun j => Pol.ext fun i => by
  rw [co_pC_mul, co_dv, co_pXn_mul]
  by_cases e : m ≤ i
  · rw [if_pos e, co_dropP, Nat.sub_add_cancel e]
  · rw [if_neg e, h.1 i j (by omega)]
theorem Low.line {m : Nat} {F : Pol (Pol R)} (h : Low m F) : Go.Alg.line (Go.Alg.dv m F) ≠ 0 := fun e => by
  obtain ⟨_, j, h2⟩ := h
  refine h2 ?_
  have h3 := congrArg (fun f => Pol.co f j) e
  have h4 : (dropP m (F.co j)).co 0 = 0 := h3
  rw [co_dropP, Nat.zero_add] at h4
  exact h4
theorem pXn_ne (h1 : (1 : R) ≠ 0) (m : Nat) : npow (pX : Pol R) m ≠ 0 := fun e => by
  have h2 := congrArg (fun f => Pol.co f m) e
  simp only [co_pXn, if_pos] at h2
  exact h1 h2
theorem sub_dv (hR : NZD R) (h1 : (1 : R) ≠ 0) {m : Nat} {F : Pol (Pol R)} (h : Low m F) (g : Pol R) : sub F g = 0 ↔ sub (dv m F) g = 0 := by
  have e : sub F g = npow pX m * sub (dv m F) g := by
    have h2 := congrArg (fun G => sub G g) h.dv
    rw [(sub_hom g).mul] at h2
    rw [h2]
    show pev (fun c => c) g (pC (npow pX m)) * _ = _
    rw [pev_C Hom.id]
  rw [e]
  constructor
  · intro h2
    rcases pol_nzd hR _ _ h2 with h3 | h3
    · exact absurd h3 (pXn_ne h1 m)
    · exact h3
  · intro h2; rw [h2, mul_zero]
theorem search_step (hR : NZD R) (h1 : (1 : R) ≠ 0) {m : Nat} {F : Pol (Pol R)} (h : Low m F) (g : Pol R) :
    sub F g = 0 ↔ pev (fun c => c) (g.co 0) (line (dv m F)) = 0 ∧ sub (nx (g.co 0) (dv m F)) g.tl = 0 := by
  rw [sub_dv hR h1 h, sub_nx, ← pol_split, ← sub_line]
  constructor
  · intro h2
    refine ⟨?_, h2⟩
    rw [h2]; rfl
  · exact fun h2 => h2.2
end
end Go.Alg


namespace Go.Alg
section
variable {R : Type} [CR R]
def part (n : Nat) (f : Pol R) : Pol R := ⟨fun i => if i < n then f.co i else 0, n, fun i hi => if_neg (by omega)⟩
def mono (n : Nat) (a : R) : Pol R := ⟨fun i => if i = n then a else 0, n + 1, fun i hi => if_neg (by omega)⟩
theorem co_part (n : Nat) (f : Pol R) (i : Nat) : (part n f).co i = if i < n then f.co i else 0 := rfl
theorem co_mono (n : Nat) (a : R) (i : Nat) : (mono n a).co i = if i = n then a else 0 := rfl
theorem part_zero (f : Pol R) : part 0 f = 0 := Pol.ext fun i => by rw [co_part, if_neg (by omega)]; rfl
theorem part_succ (n : Nat) (f : Pol R) : part (n + 1) f = part n f + mono n (f.co n) := Pol.ext fun i => by
  rw [co_add, co_part, co_part, co_mono]
  rcases Nat.lt_trichotomy i n with h | h | h
  · rw [if_pos (by omega), if_pos h, if_neg (by omega), add_zero]
  · subst h; rw [if_pos (by omega), if_neg (by omega), if_pos rfl, zero_add]
  · rw [if_neg (by omega), if_neg (by omega), if_neg (by omega), zero_add]
theorem part_all {n : Nat} {f : Pol R} (h : ∀ i, n ≤ i → f.co i = 0) : part n f = f := Pol.ext fun i => by
  rw [co_part]
  split
  · rfl
  · exact (h i (by omega)).symm
theorem mono_mul (i j : Nat) (a b : R) : mono i a * mono j b = mono (i + j) (a * b) := Pol.ext fun t => by
  rw [co_mul, co_mono]
  by_cases h : t = i + j
  · subst h
    rw [if_pos rfl, sm_one (k := i) (by omega) (fun s hs hne => by rw [co_mono, if_neg hne, zero_mul]), co_mono, if_pos rfl, co_mono, if_pos (by omega)]
  · rw [if_neg h]
    refine sm_zero fun s hs => ?_
    rw [co_mono, co_mono]
    by_cases e : s = i
    · rw [if_pos e, if_neg (show ¬ t - s = j by omega), mul_zero]
    · rw [if_neg e, zero_mul]
def mst (f g : Pol R) (i j : Nat) : Pol R := part i f * g + mono i (f.co i) * part j g
theorem mst_zero (f g : Pol R) : mst f g 0 0 = 0 := by rw [mst, part_zero, part_zero, zero_mul, mul_zero, zero_add]
theorem mst_step (f g : Pol R) (i j t : Nat) : (mst f g i (j + 1)).co t = if t = i + j then (mst f g i j).co t + f.co i * g.co j else (mst f g i j).co t := by
  rw [mst, part_succ, mul_add, mono_mul, ← add_assoc, co_add, co_mono]
  split
  · rfl
  · rw [add_zero]; rfl
theorem mst_row {f g : Pol R} {i m : Nat} (h : ∀ t, m ≤ t → g.co t = 0) : mst f g i m = mst f g (i + 1) 0 := by
  rw [mst, mst, part_all h, part_zero, mul_zero, add_zero, part_succ, add_mul]
theorem mst_all {f g : Pol R} {n : Nat} (h : ∀ t, n ≤ t → f.co t = 0) : mst f g n 0 = f * g := by
  rw [mst, part_all h, part_zero, mul_zero, add_zero]
theorem dropP_step (n : Nat) (f : Pol R) : dropP n f = pC (f.co n) + pX * dropP (n + 1) f := Pol.ext fun i => by
  rw [co_add, co_dropP]
  cases i with
  | zero => rw [co_pX_zero, co_pC, if_pos rfl, add_zero, Nat.zero_add]
  | succ i => rw [co_pX_mul, co_pC, if_neg (by omega), zero_add, co_dropP, show i + 1 + n = i + (n + 1) by omega]
theorem dropP_all {n : Nat} {f : Pol R} (h : ∀ i, n ≤ i → f.co i = 0) : dropP n f = 0 := Pol.ext fun i => by
  rw [co_dropP, h _ (by omega)]; rfl
theorem dropP_none (f : Pol R) : dropP 0 f = f := Pol.ext fun i => by rw [co_dropP, Nat.add_zero]
theorem pev_horner {S : Type} [CR S] {φ : R → S} (h : Hom φ) (x : S) (n : Nat) (f : Pol R) : pev φ x (dropP n f) = φ (f.co n) + x * pev φ x (dropP (n + 1) f) := by
  rw [dropP_step, (pev_hom h x).add, (pev_hom h x).mul, pev_X h, pev_C h]
end
end Go.Alg
namespace Go.Fd
open Go.Pl Go.Alg
variable {P : FP}
theorem trimL_snoc0 : ∀ l : List Int, trimL (l ++ [0]) = trimL l
  | [] => rfl
  | a :: l => by rw [List.cons_append, trimL, trimL, trimL_snoc0 l]
theorem trimL_snoc {a : Int} (ha : a ≠ 0) : ∀ l : List Int, trimL (l ++ [a]) = l ++ [a]
  | [] => by
    show trimL [a] = [a]
    rw [trimL, if_neg (fun h => ha h.2)]; rfl
  | b :: l => by
    rw [List.cons_append, trimL, trimL_snoc ha l, if_neg (fun h => by have := h.1; simp at this)]
theorem take_snoc {α : Type} {l : List α} {k : Nat} (h : k < l.length) : l.take (k + 1) = l.take k ++ [l[k]] := by
  rw [List.take_add_one, List.getElem?_eq_getElem h]; rfl
theorem trimL_take0 {l : List Int} {k : Nat} (h : k < l.length) (h0 : l.getD k 0 = 0) : trimL (l.take (k + 1)) = trimL (l.take k) := by
  rw [List.getD_eq_getElem?_getD, List.getElem?_eq_getElem h, Option.getD_some] at h0
  rw [take_snoc h, h0, trimL_snoc0]
theorem trimL_takeN {l : List Int} {k : Nat} (h : k < l.length) (h0 : l.getD k 0 ≠ 0) : trimL (l.take (k + 1)) = l.take (k + 1) := by
  rw [List.getD_eq_getElem?_getD, List.getElem?_eq_getElem h, Option.getD_some] at h0
  rw [take_snoc h, trimL_snoc h0]
theorem trimL_len : ∀ l : List Int, (trimL l).length ≤ l.length
  | [] => Nat.le_refl _
  | a :: l => by
    rw [trimL]
    split
    · simp
    · have := trimL_len l
      simp only [List.length_cons]; omega
theorem trimL_take : ∀ l : List Int, l.take (trimL l).length = trimL l
  | [] => rfl
  | a :: l => by
    rw [trimL]
    split
    · rfl
    · rw [List.length_cons, List.take_succ_cons, trimL_take l]
theorem trimB_snoc0 : ∀ l : List (List Int), trimB (l ++ [[]]) = trimB l
  | [] => rfl
  | a :: l => by rw [List.cons_append, trimB, trimB, trimB_snoc0 l]
theorem trimB_snoc {a : List Int} (ha : a ≠ []) : ∀ l : List (List Int), trimB (l ++ [a]) = l ++ [a]
  | [] => by
    show trimB [a] = [a]
    rw [trimB, if_neg (fun h => ha h.2)]; rfl
  | b :: l => by
    rw [List.cons_append, trimB, trimB_snoc ha l, if_neg (fun h => by have := h.1; simp at this)]
theorem trimB_take0 {l : List (List Int)} {k : Nat} (h : k < l.length) (h0 : l.getD k [] = []) : trimB (l.take (k + 1)) = trimB (l.take k) := by
  rw [List.getD_eq_getElem?_getD, List.getElem?_eq_getElem h, Option.getD_some] at h0
  rw [take_snoc h, h0, trimB_snoc0]
theorem trimB_takeN {l : List (List Int)} {k : Nat} (h : k < l.length) (h0 : l.getD k [] ≠ []) : trimB (l.take (k + 1)) = l.take (k + 1) := by
  rw [List.getD_eq_getElem?_getD, List.getElem?_eq_getElem h, Option.getD_some] at h0
  rw [take_snoc h, trimB_snoc h0]
theorem trimB_len : ∀ l : List (List Int), (trimB l).length ≤ l.length
  | [] => Nat.le_refl _
  | a :: l => by
    rw [trimB]
    split
    · simp
    · have := trimB_len l
      simp only [List.length_cons]; omega
theorem trimB_take : ∀ l : List (List Int), l.take (trimB l).length = trimB l
  | [] => rfl
  | a :: l => by
    rw [trimB]
    split
    · rfl
    · rw [List.length_cons, List.take_succ_cons, trimB_take l]
noncomputable def prodP (P : FP) (L : List (List Int)) : Pol (K P) := L.foldl (fun f z => f * pz P z) 1
theorem prodP_snoc (L : List (List Int)) (z : List Int) : prodP P (L ++ [z]) = prodP P L * pz P z := by simp [prodP]
theorem prodP_two (a b : List Int) : prodP P [a, b] = pz P a * pz P b := by
  show 1 * pz P a * pz P b = _
  rw [one_mul]
theorem k_nzd {g : K P} (hg : HasOrder g (n1 P)) : NZD (K P) := fun a b h => by
  apply Classical.byContradiction
  intro hc
  have ha : a ≠ 0 := fun e => hc (.inl e)
  have hb : b ≠ 0 := fun e => hc (.inr e)
  apply hb
  have h1 := mul_invK hg ha
  rw [← one_mul b, ← h1, mul_comm a, mul_assoc, h, mul_zero]
theorem cl_one : cl (1 : Pol (K P)) = [1] := cl_of ⟨fun x hx => by
    obtain rfl : x = 1 := by simpa using hx
    have := P.q_two
    omega, fun i => by
    have h := congrArg (fun f : Pol (K P) => f.co i) (pz_one (P := P))
    exact h, fun _ => by simp⟩
theorem co_gi (z : List Int) {i : Int} (_ : 0 ≤ i) : inK P (gi z i) = (pz P z).co i.toNat := rfl
theorem cl_getD (f : Pol (K P)) (i : Nat) : (cl f).getD i 0 = (f.co i).1 := (cl_cn f).at i
theorem cl_gi (f : Pol (K P)) (i : Int) : gi (cl f) i = (f.co i.toNat).1 := (cl_cn f).at i.toNat
theorem Cn.lo {r : List Int} {f : Pol (K P)} (h : Cn P r f) {i : Int} (_ : 0 ≤ i) (_ : i < r.length) : 0 ≤ gi r i ∧ gi r i < P.q := by
  have : gi r i = (f.co i.toNat).1 := h.at i.toNat
  rw [this]
  exact (f.co i.toNat).2
def mstL (f h : Pol (K P)) (N i j : Nat) : List Int := tab N fun t => ((mst f h i j).co t).1
theorem mstL_length (f h : Pol (K P)) (N i j : Nat) : (mstL f h N i j).length = N := tab_length _ _
theorem mstL_zero (f h : Pol (K P)) (N : Nat) : mstL f h N 0 0 = tab N fun _ => 0 := tab_congr fun t _ => by rw [mst_zero]; rfl
theorem mstL_get {f h : Pol (K P)} {N i j : Nat} (hl : i + j < N) : gi (mstL f h N i j) ((i : Int) + j) = ((mst f h i j).co (i + j)).1 := by
  rw [mstL, gi_tab (by omega) (by omega)]
  congr 3
theorem mstL_step {f h : Pol (K P)} {N i j : Nat} {a b : Int} (ha : inK P a = f.co i) (hb : inK P b = h.co j) : si (mstL f h N i j) ((i : Int) + j) ((mst f h i j).co (i + j) + inK P a * inK P b).1 = mstL f h N i (j + 1) := by
  rw [mstL, si_tab]
  refine tab_congr fun t _ => ?_
  rw [mst_step, show ((i : Int) + j).toNat = i + j by omega, ha, hb]
  split
  · rename_i e; rw [e]
  · rfl
theorem mstL_row {f h : Pol (K P)} {N i m : Nat} (hh : ∀ t, m ≤ t → h.co t = 0) : mstL f h N i m = mstL f h N (i + 1) 0 := by rw [mstL, mstL, mst_row hh]
theorem mstL_all {f h : Pol (K P)} {N n : Nat} (hf : ∀ t, n ≤ t → f.co t = 0) : mstL f h N n 0 = tab N fun t => ((f * h).co t).1 := by rw [mstL, mst_all hf]
theorem cl_at (f : Pol (K P)) (i : Nat) : inK P (gi (cl f) i) = f.co i := by rw [cl_gi, inK_val]; rfl
theorem val1_horner (z : List Int) (x : K P) (i : Nat) : val1 (dropP i (pz P z)) x = val1 (dropP (i + 1) (pz P z)) x * x + inK P (gi z i) := by
  rw [val1, pev_horner Hom.id, add_comm, mul_comm]
  rfl
theorem val1_last (z : List Int) (x : K P) : val1 (dropP z.length (pz P z)) x = 0 := by
  rw [dropP_all (fun i h => co_pz_over h)]
  exact (val1_hom x).zero
end Go.Fd


namespace Go.Alg
section
variable {R : Type} [CR R]
theorem mul_over {f g : Pol R} {n m : Nat} (hf : ∀ i, n ≤ i → f.co i = 0) (hg : ∀ i, m ≤ i → g.co i = 0) {i : Nat} (h : n + m ≤ i + 1) : (f * g).co i = 0 := by
  rw [co_mul]
  refine sm_zero fun j hj => ?_
  rcases Nat.lt_or_ge j n with e | e
  · rw [hg (i - j) (by omega), mul_zero]
  · rw [hf j e, zero_mul]
def YB (n : Nat) (F : Pol R) : Prop := ∀ i, n ≤ i → F.co i = 0
theorem YB.mono {n m : Nat} {F : Pol R} (h : YB n F) (hm : n ≤ m) : YB m F := fun i hi => h i (by omega)
theorem YB.add {n : Nat} {F G : Pol R} (h : YB n F) (k : YB n G) : YB n (F + G) := fun i hi => by rw [co_add, h i hi, k i hi, zero_add]
theorem YB.mul {n m : Nat} {F G : Pol R} (h : YB n F) (k : YB m G) : YB (n + m) (F * G) := fun i hi => mul_over h k (by omega)
theorem YB.mul' {n m : Nat} {F G : Pol R} (h : YB n F) (k : YB (m + 1) G) : YB (n + m) (F * G) := fun i hi => mul_over h k (by omega)
theorem YB.zero (n : Nat) : YB n (0 : Pol R) := fun _ _ => rfl
theorem YB.pC (a : R) : YB 1 (Go.Alg.pC a) := fun i hi => by rw [co_pC, if_neg (by omega)]
theorem YB.pX : YB 2 (pX : Pol R) := fun i hi => by show psX i = 0; rw [psX, if_neg (by omega)]
def XB (n : Nat) (F : Pol (Pol R)) : Prop := ∀ j, YB n (F.co j)
theorem XB.mono {n m : Nat} {F : Pol (Pol R)} (h : XB n F) (hm : n ≤ m) : XB m F := fun j => (h j).mono hm
theorem XB.add {n : Nat} {F G : Pol (Pol R)} (h : XB n F) (k : XB n G) : XB n (F + G) := fun j => (h j).add (k j)
theorem XB.zero (n : Nat) : XB n (0 : Pol (Pol R)) := fun _ => YB.zero n
theorem XB.mul {n m : Nat} {F G : Pol (Pol R)} (h : XB n F) (k : XB m G) : XB (n + m) (F * G) := fun j i hi => by
  rw [co_mul, sm_co]
  exact sm_zero fun s _ => (h s).mul (k (j - s)) i hi
theorem XB.mul' {n m : Nat} {F G : Pol (Pol R)} (h : XB n F) (k : XB (m + 1) G) : XB (n + m) (F * G) := fun j i hi => by
  rw [co_mul, sm_co]
  exact sm_zero fun s _ => (h s).mul' (k (j - s)) i hi
theorem XB.pC {n : Nat} {a : Pol R} (h : YB n a) : XB n (Go.Alg.pC a) := fun j => by
  rw [co_pC]
  split
  · exact h
  · exact YB.zero n
theorem XB.pX {n : Nat} : XB (n + 1) (pX : Pol (Pol R)) := fun j i hi => by
  show (psX j : Pol R).co i = 0
  rw [psX]
  split
  · rw [co_one, if_neg (by omega)]
  · rfl
theorem XB.part {n m : Nat} {F : Pol (Pol R)} (h : XB n F) : XB n (part m F) := fun j => by
  rw [co_part]
  split
  · exact h j
  · exact YB.zero n
theorem XB.mono' {n m : Nat} {a : Pol R} (h : YB n a) : XB n (Go.Alg.mono m a) := fun j => by
  rw [co_mono]
  split
  · exact h
  · exact YB.zero n
theorem XB.mst {n m i j : Nat} {F G : Pol (Pol R)} (h : XB n F) (k : XB m G) : XB (n + m) (mst F G i j) :=
  XB.add (XB.mul h.part k) (XB.mul (XB.mono' (h i)) k.part)
theorem nx_horner (r : R) (F : Pol (Pol R)) (n : Nat) : nx r (dropP n F) = nx r (dropP (n + 1) F) * (pC (pC r) + pC pX * pX) + pC (F.co n) := by
  rw [nx, pev_horner pC_hom, add_comm, mul_comm]; rfl
theorem nx_bounds (r : R) {F : Pol (Pol R)} {n m : Nat} (hn : YB n F) (hm : XB m F) : ∀ i j, i + j = n → YB (j + 1) (nx r (dropP i F)) ∧ XB (m + j) (nx r (dropP i F))
  | i, 0, h => by
    rw [dropP_all (fun k hk => hn k (by omega)), (nx_hom r).zero]
    exact ⟨YB.zero _, XB.zero _⟩
  | i, j + 1, h => by
    obtain ⟨h1, h2⟩ := nx_bounds r hn hm (i + 1) j (by omega)
    rw [nx_horner]
    have y1 : YB 2 (pC (pC r) + pC pX * pX : Pol (Pol R)) := YB.add ((YB.pC _).mono (by omega)) (by rw [mul_comm]; exact YB.mul' YB.pX (YB.pC _))
    have x1 : XB 2 (pC (pC r) + pC pX * pX : Pol (Pol R)) := XB.add (XB.pC ((YB.pC r).mono (by omega))) (XB.mul' (XB.pC YB.pX) (XB.pX (n := 0)))
    exact ⟨YB.add (YB.mul' h1 y1) ((YB.pC _).mono (by omega)), XB.add (XB.mul' (n := m + j) (m := 1) h2 x1) ((XB.pC (hm i)).mono (by omega))⟩
end
end Go.Alg
namespace Go.Fd
open Go.Pl Go.Alg
variable {P : FP}
def RB (n : Nat) (L : List (List Int)) : Prop := ∀ j, (L.getD j []).length ≤ n
theorem RB.mono {n m : Nat} {L : List (List Int)} (h : RB n L) (hm : n ≤ m) : RB m L := fun j => Nat.le_trans (h j) hm
theorem RB.xb {n : Nat} {L : List (List Int)} (h : RB n L) : XB n (bz P L) := fun j i hi => by
  rw [co_bz]
  exact co_pz_over (Nat.le_trans (h j) hi)
theorem XB.rb {n : Nat} {F : Pol (Pol (K P))} (h : XB n F) : RB n (bcl F) := fun j => by
  rw [bcl_row]
  exact cl_len (h j)
theorem YB.bl {n : Nat} {F : Pol (Pol (K P))} (h : YB n F) : (bcl F).length ≤ n := bcl_len h
theorem YB.bz (L : List (List Int)) : YB L.length (Go.Fd.bz P L) := fun _ h => co_bz_over h
theorem YB.cl {n : Nat} {f : Pol (K P)} (h : YB n f) : (Go.Fd.cl f).length ≤ n := cl_len h
theorem YB.pz (z : List Int) : YB z.length (Go.Fd.pz P z) := fun _ h => co_pz_over h
theorem RB.at {n : Nat} {L : List (List Int)} (h : RB n L) {i : Nat} {z : List Int} (hz : L[i]? = some z) : z.length ≤ n := by
  have := h i
  rw [List.getD_eq_getElem?_getD, hz] at this
  exact this
noncomputable def mstB (F G : Pol (Pol (K P))) (N i j : Nat) : List (List Int) := tab N fun t => cl ((mst F G i j).co t)
theorem mstB_length (F G : Pol (Pol (K P))) (N i j : Nat) : (mstB F G N i j).length = N := tab_length _ _
theorem mstB_zero (F G : Pol (Pol (K P))) (N : Nat) : mstB F G N 0 0 = tab N fun _ => [] := tab_congr fun t _ => by rw [mst_zero]; exact cl_zero
theorem mstB_get {F G : Pol (Pol (K P))} {N i j t : Nat} (hl : t < N) : (mstB F G N i j).getD t [] = cl ((mst F G i j).co t) := by rw [mstB, tab_at, if_pos hl]
theorem mstB_step {F G : Pol (Pol (K P))} {N i j : Nat} {a b : Pol (K P)} (ha : a = F.co i) (hb : b = G.co j) : (mstB F G N i j).set ((i : Int) + j).toNat (cl ((mst F G i j).co (i + j) + a * b)) = mstB F G N i (j + 1) := by
  rw [mstB, tab_set]
  refine tab_congr fun t _ => ?_
  rw [mst_step, show ((i : Int) + j).toNat = i + j by omega, ha, hb]
  split
  · rename_i e; rw [e]
  · rfl
theorem mstB_row {F G : Pol (Pol (K P))} {N i m : Nat} (hh : ∀ t, m ≤ t → G.co t = 0) : mstB F G N i m = mstB F G N (i + 1) 0 := by rw [mstB, mstB, mst_row hh]
theorem mstB_all {F G : Pol (Pol (K P))} {N n : Nat} (hf : ∀ t, n ≤ t → F.co t = 0) : mstB F G N n 0 = tab N fun t => cl ((F * G).co t) := by rw [mstB, mst_all hf]
def updB (m : Nat) (f g : Nat → List Int) (i : Nat) : List (List Int) := tab m fun t => if t < i then f t else g t
theorem updB_length (m : Nat) (f g : Nat → List Int) (i : Nat) : (updB m f g i).length = m := tab_length _ _
theorem updB_zero (m : Nat) (f g : Nat → List Int) : updB m f g 0 = tab m g := tab_congr fun t _ => if_neg (by omega)
theorem updB_last (m : Nat) (f g : Nat → List Int) : updB m f g m = tab m f := tab_congr fun _ h => if_pos h
theorem updB_step {m : Nat} {f g : Nat → List Int} {i : Nat} : (updB m f g i).set ((i : Int)).toNat (f i) = updB m f g (i + 1) := by
  rw [updB, tab_set]
  refine tab_congr fun t _ => ?_
  rw [Int.toNat_natCast]
  by_cases h : t = i
  · rw [if_pos h, if_pos (by omega), h]
  · rw [if_neg h]
    by_cases h2 : t < i
    · rw [if_pos h2, if_pos (by omega)]
    · rw [if_neg h2, if_neg (by omega)]
theorem updB_skip {m : Nat} {f g : Nat → List Int} {i : Nat} (h : g i = f i) : updB m f g i = updB m f g (i + 1) := by
  refine tab_congr fun t _ => ?_
  by_cases h1 : t = i
  · rw [if_neg (by omega), if_pos (by omega), h1, h]
  · by_cases h2 : t < i
    · rw [if_pos h2, if_pos (by omega)]
    · rw [if_neg h2, if_neg (by omega)]
theorem bz_two (a b : List Int) : bz P [a, b] = pC (pz P a) + pC (pz P b) * pX := Pol.ext fun j => by
  rw [co_add, co_bz, co_pC, co_pC_mul]
  match j with
  | 0 =>
    show pz P a = _ + _ * (psX 0 : Pol (K P))
    rw [if_pos rfl, psX, if_neg (by omega), mul_zero, add_zero]
  | 1 =>
    show pz P b = _ + _ * (psX 1 : Pol (K P))
    rw [if_neg (by omega), psX, if_pos rfl, mul_one, zero_add]
  | j + 2 =>
    show pz P [] = _ + _ * (psX (j + 2) : Pol (K P))
    rw [if_neg (by omega), psX, if_neg (by omega), mul_zero, add_zero, pz_nil]
theorem bz_one (a : List Int) : bz P [a] = pC (pz P a) := Pol.ext fun j => by
  rw [co_bz, co_pC]
  match j with
  | 0 => rfl
  | j + 1 => rw [if_neg (by omega)]; exact pz_nil
theorem pz_single (a : Int) : pz P [a] = pC (inK P a) := Pol.ext fun j => by
  rw [co_pz, co_pC]
  match j with
  | 0 => rfl
  | j + 1 => rw [if_neg (by omega)]; exact inK0
theorem pz_x : pz P [0, 1] = pX := Pol.ext fun j => by
  rw [co_pz]
  match j with
  | 0 => exact inK0
  | 1 => exact inK1
  | j + 2 => exact inK0
theorem bcl_zero : bcl (0 : Pol (Pol (K P))) = [] := bcl_nil.2 rfl
end Go.Fd


namespace Go.Alg
section
variable {R : Type} [CR R]
theorem sh1_yb (a : R) {n : Nat} {f : Pol R} (h : YB n f) : YB n (sh1 a f) := fun k hk => by
  rw [sh1_co a h k, show n - k = 0 by omega]; rfl
theorem sh1_step (a : R) (f : Pol R) (n : Nat) : sh1 a (dropP n f) = pC (f.co n) + (pX + pC a) * sh1 a (dropP (n + 1) f) := by
  rw [dropP_step, (sh1_hom a).add, (sh1_hom a).mul, sh1_C, sh1_X]
theorem mono_pC (i : Nat) (a : R) : mono i 1 * pC a = mono i a := by
  have : pC a = mono 0 a := rfl
  rw [this, mono_mul, one_mul]; rfl
theorem mono_pX (i : Nat) : mono i (1 : R) * pX = mono (i + 1) 1 := by
  have : (pX : Pol R) = mono 1 1 := rfl
  rw [this, mono_mul, one_mul]
def Inner (a : R) (c0 c : Pol R) (j : Nat) : Prop := sh1 a (dropP j c0) = pC (c.co j) + pX * sh1 a (dropP (j + 1) c) ∧ ∀ t, t < j → c.co t = c0.co t
theorem Inner.first (a : R) {c0 : Pol R} {n : Nat} (h : YB (n + 1) c0) : Inner a c0 c0 n := by
  refine ⟨?_, fun t _ => rfl⟩
  rw [sh1_step, dropP_all h, (sh1_hom a).zero, mul_zero, mul_zero]
theorem Inner.step {a : R} {c0 c c' : Pol R} {j : Nat} (h : Inner a c0 c (j + 1)) (hc : ∀ t, c'.co t = if t = j then c.co j + a * c.co (j + 1) else c.co t) : Inner a c0 c' j := by
  obtain ⟨h1, h2⟩ := h
  have hd : ∀ k, j < k → dropP k c' = dropP k c := fun k hk => Pol.ext fun i => by rw [co_dropP, co_dropP, hc, if_neg (by omega)]
  refine ⟨?_, fun t ht => by rw [hc, if_neg (by omega), h2 t (by omega)]⟩
  rw [sh1_step, h1, hd (j + 1) (by omega), sh1_step a c (j + 1), hc j, if_pos rfl, h2 j (by omega), pC_hom.add, pC_hom.mul]
  generalize sh1 a (dropP (j + 1 + 1) c) = T
  generalize (pX : Pol R) = X
  generalize pC (c0.co j) = u
  generalize pC (c.co (j + 1)) = v
  generalize pC a = A
  simp only [mul_add, mul_comm, mul_left_comm, add_assoc, add_comm, add_left_comm]
def Outer (a : R) (f c : Pol R) (i : Nat) : Prop := part i c + mono i 1 * sh1 a (dropP i c) = sh1 a f
theorem Outer.first (a : R) (f : Pol R) : Outer a f f 0 := by
  have : mono 0 (1 : R) = 1 := Pol.ext fun i => by rw [co_mono, co_one]
  rw [Outer, part_zero, zero_add, this, one_mul, dropP_none]
theorem Outer.step {a : R} {f c0 c : Pol R} {i : Nat} (h : Outer a f c0 i) (k : Inner a c0 c i) : Outer a f c (i + 1) := by
  rw [Outer] at h ⊢
  have e : part i c = part i c0 := Pol.ext fun t => by
    rw [co_part, co_part]
    split
    · exact k.2 t (by assumption)
    · rfl
  rw [← h, k.1, mul_add, mono_pC, ← mul_assoc, mono_pX, part_succ, e, add_assoc]
theorem Outer.last {a : R} {f c : Pol R} {n : Nat} (hn : YB n c) (h : Outer a f c n) : c = sh1 a f := by
  rw [Outer, part_all hn, dropP_all hn, (sh1_hom a).zero, mul_zero, add_zero] at h
  exact h
def trn (i : Nat) (G : Pol (Pol R)) : Pol R := ⟨fun j => (G.co j).co i, by
  obtain ⟨n, hn⟩ := G.2
  exact ⟨n, fun j hj => by show (G.1 j).co i = 0; rw [hn j hj]; rfl⟩⟩
def BestP (G : Pol (Pol R)) (V : Nat → Nat → Prop) (b : Int) : Prop :=
  (b = -1 ∧ ∀ i j, V i j → (G.co j).co i = 0) ∨ ∃ n : Nat, b = n ∧ (∃ i j, V i j ∧ i + j = n ∧ (G.co j).co i ≠ 0) ∧ ∀ i j, V i j → i + j < n → (G.co j).co i = 0
theorem BestP.keep {G : Pol (Pol R)} {V V' : Nat → Nat → Prop} {b : Int} {i j : Nat} (h : BestP G V b) (hV : ∀ s t, V' s t ↔ V s t ∨ (s = i ∧ t = j)) (hk : (G.co j).co i = 0 ∨ (0 ≤ b ∧ b ≤ (i : Int) + j)) : BestP G V' b := by
  rcases h with ⟨rfl, h⟩ | ⟨n, rfl, ⟨i0, j0, h1, h2, h3⟩, h4⟩
  · refine .inl ⟨rfl, fun s t hst => ?_⟩
    rcases (hV s t).1 hst with h0 | ⟨rfl, rfl⟩
    · exact h s t h0
    · rcases hk with h0 | h0
      · exact h0
      · omega
  · refine .inr ⟨n, rfl, ⟨i0, j0, (hV _ _).2 (.inl h1), h2, h3⟩, fun s t hst hlt => ?_⟩
    rcases (hV s t).1 hst with h0 | ⟨rfl, rfl⟩
    · exact h4 s t h0 hlt
    · rcases hk with h0 | h0
      · exact h0
      · omega
theorem BestP.take {G : Pol (Pol R)} {V V' : Nat → Nat → Prop} {b : Int} {i j : Nat} (h : BestP G V b) (hV : ∀ s t, V' s t ↔ V s t ∨ (s = i ∧ t = j)) (hc : (G.co j).co i ≠ 0) (hk : b < 0 ∨ (i : Int) + j < b) : BestP G V' ((i : Int) + j) := by
  refine .inr ⟨i + j, by omega, ⟨i, j, (hV _ _).2 (.inr ⟨rfl, rfl⟩), rfl, hc⟩, fun s t hst hlt => ?_⟩
  rcases (hV s t).1 hst with h0 | ⟨rfl, rfl⟩
  · rcases h with ⟨rfl, h⟩ | ⟨n, rfl, _, h4⟩
    · exact h s t h0
    · exact h4 s t h0 (by omega)
  · omega
theorem BestP.same {G : Pol (Pol R)} {V V' : Nat → Nat → Prop} {b : Int} (h : BestP G V b) (h1 : ∀ s t, V s t → V' s t) (h2 : ∀ s t, V' s t → V s t ∨ (G.co t).co s = 0) : BestP G V' b := by
  rcases h with ⟨rfl, h⟩ | ⟨n, rfl, ⟨i0, j0, k1, k2, k3⟩, h4⟩
  · exact .inl ⟨rfl, fun s t hst => (h2 s t hst).elim (h s t) id⟩
  · exact .inr ⟨n, rfl, ⟨i0, j0, h1 _ _ k1, k2, k3⟩, fun s t hst hlt => (h2 s t hst).elim (fun h0 => h4 s t h0 hlt) id⟩
def MulIs (x y : R) (F : Pol (Pol R)) (v : Int) : Prop := (F = 0 ∧ v = -1) ∨ ∃ n : Nat, Mult n x y F ∧ v = n
theorem MulIs.uniq {x y : R} {F : Pol (Pol R)} {v u : Int} (h : MulIs x y F v) (k : MulIs x y F u) : v = u := by
  rcases h with ⟨h1, rfl⟩ | ⟨n, h1, rfl⟩
  · rcases k with ⟨_, rfl⟩ | ⟨m, k1, rfl⟩
    · rfl
    · exact absurd h1 k1.ne
  · rcases k with ⟨k1, rfl⟩ | ⟨m, k1, rfl⟩
    · exact absurd k1 h1.ne
    · rw [h1.uniq k1]
theorem BestP.mul {x y : R} {F : Pol (Pol R)} {b : Int} (h : BestP (sh2 x y F) (fun _ _ => True) b) : MulIs x y F b := by
  rcases h with ⟨rfl, h⟩ | ⟨n, rfl, ⟨i, j, _, h2, h3⟩, h4⟩
  · refine .inl ⟨sh2_zero (a := x) (b := y) ?_, rfl⟩
    exact Pol.ext fun j => Pol.ext fun i => h i j trivial
  · refine .inr ⟨n, ?_, rfl⟩
    exact ordIs_iff.2 ⟨fun i j hij => h4 i j trivial hij, i, j, h2, h3⟩
end
end Go.Alg
namespace Go.Fd
open Go.Pl Go.Alg
variable {P : FP}
noncomputable def shl (a : K P) (f : Pol (K P)) : List Int := tab (cl f).length fun t => ((sh1 a f).co t).1
noncomputable def wdN (F : Pol (Pol (K P))) (w : Int) : Nat → Int
  | 0 => -1
  | j + 1 => if cl (F.co j) = [] then wdN F w j else max (wdN F w j) ((cl (F.co j)).length - 1 + w * j)
noncomputable def wdg (F : Pol (Pol (K P))) (w : Int) : Int := wdN F w (bcl F).length
end Go.Fd


namespace Go.Fd
open Go.Pl Go.Alg
variable {P : FP}
theorem wdN_spec (F : Pol (Pol (K P))) (w : Nat) : ∀ n, (wdN F w n = -1 ∧ ∀ j, j < n → F.co j = 0) ∨ ∃ d : Nat, wdN F w n = d ∧ (∃ i j, j < n ∧ i + w * j = d ∧ (F.co j).co i ≠ 0) ∧ ∀ i j, j < n → d < i + w * j → (F.co j).co i = 0
  | 0 => .inl ⟨rfl, fun j h => by omega⟩
  | n + 1 => by
    have ih := wdN_spec F w n
    rw [wdN]
    by_cases h0 : cl (F.co n) = []
    · rw [if_pos h0]
      have hz := cl_nil.1 h0
      rcases ih with ⟨h1, h2⟩ | ⟨d, h1, ⟨i, j, hj, hd, hne⟩, h3⟩
      · refine .inl ⟨h1, fun j hj => ?_⟩
        by_cases e : j = n
        · rw [e]; exact hz
        · exact h2 j (by omega)
      · refine .inr ⟨d, h1, ⟨i, j, by omega, hd, hne⟩, fun i j hj hij => ?_⟩
        by_cases e : j = n
        · rw [e, hz]; rfl
        · exact h3 i j (by omega) hij
    · rw [if_neg h0]
      have hl : 0 < (cl (F.co n)).length := List.length_pos_iff.2 h0
      have htop : (F.co n).co ((cl (F.co n)).length - 1) ≠ 0 := fun e => (cl_cn (F.co n)).last h0 (by rw [cl_getD, e]; rfl)
      have hover : ∀ i, (cl (F.co n)).length ≤ i → (F.co n).co i = 0 := fun i hi => cl_over _ hi
      have hcast : ((w : Int) * (n : Int)) = ((w * n : Nat) : Int) := by simp
      rw [hcast]
      rcases ih with ⟨h1, h2⟩ | ⟨d, h1, ⟨i, j, hj, hd, hne⟩, h3⟩
      · rw [h1]
        refine .inr ⟨(cl (F.co n)).length - 1 + w * n, by omega, ⟨(cl (F.co n)).length - 1, n, by omega, rfl, htop⟩, fun i j hj hij => ?_⟩
        by_cases e : j = n
        · subst e; exact hover i (by omega)
        · rw [h2 j (by omega)]; rfl
      · rw [h1]
        by_cases hm : d ≤ (cl (F.co n)).length - 1 + w * n
        · refine .inr ⟨(cl (F.co n)).length - 1 + w * n, by omega, ⟨(cl (F.co n)).length - 1, n, by omega, rfl, htop⟩, fun i j hj hij => ?_⟩
          by_cases e : j = n
          · subst e; exact hover i (by omega)
          · exact h3 i j (by omega) (by omega)
        · refine .inr ⟨d, by omega, ⟨i, j, by omega, hd, hne⟩, fun i j hj hij => ?_⟩
          by_cases e : j = n
          · subst e; exact hover i (by omega)
          · exact h3 i j (by omega) hij
theorem wdg_spec (F : Pol (Pol (K P))) (w : Nat) : (wdg F w = -1 ∧ F = 0) ∨ ∃ d : Nat, wdg F w = d ∧ Wdeg w d F := by
  rcases wdN_spec F w (bcl F).length with ⟨h1, h2⟩ | ⟨d, h1, ⟨i, j, hj, hd, hne⟩, h3⟩
  · refine .inl ⟨h1, Pol.ext fun j => ?_⟩
    rcases Nat.lt_or_ge j (bcl F).length with e | e
    · exact h2 j e
    · exact bcl_over F e
  · refine .inr ⟨d, h1, fun i j hij => ?_, i, j, hd, hne⟩
    rcases Nat.lt_or_ge j (bcl F).length with e | e
    · exact h3 i j e hij
    · show (F.co j).co i = 0
      rw [bcl_over F e]; rfl
end Go.Fd


namespace Go.Fd
open Go.Alg
variable {P : FP}
theorem nm_zK (n : Nat) (x : K P) : nm n x = zK P n * x := by
  induction n with
  | zero => rw [show ((0 : Nat) : Int) = 0 from rfl, zK_zero, zero_mul]; rfl
  | succ n ih =>
    rw [nm, ih, show ((n + 1 : Nat) : Int) = (n : Int) + 1 from by omega, zK_add, zK_one, add_mul, one_mul]
theorem pe_first (c : Nat → Int) (h : ∀ j, 1 ≤ j → c j = 0) : ∀ n, 1 ≤ n → pe P c n = zK P (c 0)
  | 0, h0 => by omega
  | 1, _ => by
    show pe P c 0 + zK P (c 0) * npow (xi P) 0 = _
    rw [npow_zero, mul_one]
    exact zero_add _
  | n + 2, _ => by
    show pe P c (n + 1) + zK P (c (n + 1)) * npow (xi P) (n + 1) = _
    rw [h (n + 1) (by omega), zK_zero, zero_mul, add_zero]
    exact pe_first c h (n + 1) (by omega)
theorem inK_small {c : Int} (h0 : 0 ≤ c) (h1 : c < P.p) : inK P c = zK P c := by
  have hq : P.p ≤ P.q := by
    have h2 := P.hp
    have h3 := P.hM
    obtain ⟨m, hm⟩ : ∃ m, P.M = m + 1 := ⟨P.M - 1, by omega⟩
    show P.p ≤ P.p ^ P.M
    rw [hm, Int.pow_succ]
    have h4 : 1 ≤ P.p ^ m := by
      have := Int.pow_pos (n := P.p) (m := m) (by omega)
      omega
    have := Int.mul_le_mul_of_nonneg_right h4 (show (0 : Int) ≤ P.p by omega)
    omega
  rw [← pe_self (inK P c)]
  have hd : ∀ j, (inK P c).v j = if j = 0 then c else 0 := fun j => by
    rw [inK_in ⟨h0, by omega⟩]
    show (dig P.p P.M c).getD j 0 = _
    rcases Nat.lt_or_ge j P.M with hj | hj
    · rw [dig_dd P.hp _ _ _ h0 hj]
      by_cases e : j = 0
      · subst e
        rw [if_pos rfl, Int.pow_zero, Int.ediv_one, Int.emod_eq_of_lt h0 h1]
      · rw [if_neg e]
        have hle : P.p ≤ P.p ^ j := by
          obtain ⟨m, rfl⟩ : ∃ m, j = m + 1 := ⟨j - 1, by omega⟩
          rw [Int.pow_succ]
          have h4 : 1 ≤ P.p ^ m := by
            have := Int.pow_pos (n := P.p) (m := m) (by have := P.hp; omega)
            omega
          have := Int.mul_le_mul_of_nonneg_right h4 (show (0 : Int) ≤ P.p by omega)
          omega
        rw [Int.ediv_eq_zero_of_lt h0 (by omega)]; rfl
    · have hl := dig_length P.p P.M c
      rw [if_neg (by have := P.hM; omega), List.getD_eq_getElem?_getD, List.getElem?_eq_none (by omega)]; rfl
  rw [pe_first _ (fun j hj => by rw [hd, if_neg (by omega)]) _ P.hM, hd, if_pos rfl]
end Go.Fd


namespace Go.Alg
end Go.Alg


namespace Go.Fd
open Go.Pl Go.Alg
variable {P : FP}
def pasc (p : Int) (i j : Nat) : List Int := tab (i + 2) fun t => if t < j then (bc (i + 1) t : Int) % p else if t = j ∧ 0 < j then (bc i (j - 1) : Int) % p else 0
def pascR (p : Int) (i : Nat) : List Int := tab (i + 1) fun t => (bc i t : Int) % p
end Go.Fd


namespace Go.Fd
open Go.Pl Go.Alg
variable {P : FP}
noncomputable def tt (F : Pol (Pol (K P))) (x0 y0 dx dy : K P) (b a : Nat) : K P := val2 (hs2 a b F) x0 y0 * (npow dx a * npow dy b)
noncomputable def tay (F : Pol (Pol (K P))) (x0 y0 dx dy : K P) (m b a : Nat) : K P := sm b (fun b => sm m (tt F x0 y0 dx dy b)) + sm a (tt F x0 y0 dx dy b)
end Go.Fd


namespace Go.Fd
open Go.Pl Go.Alg
variable {P : FP}
noncomputable def dd (x y : K P) (a b : Nat) (F : Pol (Pol (K P))) : K P := val2 (hs2 a b F) x y
theorem dd_sh (x y : K P) (a b : Nat) (F : Pol (Pol (K P))) : dd x y a b F = ((sh2 x y F).co b).co a := hs2_value x y F a b
theorem dd_add (x y : K P) (a b : Nat) (F G : Pol (Pol (K P))) : dd x y a b (F + G) = dd x y a b F + dd x y a b G := by
  rw [dd_sh, dd_sh, dd_sh, (sh2_hom x y).add]; rfl
theorem sh2_CC (x y : K P) (f : Pol (K P)) : sh2 x y (pC f) = pC (sh1 x f) := by
  have h1 : mapP (fun f => sh1 x f) (sh1_hom x) (pC f) = pC (sh1 x f) := Pol.ext fun i => by
    rw [co_mapP, co_pC, co_pC]
    split
    · rfl
    · exact (sh1_hom x).zero
  rw [sh2, h1, sh1_C]
theorem dd_C (x y c : K P) (a b : Nat) (F : Pol (Pol (K P))) : dd x y a b (pC (pC c) * F) = c * dd x y a b F := by
  rw [dd_sh, dd_sh, (sh2_hom x y).mul, sh2_CC, sh1_C, co_pC_mul, co_pC_mul]
noncomputable def mulX (F : Pol (Pol (K P))) : Pol (Pol (K P)) := pC pX * F
theorem co_mulX0 (F : Pol (Pol (K P))) (j : Nat) : ((mulX F).co j).co 0 = 0 := by rw [mulX, co_pC_mul, co_pX_zero]
theorem co_mulX (F : Pol (Pol (K P))) (j i : Nat) : ((mulX F).co j).co (i + 1) = (F.co j).co i := by rw [mulX, co_pC_mul, co_pX_mul]
theorem dd_X0 (x y : K P) (b : Nat) (F : Pol (Pol (K P))) : dd x y 0 b (mulX F) = x * dd x y 0 b F := by
  rw [dd_sh, dd_sh, mulX, (sh2_hom x y).mul, sh2_CC, sh1_X, co_pC_mul, add_mul, co_add, co_pX_zero, co_pC_mul, zero_add]
theorem dd_X (x y : K P) (a b : Nat) (F : Pol (Pol (K P))) : dd x y (a + 1) b (mulX F) = dd x y a b F + x * dd x y (a + 1) b F := by
  rw [dd_sh, dd_sh, dd_sh, mulX, (sh2_hom x y).mul, sh2_CC, sh1_X, co_pC_mul, add_mul, co_add, co_pX_mul, co_pC_mul]
def rc (w L : Nat) (F : Pol (Pol (K P))) (r : Nat) : K P := if w * (r % L) ≤ r / L then (F.co (r % L)).co (r / L - w * (r % L)) else 0
theorem rc_add (w L : Nat) (F G : Pol (Pol (K P))) (r : Nat) : rc w L (F + G) r = rc w L F r + rc w L G r := by
  rw [rc, rc, rc]
  split
  · rfl
  · rw [add_zero]
theorem rc_C (w L : Nat) (c : K P) (F : Pol (Pol (K P))) (r : Nat) : rc w L (pC (pC c) * F) r = c * rc w L F r := by
  rw [rc, rc]
  split
  · rw [co_pC_mul, co_pC_mul]
  · rw [mul_zero]
theorem rc_X {w L : Nat} (hL : 0 < L) (F : Pol (Pol (K P))) (r : Nat) : rc w L (mulX F) (r + L) = rc w L F r := by
  rw [rc, rc, Nat.add_mod_right, Nat.add_div_right r hL]
  by_cases h : w * (r % L) ≤ r / L
  · rw [if_pos (by omega), if_pos h, show r / L + 1 - w * (r % L) = (r / L - w * (r % L)) + 1 by omega, co_mulX]
  · rw [if_neg h]
    split
    · rw [show r / L + 1 - w * (r % L) = 0 by omega, co_mulX0]
    · rfl
def Low' (w L n : Nat) (F : Pol (Pol (K P))) : Prop := ∀ r, n ≤ r → rc w L F r = 0
def Lead (w L n : Nat) (F : Pol (Pol (K P))) : Prop := rc w L F n ≠ 0 ∧ Low' w L (n + 1) F
theorem rc_term {w L : Nat} {F : Pol (Pol (K P))} {i j : Nat} (hj : j < L) : rc w L F ((i + w * j) * L + j) = (F.co j).co i := by
  have h1 : ((i + w * j) * L + j) % L = j := by rw [Nat.mul_comm, Nat.mul_add_mod, Nat.mod_eq_of_lt hj]
  have h2 : ((i + w * j) * L + j) / L = i + w * j := by
    rw [Nat.mul_comm, Nat.mul_add_div (by omega), Nat.div_eq_of_lt hj, Nat.add_zero]
  rw [rc, h1, h2, if_pos (by omega), show i + w * j - w * j = i by omega]
theorem low_zero {w L : Nat} {F : Pol (Pol (K P))} (hY : YB L F) (h : Low' w L 0 F) : F = 0 := Pol.ext fun j => Pol.ext fun i => by
  rcases Nat.lt_or_ge j L with e | e
  · rw [← rc_term (w := w) (i := i) e]; exact h _ (Nat.zero_le _)
  · rw [hY j e]; rfl
theorem low_of {w L m : Nat} (hL : 0 < L) {F : Pol (Pol (K P))} (h : XB m F) : Low' w L ((m + w * L) * L) F := fun r hr => by
  rw [rc]
  split
  · have h1 : m + w * L ≤ r / L := (Nat.le_div_iff_mul_le hL).2 hr
    have h2 : w * (r % L) ≤ w * L := Nat.mul_le_mul_left w (Nat.le_of_lt (Nat.mod_lt _ hL))
    exact h _ _ (by omega)
  · rfl
theorem lead_of {w L : Nat} {F : Pol (Pol (K P))} (hY : YB L F) (h0 : F ≠ 0) : ∀ n, Low' w L n F → ∃ r, r < n ∧ Lead w L r F
  | 0, h => absurd (low_zero hY h) h0
  | n + 1, h => by
    by_cases hc : rc w L F n = 0
    · obtain ⟨r, h1, h2⟩ := lead_of hY h0 n (fun r hr => by
        by_cases e : r = n
        · rw [e, hc]
        · exact h r (by omega))
      exact ⟨r, by omega, h2⟩
    · exact ⟨n, Nat.lt_succ_self n, hc, h⟩
theorem Low'.mono {w L n m : Nat} {F : Pol (Pol (K P))} (h : Low' w L n F) (hm : n ≤ m) : Low' w L m F := fun r hr => h r (by omega)
theorem Low'.add {w L n : Nat} {F G : Pol (Pol (K P))} (h : Low' w L n F) (k : Low' w L n G) : Low' w L n (F + G) := fun r hr => by rw [rc_add, h r hr, k r hr, add_zero]
theorem Low'.C {w L n : Nat} {F : Pol (Pol (K P))} (h : Low' w L n F) (c : K P) : Low' w L n (pC (pC c) * F) := fun r hr => by rw [rc_C, h r hr, mul_zero]
theorem Low'.X {w L n : Nat} (hL : 0 < L) {F : Pol (Pol (K P))} (h : Low' w L n F) : Low' w L (n + L) (mulX F) := fun r hr => by
  obtain ⟨s, rfl⟩ : ∃ s, r = s + L := ⟨r - L, by omega⟩
  rw [rc_X hL]; exact h s (by omega)
theorem Lead.X {w L n : Nat} (hL : 0 < L) {F : Pol (Pol (K P))} (h : Lead w L n F) : Lead w L (n + L) (mulX F) :=
  ⟨by rw [rc_X hL]; exact h.1, by have := h.2.X hL; rwa [show n + 1 + L = n + L + 1 by omega] at this⟩
theorem Lead.add {w L n : Nat} {F G : Pol (Pol (K P))} (h : Lead w L n F) (k : Low' w L n G) : Lead w L n (F + G) :=
  ⟨by rw [rc_add, k n (Nat.le_refl _), add_zero]; exact h.1, h.2.add (k.mono (by omega))⟩
noncomputable def mulXs : Nat → Pol (Pol (K P)) → Pol (Pol (K P))
  | 0, F => F
  | k + 1, F => mulX (mulXs k F)
theorem Lead.Xs {w L n : Nat} (hL : 0 < L) {F : Pol (Pol (K P))} (h : Lead w L n F) : ∀ k, Lead w L (n + k * L) (mulXs k F)
  | 0 => by rw [Nat.zero_mul]; exact h
  | k + 1 => by
    have := (h.Xs hL k).X hL
    rwa [show n + k * L + L = n + (k + 1) * L by rw [Nat.add_mul]; omega] at this
theorem k_one_ne : (1 : K P) ≠ 0 := fun e => by
  have h := congrArg Subtype.val e
  have h1 : ((1 : K P)).1 = 1 := by
    have h2 := congrArg Subtype.val (inK1 (P := P))
    rw [inK_in ⟨by omega, by have := P.q_two; omega⟩] at h2
    exact h2.symm
  rw [h1] at h
  exact absurd h (by show ¬ ((1 : Int) = 0); omega)
def MC (L : Nat) (C : K P → K P → Nat → Nat → Prop) (F : Pol (Pol (K P))) : Prop := YB L F ∧ ∀ x y a b, C x y a b → dd x y a b F = 0
theorem YB.mulC {L : Nat} {F : Pol (Pol (K P))} (h : YB L F) (f : Pol (K P)) : YB L (pC f * F) := fun j hj => by rw [co_pC_mul, h j hj, mul_zero]
theorem MC.add {L : Nat} {C : K P → K P → Nat → Nat → Prop} {F G : Pol (Pol (K P))} (h : MC L C F) (k : MC L C G) : MC L C (F + G) := ⟨h.1.add k.1, fun x y a b hc => by rw [dd_add, h.2 x y a b hc, k.2 x y a b hc, add_zero]⟩
theorem MC.C {L : Nat} {C : K P → K P → Nat → Nat → Prop} {F : Pol (Pol (K P))} (h : MC L C F) (c : K P) : MC L C (pC (pC c) * F) := ⟨YB.mulC h.1 _, fun x y a b hc => by rw [dd_C, h.2 x y a b hc, mul_zero]⟩
def Dn (C : K P → K P → Nat → Nat → Prop) : Prop := ∀ x y a b, C x y (a + 1) b → C x y a b
theorem MC.X {L : Nat} {C : K P → K P → Nat → Nat → Prop} (hC : Dn C) {F : Pol (Pol (K P))} (h : MC L C F) : MC L C (mulX F) := ⟨YB.mulC h.1 _, fun x y a b hc => by
  cases a with
  | zero => rw [dd_X0, h.2 x y 0 b hc, mul_zero]
  | succ a => rw [dd_X, h.2 x y (a + 1) b hc, h.2 x y a b (hC x y a b hc), mul_zero, add_zero]⟩
theorem MC.Xs {L : Nat} {C : K P → K P → Nat → Nat → Prop} (hC : Dn C) {F : Pol (Pol (K P))} (h : MC L C F) : ∀ k, MC L C (mulXs k F)
  | 0 => h
  | k + 1 => (h.Xs hC k).X hC
structure KI (w L : Nat) (C : K P → K P → Nat → Nat → Prop) (B : Nat → Pol (Pol (K P))) (d : Nat → Nat) : Prop where
  mem : ∀ j, j < L → MC L C (B j)
  lead : ∀ j, j < L → Lead w L (d j * L + j) (B j)
  least : ∀ F r, MC L C F → Lead w L r F → d (r % L) * L + r % L ≤ r
theorem KI.congr {w L : Nat} {C C' : K P → K P → Nat → Nat → Prop} {B : Nat → Pol (Pol (K P))} {d : Nat → Nat} (h : KI w L C B d) (hc : ∀ x y a b, C' x y a b ↔ C x y a b) : KI w L C' B d := by
  have : C' = C := funext fun x => funext fun y => funext fun a => funext fun b => propext (hc x y a b)
  rw [this]; exact h
theorem KI.first {w L : Nat} (_ : 0 < L) : KI w L (fun (_ _ : K P) _ _ => False) (fun j => npow pX j) (fun j => w * j) := by
  have hn : ∀ j t : Nat, (npow pX j : Pol (Pol (K P))).co t = if t = j then 1 else 0 := by
    intro j
    induction j with
    | zero => intro t; rw [npow_zero, co_one]
    | succ j ih =>
      intro t
      rw [npow_succ, mul_comm]
      cases t with
      | zero => rw [co_pX_zero, if_neg (by omega)]
      | succ t =>
        rw [co_pX_mul, ih]
        by_cases e : t = j
        · rw [if_pos e, if_pos (by omega)]
        · rw [if_neg e, if_neg (by omega)]
  refine ⟨fun j hj => ⟨fun i hi => by rw [hn, if_neg (by omega)], fun x y a b h => h.elim⟩, fun j hj => ?_, fun F r hF hr => ?_⟩
  · have h1 : (1 : K P) ≠ 0 := k_one_ne
    have h0 := rc_term (w := w) (F := (npow pX j : Pol (Pol (K P)))) (i := 0) hj
    rw [Nat.zero_add] at h0
    refine ⟨by rw [h0, hn, if_pos rfl, co_one, if_pos rfl]; exact h1, fun r hr => ?_⟩
    rw [rc]
    split
    · rename_i hw
      rw [hn]
      split
      · rename_i e
        rw [co_one]
        split
        · rename_i e2
          have h3 := Nat.div_add_mod r L
          rw [e] at h3 hw e2
          have : r / L = w * j := by omega
          rw [this, Nat.mul_comm] at h3
          omega
        · rfl
      · rfl
    · rfl
  · have h1 := hr.1
    rw [rc] at h1
    split at h1
    · rename_i hw
      have h3 := Nat.div_add_mod r L
      have : w * (r % L) * L ≤ r / L * L := Nat.mul_le_mul_right L hw
      rw [Nat.mul_comm (r / L)] at this
      omega
    · exact absurd rfl h1
theorem KI.gap {w L : Nat} {C : K P → K P → Nat → Nat → Prop} {B : Nat → Pol (Pol (K P))} {d : Nat → Nat} (hK : NZD (K P)) (hI : ∀ a : K P, a ≠ 0 → ∃ b, b * a = 1) (h : KI w L C B d) (hC : Dn C) (hL : 0 < L) {x y : K P} {a b : Nat} (hab : a = 0 ∨ C x y (a - 1) b) (R : Nat)
    (hz : ∀ j, j < L → d j * L + j < R → dd x y a b (B j) = 0) : ∀ n, n ≤ R → ∀ G, MC L C G → Low' w L n G → dd x y a b G = 0
  | 0, _, G, hG, hl => by rw [low_zero hG.1 hl, dd_sh, (sh2_hom x y).zero]; rfl
  | n + 1, hn, G, hG, hl => by
    by_cases hc : rc w L G n = 0
    · exact KI.gap hK hI h hC hL hab R hz n (by omega) G hG fun r hr => by
        by_cases e : r = n
        · rw [e, hc]
        · exact hl r (by omega)
    · have hld : Lead w L n G := ⟨hc, hl⟩
      have hj : n % L < L := Nat.mod_lt _ hL
      have hle := h.least G n hG hld
      obtain ⟨j, hjj⟩ : ∃ j, j = n % L := ⟨_, rfl⟩
      rw [← hjj] at hle hj
      have hdm := Nat.div_add_mod n L
      rw [← hjj] at hdm
      obtain ⟨k, hk⟩ : ∃ k, n = (d j * L + j) + k * L := by
        refine ⟨n / L - d j, ?_⟩
        have h1 : d j ≤ n / L := by
          apply Classical.byContradiction
          intro hcc
          have h2 : L * (n / L + 1) ≤ L * d j := Nat.mul_le_mul_left L (by omega)
          rw [Nat.mul_add, Nat.mul_one, Nat.mul_comm L (d j)] at h2
          omega
        have h3 : (n / L - d j) * L = L * (n / L) - d j * L := by rw [Nat.sub_mul, Nat.mul_comm (n / L)]
        have h4 : d j * L ≤ L * (n / L) := by rw [Nat.mul_comm L]; exact Nat.mul_le_mul_right L h1
        omega
      have hb := (h.lead j hj).Xs hL k
      rw [← hk] at hb
      obtain ⟨u, hu⟩ := hI _ hb.1
      have hg0 := hz j hj (by omega)
      have hmem := (h.mem j hj).Xs hC k
      have hgk : dd x y a b (mulXs k (B j)) = 0 := by
        have : ∀ k, dd x y a b (mulXs k (B j)) = 0 := by
          intro k
          induction k with
          | zero => exact hg0
          | succ k ih =>
            show dd x y a b (mulX (mulXs k (B j))) = 0
            cases a with
            | zero => rw [dd_X0, ih, mul_zero]
            | succ a => rw [dd_X, ih, ((h.mem j hj).Xs hC k).2 x y a b (hab.resolve_left (by omega)), mul_zero, add_zero]
        exact this k
      obtain ⟨c, hcc⟩ : ∃ c, c = -(rc w L G n * u) := ⟨_, rfl⟩
      have h5 := KI.gap hK hI h hC hL hab R hz n (by omega) (G + pC (pC c) * mulXs k (B j)) (hG.add (hmem.C c)) fun r hr => by
        rw [rc_add, rc_C]
        by_cases e : r = n
        · rw [e, hcc, neg_mul, mul_assoc, hu, mul_one, add_neg]
        · rw [hl r (by omega), hb.2 r (by omega), mul_zero, add_zero]
      rw [dd_add, dd_C, hgk, mul_zero, add_zero] at h5
      exact h5
def Cs (C : K P → K P → Nat → Nat → Prop) (x y : K P) (a b : Nat) : K P → K P → Nat → Nat → Prop := fun x' y' a' b' => C x' y' a' b' ∨ (x' = x ∧ y' = y ∧ a' = a ∧ b' = b)
theorem MC.of {L : Nat} {C : K P → K P → Nat → Nat → Prop} {x y : K P} {a b : Nat} {F : Pol (Pol (K P))} (h : MC L (Cs C x y a b) F) : MC L C F ∧ dd x y a b F = 0 := ⟨⟨h.1, fun _ _ _ _ hc => h.2 _ _ _ _ (.inl hc)⟩, h.2 _ _ _ _ (.inr ⟨rfl, rfl, rfl, rfl⟩)⟩
theorem MC.to {L : Nat} {C : K P → K P → Nat → Nat → Prop} {x y : K P} {a b : Nat} {F : Pol (Pol (K P))} (h : MC L C F) (k : dd x y a b F = 0) : MC L (Cs C x y a b) F := ⟨h.1, fun x' y' a' b' hc => by
  rcases hc with hc | ⟨rfl, rfl, rfl, rfl⟩
  · exact h.2 _ _ _ _ hc
  · exact k⟩
theorem KI.none {w L : Nat} {C : K P → K P → Nat → Nat → Prop} {B : Nat → Pol (Pol (K P))} {d : Nat → Nat} (h : KI w L C B d) {x y : K P} {a b : Nat} (hz : ∀ j, j < L → dd x y a b (B j) = 0) : KI w L (Cs C x y a b) B d :=
  ⟨fun j hj => (h.mem j hj).to (hz j hj), h.lead, fun F r hF hr => h.least F r hF.of.1 hr⟩
theorem KI.step {w L : Nat} {C : K P → K P → Nat → Nat → Prop} {B B' : Nat → Pol (Pol (K P))} {d d' : Nat → Nat} (hK : NZD (K P)) (hI : ∀ a : K P, a ≠ 0 → ∃ b, b * a = 1) (h : KI w L C B d) (hC : Dn C) (hL : 0 < L) {x y : K P} {a b : Nat} (hab : a = 0 ∨ C x y (a - 1) b) {t : Nat} (ht : t < L)
    (hg : dd x y a b (B t) ≠ 0) (hmin : ∀ j, j < L → dd x y a b (B j) ≠ 0 → d t * L + t ≤ d j * L + j)
    (hBt : B' t = mulX (B t) + pC (pC (-x)) * B t) (hBj : ∀ j, j < L → j ≠ t → ∃ q, B' j = B j + pC (pC q) * B t ∧ dd x y a b (B j) + q * dd x y a b (B t) = 0)
    (hdt : d' t = d t + 1) (hdj : ∀ j, j ≠ t → d' j = d j) : KI w L (Cs C x y a b) B' d' := by
  have hinj : ∀ j, j < L → d t * L + t = d j * L + j → j = t := fun j hj e => by
    have h1 : (d t * L + t) % L = t := by rw [Nat.mul_comm, Nat.mul_add_mod, Nat.mod_eq_of_lt ht]
    have h2 : (d j * L + j) % L = j := by rw [Nat.mul_comm, Nat.mul_add_mod, Nat.mod_eq_of_lt hj]
    rw [← h1, ← h2, e]
  refine ⟨fun j hj => ?_, fun j hj => ?_, fun F r hF hr => ?_⟩
  · by_cases e : j = t
    · subst e
      rw [hBt]
      refine (((h.mem j hj).X hC).add ((h.mem j hj).C _)).to ?_
      rw [dd_add, dd_C]
      cases a with
      | zero => rw [dd_X0, neg_mul, add_neg]
      | succ a => rw [dd_X, (h.mem j hj).2 x y a b (hab.resolve_left (by omega)), zero_add, neg_mul, add_neg]
    · obtain ⟨q, h1, h2⟩ := hBj j hj e
      rw [h1]
      exact ((h.mem j hj).add ((h.mem t ht).C q)).to (by rw [dd_add, dd_C, h2])
  · by_cases e : j = t
    · subst e
      rw [hBt, hdt]
      have h1 := (h.lead j hj).X hL
      have h2 : (d j + 1) * L + j = d j * L + j + L := by rw [Nat.add_mul]; omega
      rw [h2]
      exact h1.add ((h.lead j hj).2.C _ |>.mono (by omega))
    · obtain ⟨q, h1, h2⟩ := hBj j hj e
      rw [h1, hdj j e]
      refine (h.lead j hj).add ?_
      by_cases hgj : dd x y a b (B j) = 0
      · have hq : q = 0 := by
          rw [hgj, zero_add] at h2
          exact (hK _ _ h2).resolve_right hg
        intro s _
        rw [rc_C, hq, zero_mul]
      · have h3 := hmin j hj hgj
        have h4 : d t * L + t ≠ d j * L + j := fun e2 => e (hinj j hj e2)
        exact ((h.lead t ht).2.C q).mono (by omega)
  · obtain ⟨hF1, hF2⟩ := hF.of
    have h1 := h.least F r hF1 hr
    by_cases e : r % L = t
    · rw [e] at h1 ⊢
      rw [hdt]
      have hr2 : d t * L + t ≠ r := fun e2 => by
        subst e2
        obtain ⟨u, hu⟩ := hI _ (h.lead t ht).1
        obtain ⟨c, hcc⟩ : ∃ c, c = -(rc w L F (d t * L + t) * u) := ⟨_, rfl⟩
        have h5 := KI.gap hK hI h hC hL hab (d t * L + t) (fun j hj hlt => Classical.byContradiction fun hne => by
          have := hmin j hj hne; omega) (d t * L + t) (Nat.le_refl _) (F + pC (pC c) * B t) (hF1.add ((h.mem t ht).C c)) fun s hs => by
            rw [rc_add, rc_C]
            by_cases e3 : s = d t * L + t
            · rw [e3, hcc, neg_mul, mul_assoc, hu, mul_one, add_neg]
            · rw [hr.2 s (by omega), (h.lead t ht).2 s (by omega), mul_zero, add_zero]
        rw [dd_add, dd_C, hF2, zero_add] at h5
        have h6 : c = 0 := (hK _ _ h5).resolve_right hg
        have h7 : rc w L F (d t * L + t) * u = 0 := by rw [← neg_neg (rc w L F (d t * L + t) * u), ← hcc, h6, neg_zero]
        rcases hK _ _ h7 with h8 | h8
        · exact hr.1 h8
        · rw [h8, zero_mul] at hu
          exact k_one_ne hu.symm
      have h2 := Nat.div_add_mod r L
      rw [e] at h2
      have h3 : d t < r / L := by
        apply Classical.byContradiction
        intro hc
        have h4 : L * (r / L) ≤ L * d t := Nat.mul_le_mul_left L (by omega)
        rw [Nat.mul_comm L (d t)] at h4
        omega
      have h4 : L * (d t + 1) ≤ L * (r / L) := Nat.mul_le_mul_left L h3
      rw [Nat.mul_comm L (d t + 1)] at h4
      omega
    · rw [hdj _ e]
      exact h1
end Go.Fd


namespace Go.Fd
open Go.Alg
variable {P : FP}
def ivl (p a : Int) : Nat → Int
  | 0 => 1
  | i + 1 => (ivl p a i * a) % p
def inv (p a : Int) : Int := ivl p a (p - 2).toNat
def lp1 (p : Int) (a : Nat) (o : Int) : Nat → Int
  | 0 => o
  | i + 1 => (lp1 p a o i * (a - i)) % p
def lp2 (p o : Int) : Nat → Int
  | 0 => o
  | i + 1 => (lp2 p o i * inv p ((i : Int) + 1)) % p
def fac : Nat → Nat
  | 0 => 1
  | n + 1 => fac n * (n + 1)
end Go.Fd


namespace Go.Fd
open Go.Pl Go.Alg
variable {P : FP}
theorem inK_mod (n : Nat) (z : K P) : inK P ((n : Int) % P.p) * z = nm n z := by
  have hp := P.hp
  rw [inK_small (Int.emod_nonneg _ (by omega)) (Int.emod_lt_of_pos _ (by omega)), zK_mod, nm_zK]
noncomputable def gsm (x y : K P) (a b : Nat) (F : Pol (Pol (K P))) (t : Nat) : K P := sm t fun t => val1 ((hs2 a b F).co t) x * npow y t
theorem gsm_all {x y : K P} {a b n : Nat} {F : Pol (Pol (K P))} (h : YB n F) : gsm x y a b F (n - b) = dd x y a b F := by
  rw [dd, val2, pev_eq (val1_hom x) y (f := hs2 a b F) (n := n - b) (fun i hi => by
    show nm (bc (i + b) b) (hsP a (F.co (i + b))) = 0
    rw [h (i + b) (by omega), show hsP a (0 : Pol (K P)) = 0 from Pol.ext fun i => by rw [co_hsP, co_zero, nm_zero']; rfl, nm_zero'])]
  rfl
theorem gsm_skip {x y : K P} {a b t : Nat} {F : Pol (Pol (K P))} (h : (bc (t + b) b : Int) % P.p = 0) : gsm x y a b F (t + 1) = gsm x y a b F t := by
  show gsm x y a b F t + val1 ((hs2 a b F).co t) x * npow y t = _
  have h1 : (hs2 a b F).co t = nm (bc (t + b) b) (hsP a (F.co (t + b))) := rfl
  have h2 : val1 ((hs2 a b F).co t) x = 0 := by
    rw [h1, hom_nm (val1_hom x), ← inK_mod, h, inK0, zero_mul]
  rw [h2, zero_mul, add_zero]
theorem gsm_row {x y : K P} {a b t : Nat} {F : Pol (Pol (K P))} : gsm x y a b F (t + 1) = gsm x y a b F t + inK P ((bc (t + b) b : Int) % P.p) * npow y t * val1 (hsP a (F.co (t + b))) x := by
  show gsm x y a b F t + val1 ((hs2 a b F).co t) x * npow y t = _
  have h1 : (hs2 a b F).co t = nm (bc (t + b) b) (hsP a (F.co (t + b))) := rfl
  rw [h1, hom_nm (val1_hom x), mul_assoc, inK_mod, mul_comm (npow y t), nm_mul]
noncomputable def grow (x : K P) (a : Nat) (f : Pol (K P)) (i : Nat) : K P := val1 (dropP i (hsP a f)) x
theorem grow_last {x : K P} {a n : Nat} {f : Pol (K P)} (h : YB n f) : grow x a f (n - a) = 0 := by
  rw [grow, dropP_all (fun i hi => by rw [co_hsP, h (i + a) (by omega), nm_zero'])]
  exact (val1_hom x).zero
theorem grow_step {x : K P} {a i : Nat} {f : Pol (K P)} : grow x a f i = grow x a f (i + 1) * x + inK P ((bc (i + a) a : Int) % P.p) * f.co (i + a) := by
  rw [grow, val1, pev_horner Hom.id, add_comm, mul_comm, inK_mod]
  rfl
theorem grow_all {x : K P} {a : Nat} {f : Pol (K P)} : grow x a f 0 = val1 (hsP a f) x := by rw [grow, dropP_none]
def pct (p : Int) (cols n : Nat) : List Int := tab cols fun k => (bc n k : Int) % p
def pctU (p : Int) (cols n k : Nat) : List Int := tab cols fun t => if t < k then (bc n t : Int) % p else 0
theorem pct_length (p : Int) (cols n : Nat) : (pct p cols n).length = cols := tab_length _ _
theorem pctU_length (p : Int) (cols n k : Nat) : (pctU p cols n k).length = cols := tab_length _ _
theorem pct_get {p : Int} {cols n k : Nat} (h : k < cols) : gi (pct p cols n) k = (bc n k : Int) % p := by rw [pct, gi_tab (by omega) (by omega)]; rfl
theorem pctU_step {p : Int} {cols n k : Nat} : si (pctU p cols n k) k ((bc n k : Int) % p) = pctU p cols n (k + 1) := by
  rw [pctU, si_tab]
  refine tab_congr fun t ht => ?_
  rw [Int.toNat_natCast]
  by_cases e : t = k
  · rw [if_pos e, if_pos (by omega), e]
  · rw [if_neg e]
    by_cases e2 : t < k
    · rw [if_pos e2, if_pos (by omega)]
    · rw [if_neg e2, if_neg (by omega)]
theorem pctU_zero (p : Int) (cols n : Nat) : pctU p cols n 0 = tab cols fun _ => 0 := tab_congr fun t _ => by rw [if_neg (by omega)]
theorem pctU_last {p : Int} {cols n k : Nat} (h : ∀ t, k ≤ t → t < cols → (bc n t : Int) % p = 0) : pctU p cols n k = pct p cols n := tab_congr fun t ht => by
  by_cases e : t < k
  · rw [if_pos e]
  · rw [if_neg e, h t (by omega) ht]
def pcT (p : Int) (rows cols : Nat) : List (List Int) := tab rows fun n => pct p cols n
theorem pcT_length (p : Int) (rows cols : Nat) : (pcT p rows cols).length = rows := tab_length _ _
theorem pcT_row {p : Int} {rows cols n : Nat} (h : n < rows) : (pcT p rows cols).getD n [] = pct p cols n := by rw [pcT, tab_at, if_pos h]
theorem pasc_add {p : Int} (n k : Nat) : ((bc n (k + 1) : Int) % p + (bc n k : Int) % p) % p = (bc (n + 1) (k + 1) : Int) % p := by
  rw [← Int.add_emod, Int.add_comm]; rfl
def ns : Nat → (Nat → Nat) → Nat
  | 0, _ => 0
  | n + 1, f => ns n f + f n
theorem ns_le {f g : Nat → Nat} : ∀ n, (∀ j, j < n → f j ≤ g j) → ns n f ≤ ns n g
  | 0, _ => Nat.le_refl _
  | n + 1, h => Nat.add_le_add (ns_le n fun j hj => h j (by omega)) (h n (by omega))
theorem ns_sub {f g : Nat → Nat} : ∀ n, (∀ j, j < n → g j ≤ f j) → ns n f = ns n g + ns n (fun j => f j - g j)
  | 0, _ => rfl
  | n + 1, h => by
    have h1 := ns_sub n (fun j hj => h j (by omega))
    have h2 := h n (by omega)
    show ns n f + f n = ns n g + g n + (ns n (fun j => f j - g j) + (f n - g n))
    omega
theorem ns_one {d d' : Nat → Nat} {t : Nat} (hdt : d' t = d t + 1) (hdj : ∀ j, j ≠ t → d' j = d j) : ∀ n, ns n d' = ns n d + if t < n then 1 else 0
  | 0 => by rw [if_neg (by omega)]; rfl
  | n + 1 => by
    show ns n d' + d' n = ns n d + d n + _
    rw [ns_one hdt hdj n]
    by_cases e : t = n
    · subst e; rw [hdt, if_neg (by omega), if_pos (by omega)]; omega
    · rw [hdj n (fun h => e h.symm)]
      by_cases e2 : t < n
      · rw [if_pos e2, if_pos (by omega)]; omega
      · rw [if_neg e2, if_neg (by omega)]; omega
def terms (w L D : Nat) : Nat := ns L fun j => if w * j ≤ D then D - w * j + 1 else 0
theorem deg_small {w L D k : Nat} {d : Nat → Nat} (hlo : ∀ j, j < L → w * j ≤ d j) (hs : ns L d ≤ ns L (fun j => w * j) + k) (ht : k < terms w L D) : ∃ j, j < L ∧ d j ≤ D := by
  apply Classical.byContradiction
  intro hc
  have h1 : ∀ j, j < L → D < d j := fun j hj => Nat.lt_of_not_le fun h => hc ⟨j, hj, h⟩
  have h2 := ns_sub (g := fun j => w * j) L hlo
  have h3 : terms w L D ≤ ns L (fun j => d j - w * j) := ns_le L fun j hj => by
    have := h1 j hj
    have := hlo j hj
    split <;> omega
  omega
theorem lead_lo {w L j n : Nat} (hj : j < L) {F : Pol (Pol (K P))} (h : Lead w L (n * L + j) F) : w * j ≤ n := by
  have h1 := h.1
  have e1 : (n * L + j) % L = j := by rw [Nat.mul_comm, Nat.mul_add_mod, Nat.mod_eq_of_lt hj]
  have e2 : (n * L + j) / L = n := by rw [Nat.mul_comm, Nat.mul_add_div (by omega), Nat.div_eq_of_lt hj, Nat.add_zero]
  rw [rc, e1, e2] at h1
  split at h1
  · assumption
  · exact absurd rfl h1
theorem KI.lo {w L : Nat} {C : K P → K P → Nat → Nat → Prop} {B : Nat → Pol (Pol (K P))} {d : Nat → Nat} (h : KI w L C B d) : ∀ j, j < L → w * j ≤ d j := fun j hj => lead_lo hj (h.lead j hj)
theorem KI.ne {w L : Nat} {C : K P → K P → Nat → Nat → Prop} {B : Nat → Pol (Pol (K P))} {d : Nat → Nat} (h : KI w L C B d) {j : Nat} (hj : j < L) : B j ≠ 0 := fun e => by
  have := (h.lead j hj).1
  rw [e, rc] at this
  split at this <;> exact this rfl
theorem KI.deg {w L : Nat} {C : K P → K P → Nat → Nat → Prop} {B : Nat → Pol (Pol (K P))} {d : Nat → Nat} (h : KI w L C B d) {j : Nat} (hj : j < L) : wdg (B j) w ≤ d j := by
  rcases wdg_spec (B j) w with ⟨h1, _⟩ | ⟨D, h1, _, i, j', h2, h3⟩
  · omega
  · have hj' : j' < L := Nat.lt_of_not_le fun hc => h3 (by show ((B j).co j').co i = 0; rw [(h.mem j hj).1 j' hc]; rfl)
    have h4 : rc w L (B j) ((i + w * j') * L + j') ≠ 0 := by rw [rc_term hj']; exact h3
    have h5 : (i + w * j') * L + j' ≤ d j * L + j := Nat.le_of_not_lt fun hc => h4 ((h.lead j hj).2 _ hc)
    have h6 : D ≤ d j := by
      rw [h2] at h5
      apply Classical.byContradiction
      intro hc
      have h7 : (d j + 1) * L ≤ D * L := Nat.mul_le_mul_right L (by omega)
      rw [Nat.add_mul] at h7
      omega
    omega
theorem KI.min {w L : Nat} {C : K P → K P → Nat → Nat → Prop} {B : Nat → Pol (Pol (K P))} {d : Nat → Nat} (h : KI w L C B d) (hL : 0 < L) {n m : Nat} (hn : ∀ j, j < L → n ≤ d j) {F : Pol (Pol (K P))} (hF : MC L C F) (hm : XB m F) (h0 : F ≠ 0) : (n : Int) ≤ wdg F w := by
  obtain ⟨r, _, hr⟩ := lead_of hF.1 h0 _ (low_of (w := w) hL hm)
  have h1 := h.least F r hF hr
  have hj : r % L < L := Nat.mod_lt _ hL
  have h2 := hn _ hj
  have h3 := hr.1
  rw [rc] at h3
  split at h3
  · rename_i hw
    rcases wdg_spec F w with ⟨_, h4⟩ | ⟨D, h4, h5, _⟩
    · exact absurd h4 h0
    · have h6 : r / L ≤ D := Nat.le_of_not_lt fun hc => h3 (h5 (r / L - w * (r % L)) (r % L) (by omega))
      have h7 : d (r % L) ≤ r / L := by
        have h8 := Nat.div_add_mod r L
        apply Classical.byContradiction
        intro hc
        have h9 : L * (r / L + 1) ≤ L * d (r % L) := Nat.mul_le_mul_left L (by omega)
        rw [Nat.mul_add, Nat.mul_comm L (d (r % L))] at h9
        omega
      omega
  · exact absurd rfl h3
theorem xb_mulX {m : Nat} {F : Pol (Pol (K P))} (h : XB m F) : XB (m + 1) (mulX F) := fun j i hi => by
  obtain ⟨s, rfl⟩ : ∃ s, i = s + 1 := ⟨i - 1, by omega⟩
  rw [co_mulX]; exact h j s (by omega)
theorem xb_C {m : Nat} {F : Pol (Pol (K P))} (h : XB m F) (c : K P) : XB m (pC (pC c) * F) := fun j i hi => by rw [co_pC_mul, co_pC_mul, h j i hi, mul_zero]
theorem bz1 (q : Int) : bz P [[q]] = pC (pC (inK P q)) := Pol.ext fun j => Pol.ext fun i => by
  rw [co_bz, co_pC]
  cases j with
  | zero =>
    rw [if_pos rfl, co_pC, co_pz]
    cases i with
    | zero => rfl
    | succ i => rw [if_neg (by omega)]; exact inK0
  | succ j =>
    rw [if_neg (by omega), show ([[q]] : List (List Int)).getD (j + 1) [] = [] by simp, pz_nil]
theorem bz2 (q : Int) : bz P [[q, 1]] = pC (pX + pC (inK P q)) := Pol.ext fun j => Pol.ext fun i => by
  rw [co_bz, co_pC]
  cases j with
  | zero =>
    rw [if_pos rfl, co_add, co_pC, co_pz]
    match i with
    | 0 =>
      rw [if_pos rfl]
      show inK P q = psX 0 + _
      rw [psX, if_neg (by omega), zero_add]
    | 1 =>
      rw [if_neg (by omega), add_zero]
      show inK P 1 = psX 1
      rw [psX, if_pos rfl, inK1]
    | i + 2 =>
      rw [if_neg (by omega), add_zero]
      show inK P 0 = psX (i + 2)
      rw [psX, if_neg (by omega), inK0]
  | succ j =>
    rw [if_neg (by omega), show ([[q, 1]] : List (List Int)).getD (j + 1) [] = [] by simp, pz_nil]
theorem bz2_mul (q : Int) (F : Pol (Pol (K P))) : bz P [[q, 1]] * F = mulX F + pC (pC (inK P q)) * F := by
  rw [bz2, pC_hom.add, add_mul]; rfl
theorem pXn_co : ∀ j t : Nat, (npow pX j : Pol (Pol (K P))).co t = if t = j then 1 else 0
  | 0, t => by rw [npow_zero, co_one]
  | j + 1, t => by
    rw [npow_succ, mul_comm]
    cases t with
    | zero => rw [co_pX_zero, if_neg (by omega)]
    | succ t =>
      rw [co_pX_mul, pXn_co j]
      by_cases e : t = j
      · rw [if_pos e, if_pos (by omega)]
      · rw [if_neg e, if_neg (by omega)]
theorem c1_cn : Cn P [1] (1 : Pol (K P)) := by
  refine ⟨fun z hz => ?_, fun i => ?_, fun _ => by simp⟩
  · obtain rfl : z = 1 := by simpa using hz
    have := P.q_two; omega
  · rw [co_one]
    cases i with
    | zero => rw [if_pos rfl]; exact inK1
    | succ i => rw [if_neg (by omega)]; exact inK0
theorem c0_cn : Cn P [] (0 : Pol (K P)) := ⟨fun z hz => (by cases hz), fun i => inK0, fun h => absurd rfl h⟩
theorem bcl_y (j : Nat) : bcl (npow pX j : Pol (Pol (K P))) = tab (j + 1) fun t => if t = j then [1] else [] := by
  refine bcl_of ⟨fun t => ?_, fun _ => ?_⟩
  · rw [tab_at, pXn_co]
    by_cases e : t = j
    · rw [if_pos e, if_pos (by omega), if_pos e]; exact c1_cn
    · rw [if_neg e, if_neg e]
      split <;> exact c0_cn
  · rw [tab_length, Nat.add_sub_cancel, tab_at, if_pos (by omega), if_pos rfl]
    simp
theorem xb_y (j : Nat) : XB 1 (npow pX j : Pol (Pol (K P))) := fun t i hi => by
  rw [pXn_co]
  split
  · rw [co_one, if_neg (by omega)]
  · rfl
end Go.Fd


namespace Go.Fd
open Go.Pl Go.Alg
variable {P : FP}
def Bst (gp : Nat → K P) (d : Nat → Nat) (j : Nat) (best : Int) : Prop :=
  (best = -1 ∧ ∀ t, t < j → gp t = 0) ∨ ∃ t : Nat, best = t ∧ t < j ∧ gp t ≠ 0 ∧ ∀ s, s < j → gp s ≠ 0 → d t < d s ∨ (d t = d s ∧ t ≤ s)
theorem Bst.first (gp : Nat → K P) (d : Nat → Nat) : Bst gp d 0 (-1) := .inl ⟨rfl, fun t h => by omega⟩
theorem Bst.skip {gp : Nat → K P} {d : Nat → Nat} {j : Nat} {best : Int} (h : Bst gp d j best) (h0 : gp j = 0) : Bst gp d (j + 1) best := by
  rcases h with ⟨h1, h2⟩ | ⟨t, h1, h2, h3, h4⟩
  · refine .inl ⟨h1, fun t ht => ?_⟩
    by_cases e : t = j
    · rw [e, h0]
    · exact h2 t (by omega)
  · refine .inr ⟨t, h1, by omega, h3, fun s hs hg => ?_⟩
    by_cases e : s = j
    · rw [e] at hg; exact absurd h0 hg
    · exact h4 s (by omega) hg
theorem Bst.fresh {gp : Nat → K P} {d : Nat → Nat} {j : Nat} (h : ∀ t, t < j → gp t = 0) (h0 : gp j ≠ 0) : Bst gp d (j + 1) j := .inr ⟨j, rfl, by omega, h0, fun s hs hg => by
  by_cases e : s = j
  · rw [e]; exact .inr ⟨rfl, Nat.le_refl _⟩
  · exact absurd (h s (by omega)) hg⟩
theorem Bst.new {gp : Nat → K P} {d : Nat → Nat} {j t : Nat} (h4 : ∀ s, s < j → gp s ≠ 0 → d t < d s ∨ (d t = d s ∧ t ≤ s)) (h0 : gp j ≠ 0) (hd : d j < d t) : Bst gp d (j + 1) j := .inr ⟨j, rfl, by omega, h0, fun s hs hg => by
  by_cases e : s = j
  · rw [e]; exact .inr ⟨rfl, Nat.le_refl _⟩
  · rcases h4 s (by omega) hg with h | h <;> exact .inl (by omega)⟩
theorem Bst.keep {gp : Nat → K P} {d : Nat → Nat} {j t : Nat} (h2 : t < j) (h3 : gp t ≠ 0) (h4 : ∀ s, s < j → gp s ≠ 0 → d t < d s ∨ (d t = d s ∧ t ≤ s)) (hd : d t ≤ d j) : Bst gp d (j + 1) t := .inr ⟨t, rfl, by omega, h3, fun s hs hg => by
  by_cases e : s = j
  · rw [e]
    rcases Nat.lt_or_ge (d t) (d j) with h | h
    · exact .inl h
    · exact .inr ⟨by omega, by omega⟩
  · exact h4 s (by omega) hg⟩
noncomputable def tk (gp : Nat → K P) (t s : Nat) : K P := -gp s * invK P (gp t)
theorem tk_gap {g : K P} (hg : HasOrder g (n1 P)) {gp : Nat → K P} {t : Nat} (h : gp t ≠ 0) (s : Nat) : gp s + tk gp t s * gp t = 0 := by
  rw [tk, mul_assoc, mul_comm (invK P (gp t)), mul_invK hg h, mul_one, add_neg]
noncomputable def oth (gp : Nat → K P) (t : Nat) (Bs : Nat → Pol (Pol (K P))) (s : Nat) : Pol (Pol (K P)) := by
  classical exact if s ≠ t ∧ gp s ≠ 0 then Bs s + pC (pC (tk gp t s)) * Bs t else Bs s
theorem oth_yes {gp : Nat → K P} {t s : Nat} {Bs : Nat → Pol (Pol (K P))} (h : s ≠ t ∧ gp s ≠ 0) : oth gp t Bs s = Bs s + pC (pC (tk gp t s)) * Bs t := if_pos h
theorem oth_no {gp : Nat → K P} {t s : Nat} {Bs : Nat → Pol (Pol (K P))} (h : ¬ (s ≠ t ∧ gp s ≠ 0)) : oth gp t Bs s = Bs s := if_neg h
noncomputable def bls (L : Nat) (f g : Nat → Pol (Pol (K P))) (j : Nat) : List (List (List Int)) := (List.range L).map fun s => bcl (if s < j then f s else g s)
theorem bls_length (L : Nat) (f g : Nat → Pol (Pol (K P))) (j : Nat) : (bls L f g j).length = L := by simp [bls]
theorem bls_get {L : Nat} {f g : Nat → Pol (Pol (K P))} {j s : Nat} (h : s < L) : (bls L f g j).getD s [] = bcl (if s < j then f s else g s) := by
  simp [bls, List.getD_eq_getElem?_getD, h]
theorem bls_step {L : Nat} {f g : Nat → Pol (Pol (K P))} {j : Nat} : (bls L f g j).set ((j : Int)).toNat (bcl (f j)) = bls L f g (j + 1) := by
  apply List.ext_getElem
  · simp [bls]
  · intro i h1 h2
    rw [List.getElem_set]
    simp only [bls, List.getElem_map, List.getElem_range]
    by_cases e : ((j : Int)).toNat = i
    · rw [if_pos e, if_pos (by omega), show j = i by omega]
    · rw [if_neg e]
      by_cases e2 : i < j
      · rw [if_pos e2, if_pos (by omega)]
      · rw [if_neg e2, if_neg (by omega)]
theorem bls_skip {L : Nat} {f g : Nat → Pol (Pol (K P))} {j : Nat} (h : f j = g j) : bls L f g j = bls L f g (j + 1) := by
  refine List.map_congr_left fun i _ => ?_
  by_cases e2 : i < j
  · rw [if_pos e2, if_pos (by omega)]
  · rw [if_neg e2]
    by_cases e : i = j
    · rw [if_pos (by omega), e, h]
    · rw [if_neg (by omega)]
noncomputable def bl (L : Nat) (f : Nat → Pol (Pol (K P))) : List (List (List Int)) := (List.range L).map fun s => bcl (f s)
theorem bl_length (L : Nat) (f : Nat → Pol (Pol (K P))) : (bl L f).length = L := by simp [bl]
theorem bl_get {L : Nat} {f : Nat → Pol (Pol (K P))} {s : Nat} (h : s < L) : (bl L f).getD s [] = bcl (f s) := by
  simp [bl, List.getD_eq_getElem?_getD, h]
theorem bls_zero (L : Nat) (f g : Nat → Pol (Pol (K P))) : bls L f g 0 = bl L g := List.map_congr_left fun i _ => by rw [if_neg (by omega)]
theorem bls_last (L : Nat) (f g : Nat → Pol (Pol (K P))) : bls L f g L = bl L f := List.map_congr_left fun i hi => by rw [if_pos (List.mem_range.1 hi)]
theorem bl_set {L : Nat} {f : Nat → Pol (Pol (K P))} {t : Nat} {G : Pol (Pol (K P))} : (bl L f).set ((t : Int)).toNat (bcl G) = bl L fun s => if s = t then G else f s := by
  apply List.ext_getElem
  · simp [bl]
  · intro i h1 h2
    rw [List.getElem_set]
    simp only [bl, List.getElem_map, List.getElem_range]
    by_cases e : ((t : Int)).toNat = i
    · rw [if_pos e, if_pos (by omega)]
    · rw [if_neg e, if_neg (by omega)]
def Stp (L : Nat) (x y : K P) (a b : Nat) (Bs : Nat → Pol (Pol (K P))) (d : Nat → Nat) (Bs' : Nat → Pol (Pol (K P))) (d' : Nat → Nat) : Prop :=
  ((∀ j, j < L → dd x y a b (Bs j) = 0) ∧ Bs' = Bs ∧ d' = d) ∨
  ∃ t, t < L ∧ dd x y a b (Bs t) ≠ 0 ∧ (∀ s, s < L → dd x y a b (Bs s) ≠ 0 → d t < d s ∨ (d t = d s ∧ t ≤ s)) ∧ (Bs' = fun s => if s = t then mulX (Bs t) + pC (pC (-x)) * Bs t else oth (fun s => dd x y a b (Bs s)) t Bs s) ∧ d' = fun s => if s = t then d t + 1 else d s
theorem Stp.ki {w L : Nat} {C : K P → K P → Nat → Nat → Prop} {Bs Bs' : Nat → Pol (Pol (K P))} {d d' : Nat → Nat} {x y : K P} {a b : Nat} (h : Stp L x y a b Bs d Bs' d') {g : K P} (hg : HasOrder g (n1 P)) (hK : KI w L C Bs d) (hC : Dn C) (hL : 0 < L) (hab : a = 0 ∨ C x y (a - 1) b) : KI w L (Cs C x y a b) Bs' d' := by
  rcases h with ⟨h1, rfl, rfl⟩ | ⟨t, ht, hg0, hmin, rfl, rfl⟩
  · exact hK.none h1
  · refine hK.step (k_nzd hg) (fun a ha => ⟨invK P a, by rw [mul_comm]; exact mul_invK hg ha⟩) hC hL hab ht hg0 (fun j hj hj0 => ?_) (if_pos rfl) (fun j hj hjt => ?_) (if_pos rfl) (fun j hj => if_neg hj)
    · rcases hmin j hj hj0 with h | h
      · have : (d t + 1) * L ≤ d j * L := Nat.mul_le_mul_right L h
        rw [Nat.add_mul] at this
        omega
      · rw [h.1]; omega
    · by_cases h0 : dd x y a b (Bs j) = 0
      · refine ⟨0, ?_, by rw [h0, zero_mul, zero_add]⟩
        rw [if_neg hjt, oth_no (fun h => h.2 h0), pC_hom.zero, pC_hom.zero, zero_mul, add_zero]
      · exact ⟨_, by rw [if_neg hjt, oth_yes ⟨hjt, h0⟩], tk_gap hg (gp := fun s => dd x y a b (Bs s)) hg0 j⟩
theorem Stp.xb {L n : Nat} {Bs Bs' : Nat → Pol (Pol (K P))} {d d' : Nat → Nat} {x y : K P} {a b : Nat} (h : Stp L x y a b Bs d Bs' d') (hx : ∀ j, j < L → XB n (Bs j)) : ∀ j, j < L → XB (n + 1) (Bs' j) := by
  rcases h with ⟨h1, rfl, rfl⟩ | ⟨t, ht, hg0, hmin, rfl, rfl⟩
  · exact fun j hj => (hx j hj).mono (by omega)
  · intro j hj
    show XB (n + 1) (if j = t then _ else _)
    by_cases e : j = t
    · rw [if_pos e]
      exact (xb_mulX (hx t ht)).add ((xb_C (hx t ht) _).mono (by omega))
    · rw [if_neg e]
      by_cases h0 : j ≠ t ∧ dd x y a b (Bs j) ≠ 0
      · rw [oth_yes h0]
        exact ((hx j hj).add (xb_C (hx t ht) _)).mono (by omega)
      · rw [oth_no h0]
        exact (hx j hj).mono (by omega)
theorem Stp.ns {L k : Nat} {f : Nat → Nat} {Bs Bs' : Nat → Pol (Pol (K P))} {d d' : Nat → Nat} {x y : K P} {a b : Nat} (h : Stp L x y a b Bs d Bs' d') (hs : ns L d ≤ ns L f + k) : Go.Fd.ns L d' ≤ Go.Fd.ns L f + (k + 1) := by
  rcases h with ⟨h1, rfl, rfl⟩ | ⟨t, ht, hg0, hmin, rfl, rfl⟩
  · omega
  · rw [ns_one (d := d) (d' := fun s => if s = t then d t + 1 else d s) (t := t) (if_pos rfl) (fun j hj => if_neg hj), if_pos ht]
    omega
end Go.Fd


namespace Go.Fd
open Go.Pl Go.Alg
variable {P : FP}
def Van (x y : K P) (F : Pol (Pol (K P))) (m : Nat) : Prop := ∀ a b, a + b < m → dd x y a b F = 0
def Cst (X Y : Nat → K P) (m i b a : Nat) : K P → K P → Nat → Nat → Prop := fun x y a' b' => a' + b' < m ∧ ∃ i', x = X i' ∧ y = Y i' ∧ (i' < i ∨ (i' = i ∧ (b' < b ∨ (b' = b ∧ a' < a))))
theorem Cst.first (X Y : Nat → K P) (m : Nat) (x y : K P) (a b : Nat) : Cst X Y m 0 0 0 x y a b ↔ False := ⟨fun ⟨_, i', _, _, h⟩ => by omega, fun h => h.elim⟩
theorem Cst.step {X Y : Nat → K P} {m i b a : Nat} (h : a + b < m) (x y : K P) (a' b' : Nat) : Cst X Y m i b (a + 1) x y a' b' ↔ Cs (Cst X Y m i b a) (X i) (Y i) a b x y a' b' := by
  constructor
  · rintro ⟨h1, i', h2, h3, h4⟩
    by_cases e : i' = i ∧ b' = b ∧ a' = a
    · obtain ⟨rfl, rfl, rfl⟩ := e
      exact .inr ⟨h2, h3, rfl, rfl⟩
    · exact .inl ⟨h1, i', h2, h3, by omega⟩
  · rintro (⟨h1, i', h2, h3, h4⟩ | ⟨rfl, rfl, rfl, rfl⟩)
    · exact ⟨h1, i', h2, h3, by omega⟩
    · exact ⟨h, i, rfl, rfl, by omega⟩
theorem Cst.row {X Y : Nat → K P} {m i b : Nat} (x y : K P) (a' b' : Nat) : Cst X Y m i (b + 1) 0 x y a' b' ↔ Cst X Y m i b (m - b) x y a' b' := by
  constructor
  · rintro ⟨h1, i', h2, h3, h4⟩
    exact ⟨h1, i', h2, h3, by omega⟩
  · rintro ⟨h1, i', h2, h3, h4⟩
    exact ⟨h1, i', h2, h3, by omega⟩
theorem Cst.point {X Y : Nat → K P} {m i : Nat} (x y : K P) (a' b' : Nat) : Cst X Y m (i + 1) 0 0 x y a' b' ↔ Cst X Y m i m 0 x y a' b' := by
  constructor
  · rintro ⟨h1, i', h2, h3, h4⟩
    exact ⟨h1, i', h2, h3, by omega⟩
  · rintro ⟨h1, i', h2, h3, h4⟩
    exact ⟨h1, i', h2, h3, by omega⟩
theorem Cst.dn (X Y : Nat → K P) (m i b a : Nat) : Dn (Cst X Y m i b a) := by
  rintro x y a' b' ⟨h1, i', h2, h3, h4⟩
  exact ⟨by omega, i', h2, h3, by omega⟩
theorem Cst.prev {X Y : Nat → K P} {m i b a : Nat} (h : a + b < m) : a = 0 ∨ Cst X Y m i b a (X i) (Y i) (a - 1) b := by
  rcases Nat.eq_zero_or_pos a with h0 | h0
  · exact .inl h0
  · exact .inr ⟨by omega, i, rfl, rfl, by omega⟩
def rs (m : Nat) : Nat → Nat
  | 0 => 0
  | b + 1 => rs m b + (m - b)
theorem rs_two (m : Nat) : ∀ b, b ≤ m → 2 * rs m b + b * b = b * (2 * m + 1)
  | 0, _ => by simp [rs]
  | b + 1, h => by
    have ih := rs_two m b (by omega)
    obtain ⟨c, rfl⟩ : ∃ c, m = b + c := ⟨m - b, by omega⟩
    rw [rs, show b + c - b = c by omega]
    simp only [Nat.add_mul, Nat.mul_add, Nat.one_mul, Nat.mul_one] at ih ⊢
    omega
theorem rs_all (m : Nat) : 2 * rs m m = m * (m + 1) := by
  have h := rs_two m m (Nat.le_refl _)
  rw [Nat.mul_add, Nat.mul_one, Nat.mul_left_comm] at h
  rw [Nat.mul_add, Nat.mul_one]
  omega
theorem rs_mono (m : Nat) : ∀ {b c : Nat}, b ≤ c → rs m b ≤ rs m c
  | b, 0, h => by rw [show b = 0 by omega]; exact Nat.le_refl _
  | b, c + 1, h => by
    by_cases e : b = c + 1
    · rw [e]; exact Nat.le_refl _
    · exact Nat.le_trans (rs_mono m (show b ≤ c by omega)) (by rw [rs]; omega)
def cnt (m i b a : Nat) : Nat := i * rs m m + rs m b + a
theorem cnt_row (m i b : Nat) : cnt m i (b + 1) 0 = cnt m i b (m - b) := by simp only [cnt, rs]; omega
theorem cnt_point (m i : Nat) : cnt m (i + 1) 0 0 = cnt m i m 0 := by simp only [cnt, rs, Nat.add_mul]; omega
theorem cnt_le {m n i b a : Nat} (hi : i < n) (hab : a + b < m) : cnt m i b a + 1 ≤ n * rs m m := by
  have h1 : (i + 1) * rs m m ≤ n * rs m m := Nat.mul_le_mul_right _ hi
  rw [Nat.add_mul] at h1
  have h2 := rs_mono m (show b + 1 ≤ m by omega)
  rw [rs] at h2
  simp only [cnt]
  omega
theorem num_conds (n m : Nat) : ((n : Int) * m * (m + 1)) / 2 = ((n * rs m m : Nat) : Int) := by
  have h := rs_all m
  have h2 : (n : Int) * m * (m + 1) = 2 * ((n * rs m m : Nat) : Int) := by
    have h3 : n * m * (m + 1) = 2 * (n * rs m m) := by rw [Nat.mul_assoc, ← h, Nat.mul_left_comm]
    have h4 := congrArg (fun x : Nat => (x : Int)) h3
    simp only [Int.natCast_mul, Int.natCast_add] at h4 ⊢
    exact h4
  rw [h2, Int.mul_ediv_cancel_left _ (by omega)]
theorem ns_mem {f : Nat → Nat} : ∀ n j, j < n → f j ≤ ns n f
  | 0, j, h => by omega
  | n + 1, j, h => by
    show f j ≤ ns n f + f n
    by_cases e : j = n
    · rw [e]; omega
    · have := ns_mem (f := f) n j (by omega)
      omega
theorem ns_bound {f : Nat → Nat} {c : Nat} : ∀ n, (∀ j, j < n → f j ≤ c) → ns n f ≤ n * c
  | 0, _ => by simp [ns]
  | n + 1, h => by
    have h1 := ns_bound n (fun j hj => h j (by omega))
    have h2 := h n (by omega)
    show ns n f + f n ≤ _
    rw [Nat.add_mul]
    omega
structure KS (X Y : Nat → K P) (w L m i b a : Nat) (Bs : Nat → Pol (Pol (K P))) (d : Nat → Nat) : Prop where
  ki : KI w L (Cst X Y m i b a) Bs d
  xb : ∀ j, j < L → XB (cnt m i b a + 1) (Bs j)
  ns : ns L d ≤ ns L (fun j => w * j) + cnt m i b a
theorem KS.first {X Y : Nat → K P} {w L m : Nat} (hL : 0 < L) : KS X Y w L m 0 0 0 (fun j => npow pX j) (fun j => w * j) :=
  ⟨(KI.first hL).congr (Cst.first X Y m), fun j _ => (xb_y j).mono (by omega), by simp [cnt, rs]⟩
theorem KS.step {X Y : Nat → K P} {w L m i b a : Nat} {Bs Bs' : Nat → Pol (Pol (K P))} {d d' : Nat → Nat} (h : KS X Y w L m i b a Bs d) {g : K P} (hg : HasOrder g (n1 P)) (hL : 0 < L) (hab : a + b < m) (hs : Stp L (X i) (Y i) a b Bs d Bs' d') : KS X Y w L m i b (a + 1) Bs' d' :=
  ⟨(hs.ki hg h.ki (Cst.dn X Y m i b a) hL (Cst.prev hab)).congr (Cst.step hab), fun j hj => (hs.xb h.xb j hj).mono (by simp only [cnt]; omega), by have := hs.ns h.ns; simp only [cnt] at this ⊢; omega⟩
theorem KS.row {X Y : Nat → K P} {w L m i b : Nat} {Bs : Nat → Pol (Pol (K P))} {d : Nat → Nat} (h : KS X Y w L m i b (m - b) Bs d) : KS X Y w L m i (b + 1) 0 Bs d :=
  ⟨h.ki.congr Cst.row, by rw [cnt_row]; exact h.xb, by rw [cnt_row]; exact h.ns⟩
theorem KS.point {X Y : Nat → K P} {w L m i : Nat} {Bs : Nat → Pol (Pol (K P))} {d : Nat → Nat} (h : KS X Y w L m i m 0 Bs d) : KS X Y w L m (i + 1) 0 0 Bs d :=
  ⟨h.ki.congr Cst.point, by rw [cnt_point]; exact h.xb, by rw [cnt_point]; exact h.ns⟩
theorem KS.dle {X Y : Nat → K P} {w L m i b a : Nat} {Bs : Nat → Pol (Pol (K P))} {d : Nat → Nat} (h : KS X Y w L m i b a Bs d) (hw : w ≤ 64) (hL : L ≤ 65) (hc : cnt m i b a ≤ 4096) : ∀ j, j < L → d j ≤ 1048576 := fun j hj => by
  have h1 := ns_mem (f := d) L j hj
  have h2 := ns_bound (f := fun j => w * j) (c := 64 * 65) L (fun j hj => Nat.mul_le_mul hw (by omega))
  have h3 : L * (64 * 65) ≤ 65 * (64 * 65) := Nat.mul_le_mul_right _ hL
  have := h.ns
  omega
structure IntP (X Y : Nat → K P) (n m w L : Nat) (Q : Pol (Pol (K P))) : Prop where
  ne : Q ≠ 0
  yb : YB L Q
  xb : XB (n * rs m m + 1) Q
  van : ∀ i, i < n → Van (X i) (Y i) Q m
  least : ∀ F k, F ≠ 0 → YB L F → XB k F → (∀ i, i < n → Van (X i) (Y i) F m) → wdg Q w ≤ wdg F w
  small : ∀ D, n * rs m m < terms w L D → wdg Q w ≤ D
theorem KS.last {X Y : Nat → K P} {w L m n : Nat} {Bs : Nat → Pol (Pol (K P))} {d : Nat → Nat} (h : KS X Y w L m n 0 0 Bs d) (hL : 0 < L) {t : Nat} (ht : t < L) (hm : ∀ j, j < L → d t ≤ d j) : IntP X Y n m w L (Bs t) := by
  have hc : cnt m n 0 0 = n * rs m m := by simp [cnt, rs]
  have hx := h.xb t ht
  have hns := h.ns
  rw [hc] at hx hns
  refine ⟨h.ki.ne ht, (h.ki.mem t ht).1, hx, fun i hi a b hab => (h.ki.mem t ht).2 _ _ _ _ ⟨hab, i, rfl, rfl, .inl hi⟩, fun F k hF hy hk hv => ?_, fun D hD => ?_⟩
  · have h1 := h.ki.deg ht
    have h2 := h.ki.min hL hm (F := F) ⟨hy, fun x y a b ⟨hab, i', hx', hy', hi'⟩ => by
      subst hx' hy'
      exact hv i' (by omega) a b hab⟩ hk hF
    omega
  · obtain ⟨j, hj, hjD⟩ := deg_small h.ki.lo hns hD
    have h1 := h.ki.deg ht
    have := hm j hj
    omega
end Go.Fd


namespace Go.Fd
open Go.Pl Go.Alg
variable {P : FP}
def Ord (m : Nat) (x : K P) (R : Pol (K P)) : Prop := ∀ s, s < m → (sh1 x R).co s = 0
theorem mulX1_co0 (_ c : K P) (S : Pol (K P)) : ((pX + pC c) * S).co 0 = c * S.co 0 := by rw [add_mul, co_add, co_pX_zero, co_pC_mul, zero_add]
theorem mulX1_co (c : K P) (S : Pol (K P)) (s : Nat) : ((pX + pC c) * S).co (s + 1) = S.co s + c * S.co (s + 1) := by rw [add_mul, co_add, co_pX_mul, co_pC_mul]
theorem Ord.split {m n : Nat} {x : K P} {R : Pol (K P)} (h : Ord (m + 1) x R) (hn : YB (n + 1) R) : ∃ S, R = (pX + pC (-x)) * S ∧ Ord m x S ∧ YB n S := by
  obtain ⟨T, hT⟩ : ∃ T : Pol (K P), T = dropP 1 (sh1 x R) := ⟨_, rfl⟩
  have h0 : (sh1 x R).co 0 = 0 := h 0 (by omega)
  have h1 : sh1 x R = pX * T := Pol.ext fun i => by
    cases i with
    | zero => rw [co_pX_zero, h0]
    | succ i => rw [co_pX_mul, hT, co_dropP]
  have h2 : R = (pX + pC (-x)) * sh1 (-x) T := by
    rw [← sh1_inv x R, h1, (sh1_hom (-x)).mul, sh1_X]
  have h3 : sh1 x (sh1 (-x) T) = T := by
    have := sh1_inv (-x) T
    rwa [neg_neg] at this
  have hy : YB (n + 1) (sh1 x R) := fun i hi => sh1_yb x (n := n + 1) (fun j hj => hn j hj) i hi
  have hyT : YB n T := fun i hi => by rw [hT, co_dropP]; exact hy _ (by omega)
  refine ⟨sh1 (-x) T, h2, fun s hs => ?_, fun i hi => sh1_yb (-x) (n := n) (fun j hj => hyT j hj) i hi⟩
  rw [h3, hT, co_dropP]
  exact h (s + 1) (by omega)
theorem Ord.other (hK : NZD (K P)) {m : Nat} {x x' : K P} (hx : x' ≠ x) {S : Pol (K P)} (h : Ord m x' ((pX + pC (-x)) * S)) : Ord m x' S := by
  have hc : x' + -x ≠ 0 := fun e => hx (by
    have : x' = x' + -x + x := by rw [add_assoc, neg_add, add_zero]
    rw [this, e, zero_add])
  have he : sh1 x' ((pX + pC (-x)) * S) = (pX + pC (x' + -x)) * sh1 x' S := by
    rw [(sh1_hom x').mul, (sh1_hom x').add, sh1_X, sh1_C, add_assoc, ← pC_hom.add]
  intro s
  induction s with
  | zero =>
    intro hs
    have h1 := h 0 hs
    rw [he, mulX1_co0 x'] at h1
    exact (hK _ _ h1).resolve_left hc
  | succ s ih =>
    intro hs
    have h1 := h (s + 1) hs
    rw [he, mulX1_co, ih (by omega), zero_add] at h1
    exact (hK _ _ h1).resolve_left hc
theorem ns_upd {f : Nat → Nat} {t : Nat} : ∀ n, t < n → 1 ≤ f t → ns n f = ns n (fun i => if i = t then f t - 1 else f i) + 1
  | 0, h, _ => by omega
  | n + 1, h, h1 => by
    show ns n f + f n = ns n (fun i => if i = t then f t - 1 else f i) + (if n = t then f t - 1 else f n) + 1
    by_cases e : t = n
    · subst e
      rw [if_pos rfl]
      have h2 : ns t f = ns t (fun i => if i = t then f t - 1 else f i) := Nat.le_antisymm (ns_le t fun j hj => by rw [if_neg (by omega)]; exact Nat.le_refl _) (ns_le t fun j hj => by rw [if_neg (by omega)]; exact Nat.le_refl _)
      omega
    · rw [if_neg (fun h => e h.symm)]
      have := ns_upd (f := f) (t := t) n (by omega) h1
      omega
theorem ns_pos {f : Nat → Nat} : ∀ n, 0 < ns n f → ∃ t, t < n ∧ 1 ≤ f t
  | 0, h => by simp [ns] at h
  | n + 1, h => by
    by_cases h1 : 1 ≤ f n
    · exact ⟨n, by omega, h1⟩
    · have h2 : 0 < ns n f + f n := h
      obtain ⟨t, ht, h3⟩ := ns_pos (f := f) n (by omega)
      exact ⟨t, by omega, h3⟩
theorem zeros_zero (hK : NZD (K P)) {c : Nat} {X : Nat → K P} (hX : ∀ i j, i < c → j < c → i ≠ j → X i ≠ X j) : ∀ (n : Nat) (μ : Nat → Nat) (R : Pol (K P)), YB n R → (∀ i, i < c → Ord (μ i) (X i) R) → n ≤ ns c μ → R = 0
  | 0, _, R, hR, _, _ => Pol.ext fun i => hR i (Nat.zero_le _)
  | n + 1, μ, R, hR, ho, hs => by
    obtain ⟨t, ht, h1⟩ := ns_pos (f := μ) c (by omega)
    obtain ⟨k, hk⟩ : ∃ k, μ t = k + 1 := ⟨μ t - 1, by omega⟩
    have hot := ho t ht
    rw [hk] at hot
    obtain ⟨S, hS, hoS, hyS⟩ := hot.split hR
    have h2 := ns_upd c ht h1
    have hz : S = 0 := by
      refine zeros_zero hK hX n (fun i => if i = t then μ t - 1 else μ i) S hyS (fun i hi => ?_) (by omega)
      show Ord (if i = t then μ t - 1 else μ i) (X i) S
      by_cases e : i = t
      · rw [if_pos e, hk, e, Nat.add_sub_cancel]; exact hoS
      · rw [if_neg e]
        have := ho i hi
        rw [hS] at this
        exact this.other hK (hX i t hi ht e)
    rw [hS, hz, mul_zero]
theorem subst_about (x y : K P) (Q : Pol (Pol (K P))) (f : Pol (K P)) : sh1 x (subst Q f) = subst (sh2 x y Q) (sh1 x f + pC (-y)) := by
  have h1 : Hom (fun Q : Pol (Pol (K P)) => sh1 x (subst Q f)) := ⟨fun a b => by rw [(subst_hom f).add, (sh1_hom x).add], fun a b => by rw [(subst_hom f).mul, (sh1_hom x).mul], by rw [(subst_hom f).one, (sh1_hom x).one]⟩
  have h2 : Hom (fun Q : Pol (Pol (K P)) => subst (sh2 x y Q) (sh1 x f + pC (-y))) := ⟨fun a b => by rw [(sh2_hom x y).add, (subst_hom _).add], fun a b => by rw [(sh2_hom x y).mul, (subst_hom _).mul], by rw [(sh2_hom x y).one, (subst_hom _).one]⟩
  rw [hom_pol h1 Q, hom_pol h2 Q]
  have c1 : (fun a : Pol (K P) => sh1 x (subst (pC a) f)) = fun a => sh1 x a := funext fun a => by rw [subst, pev_C Hom.id]
  have c2 : (fun a : Pol (K P) => subst (sh2 x y (pC a)) (sh1 x f + pC (-y))) = fun a => sh1 x a := funext fun a => by rw [sh2_CC, subst, pev_C Hom.id]
  have hX : sh2 x y (pX : Pol (Pol (K P))) = pX + pC (pC y) := by
    have h1 : mapP (fun f => sh1 x f) (sh1_hom x) (pX : Pol (Pol (K P))) = pX := Pol.ext fun i => by
      rw [co_mapP]
      show sh1 x (psX i) = psX i
      rw [psX]
      split
      · exact (sh1_hom x).one
      · exact (sh1_hom x).zero
    rw [sh2, h1, sh1_X]
  have v1 : sh1 x (subst (pX : Pol (Pol (K P))) f) = sh1 x f := by rw [subst, pev_X Hom.id]
  have v2 : subst (sh2 x y (pX : Pol (Pol (K P)))) (sh1 x f + pC (-y)) = sh1 x f := by
    rw [hX, (subst_hom _).add, subst, pev_X Hom.id, subst, pev_C Hom.id, add_assoc, ← pC_hom.add, neg_add, pC_hom.zero, add_zero]
  rw [c1, c2, v1, v2]
theorem npow_low {h : Pol (K P)} (h0 : h.co 0 = 0) : ∀ b t, t < b → (npow h b).co t = 0
  | 0, t, ht => by omega
  | b + 1, t, ht => by
    rw [npow_succ, co_mul]
    refine sm_zero fun i hi => ?_
    by_cases e : i < b
    · rw [npow_low h0 b i e, zero_mul]
    · have : t - i = 0 := by omega
      rw [this, h0, mul_zero]
theorem val1_sh (x : K P) (f : Pol (K P)) : (sh1 x f).co 0 = val1 f x := by
  have h := hsP_value x f 0
  have h2 : hsP 0 f = f := Pol.ext fun i => by rw [co_hsP, bc_zero, nm_one, Nat.add_zero]
  rw [h2] at h
  exact h.symm
theorem van_ord {x y : K P} {m : Nat} {Q : Pol (Pol (K P))} {f : Pol (K P)} (hv : Van x y Q m) (hf : val1 f x = y) : Ord m x (subst Q f) := by
  intro s hs
  obtain ⟨h, hh⟩ : ∃ h, h = sh1 x f + pC (-y) := ⟨_, rfl⟩
  have h0 : h.co 0 = 0 := by rw [hh, co_add, val1_sh, hf, co_pC, if_pos rfl, add_neg]
  obtain ⟨n, hn⟩ := (sh2 x y Q).2
  rw [subst_about x y, ← hh, subst, pev_eq Hom.id h hn, evp, sm_co]
  refine sm_zero fun b _ => ?_
  show ((sh2 x y Q).co b * npow h b).co s = 0
  rw [co_mul]
  refine sm_zero fun a ha => ?_
  by_cases e : s - a < b
  · rw [npow_low h0 b _ e, mul_zero]
  · have : ((sh2 x y Q).co b).co a = 0 := by
      rw [← dd_sh]
      exact hv a b (by omega)
    rw [this, zero_mul]
theorem npow_yb {f : Pol (K P)} {k : Nat} (hf : YB (k + 1) f) : ∀ j, YB (k * j + 1) (npow f j)
  | 0 => by rw [npow_zero]; intro i hi; rw [co_one, if_neg (by omega)]
  | j + 1 => by
    rw [npow_succ]
    intro i hi
    rw [co_mul]
    refine sm_zero fun a ha => ?_
    have h1 : k * (j + 1) = k * j + k := by rw [Nat.mul_add, Nat.mul_one]
    by_cases e : k * j + 1 ≤ a
    · rw [npow_yb hf j a e, zero_mul]
    · rw [hf (i - a) (by omega), mul_zero]
theorem subst_yb {w D k : Nat} {Q : Pol (Pol (K P))} {f : Pol (K P)} (hf : YB (k + 1) f) (hkw : k ≤ w) (hD : wdg Q w ≤ D) : YB (D + 1) (subst Q f) := by
  have hco : ∀ i j, D < i + w * j → (Q.co j).co i = 0 := fun i j hij => by
    rcases wdg_spec Q w with ⟨_, h⟩ | ⟨d, h1, h2, _⟩
    · rw [h]; rfl
    · exact h2 i j (by omega)
  obtain ⟨n, hn⟩ := Q.2
  intro s hs
  rw [subst, pev_eq Hom.id f hn, evp, sm_co]
  refine sm_zero fun j _ => ?_
  show (Q.co j * npow f j).co s = 0
  rw [co_mul]
  refine sm_zero fun a ha => ?_
  have h3 : k * j ≤ w * j := Nat.mul_le_mul_right j hkw
  by_cases e : D < a + w * j
  · rw [hco a j e, zero_mul]
  · rw [npow_yb hf j (s - a) (by omega), mul_zero]
theorem gs (hK : NZD (K P)) {w D k m n : Nat} {X Y : Nat → K P} (hX : ∀ i j, i < n → j < n → i ≠ j → X i ≠ X j) {Q : Pol (Pol (K P))} {f : Pol (K P)} (hf : YB (k + 1) f) (hkw : k ≤ w) (hD : wdg Q w ≤ D) (hv : ∀ i, i < n → Van (X i) (Y i) Q m)
    (good : Nat → Bool) (hg : ∀ i, i < n → good i = true → val1 f (X i) = Y i) (hc : D < m * ns n (fun i => if good i then 1 else 0)) : subst Q f = 0 := by
  refine zeros_zero hK hX (D + 1) (fun i => if good i then m else 0) _ (subst_yb hf hkw hD) (fun i hi => ?_) ?_
  · show Ord (if good i then m else 0) (X i) _
    by_cases e : good i = true
    · rw [if_pos e]
      exact van_ord (hv i hi) (hg i hi e)
    · rw [if_neg e]
      exact fun s hs => by omega
  · have h1 : ∀ n, ns n (fun i => if good i then m else 0) = m * ns n (fun i => if good i then 1 else 0) := by
      intro n
      induction n with
      | zero => rfl
      | succ n ih =>
        show ns n _ + (if good n then m else 0) = m * (ns n _ + (if good n then 1 else 0))
        rw [ih, Nat.mul_add]
        by_cases e : good n = true
        · rw [if_pos e, if_pos e, Nat.mul_one]
        · rw [if_neg e, if_neg e, Nat.mul_zero]
    rw [h1]
    omega
end Go.Fd


namespace Go.Ld
theorem degF_spec {c w : Int} (hw : 1 ≤ w) : ∀ (f : Nat) (d : Int), 0 ≤ d → c < d + f → 0 ≤ degF c w f d ∧ c < tm (degF c w f d) w
  | 0, d, hd, h => ⟨hd, by have := tm_ge d w hd hw; simp only [degF]; omega⟩
  | f + 1, d, hd, h => by
    rw [degF]
    split
    · exact degF_spec hw f (d + 1) (by omega) (by omega)
    · exact ⟨hd, by omega⟩
theorem deg_spec {c w : Int} (hw : 1 ≤ w) (hc : c ≤ 8000) : 0 ≤ deg c w ∧ c < tm (deg c w) w := degF_spec hw 9000 0 (Int.le_refl _) (by omega)
theorem parF_ok {n k t : Int} : ∀ (f : Nat) (m : Int), (parF n k t f m).2 = 0 → ∃ q, m ≤ q ∧ q < m + f ∧ okB n k t q = true ∧ parF n k t f m = ([q, deg (cost n q) (wt k), deg (cost n q) (wt k) / wt k], 0)
  | 0, m, h => by simp [parF] at h
  | f + 1, m, h => by
    rw [parF] at h ⊢
    by_cases e : okB n k t m = true
    · rw [if_pos e]; exact ⟨m, by omega, by omega, e, rfl⟩
    · rw [if_neg e] at h ⊢
      obtain ⟨q, h1, h2, h3, h4⟩ := parF_ok f (m + 1) h
      exact ⟨q, by omega, by omega, h3, h4⟩
structure ParOk (n k t m D L : Int) : Prop where
  hn : 1 ≤ n ∧ n ≤ 64
  hk : 0 ≤ k ∧ k ≤ n
  ht : 0 ≤ t ∧ t ≤ n
  hm : 1 ≤ m ∧ m ≤ 16
  hcost : cost n m ≤ 4096
  hD : 0 ≤ D
  hterms : cost n m < tm D (wt k)
  hL : L = D / wt k
  h64 : L ≤ 64
  hlt : D < m * (n - t)
theorem par_ok {n k t : Int} (h : (par n k t).2 = 0) : ∃ m D L, par n k t = ([m, D, L], 0) ∧ ParOk n k t m D L := by
  rw [par] at h ⊢
  by_cases hb : bad n k t = true
  · rw [if_pos hb] at h; simp at h
  · rw [if_neg hb] at h ⊢
    obtain ⟨q, h1, h2, h3, h4⟩ := parF_ok 16 1 h
    simp only [bad, Bool.or_eq_true, decide_eq_true_eq, not_or] at hb
    simp only [okB, Bool.and_eq_true, decide_eq_true_eq] at h3
    have hw : 1 ≤ wt k := by unfold wt; omega
    obtain ⟨d1, d2⟩ := deg_spec hw (show cost n q ≤ 8000 by omega)
    exact ⟨q, _, _, h4, ⟨by omega, by omega⟩, ⟨by omega, by omega⟩, ⟨by omega, by omega⟩, ⟨by omega, by omega⟩, h3.1, d1, d2, rfl, h3.2.1, h3.2.2⟩
end Go.Ld
namespace Go.Fd
open Go.Pl Go.Alg Go.Ld
theorem tmJ_ns {D w : Nat} (hw : 1 ≤ w) : ∀ j : Nat, j ≤ D / w + 1 → tmJ D w j = ((ns j fun j => if w * j ≤ D then D - w * j + 1 else 0 : Nat) : Int)
  | 0, _ => rfl
  | j + 1, h => by
    have h1 : w * j ≤ D := by
      have h2 : w * j ≤ w * (D / w) := Nat.mul_le_mul_left w (by omega)
      have h3 := Nat.mul_div_le D w
      omega
    rw [tmJ, tmJ_ns hw j (by omega), ns, if_pos h1]
    have h4 : (w : Int) * (j : Int) = ((w * j : Nat) : Int) := by simp
    rw [h4]
    omega
theorem tm_terms {D w : Nat} (hw : 1 ≤ w) : tm D w = (terms w (D / w + 1) D : Nat) := by
  rw [tm, show (((D : Nat) : Int) / (w : Int)).toNat.succ = D / w + 1 by rw [← Int.natCast_ediv, Int.toNat_natCast], tmJ_ns hw _ (Nat.le_refl _)]
  rfl
theorem intP_deg {P : FP} {X Y : Nat → K P} {n : Nat} {k t m D L : Int} {Q : Pol (Pol (K P))} (hp : ParOk n k t m D L) (h : IntP X Y n m.toNat (wt k).toNat (L.toNat + 1) Q) : wdg Q (wt k) ≤ D := by
  have hw : 1 ≤ wt k := by unfold wt; omega
  obtain ⟨d, hd⟩ : ∃ d : Nat, D = d := ⟨D.toNat, by have := hp.hD; omega⟩
  obtain ⟨w, hww⟩ : ∃ w : Nat, wt k = w := ⟨(wt k).toNat, by omega⟩
  obtain ⟨q, hq⟩ : ∃ q : Nat, m = q := ⟨m.toNat, by have := hp.hm; omega⟩
  have ht := hp.hterms
  have hL := hp.hL
  rw [hww] at h ht hL hw ⊢
  rw [hd] at ht hL ⊢
  rw [hq] at ht h
  simp only [Int.toNat_natCast] at h
  have hL2 : L.toNat = d / w := by rw [hL, ← Int.natCast_ediv, Int.toNat_natCast]
  rw [hL2] at h
  refine h.small d ?_
  rw [tm_terms (by omega)] at ht
  have hc := num_conds n q
  rw [show Go.Ld.cost (n : Int) (q : Int) = ((n : Int) * q * (q + 1)) / 2 from rfl, hc] at ht
  omega
end Go.Fd


namespace Go.Fd
open Go.Pl Go.Alg
def AllIn (q : Int) (l : List Int) : Prop := ∀ i : Nat, i < l.length → 0 ≤ gi l i ∧ gi l i < q
def DifI (xs : List Int) : Prop := ∀ i : Nat, i < xs.length → ∀ j : Nat, j < i → gi xs i ≠ gi xs j
def NoZ (l : List Int) : Prop := ∀ i : Nat, i < l.length → gi l i ≠ 0
open Classical in
noncomputable def grsE (q : Int) (xs ms : List Int) (K : Int) : Int :=
  if (xs.length : Int) < 1 ∨ 64 < (xs.length : Int) then 4 else if ms.length ≠ xs.length then 10 else if ¬ AllIn q xs ∨ ¬ AllIn q ms then 2 else if ¬ DifI xs then 18 else if ¬ NoZ ms then 7 else if K < 0 ∨ (xs.length : Int) < K then 6 else 0
structure GrsOk (q : Int) (xs ms : List Int) (K : Int) : Prop where
  n1 : 1 ≤ xs.length
  n64 : xs.length ≤ 64
  ml : ms.length = xs.length
  xin : AllIn q xs
  min : AllIn q ms
  dif : DifI xs
  noz : NoZ ms
  k0 : 0 ≤ K
  kn : K ≤ xs.length
theorem grsE_ok {q : Int} {xs ms : List Int} {K : Int} : grsE q xs ms K = 0 ↔ GrsOk q xs ms K := by
  rw [grsE]
  constructor
  · intro h
    split at h
    · omega
    · split at h
      · omega
      · split at h
        · omega
        · split at h
          · omega
          · split at h
            · omega
            · split at h
              · omega
              · rename_i h1 h2 h3 h4 h5 h6
                exact ⟨by omega, by omega, by omega, Classical.byContradiction fun hc => h3 (.inl hc), Classical.byContradiction fun hc => h3 (.inr hc), Classical.byContradiction h4, Classical.byContradiction h5, by omega, by omega⟩
  · rintro ⟨h1, h2, h3, h4, h5, h6, h7, h8, h9⟩
    rw [if_neg (by omega), if_neg (by omega), if_neg (by rintro (h | h) <;> contradiction), if_neg (by simpa using h6), if_neg (by simpa using h7), if_neg (by omega)]
open Classical in
noncomputable def elE (q : Int) (l : List Int) (n e : Int) : Int := if (l.length : Int) ≠ n then e else if ¬ AllIn q l then 2 else 0
open Classical in
noncomputable def taskE (q : Int) (xs ms : List Int) (K : Int) (ws : List Int) (t : Int) : Int :=
  if grsE q xs ms K ≠ 0 then grsE q xs ms K else if elE q ws xs.length 4 ≠ 0 then elE q ws xs.length 4 else (Go.Ld.par xs.length K t).2
theorem elE_ok {q : Int} {l : List Int} {n e : Int} (he : e ≠ 0) : elE q l n e = 0 ↔ (l.length : Int) = n ∧ AllIn q l := by
  rw [elE]
  constructor
  · intro h
    split at h
    · exact absurd h he
    · split at h
      · omega
      · rename_i h1 h2
        exact ⟨by omega, Classical.byContradiction h2⟩
  · rintro ⟨h1, h2⟩
    rw [if_neg (by omega), if_neg (by simpa using h2)]
variable {P : FP}
theorem grs_dif {xs : List Int} (h : AllIn P.q xs) (hd : DifI xs) : ∀ i j : Nat, i < xs.length → j < xs.length → i ≠ j → inK P (gi xs i) ≠ inK P (gi xs j) := fun i j hi hj hne e => by
  have h1 := congrArg Subtype.val e
  rw [inK_in (h i hi), inK_in (h j hj)] at h1
  rcases Nat.lt_or_ge i j with hl | hl
  · exact hd j hj i hl h1.symm
  · exact hd i hi j (by omega) h1
noncomputable def vals (P : FP) (ws ms : List Int) : List Int := tab ws.length fun i => (inK P (gi ws i) * invK P (inK P (gi ms i))).1
theorem vals_length (ws ms : List Int) : (vals P ws ms).length = ws.length := tab_length _ _
theorem vals_get {ws ms : List Int} {i : Nat} (h : i < ws.length) : inK P (gi (vals P ws ms) i) = inK P (gi ws i) * invK P (inK P (gi ms i)) := by
  rw [vals, gi_tab (by omega) (by omega), inK_val]; rfl
theorem inK_ne {z : Int} (h : 0 ≤ z ∧ z < P.q) (h0 : z ≠ 0) : inK P z ≠ 0 := fun e => by
  have := congrArg Subtype.val e
  rw [inK_in h] at this
  exact h0 this
end Go.Fd


namespace Go.Alg
section
variable {R : Type} [CR R]
def plist : List R → Pol R
  | [] => 0
  | r :: c => pC r + pX * plist c
theorem co_plist : ∀ (c : List R) (i : Nat), (plist c).co i = c.getD i 0
  | [], i => rfl
  | r :: c, 0 => by
    show (pC r + pX * plist c).co 0 = _
    rw [co_add, co_pX_zero, co_pC, if_pos rfl, add_zero]; rfl
  | r :: c, i + 1 => by
    show (pC r + pX * plist c).co (i + 1) = _
    rw [co_add, co_pX_mul, co_pC, if_neg (by omega), zero_add, co_plist c i]; rfl
theorem plist_tl (r : R) (c : List R) : (plist (r :: c)).tl = plist c := Pol.ext fun i => by
  show (plist (r :: c)).co (i + 1) = _
  rw [co_plist, co_plist]; rfl
theorem plist_co0 (r : R) (c : List R) : (plist (r :: c)).co 0 = r := by rw [co_plist]; rfl
open Classical in
noncomputable def rts (els : List R) : Nat → Pol (Pol R) → List (List R)
  | 0, F => if sub F 0 = 0 then [[]] else []
  | k + 1, F => els.flatMap fun r => if h : ∃ m, Low m F ∧ pev (fun c => c) r (line (dv m F)) = 0 then (rts els k (nx r (dv (Classical.choose h) F))).map (r :: ·) else []
theorem dv_ne {m : Nat} {F : Pol (Pol R)} (h : Low m F) : dv m F ≠ 0 := fun e => h.line (by rw [e]; rfl)
theorem mem_rts (hR : NZD R) (h1 : (1 : R) ≠ 0) (els : List R) : ∀ (k : Nat) (F : Pol (Pol R)), F ≠ 0 → ∀ c, c ∈ rts els k F ↔ c.length = k ∧ (∀ x ∈ c, x ∈ els) ∧ sub F (plist c) = 0
  | 0, F, _, c => by
    rw [rts]
    by_cases h : sub F 0 = 0
    · rw [if_pos h]
      constructor
      · intro hc
        obtain rfl : c = [] := by simpa using hc
        exact ⟨rfl, fun x hx => (by cases hx), h⟩
      · rintro ⟨hc, _⟩
        rw [List.eq_nil_of_length_eq_zero hc]; exact List.mem_cons_self ..
    · rw [if_neg h]
      constructor
      · intro hc; cases hc
      · rintro ⟨hc, _, hs⟩
        rw [List.eq_nil_of_length_eq_zero hc] at hs
        exact absurd hs h
  | k + 1, F, hF, c => by
    obtain ⟨m, hm⟩ := low_exists hF
    rw [rts, List.mem_flatMap]
    constructor
    · rintro ⟨r, hr, hc⟩
      split at hc
      · rename_i h
        have hch := Classical.choose_spec h
        have hmm := hm.uniq hch.1
        rw [← hmm] at hc hch
        obtain ⟨d, hd, rfl⟩ := List.mem_map.1 hc
        obtain ⟨d1, d2, d3⟩ := (mem_rts hR h1 els k _ (nx_ne hR h1 (dv_ne hm)) d).1 hd
        refine ⟨by rw [List.length_cons, d1], fun x hx => ?_, ?_⟩
        · rcases List.mem_cons.1 hx with e | e
          · rw [e]; exact hr
          · exact d2 x e
        · rw [search_step hR h1 hm, plist_co0, plist_tl]
          exact ⟨hch.2, d3⟩
      · cases hc
    · rintro ⟨hl, he, hs⟩
      obtain ⟨r, d, rfl⟩ : ∃ r d, c = r :: d := by
        cases c with
        | nil => simp at hl
        | cons r d => exact ⟨r, d, rfl⟩
      rw [search_step hR h1 hm, plist_co0, plist_tl] at hs
      refine ⟨r, he r (List.mem_cons_self ..), ?_⟩
      have hex : ∃ m, Low m F ∧ pev (fun c => c) r (line (dv m F)) = 0 := ⟨m, hm, hs.1⟩
      rw [dif_pos hex]
      have hmm := hm.uniq (Classical.choose_spec hex).1
      rw [← hmm]
      exact List.mem_map.2 ⟨d, (mem_rts hR h1 els k _ (nx_ne hR h1 (dv_ne hm)) d).2 ⟨by simpa using hl, fun x hx => he x (List.mem_cons_of_mem _ hx), hs.2⟩, rfl⟩
def LexLt (lt : R → R → Prop) : List R → List R → Prop
  | a :: l, b :: m => lt a b ∨ (a = b ∧ LexLt lt l m)
  | _, _ => False
theorem rts_sorted {lt : R → R → Prop} {els : List R} (hs : els.Pairwise lt) : ∀ (k : Nat) (F : Pol (Pol R)), (rts els k F).Pairwise (LexLt lt)
  | 0, F => by
    rw [rts]
    split
    · exact List.pairwise_singleton _ _
    · exact List.Pairwise.nil
  | k + 1, F => by
    rw [rts, List.pairwise_flatMap]
    refine ⟨fun r _ => ?_, hs.imp fun {a b} hab x hx y hy => ?_⟩
    · split
      · rw [List.pairwise_map]
        exact (rts_sorted hs k _).imp fun {x y} h => .inr ⟨rfl, h⟩
      · exact List.Pairwise.nil
    · split at hx
      · split at hy
        · obtain ⟨x', _, rfl⟩ := List.mem_map.1 hx
          obtain ⟨y', _, rfl⟩ := List.mem_map.1 hy
          exact .inl hab
        · cases hy
      · cases hx
end
end Go.Alg


namespace Go.Fd
open Go.Pl Go.Alg
variable {P : FP}
noncomputable def lowOf (F : Pol (Pol (K P))) : Nat := open Classical in if h : F ≠ 0 then Classical.choose (low_exists h) else 0
theorem lowOf_spec {F : Pol (Pol (K P))} (h : F ≠ 0) : Low (lowOf F) F := by
  rw [lowOf, dif_pos h]
  exact Classical.choose_spec (low_exists h)
theorem lowOf_eq {F : Pol (Pol (K P))} {m : Nat} (h : Low m F) : lowOf F = m := by
  have hF : F ≠ 0 := fun e => by
    obtain ⟨_, j, hj⟩ := h
    rw [e] at hj
    exact hj rfl
  exact (lowOf_spec hF).uniq h
def LowP (F : Pol (Pol (K P))) (i : Nat) (low : Int) : Prop :=
  (low = -1 ∧ ∀ j, j < i → F.co j = 0) ∨ ∃ m : Nat, low = m ∧ (∃ j, j < i ∧ (F.co j).co m ≠ 0) ∧ ∀ j, j < i → ∀ t, t < m → (F.co j).co t = 0
theorem LowP.first (F : Pol (Pol (K P))) : LowP F 0 (-1) := .inl ⟨rfl, fun j h => by omega⟩
theorem LowP.zero {F : Pol (Pol (K P))} {i : Nat} {low : Int} (h : LowP F i low) (h0 : F.co i = 0) : LowP F (i + 1) low := by
  rcases h with ⟨rfl, h⟩ | ⟨m, rfl, ⟨j, hj, hm⟩, h⟩
  · refine .inl ⟨rfl, fun j hj => ?_⟩
    by_cases e : j = i
    · rw [e]; exact h0
    · exact h j (by omega)
  · refine .inr ⟨m, rfl, ⟨j, by omega, hm⟩, fun j hj t ht => ?_⟩
    by_cases e : j = i
    · rw [e, h0]; rfl
    · exact h j (by omega) t ht
theorem LowP.take {F : Pol (Pol (K P))} {i : Nat} {low : Int} {t : Nat} (h : LowP F i low) (h0 : ∀ s, s < t → (F.co i).co s = 0) (h1 : (F.co i).co t ≠ 0) (hl : low < 0 ∨ (t : Int) < low) : LowP F (i + 1) t := by
  refine .inr ⟨t, rfl, ⟨i, by omega, h1⟩, fun j hj s hs => ?_⟩
  by_cases e : j = i
  · rw [e]; exact h0 s hs
  · rcases h with ⟨rfl, h⟩ | ⟨m, rfl, _, h⟩
    · rw [h j (by omega)]; rfl
    · exact h j (by omega) s (by omega)
theorem LowP.keep {F : Pol (Pol (K P))} {i : Nat} {low : Int} {t : Nat} (h : LowP F i low) (h0 : ∀ s, s < t → (F.co i).co s = 0) (hl : ¬ (low < 0 ∨ (t : Int) < low)) : LowP F (i + 1) low := by
  rcases h with ⟨rfl, h⟩ | ⟨m, rfl, ⟨j, hj, hm⟩, h⟩
  · exact absurd (.inl (by omega)) hl
  · refine .inr ⟨m, rfl, ⟨j, by omega, hm⟩, fun j hj s hs => ?_⟩
    by_cases e : j = i
    · rw [e]; exact h0 s (by omega)
    · exact h j (by omega) s hs
theorem LowP.last {F : Pol (Pol (K P))} {n : Nat} {low : Int} (hF : F ≠ 0) (hn : YB n F) (h : LowP F n low) : low = lowOf F := by
  rcases h with ⟨rfl, h⟩ | ⟨m, rfl, ⟨j, hj, hm⟩, h⟩
  · exfalso
    refine hF (Pol.ext fun j => ?_)
    rcases Nat.lt_or_ge j n with e | e
    · exact h j e
    · exact hn j e
  · rw [lowOf_eq (m := m) ⟨fun i j hi => ?_, j, hm⟩]
    rcases Nat.lt_or_ge j n with e | e
    · exact h j e i hi
    · rw [hn j e]; rfl
theorem cl_drop (f : Pol (K P)) (m : Nat) : cl (dropP m f) = (cl f).drop m := cl_of ⟨fun x hx => (cl_cn f).rng x (List.mem_of_mem_drop hx), fun i => by
    rw [List.getD_eq_getElem?_getD, List.getElem?_drop, ← List.getD_eq_getElem?_getD, cl_getD, inK_val, co_dropP, Nat.add_comm], fun h => by
    have hl : m < (cl f).length := by
      apply Classical.byContradiction
      intro hc
      exact h (List.drop_eq_nil_of_le (by omega))
    rw [List.length_drop, List.getD_eq_getElem?_getD, List.getElem?_drop, ← List.getD_eq_getElem?_getD, show m + ((cl f).length - m - 1) = (cl f).length - 1 by omega]
    exact (cl_cn f).last (List.ne_nil_of_length_pos (by omega))⟩
theorem low_len {F : Pol (Pol (K P))} {m : Nat} (h : Low m F) {j : Nat} (hj : cl (F.co j) ≠ []) : m < (cl (F.co j)).length := by
  apply Classical.byContradiction
  intro hc
  refine (cl_cn (F.co j)).last hj ?_
  have h0 : 0 < (cl (F.co j)).length := List.length_pos_iff.2 hj
  rw [cl_getD, h.1 _ j (by omega)]; rfl
theorem dv_rows {F : Pol (Pol (K P))} {m : Nat} (h : Low m F) : tab (bcl F).length (fun j => cl ((Go.Alg.dv m F).co j)) = bcl (Go.Alg.dv m F) := by
  refine (bcl_of ⟨fun j => ?_, fun hne => ?_⟩).symm
  · rw [tab_at]
    split
    · exact cl_cn _
    · rename_i hj
      rw [co_dv, bcl_over F (by omega), dropP_zero]
      exact Cn.zero
  · rw [tab_length, tab_at]
    have hl : 0 < (bcl F).length := by
      rcases Nat.eq_zero_or_pos (bcl F).length with e | e
      · rw [e] at hne; exact absurd rfl hne
      · exact e
    rw [if_pos (by omega), co_dv, cl_drop]
    have hlast := (bcl_cn F).last (List.length_pos_iff.1 hl)
    rw [bcl_row] at hlast
    have := low_len h hlast
    exact List.ne_nil_of_length_pos (by rw [List.length_drop]; omega)
theorem dv_bounds {F : Pol (Pol (K P))} {n b m : Nat} (hn : YB n F) (hb : XB b F) : YB n (Go.Alg.dv m F) ∧ XB b (Go.Alg.dv m F) := by
  refine ⟨fun j hj => by rw [co_dv, hn j hj, dropP_zero], fun j i hi => ?_⟩
  rw [co_dv, co_dropP]
  exact hb j _ (by omega)
def rootsIn (P : FP) (f : K P → K P) (xs : List Int) : List Int := xs.filter fun x => decide ((f (inK P x)).1 = 0)
def els (n : Nat) : List Int := (List.range n).map fun k : Nat => (k : Int)
theorem els_succ (n : Nat) : els (n + 1) = els n ++ [(n : Int)] := by simp [els, List.range_succ]
theorem els_length (n : Nat) : (els n).length = n := by simp [els]
theorem mem_els {n : Nat} {y : Int} : y ∈ els n ↔ 0 ≤ y ∧ y < n := by
  simp only [els, List.mem_map, List.mem_range]
  constructor
  · rintro ⟨k, h, rfl⟩; omega
  · intro h; exact ⟨y.toNat, by omega, by omega⟩
theorem rootsIn_snoc (P : FP) (f : K P → K P) (xs : List Int) (x : Int) : rootsIn P f (xs ++ [x]) = if (f (inK P x)).1 = 0 then rootsIn P f xs ++ [x] else rootsIn P f xs := by
  rw [rootsIn, List.filter_append]
  by_cases h : (f (inK P x)).1 = 0
  · rw [if_pos h, List.filter_cons_of_pos (by simp [h])]; rfl
  · rw [if_neg h, List.filter_cons_of_neg (by simp [h]), List.filter_nil, List.append_nil]; rfl
theorem rootsIn_len (P : FP) (f : K P → K P) (xs : List Int) : (rootsIn P f xs).length ≤ xs.length := List.length_filter_le _ _
noncomputable def srch (P : FP) : Nat → Pol (Pol (K P)) → List Int → List (List Int)
  | 0, F, f => if cl (F.co 0) = [] then [f] else []
  | k + 1, F, f => (rootsIn P (fun x => val1 (line (Go.Alg.dv (lowOf F) F)) x) (els P.q.toNat)).flatMap fun r => srch P k (nx (inK P r) (Go.Alg.dv (lowOf F) F)) (f ++ [r])
end Go.Fd


namespace Go.Fd
open Go.Pl Go.Alg
variable {P : FP}
def elsK (P : FP) : List (K P) := (els P.q.toNat).map (inK P)
theorem mem_elsK (x : K P) : x ∈ elsK P := List.mem_map.2 ⟨x.1, mem_els.2 (by have := x.2; omega), inK_val x⟩
theorem filter_flatMap {α β : Type} (p : α → Bool) (g : α → List β) : ∀ l : List α, (l.filter p).flatMap g = l.flatMap fun x => if p x then g x else []
  | [] => rfl
  | a :: l => by
    rw [List.flatMap_cons, ← filter_flatMap p g l]
    by_cases h : p a = true
    · rw [List.filter_cons_of_pos h, List.flatMap_cons, if_pos h]
    · rw [List.filter_cons_of_neg h, if_neg h, List.nil_append]
theorem flatMap_congr' {α β : Type} {f g : α → List β} : ∀ {l : List α}, (∀ x ∈ l, f x = g x) → l.flatMap f = l.flatMap g
  | [], _ => rfl
  | a :: l, h => by rw [List.flatMap_cons, List.flatMap_cons, h a (List.mem_cons_self ..), flatMap_congr' fun x hx => h x (List.mem_cons_of_mem _ hx)]
theorem val1_pev (f : Pol (K P)) (x : K P) : val1 f x = pev (fun c => c) x f := rfl
theorem srch_rts (hK : NZD (K P)) (h1 : (1 : K P) ≠ 0) : ∀ (k : Nat) (F : Pol (Pol (K P))) (f : List Int), F ≠ 0 → srch P k F f = (rts (elsK P) k F).map fun c => f ++ c.map (·.1)
  | 0, F, f, hF => by
    rw [srch, rts]
    have e : sub F 0 = F.co 0 := by
      rw [sub, ← dropP_none F, pev_horner Hom.id, zero_mul, add_zero, dropP_none]
    rw [e]
    by_cases h : F.co 0 = 0
    · rw [if_pos (cl_nil.2 h), if_pos h]; simp
    · rw [if_neg (fun e => h (cl_nil.1 e)), if_neg h]; rfl
  | k + 1, F, f, hF => by
    have hLow := lowOf_spec hF
    have hne := dv_ne hLow
    rw [srch, rts, rootsIn, filter_flatMap, elsK, List.flatMap_map, List.map_flatMap]
    refine flatMap_congr' fun r hr => ?_
    have hr' := mem_els.1 hr
    have hrv : (inK P r).1 = r := by rw [inK_in (by have := P.q_two; omega)]
    by_cases h : (val1 (line (Go.Alg.dv (lowOf F) F)) (inK P r)).1 = 0
    · have h0 : pev (fun c => c) (inK P r) (line (Go.Alg.dv (lowOf F) F)) = 0 := Subtype.ext h
      have hex : ∃ m, Low m F ∧ pev (fun c => c) (inK P r) (line (Go.Alg.dv m F)) = 0 := ⟨_, hLow, h0⟩
      have hmm := hLow.uniq (Classical.choose_spec hex).1
      rw [if_pos (by simp [h]), dif_pos hex, ← hmm, srch_rts hK h1 k _ _ (nx_ne hK h1 hne), List.map_map]
      refine List.map_congr_left fun c hc => ?_
      simp [hrv]
    · rw [if_neg (by simp [h]), dif_neg ?_, List.map_nil]
      rintro ⟨m, hm, hz⟩
      rw [hLow.uniq hm] at h
      exact h (by rw [val1_pev, hz]; rfl)
theorem lexLt_irr {lt : K P → K P → Prop} (hl : ∀ x, ¬ lt x x) : ∀ l : List (K P), ¬ LexLt lt l l
  | [], h => h
  | a :: l, h => by
    rcases h with h | ⟨_, h⟩
    · exact hl a h
    · exact lexLt_irr hl l h
theorem plist_inj : ∀ {c d : List (K P)}, c.length = d.length → plist c = plist d → c = d
  | [], [], _, _ => rfl
  | a :: c, b :: d, hl, h => by
    have h0 := congrArg (fun f => Pol.co f 0) h
    have ht := congrArg Pol.tl h
    rw [plist_tl, plist_tl] at ht
    simp only [plist_co0] at h0
    rw [h0, plist_inj (by simpa using hl) ht]
theorem els_sorted : ∀ n, (els n).Pairwise (· < ·)
  | 0 => List.Pairwise.nil
  | n + 1 => by
    rw [els_succ, List.pairwise_append]
    refine ⟨els_sorted n, List.pairwise_singleton _ _, fun a ha b hb => ?_⟩
    obtain rfl : b = n := by simpa using hb
    exact (mem_els.1 ha).2
def ltK (x y : K P) : Prop := x.1 < y.1
theorem elsK_sorted : (elsK P).Pairwise ltK := by
  rw [elsK, List.pairwise_map]
  refine List.Pairwise.imp_of_mem ?_ (els_sorted P.q.toNat)
  intro a b ha hb hab
  have ha' := mem_els.1 ha
  have hb' := mem_els.1 hb
  have := P.q_two
  show (inK P a).1 < (inK P b).1
  rw [inK_in (by omega), inK_in (by omega)]
  exact hab
theorem rts_nodup (k : Nat) (F : Pol (Pol (K P))) : (rts (elsK P) k F).Nodup := by
  refine (rts_sorted elsK_sorted k F).imp ?_
  intro a b hab e
  subst e
  exact lexLt_irr (fun x h => by have : x.1 < x.1 := h; omega) a hab
theorem rts_len (hK : NZD (K P)) (h1 : (1 : K P) ≠ 0) {F : Pol (Pol (K P))} (hF : F ≠ 0) {n : Nat} (hn : YB (n + 1) F) (k : Nat) : (rts (elsK P) k F).length ≤ n := by
  have h := roots_le (pol_nzd hK) n F hF hn ((rts (elsK P) k F).map plist) ?_ ?_
  · rwa [List.length_map] at h
  · rw [List.Nodup, List.pairwise_map]
    refine List.Pairwise.imp_of_mem ?_ (rts_nodup k F)
    intro a b ha hb hab e
    have ha' := ((mem_rts hK h1 (elsK P) k F hF a).1 ha).1
    have hb' := ((mem_rts hK h1 (elsK P) k F hF b).1 hb).1
    exact hab (plist_inj (ha'.trans hb'.symm) e)
  · intro a ha
    obtain ⟨c, hc, rfl⟩ := List.mem_map.1 ha
    exact ((mem_rts hK h1 (elsK P) k F hF c).1 hc).2.2
theorem k_one_ne' : (1 : K P) ≠ 0 := fun e => by
  have := congrArg Subtype.val e
  exact absurd this (by show ¬ ((1 : Int) = 0); omega)
theorem srch_len (hK : NZD (K P)) {F : Pol (Pol (K P))} (hF : F ≠ 0) {n : Nat} (hn : YB n F) (k : Nat) (f : List Int) : (srch P k F f).length ≤ n := by
  rw [srch_rts hK k_one_ne' k F f hF, List.length_map]
  exact rts_len hK k_one_ne' hF (hn.mono (by omega)) k
end Go.Fd


namespace Go.Fd
open Go.Pl Go.Alg
variable {P : FP}
theorem pz_map (c : List (K P)) : pz P (c.map (·.1)) = plist c := Pol.ext fun i => by
  rw [co_pz, co_plist, List.getD_eq_getElem?_getD, List.getElem?_map, List.getD_eq_getElem?_getD]
  cases c[i]? with
  | none => exact inK0
  | some x => exact inK_val x
structure RtL (F : Pol (Pol (K P))) (k : Nat) (L : List (List Int)) (R : List (List (K P))) : Prop where
  eq : L = R.map fun c => cl (plist c)
  mem : ∀ c, c ∈ R ↔ c.length = k ∧ subst F (plist c) = 0
  sorted : R.Pairwise (LexLt ltK)
  len : ∀ n, YB (n + 1) F → R.length ≤ n
theorem found_list (hK : NZD (K P)) {F : Pol (Pol (K P))} (hF : F ≠ 0) (k : Nat) : RtL F k ((srch P k F []).map fun f => cl (pz P f)) (rts (elsK P) k F) := by
  refine ⟨?_, fun c => ?_, rts_sorted elsK_sorted k F, fun n hn => rts_len hK k_one_ne' hF hn k⟩
  · rw [srch_rts hK k_one_ne' k F [] hF, List.map_map]
    refine List.map_congr_left fun c _ => ?_
    show cl (pz P ([] ++ c.map (·.1))) = _
    rw [List.nil_append, pz_map]
  · rw [mem_rts hK k_one_ne' (elsK P) k F hF c]
    exact ⟨fun h => ⟨h.1, h.2.2⟩, fun h => ⟨h.1, fun x _ => mem_elsK x, h.2⟩⟩
theorem RtL.has {F : Pol (Pol (K P))} {k : Nat} {L : List (List Int)} {R : List (List (K P))} (h : RtL F k L R) {g : Pol (K P)} (hg : YB k g) (h0 : subst F g = 0) : cl g ∈ L := by
  have e : plist (tab k fun i => g.co i) = g := Pol.ext fun i => by
    rw [co_plist, tab_at]
    split
    · rfl
    · exact (hg i (by omega)).symm
  rw [h.eq]
  refine List.mem_map.2 ⟨tab k fun i => g.co i, (h.mem _).2 ⟨tab_length _ _, by rw [e]; exact h0⟩, ?_⟩
  rw [e]
theorem lexLt_less : ∀ {c d : List (K P)}, c.length = d.length → LexLt ltK c d → ∃ i, i < c.length ∧ (∀ t, t < i → (plist c).co t = (plist d).co t) ∧ ((plist c).co i).1 < ((plist d).co i).1
  | [], _, _, h => h.elim
  | _ :: _, [], hl, _ => by simp at hl
  | a :: c, b :: d, hl, h => by
    rcases h with h | ⟨rfl, h⟩
    · exact ⟨0, by simp, fun t ht => by omega, by rw [plist_co0, plist_co0]; exact h⟩
    · obtain ⟨i, h1, h2, h3⟩ := lexLt_less (by simpa using hl) h
      have e : ∀ (x : K P) (l : List (K P)) (t : Nat), (plist (x :: l)).co (t + 1) = (plist l).co t := fun x l t => by rw [co_plist, co_plist]; rfl
      refine ⟨i + 1, by simpa using h1, fun t ht => ?_, by rw [e, e]; exact h3⟩
      cases t with
      | zero => rw [plist_co0, plist_co0]
      | succ t => rw [e, e]; exact h2 t (by omega)
theorem RtL.row {F : Pol (Pol (K P))} {k : Nat} {L : List (List Int)} {R : List (List (K P))} (h : RtL F k L R) {i : Nat} (hi : i < L.length) : ∃ g : Pol (K P), L.getD i [] = cl g ∧ YB k g ∧ subst F g = 0 := by
  have hR : i < R.length := by rw [h.eq, List.length_map] at hi; exact hi
  obtain ⟨h1, h2⟩ := (h.mem _).1 (List.getElem_mem hR)
  refine ⟨plist R[i], ?_, fun j hj => ?_, h2⟩
  · rw [h.eq, List.getD_eq_getElem?_getD, List.getElem?_map, List.getElem?_eq_getElem hR]; rfl
  · rw [co_plist, List.getD_eq_getElem?_getD, List.getElem?_eq_none (by omega)]; rfl
theorem RtL.less {F : Pol (Pol (K P))} {k : Nat} {L : List (List Int)} {R : List (List (K P))} (h : RtL F k L R) {i : Nat} (hi : i + 1 < L.length) : ∃ j, j < k ∧ (∀ t, t < j → (pz P (L.getD i [])).co t = (pz P (L.getD (i + 1) [])).co t) ∧ ((pz P (L.getD i [])).co j).1 < ((pz P (L.getD (i + 1) [])).co j).1 := by
  have hR : i + 1 < R.length := by rw [h.eq, List.length_map] at hi; exact hi
  have e : ∀ j, (hj : j < R.length) → pz P (L.getD j []) = plist R[j] := fun j hj => by
    rw [h.eq, List.getD_eq_getElem?_getD, List.getElem?_map, List.getElem?_eq_getElem hj]
    exact pz_cl _
  have h1 := ((h.mem _).1 (List.getElem_mem (show i < R.length by omega))).1
  have h2 := ((h.mem _).1 (List.getElem_mem hR)).1
  have hs := List.pairwise_iff_getElem.1 h.sorted i (i + 1) (by omega) hR (by omega)
  obtain ⟨j, k1, k2, k3⟩ := lexLt_less (h1.trans h2.symm) hs
  rw [e i (by omega), e (i + 1) hR]
  exact ⟨j, by omega, k2, k3⟩
end Go.Fd


namespace Go.Fd
open Go.Pl Go.Alg
variable {P : FP}
noncomputable def encW (P : FP) (xs ms : List Int) (f : Pol (K P)) : List Int := tab xs.length fun i => (inK P (gi ms i) * val1 f (inK P (gi xs i))).1
theorem encW_length (xs ms : List Int) (f : Pol (K P)) : (encW P xs ms f).length = xs.length := tab_length _ _
theorem encW_get {xs ms : List Int} {f : Pol (K P)} {i : Nat} (h : i < xs.length) : gi (encW P xs ms f) i = (inK P (gi ms i) * val1 f (inK P (gi xs i))).1 := by
  rw [encW, gi_tab (by omega) (by omega)]; rfl
def disN (a b : List Int) (n : Nat) : Nat := ns n fun i => if gi a i = gi b i then 0 else 1
theorem disN_step (a b : List Int) (n : Nat) : disN a b (n + 1) = disN a b n + (if gi a n = gi b n then 0 else 1) := rfl
theorem disN_le (a b : List Int) : ∀ n, disN a b n ≤ n
  | 0 => Nat.le_refl _
  | n + 1 => by
    rw [disN_step]
    have := disN_le a b n
    split <;> omega
theorem disN_good (a b : List Int) : ∀ n, disN a b n + ns n (fun i => if decide (gi a i = gi b i) = true then 1 else 0) = n
  | 0 => rfl
  | n + 1 => by
    have := disN_good a b n
    rw [disN_step]
    show disN a b n + _ + (ns n _ + (if decide (gi a n = gi b n) = true then 1 else 0)) = n + 1
    by_cases e : gi a n = gi b n
    · rw [if_pos e, if_pos (by simpa using e)]; omega
    · rw [if_neg e, if_neg (by simpa using e)]; omega
theorem ns_const (n : Nat) : ns n (fun _ => 1) = n := by
  induction n with
  | zero => rfl
  | succ n ih => show ns n _ + 1 = n + 1; rw [ih]
theorem few_zeros (hK : NZD (K P)) {c : Nat} {X : Nat → K P} (hX : ∀ i j, i < c → j < c → i ≠ j → X i ≠ X j) {f : Pol (K P)} (hf : YB c f) (h0 : ∀ i, i < c → val1 f (X i) = 0) : f = 0 := by
  refine zeros_zero hK hX c (fun _ => 1) f hf (fun i hi s hs => ?_) (by rw [ns_const]; exact Nat.le_refl _)
  obtain rfl : s = 0 := by omega
  rw [val1_sh]
  exact h0 i hi
theorem encW_inj (hK : NZD (K P)) {xs ms : List Int} {k : Int} (h : GrsOk P.q xs ms k) {f g : Pol (K P)} (hf : YB k.toNat f) (hg : YB k.toNat g) (e : encW P xs ms f = encW P xs ms g) : f = g := by
  have hd := grs_dif (P := P) h.xin h.dif
  have hz : f + -g = 0 := by
    refine few_zeros hK (c := xs.length) (X := fun i => inK P (gi xs i)) hd (fun i hi => ?_) (fun i hi => ?_)
    · have := h.kn
      rw [co_add, co_neg, hf i (by omega), hg i (by omega), neg_zero, add_zero]
    · have h1 : inK P (gi ms i) * val1 f (inK P (gi xs i)) = inK P (gi ms i) * val1 g (inK P (gi xs i)) := by
        have : gi (encW P xs ms f) i = gi (encW P xs ms g) i := by rw [e]
        rw [encW_get hi, encW_get hi] at this
        exact Subtype.ext this
      have hm : inK P (gi ms i) ≠ 0 := inK_ne (h.min i (by rw [h.ml]; exact hi)) (h.noz i (by rw [h.ml]; exact hi))
      rw [(val1_hom _).add, (val1_hom _).neg]
      have h2 : inK P (gi ms i) * (val1 f (inK P (gi xs i)) + -val1 g (inK P (gi xs i))) = 0 := by rw [mul_add, h1, mul_neg, add_neg]
      exact (hK _ _ h2).resolve_left hm
  exact eq_of_add_neg hz
def Asc (L : List (List Int)) : Prop := L.Pairwise fun a b => cmpL a b < 0
theorem cmpL_lt_trans {a b c : List Int} (h : cmpL a b < 0) (k : cmpL b c < 0) : cmpL a c < 0 := by
  have h1 := cmpL_trans a b c (by omega) (by omega)
  rcases Int.lt_or_eq_of_le h1 with h2 | h2
  · exact h2
  · exfalso
    rw [cmpL_eq] at h2
    subst h2
    have := cmpL_anti a b
    omega
theorem asc_ext : ∀ {A B : List (List Int)}, Asc A → Asc B → (∀ c, c ∈ A ↔ c ∈ B) → A = B
  | [], [], _, _, _ => rfl
  | [], b :: B, _, _, h => by have := (h b).2 (List.mem_cons_self ..); cases this
  | a :: A, [], _, _, h => by have := (h a).1 (List.mem_cons_self ..); cases this
  | a :: A, b :: B, hA, hB, h => by
    obtain ⟨ha, hA'⟩ := List.pairwise_cons.1 hA
    obtain ⟨hb, hB'⟩ := List.pairwise_cons.1 hB
    have hself := fun x : List Int => cmpL_self x
    have e : a = b := by
      rcases List.mem_cons.1 ((h a).1 (List.mem_cons_self ..)) with h1 | h1
      · exact h1
      · rcases List.mem_cons.1 ((h b).2 (List.mem_cons_self ..)) with h2 | h2
        · exact h2.symm
        · have h3 := cmpL_lt_trans (ha b h2) (hb a h1)
          rw [hself] at h3
          omega
    subst e
    rw [asc_ext hA' hB' fun c => ⟨fun hc => ?_, fun hc => ?_⟩]
    · rcases List.mem_cons.1 ((h c).1 (List.mem_cons_of_mem _ hc)) with rfl | h1
      · have := ha c hc
        rw [hself] at this
        omega
      · exact h1
    · rcases List.mem_cons.1 ((h c).2 (List.mem_cons_of_mem _ hc)) with rfl | h1
      · have := hb c hc
        rw [hself] at this
        omega
      · exact h1
structure IsNear (P : FP) (xs ms ws : List Int) (k t : Int) (Q : Pol (Pol (K P))) (L : List (List Int)) : Prop where
  asc : Asc L
  mem : ∀ c, c ∈ L ↔ ∃ f, YB k.toNat f ∧ subst Q f = 0 ∧ c = encW P xs ms f ∧ (disN c ws xs.length : Int) ≤ t
theorem IsNear.uniq {xs ms ws : List Int} {k t : Int} {Q : Pol (Pol (K P))} {L L' : List (List Int)} (h : IsNear P xs ms ws k t Q L) (h' : IsNear P xs ms ws k t Q L') : L = L' :=
  asc_ext h.asc h'.asc fun c => (h.mem c).trans (h'.mem c).symm
noncomputable def nearL (P : FP) (xs ms ws : List Int) (t : Int) (R : List (List Int)) : List (List Int) := (R.map fun z => encW P xs ms (pz P z)).filter fun c => decide ((disN c ws xs.length : Int) ≤ t)
theorem nearL_snoc (xs ms ws : List Int) (t : Int) (R : List (List Int)) (z : List Int) : nearL P xs ms ws t (R ++ [z]) = if (disN (encW P xs ms (pz P z)) ws xs.length : Int) ≤ t then nearL P xs ms ws t R ++ [encW P xs ms (pz P z)] else nearL P xs ms ws t R := by
  rw [nearL, List.map_append, List.filter_append, ← nearL]
  by_cases h : (disN (encW P xs ms (pz P z)) ws xs.length : Int) ≤ t
  · rw [if_pos h]; simp [h]
  · rw [if_neg h]; simp [h]
theorem nearL_len (xs ms ws : List Int) (t : Int) (R : List (List Int)) : (nearL P xs ms ws t R).length ≤ R.length := by
  rw [nearL]
  exact Nat.le_trans (List.length_filter_le _ _) (by rw [List.length_map]; exact Nat.le_refl _)
theorem near_of (hK : NZD (K P)) {xs ms ws : List Int} {k t : Int} (h : GrsOk P.q xs ms k) {Q : Pol (Pol (K P))} {R : List (List Int)} {RR : List (List (K P))} (hR : RtL Q k.toNat R RR) {L : List (List Int)} (hp : L.Perm (nearL P xs ms ws t R)) (hs : L.Pairwise fun a b => cmpL a b ≤ 0) : IsNear P xs ms ws k t Q L := by
  have hrow : ∀ z, z ∈ R → ∃ c, c ∈ RR ∧ z = cl (plist c) := fun z hz => by
    rw [hR.eq] at hz
    obtain ⟨c, h1, h2⟩ := List.mem_map.1 hz
    exact ⟨c, h1, h2.symm⟩
  have hyb : ∀ c, c ∈ RR → YB k.toNat (plist c) := fun c hc i hi => by
    have h1 := ((hR.mem c).1 hc).1
    rw [co_plist, List.getD_eq_getElem?_getD, List.getElem?_eq_none (by omega)]; rfl
  have hnd : RR.Nodup := hR.sorted.imp fun {a b} hab e => by
    subst e
    exact lexLt_irr (fun x hx => by have : x.1 < x.1 := hx; omega) a hab
  have hnd2 : (R.map fun z => encW P xs ms (pz P z)).Nodup := by
    rw [hR.eq, List.map_map]
    refine List.pairwise_map.2 ?_
    refine (List.pairwise_iff_getElem.2 fun i j hi hj hij => ?_)
    have h1 := List.pairwise_iff_getElem.1 hnd i j hi hj hij
    intro e
    have e2 : encW P xs ms (plist RR[i]) = encW P xs ms (plist RR[j]) := by
      have : encW P xs ms (pz P (cl (plist RR[i]))) = encW P xs ms (pz P (cl (plist RR[j]))) := e
      rwa [pz_cl, pz_cl] at this
    have e3 := encW_inj hK h (hyb _ (List.getElem_mem hi)) (hyb _ (List.getElem_mem hj)) e2
    exact h1 (plist_inj (by rw [((hR.mem _).1 (List.getElem_mem hi)).1, ((hR.mem _).1 (List.getElem_mem hj)).1]) e3)
  have hndL : L.Nodup := hp.nodup_iff.2 (hnd2.sublist (List.filter_sublist ..))
  refine ⟨?_, fun c => ?_⟩
  · refine List.pairwise_iff_getElem.2 fun i j hi hj hij => ?_
    have h1 := List.pairwise_iff_getElem.1 hs i j hi hj hij
    have h2 := List.pairwise_iff_getElem.1 hndL i j hi hj hij
    rcases Int.lt_or_eq_of_le h1 with h3 | h3
    · exact h3
    · exact absurd ((cmpL_eq _ _).1 h3) h2
  · rw [hp.mem_iff, nearL, List.mem_filter]
    constructor
    · rintro ⟨h1, h2⟩
      obtain ⟨z, hz, rfl⟩ := List.mem_map.1 h1
      obtain ⟨d, hd, rfl⟩ := hrow z hz
      refine ⟨plist d, hyb d hd, ((hR.mem d).1 hd).2, by rw [pz_cl], by simpa using h2⟩
    · rintro ⟨f, hf, hq, rfl, hd⟩
      exact ⟨List.mem_map.2 ⟨cl f, hR.has hf hq, by rw [pz_cl]⟩, by simpa using hd⟩
theorem near_len {xs ms ws : List Int} {k t : Int} {Q : Pol (Pol (K P))} {R : List (List Int)} {RR : List (List (K P))} (hR : RtL Q k.toNat R RR) {L : List (List Int)} (hp : L.Perm (nearL P xs ms ws t R)) {n : Nat} (hn : YB (n + 1) Q) : L.length ≤ n := by
  rw [hp.length_eq]
  refine Nat.le_trans (nearL_len _ _ _ _ _) ?_
  rw [hR.eq, List.length_map]
  exact hR.len n hn
theorem near_root (hK : NZD (K P)) {g : K P} (hgen : HasOrder g (n1 P)) {xs ms ws : List Int} {k t : Int} (h : GrsOk P.q xs ms k) (_ : AllIn P.q ws) (hwl : ws.length = xs.length) {Q : Pol (Pol (K P))} {m : Nat}
    (hv : ∀ i, i < xs.length → Van (inK P (gi xs i)) (inK P (gi (vals P ws ms) i)) Q m) (hD : wdg Q (Go.Ld.wt k) < m * (xs.length - t)) {f : Pol (K P)} (hf : YB k.toNat f) (hd : (disN (encW P xs ms f) ws xs.length : Int) ≤ t) : subst Q f = 0 := by
  have hwt : 1 ≤ Go.Ld.wt k ∧ k - 1 ≤ Go.Ld.wt k := by unfold Go.Ld.wt; omega
  obtain ⟨w, hww⟩ : ∃ w : Nat, Go.Ld.wt k = w := ⟨(Go.Ld.wt k).toNat, by omega⟩
  rw [hww] at hD
  have hgood := disN_good (encW P xs ms f) ws xs.length
  obtain ⟨c, hc⟩ : ∃ c, c = ns xs.length (fun i => if decide (gi (encW P xs ms f) i = gi ws i) = true then 1 else 0) := ⟨_, rfl⟩
  rw [← hc] at hgood
  have hmc : (m : Int) * (xs.length - t) ≤ m * c := Int.mul_le_mul_of_nonneg_left (by omega) (by omega)
  by_cases h0 : wdg Q w < 0
  · have hQ : Q = 0 := by
      rcases wdg_spec Q w with ⟨_, h⟩ | ⟨d, h1, _⟩
      · exact h
      · rw [h1] at h0; omega
    rw [hQ]
    exact (subst_hom f).zero
  obtain ⟨D, hDD⟩ : ∃ D : Nat, wdg Q w = D := ⟨(wdg Q w).toNat, by omega⟩
  have hmc' : (D : Int) < ((m * c : Nat) : Int) := by rw [Int.natCast_mul]; omega
  refine gs hK (w := w) (D := D) (k := k.toNat - 1) (m := m) (n := xs.length) (X := fun i => inK P (gi xs i)) (Y := fun i => inK P (gi (vals P ws ms) i)) (grs_dif h.xin h.dif) (fun i hi => hf i (by omega)) (by omega) (by rw [hDD]; omega) hv
    (fun i => decide (gi (encW P xs ms f) i = gi ws i)) (fun i hi hgi => ?_) (by rw [← hc]; omega)
  have e : gi (encW P xs ms f) i = gi ws i := by simpa using hgi
  rw [encW_get hi] at e
  show val1 f (inK P (gi xs i)) = inK P (gi (vals P ws ms) i)
  have hm : inK P (gi ms i) ≠ 0 := inK_ne (h.min i (by rw [h.ml]; exact hi)) (h.noz i (by rw [h.ml]; exact hi))
  rw [vals_get (by rw [hwl]; exact hi), ← e, inK_val, mul_comm (inK P (gi ms i)), mul_assoc, mul_invK hgen hm, mul_one]
theorem IsNear.has (hK : NZD (K P)) {g : K P} (hgen : HasOrder g (n1 P)) {xs ms ws : List Int} {k t : Int} (h : GrsOk P.q xs ms k) (hw : AllIn P.q ws) (hwl : ws.length = xs.length) {Q : Pol (Pol (K P))} {L : List (List Int)} (hn : IsNear P xs ms ws k t Q L) {m : Nat}
    (hv : ∀ i, i < xs.length → Van (inK P (gi xs i)) (inK P (gi (vals P ws ms) i)) Q m) (hD : wdg Q (Go.Ld.wt k) < m * (xs.length - t)) {f : Pol (K P)} (hf : YB k.toNat f) (hd : (disN (encW P xs ms f) ws xs.length : Int) ≤ t) : encW P xs ms f ∈ L :=
  (hn.mem _).2 ⟨f, hf, near_root hK hgen h hw hwl hv hD hf hd, rfl, hd⟩
end Go.Fd


namespace Go.Fd
open Go.Pl Go.Alg
variable {P : FP}
def Dg (d : Nat) (f : Pol (K P)) : Prop := YB (d + 1) f ∧ f.co d ≠ 0
theorem Dg.lt {d n : Nat} {f : Pol (K P)} (h : Dg d f) (hn : YB n f) : d < n := by
  apply Classical.byContradiction
  intro hc
  exact h.2 (hn d (by omega))
theorem Dg.ne {d : Nat} {f : Pol (K P)} (h : Dg d f) : f ≠ 0 := fun e => h.2 (by rw [e]; rfl)
theorem Dg.uniq {d e : Nat} {f : Pol (K P)} (h : Dg d f) (k : Dg e f) : d = e := by
  have h1 := h.lt k.1
  have h2 := k.lt h.1
  omega
theorem dg_cl {f : Pol (K P)} (h : f ≠ 0) : Dg ((cl f).length - 1) f := by
  have hl : 0 < (cl f).length := List.length_pos_iff.2 fun e => h (cl_nil.1 e)
  refine ⟨fun i hi => cl_over f (by omega), fun e => ?_⟩
  have h1 := (cl_cn f).last (fun e => h (cl_nil.1 e))
  rw [cl_getD, e] at h1
  exact h1 rfl
theorem Dg.len {d : Nat} {f : Pol (K P)} (h : Dg d f) : (cl f).length = d + 1 := by
  have h1 := (dg_cl h.ne).uniq h
  have hl : 0 < (cl f).length := List.length_pos_iff.2 fun e => h.ne (cl_nil.1 e)
  omega
theorem yb_mul {n m : Nat} {f g : Pol (K P)} (hf : YB (n + 1) f) (hg : YB (m + 1) g) : YB (n + m + 1) (f * g) := fun i hi => co_mul_over hf hg (by omega)
theorem yb_add {n : Nat} {f g : Pol (K P)} (hf : YB n f) (hg : YB n g) : YB n (f + g) := fun i hi => by rw [co_add, hf i hi, hg i hi, add_zero]
theorem yb_neg {n : Nat} {f : Pol (K P)} (hf : YB n f) : YB n (-f) := fun i hi => by rw [co_neg, hf i hi, neg_zero]
theorem yb_mono {n m : Nat} {f : Pol (K P)} (hf : YB n f) (h : n ≤ m) : YB m f := fun i hi => hf i (by omega)
theorem Dg.mul (hK : NZD (K P)) {a b : Nat} {f g : Pol (K P)} (hf : Dg a f) (hg : Dg b g) : Dg (a + b) (f * g) := by
  refine ⟨yb_mul hf.1 hg.1, fun e => ?_⟩
  rw [co_mul, sm_one (k := a) (by omega) (fun i hi hne => ?_)] at e
  · rw [show a + b - a = b by omega] at e
    rcases hK _ _ e with h | h
    · exact hf.2 h
    · exact hg.2 h
  · rcases Nat.lt_or_ge a i with h | h
    · rw [hf.1 i (by omega), zero_mul]
    · rw [hg.1 (a + b - i) (by omega), mul_zero]
def lcP (X : Nat → K P) (c : Nat → Bool) : Nat → Pol (K P)
  | 0 => 1
  | n + 1 => lcP X c n * (if c n then pX + pC (-X n) else 1)
theorem dg_lin (a : K P) : Dg 1 (pX + pC a) := by
  refine ⟨fun i hi => ?_, ?_⟩
  · rw [co_add, co_pC, if_neg (by omega), add_zero]
    show psX i = 0
    rw [psX, if_neg (by omega)]
  · rw [co_add, co_pC, if_neg (by omega), add_zero]
    show psX 1 ≠ 0
    rw [psX, if_pos rfl]
    exact k_one_ne'
theorem dg_one : Dg 0 (1 : Pol (K P)) := ⟨fun i hi => by rw [co_one, if_neg (by omega)], by rw [co_one, if_pos rfl]; exact k_one_ne'⟩
theorem lcP_dg (hK : NZD (K P)) (X : Nat → K P) (c : Nat → Bool) : ∀ n, Dg (ns n fun i => if c i then 1 else 0) (lcP X c n)
  | 0 => dg_one
  | n + 1 => by
    refine (lcP_dg hK X c n).mul hK ?_
    show Dg (if c n = true then 1 else 0) (if c n = true then pX + pC (-X n) else 1)
    by_cases e : c n = true
    · rw [if_pos e, if_pos e]; exact dg_lin _
    · rw [if_neg e, if_neg e]; exact dg_one
theorem val1_lin (a x : K P) : val1 (pX + pC a) x = x + a := by
  rw [(val1_hom x).add]
  show val1 pX x + val1 (pC a) x = _
  rw [val1, val1, pev_X Hom.id, pev_C Hom.id]
theorem lcP_zero (X : Nat → K P) (c : Nat → Bool) : ∀ {n i : Nat}, i < n → c i = true → val1 (lcP X c n) (X i) = 0
  | n + 1, i, hi, hc => by
    show val1 (lcP X c n * _) _ = 0
    rw [(val1_hom _).mul]
    by_cases e : i = n
    · subst e
      rw [if_pos hc, val1_lin, add_neg, mul_zero]
    · rw [lcP_zero X c (by omega) hc, zero_mul]
theorem lcP_ne (hK : NZD (K P)) {X : Nat → K P} (c : Nat → Bool) {x : K P} : ∀ {n : Nat}, (∀ i, i < n → x ≠ X i) → val1 (lcP X c n) x ≠ 0
  | 0, _ => by
    show val1 1 x ≠ 0
    rw [(val1_hom x).one]
    exact k_one_ne'
  | n + 1, h => fun e => by
    have e : val1 (lcP X c n * _) x = 0 := e
    rw [(val1_hom _).mul] at e
    rcases hK _ _ e with h1 | h1
    · exact lcP_ne hK c (fun i hi => h i (by omega)) h1
    · split at h1
      · rw [val1_lin] at h1
        exact h n (by omega) (eq_of_add_neg h1)
      · rw [(val1_hom x).one] at h1
        exact k_one_ne' h1
theorem lcP_div (hK : NZD (K P)) {X : Nat → K P} {h : Pol (K P)} : ∀ {n : Nat}, (∀ i j, i < n → j < n → i ≠ j → X i ≠ X j) → (∀ i, i < n → val1 h (X i) = 0) → ∃ v, h = lcP X (fun _ => true) n * v
  | 0, _, _ => ⟨h, (one_mul _).symm⟩
  | n + 1, hX, h0 => by
    obtain ⟨v, hv⟩ := lcP_div hK (n := n) (fun i j hi hj => hX i j (by omega) (by omega)) (fun i hi => h0 i (by omega))
    have h1 := h0 n (by omega)
    rw [hv, (val1_hom _).mul] at h1
    have h2 := (hK _ _ h1).resolve_left (lcP_ne hK _ fun i hi => hX n i (by omega) (by omega) (by omega))
    obtain ⟨m, hm⟩ := v.2
    obtain ⟨g, hg, _⟩ := root_factor (n := m) h2 (Sup.mono hm (by omega))
    refine ⟨g, ?_⟩
    rw [hv, hg, ← mul_assoc]
    rfl
structure Eu (n : Nat) (N G a b old t : Pol (K P)) (da : Nat) : Prop where
  dga : Dg da a
  dan : da ≤ n
  yb : YB da b
  mb : ∃ u, b = t * G + u * N
  ma : ∃ u, a = old * G + u * N
  yt : YB (n - da + 1) t
  yo : YB (n - da + 1) old
  det : a * t + -(b * old) = N ∨ a * t + -(b * old) = -N
theorem Eu.first {n : Nat} {N G : Pol (K P)} (hN : Dg n N) (hG : YB n G) : Eu n N G N G 0 1 n :=
  ⟨hN, Nat.le_refl _, hG, ⟨0, by rw [one_mul, zero_mul, add_zero]⟩, ⟨1, by rw [zero_mul, one_mul, zero_add]⟩, fun i hi => dg_one.1 i (by omega), fun i _ => rfl, .inl (by rw [mul_one, mul_zero, neg_zero, add_zero])⟩
theorem Eu.step {n da db : Nat} {N G a b old t q r : Pol (K P)} (h : Eu n N G a b old t da) (hb : Dg db b) (hq : a = q * b + r) (hr : YB db r) (hqy : YB (da - db + 1) q) : Eu n N G b r t (old + -(q * t)) db := by
  have hlt := hb.lt h.yb
  have hdn := h.dan
  obtain ⟨u, hu⟩ := h.mb
  obtain ⟨u', hu'⟩ := h.ma
  have er : r = a + -(q * b) := by rw [hq, add_comm (q * b), add_assoc, add_neg, add_zero]
  refine ⟨hb, by omega, hr, ⟨u' + -(q * u), ?_⟩, ⟨u, hu⟩, yb_add (yb_mono (n := n - da + 1) h.yo (by omega)) (yb_neg (yb_mono (n := da - db + (n - da) + 1) (yb_mul hqy h.yt) (by omega))), yb_mono (n := n - da + 1) h.yt (by omega), ?_⟩
  · rw [er, hu', add_mul, add_mul, neg_mul, neg_mul]
    have e : q * b = q * t * G + q * u * N := by rw [hu, mul_add, mul_assoc, mul_assoc]
    rw [e, neg_add', add_assoc, add_assoc, add_left_comm (u' * N)]
  · have e : b * (old + -(q * t)) + -(r * t) = -(a * t + -(b * old)) := by
      have e2 : a * t = q * b * t + r * t := by rw [hq, add_mul]
      rw [neg_add', neg_neg, e2, neg_add', mul_add, mul_neg]
      have e3 : b * (q * t) = q * b * t := by rw [← mul_assoc, mul_comm b q]
      rw [e3, add_comm (b * old), add_assoc, add_assoc, add_comm (b * old)]
    have e' : b * (old + -(q * t)) + -(r * t) = -(a * t + -(b * old)) := e
    rcases h.det with hd | hd
    · exact .inr (by rw [e', hd])
    · exact .inl (by rw [e', hd, neg_neg])
theorem Eu.tne {n da : Nat} {N G a b old t : Pol (K P)} (h : Eu n N G a b old t da) (hN : Dg n N) : t ≠ 0 := fun ht => by
  have hdn := h.dan
  have h1 : YB n (b * old) := fun i hi => by
    rcases Nat.eq_zero_or_pos da with h0 | h0
    · have hb0 : b = 0 := Pol.ext fun j => h.yb j (by omega)
      rw [hb0, zero_mul]; rfl
    · exact co_mul_over h.yb h.yo (by omega)
  have h2 := h.det
  rw [ht, mul_zero, zero_add] at h2
  rcases h2 with h2 | h2
  · have := hN.lt (by rw [← h2]; exact yb_neg h1)
    omega
  · have := hN.lt (by rw [← neg_inj h2]; exact h1)
    omega
theorem Eu.last (hK : NZD (K P)) {n k e da : Nat} {N G a b old t f E v : Pol (K P)} (h : Eu n N G a b old t da) (hN : Dg n N) (hda : n + k ≤ 2 * da) (hb : ∀ d, Dg d b → 2 * d < n + k) (hkn : k ≤ n) (hf : YB k f) (hE : Dg e E) (he : 2 * e ≤ n - k) (hv : E * (G + -f) = N * v) : t ≠ 0 ∧ b = t * f := by
  have hdn := h.dan
  have ht : t ≠ 0 := h.tne hN
  refine ⟨ht, ?_⟩
  obtain ⟨u, hu⟩ := h.mb
  have hX : E * (b + -(t * f)) = N * (t * v + E * u) := by
    have e1 : b + -(t * f) = t * (G + -f) + u * N := by rw [hu, mul_add, mul_neg, add_assoc, add_assoc, add_comm (u * N)]
    have e2 : E * (t * (G + -f)) = N * (t * v) := by rw [mul_left_comm, hv, mul_left_comm]
    have e3 : E * (u * N) = N * (E * u) := by rw [← mul_assoc, mul_comm (E * u)]
    rw [e1, mul_add, e2, mul_add, e3]
  have hy : YB n (E * (b + -(t * f))) := by
    have hyb : b = 0 ∨ ∃ d, Dg d b ∧ 2 * d < n + k := by
      by_cases h0 : b = 0
      · exact .inl h0
      · exact .inr ⟨_, dg_cl h0, hb _ (dg_cl h0)⟩
    rw [mul_add, mul_neg]
    refine yb_add ?_ (yb_neg ?_)
    · rcases hyb with h0 | ⟨d, hd, hlt⟩
      · rw [h0, mul_zero]; exact fun i _ => rfl
      · exact yb_mono (n := e + d + 1) (yb_mul hE.1 hd.1) (by omega)
    · rcases Nat.eq_zero_or_pos k with h0 | h0
      · have hf0 : f = 0 := Pol.ext fun j => hf j (by omega)
        rw [hf0, mul_zero, mul_zero]; exact fun i _ => rfl
      · exact yb_mono (n := e + (n - da + (k - 1)) + 1) (yb_mul hE.1 (yb_mul (m := k - 1) h.yt (fun i hi => hf i (by omega)))) (by omega)
  have h0 : t * v + E * u = 0 := by
    apply Classical.byContradiction
    intro hc
    have h3 := hN.mul hK (dg_cl hc)
    rw [← hX] at h3
    have := h3.lt hy
    omega
  rw [h0, mul_zero] at hX
  have h4 : b + -(t * f) = 0 := (pol_nzd hK _ _ hX).resolve_left hE.ne
  exact eq_of_add_neg h4
theorem div_exact (hK : NZD (K P)) {t f m r : Pol (K P)} {d : Nat} (ht : Dg d t) (h : t * f = m * t + r) (hr : YB d r) : m = f ∧ r = 0 := by
  have e : t * (f + -m) = r := by rw [mul_add, h, mul_neg, mul_comm m t, add_comm (t * m), add_assoc, add_neg, add_zero]
  have h0 : f + -m = 0 := by
    apply Classical.byContradiction
    intro hc
    have h1 := ht.mul hK (dg_cl hc)
    rw [e] at h1
    have := h1.lt hr
    omega
  refine ⟨(eq_of_add_neg h0).symm, ?_⟩
  rw [← e, h0, mul_zero]
end Go.Fd


namespace Go.Fd
open Go.Pl Go.Alg
variable {P : FP}
noncomputable def tl (P : FP) (n : Nat) (F : Pol (K P)) : List Int := tab n fun t => (F.co t).1
theorem tl_length (n : Nat) (F : Pol (K P)) : (tl P n F).length = n := tab_length _ _
theorem tl_gi {n : Nat} {F : Pol (K P)} {i : Int} (h0 : 0 ≤ i) (h1 : i < n) : gi (tl P n F) i = (F.co i.toNat).1 := gi_tab h1 h0
theorem tl_si {n : Nat} {F G : Pol (K P)} {k v : Int} (h0 : 0 ≤ k) (h : ∀ t : Nat, t < n → (G.co t).1 = if (t : Int) = k then v else (F.co t).1) : si (tl P n F) k v = tl P n G := by
  rw [si, tl, tab_set, tl]
  refine tab_congr fun t ht => ?_
  rw [h t ht]
  by_cases e : (t : Int) = k
  · rw [if_pos e, if_pos (by omega)]
  · rw [if_neg e, if_neg (by omega)]
theorem tl_trim {n : Nat} {F : Pol (K P)} (h : YB n F) : trimL (tl P n F) = cl F := cl_tab h
theorem tl_zero (n : Nat) : (tab n fun _ => (0 : Int)) = tl P n 0 := rfl
theorem tl_cl (F : Pol (K P)) : tl P (cl F).length F = cl F := List.ext_getElem (tl_length _ _) fun i h1 h2 => by
  have e := cl_getD F i
  rw [List.getD_eq_getElem?_getD, List.getElem?_eq_getElem h2] at e
  have e2 : (tl P (cl F).length F)[i] = (F.co i).1 := by simp [tl, tab]
  rw [e2]
  exact e.symm
noncomputable def sbP (R B : Pol (K P)) (a : K P) (n j : Nat) : Pol (K P) := R + -(pC a * (npow pX n * Go.Alg.part j B))
theorem sbP_co (R B : Pol (K P)) (a : K P) (n j t : Nat) : (sbP R B a n j).co t = R.co t + -(a * if n ≤ t then (Go.Alg.part j B).co (t - n) else 0) := by
  rw [sbP, co_add, co_neg, co_pC_mul, co_pXn_mul]
theorem sbP_zero (R B : Pol (K P)) (a : K P) (n : Nat) : sbP R B a n 0 = R := by
  rw [sbP, part_zero, mul_zero, mul_zero, neg_zero, add_zero]
theorem sbP_step (R B : Pol (K P)) (a : K P) (n j t : Nat) : (sbP R B a n (j + 1)).co t = if t = n + j then (sbP R B a n j).co t + -(a * B.co j) else (sbP R B a n j).co t := by
  rw [sbP_co, sbP_co]
  by_cases e : t = n + j
  · subst e
    rw [if_pos (show n ≤ n + j by omega), if_pos rfl, if_pos (show n ≤ n + j by omega), co_part, co_part, if_pos (by omega), if_neg (by omega), show n + j - n = j by omega, mul_zero, neg_zero, add_zero]
  · rw [if_neg e]
    by_cases e2 : n ≤ t
    · rw [if_pos e2, if_pos e2, co_part, co_part]
      by_cases e3 : t - n < j
      · rw [if_pos e3, if_pos (by omega)]
      · rw [if_neg e3, if_neg (by omega)]
    · rw [if_neg e2, if_neg e2]
structure Dvm (A B Q R : Pol (K P)) (lb k : Nat) : Prop where
  eq : A = Q * B + R
  yb : YB (k + lb - 1) R
  lo : ∀ i, i < k → Q.co i = 0
theorem Dvm.first {A B : Pol (K P)} {lb k : Nat} (h : YB (k + lb - 1) A) : Dvm A B 0 A lb k := ⟨by rw [zero_mul, zero_add], h, fun _ _ => rfl⟩
theorem Dvm.step {A B Q R : Pol (K P)} {lb k : Nat} {c : K P} (h : Dvm A B Q R lb (k + 1)) (hB : YB lb B) (hl : 1 ≤ lb) (hc : B.co (lb - 1) * c = 1) : Dvm A B (Q + pC (R.co (k + lb - 1) * c) * npow pX k) (sbP R B (R.co (k + lb - 1) * c) k lb) lb k := by
  refine ⟨?_, fun t ht => ?_, fun i hi => ?_⟩
  · rw [sbP, part_all (f := B) (n := lb) hB, add_mul, h.eq, add_assoc, mul_assoc, add_left_comm (pC (R.co (k + lb - 1) * c) * (npow pX k * B)), add_neg, add_zero]
  · rw [sbP_co, co_part]
    by_cases e : t = k + lb - 1
    · rw [if_pos (by omega), if_pos (by omega), show t - k = lb - 1 by omega, e, mul_assoc, mul_comm c, hc, mul_one, add_neg]
    · rw [h.yb t (by omega), zero_add]
      by_cases e2 : t - k < lb
      · omega
      · rw [if_neg e2]
        split <;> rw [mul_zero, neg_zero]
  · rw [co_add, h.lo i (by omega), zero_add, co_pC_mul, show npow pX k = npow pX k * 1 from (mul_one _).symm, co_pXn_mul, if_neg (by omega), mul_zero]
theorem dvm_q {Q : Pol (K P)} {a : K P} {k : Nat} (h : ∀ i, i < k + 1 → Q.co i = 0) (t : Nat) : (Q + pC a * npow pX k).co t = if t = k then a else Q.co t := by
  rw [co_add, co_pC_mul, show npow pX k = npow pX k * 1 from (mul_one _).symm, co_pXn_mul, co_one]
  by_cases e : t = k
  · rw [if_pos (by omega), if_pos (by omega), if_pos e, mul_one, h t (by omega), zero_add]
  · rw [if_neg e]
    by_cases e2 : k ≤ t
    · rw [if_pos e2, if_neg (by omega), mul_zero, add_zero]
    · rw [if_neg e2, mul_zero, add_zero]
theorem dvm_y {Q : Pol (K P)} {a : K P} {k m : Nat} (hk : k < m) (h : YB m Q) : YB m (Q + pC a * npow pX k) := fun t ht => by
  rw [co_add, h t ht, zero_add, co_pC_mul, show npow pX k = npow pX k * 1 from (mul_one _).symm, co_pXn_mul, if_pos (by omega), co_one, if_neg (by omega), mul_zero]
theorem newton_step {F Z : Pol (K P)} {X Y : Nat → K P} {i : Nat} {c : K P} (hF : ∀ j, j < i → val1 F (X j) = Y j) (hZ : ∀ j, j < i → val1 Z (X j) = 0) (hc : val1 Z (X i) * c = 1) : ∀ j, j < i + 1 → val1 (F + pC ((Y i + -val1 F (X i)) * c) * Z) (X j) = Y j := fun j hj => by
  have hC : ∀ (a x : K P), val1 (pC a) x = a := fun a x => val1_C x a
  rw [(val1_hom _).add, (val1_hom _).mul, hC]
  by_cases e : j = i
  · rw [e, mul_assoc, mul_comm c, hc, mul_one, add_comm (Y i), ← add_assoc, add_neg, zero_add]
  · rw [hZ j (by omega), mul_zero, add_zero, hF j (by omega)]
end Go.Fd


namespace Go.Alg
section
variable {R : Type} [CR R]
def Sp (m n : Nat) (M : Nat → Nat → R) (v : Nat → R) : Prop := ∃ x : Nat → R, ∀ j, j < n → v j = sm m fun i => x i * M i j
variable {m n : Nat} {M M' : Nat → Nat → R} {u v : Nat → R}
theorem Sp.congr (h : Sp m n M v) (e : ∀ j, j < n → u j = v j) : Sp m n M u := by
  obtain ⟨x, hx⟩ := h
  exact ⟨x, fun j hj => (e j hj).trans (hx j hj)⟩
theorem Sp.zero : Sp m n M (fun _ => 0) := ⟨fun _ => 0, fun _ _ => (sm_zero fun _ _ => zero_mul _).symm⟩
theorem Sp.add (h : Sp m n M u) (k : Sp m n M v) : Sp m n M (fun j => u j + v j) := by
  obtain ⟨x, hx⟩ := h
  obtain ⟨y, hy⟩ := k
  refine ⟨fun i => x i + y i, fun j hj => ?_⟩
  dsimp only
  rw [hx j hj, hy j hj, ← sm_add]
  exact sm_congr fun i _ => (add_mul _ _ _).symm
theorem Sp.smul (c : R) (h : Sp m n M v) : Sp m n M (fun j => c * v j) := by
  obtain ⟨x, hx⟩ := h
  refine ⟨fun i => c * x i, fun j hj => ?_⟩
  dsimp only
  rw [hx j hj, ← sm_mul]
  exact sm_congr fun i _ => (mul_assoc _ _ _).symm
theorem Sp.row {i : Nat} (hi : i < m) : Sp m n M (M i) := ⟨fun k => if k = i then 1 else 0, fun j _ => by
  rw [sm_one hi fun k _ hk => by dsimp only; rw [if_neg hk, zero_mul]]
  dsimp only
  rw [if_pos rfl, one_mul]⟩
theorem Sp.sum {f : Nat → Nat → R} (x : Nat → R) : ∀ k, (∀ i, i < k → Sp m n M (f i)) → Sp m n M (fun j => sm k fun i => x i * f i j)
  | 0, _ => Sp.zero
  | k + 1, h => (Sp.sum x k fun i hi => h i (by omega)).add ((h k (by omega)).smul (x k))
theorem Sp.trans {k : Nat} (h : Sp m n M v) (hM : ∀ i, i < m → Sp k n M' (M i)) : Sp k n M' v := by
  obtain ⟨x, hx⟩ := h
  exact (Sp.sum x m hM).congr hx
theorem Sp.more {k : Nat} (h : Sp m n M v) (hk : m ≤ k) : Sp k n M v := h.trans fun _ hi => Sp.row (by omega)
theorem Sp.less {k : Nat} (h : Sp m n M v) (h0 : ∀ i, k ≤ i → i < m → ∀ j, j < n → M i j = 0) : Sp k n M v := h.trans fun i hi => by
  by_cases e : i < k
  · exact Sp.row e
  · exact Sp.zero.congr fun j hj => h0 i (by omega) hi j hj
structure Rr (a n : Nat) (G : Nat → Nat → R) (pv : Nat → Nat) : Prop where
  lt : ∀ i, i < a → pv i < n
  asc : ∀ i j, i < j → j < a → pv i < pv j
  piv : ∀ i j, i < a → j < a → G i (pv j) = if i = j then 1 else 0
  lead : ∀ i x, i < a → x < pv i → G i x = 0
variable {a : Nat} {G : Nat → Nat → R} {pv : Nat → Nat}
theorem Rr.coef (h : Rr a n G pv) {x : Nat → R} (hx : ∀ j, j < n → v j = sm a fun i => x i * G i j) {i : Nat} (hi : i < a) : v (pv i) = x i := by
  rw [hx _ (h.lt i hi), sm_one hi fun k hk hne => by rw [h.piv k i hk hi, if_neg hne, mul_zero], h.piv i i hi hi, if_pos rfl, mul_one]
theorem Rr.comb (h : Rr a n G pv) (hv : Sp a n G v) {j : Nat} (hj : j < n) : v j = sm a fun i => v (pv i) * G i j := by
  obtain ⟨x, hx⟩ := hv
  rw [hx j hj]
  exact sm_congr fun i hi => by rw [h.coef hx hi]
theorem Rr.zero (h : Rr a n G pv) (hv : Sp a n G v) (h0 : ∀ i, i < a → v (pv i) = 0) {j : Nat} (hj : j < n) : v j = 0 := by
  rw [h.comb hv hj]
  exact sm_zero fun i hi => by rw [h0 i hi, zero_mul]
theorem Rr.first (h : Rr a n G pv) (hv : Sp a n G v) {p : Nat} (hp : p < n) (h0 : ∀ x, x < p → v x = 0) (h1 : v p ≠ 0) : ∃ i, i < a ∧ pv i = p := by
  apply Classical.byContradiction
  intro hc
  have hc' : ∀ i, i < a → pv i ≠ p := fun i hi e => hc ⟨i, hi, e⟩
  refine h1 ?_
  rw [h.comb hv hp]
  refine sm_zero fun i hi => ?_
  rcases Nat.lt_or_gt_of_ne (hc' i hi) with e | e
  · rw [h0 _ e, zero_mul]
  · rw [h.lead i p hi e, mul_zero]
theorem Rr.same {b : Nat} {H : Nat → Nat → R} {qv : Nat → Nat} (h1 : (1 : R) ≠ 0) (h : Rr a n G pv) (k : Rr b n H qv) (hs : ∀ i, i < a → Sp b n H (G i)) : ∀ i, i < a → ∃ j, j < b ∧ qv j = pv i := fun i hi =>
  k.first (hs i hi) (h.lt i hi) (fun x hx => h.lead i x hi hx) (by rw [h.piv i i hi hi, if_pos rfl]; exact h1)
theorem asc_mono {pv : Nat → Nat} (ha : ∀ i j, i < j → j < a → pv i < pv j) {i j : Nat} (hi : i < a) (_ : j < a) (h : pv i < pv j) : i < j := by
  apply Classical.byContradiction
  intro hc
  rcases Nat.lt_or_eq_of_le (Nat.le_of_not_lt hc) with e | e
  · have := ha j i e hi; omega
  · subst e; omega
theorem asc_inj {pv : Nat → Nat} (ha : ∀ i j, i < j → j < a → pv i < pv j) {i j : Nat} (hi : i < a) (hj : j < a) (h : pv i = pv j) : i = j := by
  rcases Nat.lt_trichotomy i j with e | e | e
  · have := ha i j e hj; omega
  · exact e
  · have := ha j i e hi; omega
theorem pivots_same {b : Nat} {pv qv : Nat → Nat} (hp : ∀ i j, i < j → j < a → pv i < pv j) (hq : ∀ i j, i < j → j < b → qv i < qv j) (h1 : ∀ i, i < a → ∃ j, j < b ∧ qv j = pv i) (h2 : ∀ j, j < b → ∃ i, i < a ∧ pv i = qv j) : ∀ i, i < a → i < b ∧ qv i = pv i := by
  intro i
  induction i using Nat.strongRecOn with
  | _ i ih =>
    intro hi
    obtain ⟨j, hj, e⟩ := h1 i hi
    have hij : i ≤ j := by
      apply Classical.byContradiction
      intro hc
      have h3 := (ih j (by omega) (by omega)).2
      have h4 := hp j i (by omega) hi
      omega
    rcases Nat.lt_or_eq_of_le hij with hlt | rfl
    · exfalso
      obtain ⟨k, hk, ek⟩ := h2 i (by omega)
      have h3 := hq i j hlt hj
      have h4 := asc_mono hp hk hi (by omega)
      have h5 := (ih k h4 hk)
      have h6 := asc_inj hq (i := k) (j := i) h5.1 (by omega) (by rw [h5.2, ek])
      omega
    · exact ⟨hj, e⟩
theorem Rr.uniq {b : Nat} {H : Nat → Nat → R} {qv : Nat → Nat} (h1 : (1 : R) ≠ 0) (h : Rr a n G pv) (k : Rr b n H qv) (hs : ∀ i, i < a → Sp b n H (G i)) (ks : ∀ i, i < b → Sp a n G (H i)) : a = b ∧ ∀ i, i < a → pv i = qv i ∧ ∀ j, j < n → G i j = H i j := by
  have p1 := pivots_same h.asc k.asc (h.same h1 k hs) (k.same h1 h ks)
  have p2 := pivots_same k.asc h.asc (k.same h1 h ks) (h.same h1 k hs)
  have hab : a = b := by
    rcases Nat.lt_trichotomy a b with e | e | e
    · have := (p2 a e).1; omega
    · exact e
    · have := (p1 b e).1; omega
  subst hab
  refine ⟨rfl, fun i hi => ⟨(p1 i hi).2.symm, fun j hj => ?_⟩⟩
  have hd : Sp a n G (fun j => G i j + (-1) * H i j) := (Sp.row hi).add ((ks i hi).smul (-1))
  have h0 := h.zero hd (fun t ht => by
    try dsimp only
    rw [h.piv i t hi ht, ← (p1 t ht).2, k.piv i t hi ht, neg_mul, one_mul, add_neg]) hj
  try dsimp only at h0
  rw [neg_mul, one_mul] at h0
  exact eq_of_add_neg h0
structure El (m n : Nat) (M0 M : Nat → Nat → R) (a : Nat) (pv : Nat → Nat) (c : Nat) : Prop where
  fwd : ∀ i, i < m → Sp m n M (M0 i)
  bwd : ∀ i, i < m → Sp m n M0 (M i)
  am : a ≤ m
  lt : ∀ i, i < a → pv i < c
  asc : ∀ i j, i < j → j < a → pv i < pv j
  piv : ∀ i j, i < m → j < a → M i (pv j) = if i = j then 1 else 0
  lead : ∀ i x, i < a → x < pv i → M i x = 0
  low : ∀ i x, a ≤ i → i < m → x < c → M i x = 0
variable {M0 : Nat → Nat → R} {c : Nat}
theorem El.first (M0 : Nat → Nat → R) (pv : Nat → Nat) : El m n M0 M0 0 pv 0 :=
  ⟨fun _ hi => Sp.row hi, fun _ hi => Sp.row hi, Nat.zero_le _, fun _ h => by omega, fun _ _ _ h => by omega, fun _ _ _ h => by omega, fun _ _ h => by omega, fun _ _ _ _ h => by omega⟩
theorem El.skip (h : El m n M0 M a pv c) (h0 : ∀ i, a ≤ i → i < m → M i c = 0) : El m n M0 M a pv (c + 1) :=
  ⟨h.fwd, h.bwd, h.am, fun i hi => Nat.lt_succ_of_lt (h.lt i hi), h.asc, h.piv, h.lead, fun i x h1 h2 h3 => by
    by_cases e : x = c
    · rw [e]; exact h0 i h1 h2
    · exact h.low i x h1 h2 (by omega)⟩
def swR (M : Nat → Nat → R) (a k : Nat) : Nat → Nat → R := fun i => if i = a then M k else if i = k then M a else M i
def elR (M : Nat → Nat → R) (a k c : Nat) (s : R) : Nat → Nat → R := fun i j => if i = a then s * M k j else swR M a k i j + -(swR M a k i c) * (s * M k j)
theorem El.step {k : Nat} {s : R} (h : El m n M0 M a pv c) (hk : a ≤ k) (hkm : k < m) (hs : s * M k c = 1) : El m n M0 (elR M a k c s) (a + 1) (fun i => if i = a then c else pv i) (c + 1) := by
  have hsw : ∀ i, i < m → ∃ i', i' < m ∧ swR M a k i = M i' ∧ (i < a → i' = i) ∧ (a ≤ i → a ≤ i') := fun i hi => by
    rw [swR]
    by_cases e1 : i = a
    · exact ⟨k, hkm, by rw [if_pos e1], fun h => by omega, fun _ => hk⟩
    · rw [if_neg e1]
      by_cases e2 : i = k
      · exact ⟨a, by omega, by rw [if_pos e2], fun h => by omega, fun _ => Nat.le_refl _⟩
      · exact ⟨i, hi, by rw [if_neg e2], fun _ => rfl, fun h => h⟩
  have hrowk : ∀ x, x < c → M k x = 0 := fun x hx => h.low k x hk hkm hx
  have ha : ∀ j, elR M a k c s a j = s * M k j := fun j => by rw [elR, if_pos rfl]
  have hne : ∀ i j, i ≠ a → elR M a k c s i j = swR M a k i j + -(swR M a k i c) * (s * M k j) := fun i j e => by rw [elR, if_neg e]
  have hin : ∀ i, i < m → Sp m n (elR M a k c s) (swR M a k i) := fun i hi => by
    by_cases e : i = a
    · subst e
      refine ((Sp.row (M := elR M i k c s) (i := i) hi).smul (M k c)).congr fun j _ => ?_
      rw [ha, ← mul_assoc, mul_comm (M k c), hs, one_mul]
      rw [swR, if_pos rfl]
    · refine ((Sp.row (M := elR M a k c s) (i := i) hi).add ((Sp.row (M := elR M a k c s) (i := a) (by omega)).smul (swR M a k i c))).congr fun j _ => ?_
      rw [hne i j e, ha, add_assoc, neg_mul, neg_add, add_zero]
  refine ⟨fun i hi => (h.fwd i hi).trans fun t ht => ?_, fun i hi => ?_, by omega, fun i hi => ?_, fun i j hij hj => ?_, fun i j hi hj => ?_, fun i x hi hx => ?_, fun i x hi hi2 hx => ?_⟩
  · by_cases e1 : t = a
    · have := hin k hkm
      rw [e1]
      by_cases e2 : k = a
      · rw [swR, if_pos e2] at this; rw [← e2]; rw [e2] at this ⊢; exact this
      · rw [swR, if_neg e2, if_pos rfl] at this; exact this
    · by_cases e2 : t = k
      · have := hin a (by omega)
        rw [swR, if_pos rfl] at this
        rw [e2]; exact this
      · have := hin t ht
        rw [swR, if_neg e1, if_neg e2] at this; exact this
  · by_cases e : i = a
    · rw [e]
      exact ((h.bwd k hkm).smul s).congr fun j _ => ha j
    · obtain ⟨i', hi', e', _⟩ := hsw i hi
      refine ((h.bwd i' hi').add ((h.bwd k hkm).smul (-(swR M a k i c) * s))).congr fun j _ => ?_
      rw [hne i j e, e', mul_assoc]
  · try dsimp only
    by_cases e : i = a
    · rw [if_pos e]; omega
    · rw [if_neg e]; have := h.lt i (by omega); omega
  · try dsimp only
    rw [if_neg (show i ≠ a by omega)]
    by_cases e : j = a
    · rw [if_pos e]; exact h.lt i (by omega)
    · rw [if_neg e]; exact h.asc i j hij (by omega)
  · try dsimp only
    by_cases e : j = a
    · rw [if_pos e]
      by_cases e2 : i = a
      · rw [e2, ha, hs, if_pos (by omega)]
      · rw [hne i c e2, hs, mul_one, add_neg, if_neg (by omega)]
    · rw [if_neg e]
      have hj' : j < a := by omega
      have hkj : M k (pv j) = 0 := by rw [h.piv k j hkm hj', if_neg (by omega)]
      by_cases e2 : i = a
      · rw [e2, ha, hkj, mul_zero, if_neg (by omega)]
      · rw [hne i _ e2, hkj, mul_zero, mul_zero, add_zero]
        obtain ⟨i', hi', e', h3, h4⟩ := hsw i hi
        rw [e', h.piv i' j hi' hj']
        by_cases e5 : i < a
        · rw [h3 e5]
        · rw [if_neg (by have := h4 (by omega); omega), if_neg (by omega)]
  · try dsimp only at hx
    by_cases e : i = a
    · rw [if_pos e] at hx
      rw [e, ha, hrowk x hx, mul_zero]
    · rw [if_neg e] at hx
      have hia : i < a := by omega
      obtain ⟨i', hi', e', h3, h4⟩ := hsw i (by have := h.am; omega)
      rw [hne i x e, e', h3 hia, h.lead i x hia hx, hrowk x (by have := h.lt i hia; omega), mul_zero, mul_zero, add_zero]
  · obtain ⟨i', hi', e', h3, h4⟩ := hsw i hi2
    have e : i ≠ a := by omega
    by_cases e2 : x = c
    · rw [e2, hne i c e, hs, mul_one, add_neg]
    · rw [hne i x e, hrowk x (by omega), mul_zero, mul_zero, add_zero, e', h.low i' x (h4 (by omega)) hi' (by omega)]
theorem El.last (h : El m n M0 M a pv c) (hc : c = n ∨ a = m) (hcn : c ≤ n) : Rr a n M pv ∧ ∀ v, Sp a n M v ↔ Sp m n M0 v := by
  refine ⟨⟨fun i hi => by have := h.lt i hi; omega, h.asc, fun i j hi hj => h.piv i j (by have := h.am; omega) hj, h.lead⟩, fun v => ⟨fun hv => (hv.more h.am).trans h.bwd, fun hv => (hv.trans h.fwd).less fun i hi hi2 j hj => ?_⟩⟩
  rcases hc with e | e
  · exact h.low i j hi hi2 (by omega)
  · omega
end
end Go.Alg


namespace Go.Fd
open Go.Pl Go.Alg
variable {P : FP}
noncomputable def rowL (P : FP) (n : Nat) (f : Nat → K P) : List Int := tab n fun j => (f j).1
theorem rowL_congr {n : Nat} {f g : Nat → K P} (h : ∀ j, j < n → f j = g j) : rowL P n f = rowL P n g := tab_congr fun j hj => by rw [h j hj]
theorem gi_ge {l : List Int} {i : Nat} (h : i < l.length) : gi l i = l[i] := by simp [gi, List.getD_eq_getElem?_getD, h]
noncomputable def matL (P : FP) (m n : Nat) (M : Nat → Nat → K P) : List (List Int) := tab m fun i => rowL P n (M i)
theorem matL_congr {m n : Nat} {M M' : Nat → Nat → K P} (h : ∀ i j, i < m → j < n → M i j = M' i j) : matL P m n M = matL P m n M' := tab_congr fun i hi => rowL_congr fun j hj => h i j hi hj
noncomputable def genM (P : FP) (xs ms : List Int) : Nat → Nat → K P := fun i j => inK P (gi ms j) * npow (inK P (gi xs j)) i
def powL (i : Nat) : List Int := tab (i + 1) fun t => if t = i then 1 else 0
def Red (P : FP) (m n : Nat) (M0 : Nat → Nat → K P) (a : Nat) (M : Nat → Nat → K P) (pv : Nat → Nat) : Prop := a ≤ m ∧ Rr a n M pv ∧ ∀ v, Sp a n M v ↔ Sp m n M0 v
theorem Red.same {a n b : Nat} {G M : Nat → Nat → K P} {pv qv : Nat → Nat} (h1 : (1 : K P) ≠ 0) (hG : Rr a n G pv) (h : Red P a n G b M qv) : b = a ∧ matL P b n M = matL P a n G := by
  obtain ⟨_, hR, hs⟩ := h
  obtain ⟨e, hq⟩ := hR.uniq h1 hG (fun i hi => (hs _).1 (Sp.row hi)) (fun i hi => (hs _).2 (Sp.row hi))
  subst e
  exact ⟨rfl, matL_congr fun i j hi hj => (hq i hi).2 j hj⟩
end Go.Fd


namespace Go.Fd
open Go.Pl
def swL (L : List (List Int)) (i j : Nat) : List (List Int) := (L.set i (L.getD j [])).set j (L.getD i [])
theorem swL_get {L : List (List Int)} {i j : Nat} (hi : i < L.length) (hj : j < L.length) (t : Nat) : (swL L i j).getD t [] = if t = j then L.getD i [] else if t = i then L.getD j [] else L.getD t [] := by
  simp only [swL, List.getD_eq_getElem?_getD, List.getElem?_set, List.length_set]
  by_cases e1 : t = j
  · subst e1; simp [hj]
  · rw [if_neg (fun h => e1 h.symm), if_neg e1]
    by_cases e2 : t = i
    · subst e2; simp [hi]
    · rw [if_neg (fun h => e2 h.symm), if_neg e2]
theorem swL_perm {L : List (List Int)} {i j : Nat} (hi : i < L.length) (hj : j < L.length) : (swL L i j).Perm L := by
  have h := List.set_set_perm (as := L) hi hj
  rw [swL, List.getD_eq_getElem?_getD, List.getD_eq_getElem?_getD, List.getElem?_eq_getElem hi, List.getElem?_eq_getElem hj]
  exact h
def SoJ (L : List (List Int)) (i j : Nat) : Prop := ∀ p q, p < q → q ≤ i → q ≠ j → cmpL (L.getD p []) (L.getD q []) ≤ 0
def SoI (L : List (List Int)) (i : Nat) : Prop := ∀ p q, p < q → q < i → cmpL (L.getD p []) (L.getD q []) ≤ 0
theorem SoI.begin {L : List (List Int)} {i : Nat} (h : SoI L i) : SoJ L i i := fun p q hpq hq hne => h p q hpq (by omega)
theorem SoI.one (L : List (List Int)) : SoI L 1 := fun p q hpq hq => by omega
theorem SoI.zero (L : List (List Int)) : SoI L 0 := fun p q hpq hq => by omega
theorem SoJ.step {L : List (List Int)} {i j : Nat} (h : SoJ L i (j + 1)) (hj : j + 1 ≤ i) (hi : i < L.length) (hlt : cmpL (L.getD (j + 1) []) (L.getD j []) < 0) : SoJ (swL L (j + 1) j) i j := by
  intro p q hpq hq hne
  rw [swL_get (by omega) (by omega), swL_get (by omega) (by omega), if_neg (show q ≠ j from hne)]
  by_cases e1 : q = j + 1
  · rw [if_pos e1]
    by_cases e2 : p = j
    · rw [if_pos e2]; omega
    · rw [if_neg e2, if_neg (by omega)]
      exact h p j (by omega) (by omega) (by omega)
  · rw [if_neg e1]
    by_cases e2 : p = j
    · rw [if_pos e2]
      exact h (j + 1) q (by omega) hq (by omega)
    · rw [if_neg e2]
      by_cases e3 : p = j + 1
      · rw [if_pos e3]
        exact h j q (by omega) hq (by omega)
      · rw [if_neg e3]
        exact h p q hpq hq e1
theorem SoJ.stop {L : List (List Int)} {i j : Nat} (h : SoJ L i j) (hs : j = 0 ∨ ∃ k, j = k + 1 ∧ ¬ cmpL (L.getD j []) (L.getD k []) < 0) (hji : j ≤ i) : SoI L (i + 1) := by
  intro p q hpq hq
  by_cases e : q = j
  · rcases hs with rfl | ⟨k, rfl, hk⟩
    · omega
    · have h0 := cmpL_anti (L.getD k []) (L.getD (k + 1) [])
      have h1 : cmpL (L.getD k []) (L.getD (k + 1) []) ≤ 0 := by omega
      rw [e]
      by_cases e2 : p = k
      · rw [e2]; exact h1
      · exact cmpL_trans _ _ _ (h p k (by omega) (by omega) (by omega)) h1
  · exact h p q hpq (by omega) e
theorem SoI.pairwise {L : List (List Int)} (h : SoI L L.length) : L.Pairwise fun a b => cmpL a b ≤ 0 := List.pairwise_iff_getElem.2 fun i j hi hj hij => by
  have h1 := h i j hij hj
  rw [List.getD_eq_getElem?_getD, List.getD_eq_getElem?_getD, List.getElem?_eq_getElem hi, List.getElem?_eq_getElem hj] at h1
  exact h1
theorem SoI.le {L : List (List Int)} {i j : Nat} (h : SoI L i) (hj : j ≤ i) : SoI L j := fun p q hpq hq => h p q hpq (by omega)
end Go.Fd


namespace Go.Fd
open Go.Pl Go.Alg
theorem asc_get {R : List (List Int)} (h : Asc R) {i j : Nat} (hij : i < j) (hj : j < R.length) : cmpL (R.getD i []) (R.getD j []) < 0 := by
  have := List.pairwise_iff_getElem.1 h i j (by omega) hj hij
  rw [List.getD_eq_getElem?_getD, List.getD_eq_getElem?_getD, List.getElem?_eq_getElem hj, List.getElem?_eq_getElem (show i < R.length by omega)]
  exact this
theorem mem_get {R : List (List Int)} {i : Nat} (hi : i < R.length) : R.getD i [] ∈ R := by
  rw [List.getD_eq_getElem?_getD, List.getElem?_eq_getElem hi]
  exact List.getElem_mem hi
end Go.Fd

