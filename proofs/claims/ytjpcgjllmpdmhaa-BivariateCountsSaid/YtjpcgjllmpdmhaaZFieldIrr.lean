/-
  Trial division of polynomials, as the reference does it. No program in sight.
-/
import Derived.Test.YtjpcgjllmpdmhaaZFieldNat
namespace Go.Fd
open Go.Pl
/-- One row of the division: c times the divisor is taken away, o places up. -/
def dvJ (p c o : Int) (low r : List Int) : Nat → List Int
  | 0 => r
  | j + 1 => si (dvJ p c o low r j) (o + j) ((gi (dvJ p c o low r j) (o + j) + (p - c) * gi low j) % p)
def dvI (p : Int) (low r : List Int) (top : Int) : Nat → List Int
  | 0 => r
  | k + 1 => si (dvJ p (gi (dvI p low r top k) (top - k)) (top - k - low.length) low (dvI p low r top k) low.length) (top - k) 0
def zeros : List Int → Bool
  | [] => true
  | z :: l => decide (z = 0) && zeros l
def dv (low md : List Int) (p : Int) : Bool := zeros (dvI p low (md ++ [1]) md.length (md.length + 1 - low.length))
/-- No divisor of degree d with a value below n. -/
def noDv (md : List Int) (p : Int) (d : Nat) : Nat → Bool
  | 0 => true
  | n + 1 => noDv md p d n && !dv (dig p d n) md p
/-- No divisor of a degree from 1 to k. -/
def irrB (md : List Int) (p : Int) : Nat → Bool
  | 0 => true
  | k + 1 => irrB md p k && noDv md p (k + 1) (p ^ (k + 1)).toNat
def irr (md : List Int) (p : Int) : Bool := irrB md p (md.length / 2)
theorem noDv_false {md : List Int} {p : Int} {d v : Nat} (h : dv (dig p d v) md p = true) : ∀ n, v < n → noDv md p d n = false
  | 0, hn => absurd hn (by omega)
  | n + 1, hn => by
    rw [noDv]
    by_cases e : v = n
    · rw [← e, h]; simp
    · rw [noDv_false h n (by omega)]; rfl
theorem irr_false {md : List Int} {p : Int} {d v : Nat} (h : dv (dig p (d + 1) v) md p = true) (hv : v < (p ^ (d + 1)).toNat) : ∀ k, d < k → irrB md p k = false
  | 0, hk => absurd hk (by omega)
  | k + 1, hk => by
    rw [irrB]
    by_cases e : d = k
    · rw [← e, noDv_false h _ hv]; simp
    · rw [irr_false h hv k (by omega)]; rfl
end Go.Fd
