/-
  For each shape of a field of at most 256 elements, by computation: a polynomial is irreducible by trial division just if some residue has the greatest order. No program in sight.
-/
import Derived.Test.YtjpcgjllmpdmhaaZFieldIrr
namespace Go.Fd
open Go.Pl Go.Alg
def eqL : List Nat → List Nat → Bool
  | [], [] => true
  | a :: l, b :: m => Nat.beq a b && eqL l m
  | _, _ => false
theorem eqL_eq : ∀ {l m : List Nat}, eqL l m = true → l = m
  | [], [], _ => rfl
  | [], _ :: _, h => by simp [eqL] at h
  | _ :: _, [], h => by simp [eqL] at h
  | a :: l, b :: m, h => by
    simp only [eqL, Bool.and_eq_true] at h
    rw [Nat.eq_of_beq_eq_true h.1, eqL_eq h.2]
theorem eqL_refl : ∀ l : List Nat, eqL l l = true
  | [] => rfl
  | a :: l => by simp [eqL, eqL_refl l]
/-- n is prime, by trial. -/
def primeN (n : Nat) : Bool := decide (2 ≤ n) && ((List.range n).all fun d => !(decide (2 ≤ d) && decide (n % d = 0)))
theorem primeN_of {n : Nat} (h : IsP n) : primeN n = true := by
  simp only [primeN, Bool.and_eq_true, decide_eq_true_eq, List.all_eq_true, List.mem_range, Bool.not_eq_true', Bool.and_eq_false_iff, decide_eq_false_iff_not]
  refine ⟨h.1, fun d hd => ?_⟩
  by_cases h2 : 2 ≤ d
  · refine .inr fun hm => ?_
    have := h.2 d h2 (Nat.dvd_of_mod_eq_zero hm)
    omega
  · exact .inl h2
/-- rs has all prime divisors of n. -/
def prOK (n : Nat) (rs : List Nat) : Bool := (List.range (n + 1)).all fun r => !(decide (n % r = 0) && primeN r) || rs.contains r
theorem prOK_spec {n : Nat} {rs : List Nat} (h : prOK n rs = true) (hn : 0 < n) {r : Nat} (hr : IsP r) (hd : r ∣ n) : r ∈ rs := by
  have := List.all_eq_true.1 h r (List.mem_range.2 (by have := Nat.le_of_dvd hn hd; omega))
  simpa [Nat.mod_eq_zero_of_dvd hd, primeN_of hr] using this
/-- The residue with the value g has the order p^M - 1. -/
def ordOK (p : Nat) (md : List Nat) (g : Nat) (rs : List Nat) : Bool :=
  prOK (p ^ md.length - 1) rs && decide (p ^ md.length ≤ 256) && eqL (powN p md (digN p md.length 1) (digN p md.length g) 8 (p ^ md.length - 1)) (digN p md.length 1) &&
    rs.all fun r => !eqL (powN p md (digN p md.length 1) (digN p md.length g) 8 ((p ^ md.length - 1) / r)) (digN p md.length 1)
/-- Polynomials with a divisor: a is the divisor's value, b that of the other factor. -/
def divOK (p M v a b : Nat) : Bool :=
  ((List.range 4).any fun d => decide (d < M / 2) && decide (p ^ (d + 1) ≤ a) && decide (a - p ^ (d + 1) < p ^ (d + 1)) && dv (dig p (d + 1) ((a - p ^ (d + 1) : Nat) : Int)) (dig p M v) p) &&
    decide (0 < a ∧ a < p ^ M ∧ 0 < b ∧ b < p ^ M) && eqL (mulN p (digN p M v) (digN p M a) (digN p M b)) (digN p M 0)
def chk (p M : Nat) (rs : List Nat) (v a b : Nat) : Bool := if a = 0 then irr (dig p M v) p && ordOK p (digN p M v) b rs else divOK p M v a b
def allFrom (p M : Nat) (rs : List Nat) : Nat → List (Nat × Nat) → Bool
  | _, [] => true
  | v, h :: hs => chk p M rs v h.1 h.2 && allFrom p M rs (v + 1) hs
def allOK (p M : Nat) (rs : List Nat) (hs : List (Nat × Nat)) : Bool := decide (hs.length = p ^ M) && allFrom p M rs 0 hs
theorem allFrom_spec {p M : Nat} {rs : List Nat} : ∀ (hs : List (Nat × Nat)) (v : Nat), allFrom p M rs v hs = true → ∀ i, i < hs.length → ∃ a b, chk p M rs (v + i) a b = true
  | [], _, _, i, hi => by simp at hi
  | h :: hs, v, ho, 0, _ => by
    simp only [allFrom, Bool.and_eq_true] at ho
    exact ⟨_, _, ho.1⟩
  | h :: hs, v, ho, i + 1, hi => by
    simp only [allFrom, Bool.and_eq_true] at ho
    obtain ⟨a, b, hab⟩ := allFrom_spec hs (v + 1) ho.2 i (by simpa using hi)
    exact ⟨a, b, by rw [show v + (i + 1) = v + 1 + i by omega]; exact hab⟩
theorem allOK_spec {p M : Nat} {rs : List Nat} {hs : List (Nat × Nat)} (h : allOK p M rs hs = true) {v : Nat} (hv : v < p ^ M) : ∃ a b, chk p M rs v a b = true := by
  simp only [allOK, Bool.and_eq_true, decide_eq_true_eq] at h
  obtain ⟨a, b, hab⟩ := allFrom_spec hs 0 h.2 v (by omega)
  exact ⟨a, b, by simpa using hab⟩

theorem FP.q_nat {P : FP} {p : Nat} {md : List Nat} (hP : Fits P p md) : P.q = ((p ^ md.length : Nat) : Int) := by
  unfold FP.q
  rw [hP.1, hP.2.1, Int.natCast_pow]
theorem ordOK_spec {P : FP} {p : Nat} {md : List Nat} (hP : Fits P p md) {g : Nat} {rs : List Nat} (h : ordOK p md g rs = true) : ∃ x : K P, HasOrder x (n1 P) := by
  simp only [ordOK, Bool.and_eq_true, decide_eq_true_eq, List.all_eq_true, Bool.not_eq_true'] at h
  obtain ⟨⟨⟨h1, h2⟩, h3⟩, h4⟩ := h
  have hq := FP.q_nat hP
  have hq2 := P.q_two
  have hn : n1 P = p ^ md.length - 1 := by unfold n1; omega
  have e1 : kN P (digN p md.length 1) = 1 := Subtype.ext (by
    rw [← hP.2.1, kN_dig hP.1 1 (by omega)]; rfl)
  have spec := powN_spec hP (one := digN p md.length 1) (x := digN p md.length g) (digN_len _ _ _) (digN_len _ _ _) e1 8
  refine ⟨kN P (digN p md.length g), ?_⟩
  rw [hn]
  have e0 : ∀ n, eqL (powN p md (digN p md.length 1) (digN p md.length g) 8 n) (digN p md.length 1) = false → n < 256 → npow (kN P (digN p md.length g)) n ≠ 1 := fun n hne hlt he => by
    have hs := spec n (by omega)
    rw [he, ← e1] at hs
    have hv := congrArg K.v hs.2
    have key : ∀ l m : List Nat, l.length = md.length → m.length = md.length → (∀ z ∈ l, z < p) → (∀ z ∈ m, z < p) → Cg P.M P.p (vecN l) (vecN m) → l = m := fun l m hl hm hl' hm' hc => by
      apply List.ext_getElem (by omega)
      intro j hj1 hj2
      have := hc j (by rw [hP.2.1]; omega)
      simp only [vecN, List.getD_eq_getElem?_getD, List.getElem?_eq_getElem hj1, List.getElem?_eq_getElem hj2, Option.getD_some, hP.1] at this
      have a1 := hl' _ (List.getElem_mem hj1)
      have a2 := hm' _ (List.getElem_mem hj2)
      rw [Int.emod_eq_of_lt (by omega) (by omega), Int.emod_eq_of_lt (by omega) (by omega)] at this
      omega
    have hp : 0 < p := by have := P.hp; rw [hP.1] at this; omega
    have lo1 : ∀ m x, ∀ z ∈ digN p m x, z < p := fun m => by
      induction m with
      | zero => intro x z hz; simp [digN] at hz
      | succ m ih =>
        intro x z hz
        simp only [digN, List.mem_cons] at hz
        rcases hz with rfl | hz
        · exact Nat.mod_lt _ hp
        · exact ih _ z hz
    have lo2 : ∀ f n, ∀ z ∈ powN p md (digN p md.length 1) (digN p md.length g) f n, z < p := fun f n => by
      cases f with
      | zero => exact lo1 _ _
      | succ f =>
        unfold powN
        split
        · exact lo1 _ _
        · split
          · exact mulN_lo hp _
          · exact mulN_lo hp _
    have hc : Cg P.M P.p (vecN (powN p md (digN p md.length 1) (digN p md.length g) 8 n)) (vecN (digN p md.length 1)) :=
      (K.v_mk _).symm.trans ((by show Cg P.M P.p (K.v (kN P _)) (K.v (kN P _)); rw [hs.2]; exact Cg.refl _ : Cg P.M P.p (kN P (powN p md (digN p md.length 1) (digN p md.length g) 8 n)).v (kN P (digN p md.length 1)).v).trans (K.v_mk _))
    have := key _ _ hs.1 (digN_len _ _ _) (lo2 8 n) (lo1 _ _) hc
    rw [this, eqL_refl] at hne
    cases hne
  refine order_test (by omega) ?_ (fun r hr hd => ?_)
  · have hs := spec (p ^ md.length - 1) (by omega)
    rw [eqL_eq h3, e1] at hs
    exact hs.2.symm
  · have hmem := prOK_spec h1 (by omega) hr hd
    exact e0 _ (h4 r hmem) (by have := Nat.div_le_self (p ^ md.length - 1) r; omega)
theorem div_zero {P : FP} {p M v a b : Nat} (hP : Fits P p (digN p M v)) (h : divOK p M v a b = true) : irr (dig p M v) p = false ∧ ∀ x : K P, ¬ HasOrder x (n1 P) := by
  simp only [divOK, Bool.and_eq_true, decide_eq_true_eq, List.any_eq_true, List.mem_range] at h
  obtain ⟨⟨⟨d, _, ⟨⟨h1, h2⟩, h3⟩, h4⟩, ha0, ha1, hb0, hb1⟩, h5⟩ := h
  constructor
  · unfold irr
    rw [dig_length]
    refine irr_false h4 ?_ _ h1
    have e : ((p : Int) ^ (d + 1)).toNat = p ^ (d + 1) := by rw [← Int.natCast_pow, Int.toNat_natCast]
    rw [e]; exact h3
  · intro x hx
    have hM : P.M = M := by rw [hP.2.1, digN_len]
    have hq : P.q = ((p ^ M : Nat) : Int) := by rw [FP.q_nat hP, digN_len]
    have va := kN_dig hP.1 a (by rw [hq]; omega)
    have vb := kN_dig hP.1 b (by rw [hq]; omega)
    have v0 := kN_dig hP.1 0 (by rw [hq]; omega)
    rw [hM] at va vb v0
    have hm := kN_mul hP (a := digN p M a) (b := digN p M b) (by simp [digN_len]) (by simp [digN_len])
    rw [eqL_eq h5] at hm
    have hz : kN P (digN p M a) * kN P (digN p M b) = 0 := by
      rw [← hm]
      exact Subtype.ext v0
    rcases no_zero_div hx hz with e | e
    · rw [e] at va
      have : (0 : Int) = a := va
      omega
    · rw [e] at vb
      have : (0 : Int) = b := vb
      omega
end Go.Fd
