import Derived.Test.YtcfbigmjjpknfaaGreatDoorW04
import Derived.Test.YtcfbigmjjpknfaaGreatDoorW03
namespace Go.Fd
open Go.Pl Go.Alg
def eqL : List Nat → List Nat → Bool
 | [], [] => true
 | a :: l, b :: m => Nat.beq a b && eqL l m
 | _, _ => false
theorem eqL_eq : ∀ {l m : List Nat}, eqL l m = true → l = m
 | [], [], _ => rfl
 | [], _ :: _, h => by simp [eqL] at h
 | _ :: _, [], h => by simp [eqL] at h
 | a :: l, b :: m, h => by
  simp only [eqL, Bool.and_eq_true] at h
  rw [Nat.eq_of_beq_eq_true h.1, eqL_eq h.2]
theorem QcY : ∀ l : List Nat, eqL l l = true
 | [] => rfl
 | a :: l => by simp [eqL, QcY l]
def primeN (n : Nat) : Bool := decide (2 ≤ n) && ((List.range n).all fun d => !(decide (2 ≤ d) && decide (n % d = 0)))
theorem primeN_of {n : Nat} (h : IsP n) : primeN n = true := by
 simp only [primeN, Bool.and_eq_true, decide_eq_true_eq, List.all_eq_true, List.mem_range, Bool.not_eq_true', Bool.and_eq_false_iff, decide_eq_false_iff_not]
 refine ⟨h.1, fun d hd => ?_⟩
 by_cases h2 : 2 ≤ d
 ·refine .inr fun hm => ?_
  have := h.2 d h2 (Nat.dvd_of_mod_eq_zero hm)
  omega
 ·exact .inl h2
def prOK (n : Nat) (rs : List Nat) : Bool := (List.range (n + 1)).all fun r => !(decide (n % r = 0) && primeN r) || rs.contains r
theorem prOK_spec {n : Nat} {rs : List Nat} (h : prOK n rs = true) (hn : 0 < n) {r : Nat} (hr : IsP r) (hd : r ∣ n) : r ∈ rs := by
 have := List.all_eq_true.1 h r (List.mem_range.2 (by have := Nat.le_of_dvd hn hd; omega))
 simpa [Nat.mod_eq_zero_of_dvd hd, primeN_of hr] using this
def ordOK (p : Nat) (md : List Nat) (g : Nat) (rs : List Nat) : Bool :=
 prOK (p ^ md.length - 1) rs && decide (p ^ md.length ≤ 256) && eqL (powN p md (digN p md.length 1) (digN p md.length g) 8 (p ^ md.length - 1)) (digN p md.length 1) &&
  rs.all fun r => !eqL (powN p md (digN p md.length 1) (digN p md.length g) 8 ((p ^ md.length - 1) / r)) (digN p md.length 1)
def divOK (p M v a b : Nat) : Bool :=
 ((List.range 4).any fun d => decide (d < M / 2) && decide (p ^ (d + 1) ≤ a) && decide (a - p ^ (d + 1) < p ^ (d + 1)) && dv (dig p (d + 1) ((a - p ^ (d + 1) : Nat) : Int)) (dig p M v) p) &&
  decide (0 < a ∧ a < p ^ M ∧ 0 < b ∧ b < p ^ M) && eqL (mulN p (digN p M v) (digN p M a) (digN p M b)) (digN p M 0)
def chk (p M : Nat) (rs : List Nat) (v a b : Nat) : Bool := if a = 0 then irr (dig p M v) p && ordOK p (digN p M v) b rs else divOK p M v a b
def allFrom (p M : Nat) (rs : List Nat) : Nat → List (Nat × Nat) → Bool
 | _, [] => true
 | v, h :: hs => chk p M rs v h.1 h.2 && allFrom p M rs (v + 1) hs
def allOK (p M : Nat) (rs : List Nat) (hs : List (Nat × Nat)) : Bool := decide (hs.length = p ^ M) && allFrom p M rs 0 hs
theorem XU {p M : Nat} {rs : List Nat} : ∀ (hs : List (Nat × Nat)) (v : Nat), allFrom p M rs v hs = true → ∀ i, i < hs.length → ∃ a b, chk p M rs (v + i) a b = true
 | [], _, _, i, hi => by simp at hi
 | h :: hs, v, ho, 0, _ => by
  simp only [allFrom, Bool.and_eq_true] at ho
  exact ⟨_, _, ho.1⟩
 | h :: hs, v, ho, i + 1, hi => by
  simp only [allFrom, Bool.and_eq_true] at ho
  obtain ⟨a, b, hab⟩ := XU hs (v + 1) ho.2 i (by simpa using hi)
  exact ⟨a, b, by rw [show v + (i + 1) = v + 1 + i by omega]; exact hab⟩
theorem QdC {p M : Nat} {rs : List Nat} {hs : List (Nat × Nat)} (h : allOK p M rs hs = true) {v : Nat} (hv : v < p ^ M) : ∃ a b, chk p M rs v a b = true := by
 simp only [allOK, Bool.and_eq_true, decide_eq_true_eq] at h
 obtain ⟨a, b, hab⟩ := XU hs 0 h.2 v (by omega)
 exact ⟨a, b, by simpa using hab⟩
theorem FP.q_nat {P : FP} {p : Nat} {md : List Nat} (hP : Fits P p md) : P.q = ((p ^ md.length : Nat) : Int) := by
 unfold FP.q
 rw [hP.1, hP.2.1, Int.natCast_pow]
theorem Qak {P : FP} {p : Nat} {md : List Nat} (hP : Fits P p md) {g : Nat} {rs : List Nat} (h : ordOK p md g rs = true) : ∃ x : K P, HasOrder x (n1 P) := by
 simp only [ordOK, Bool.and_eq_true, decide_eq_true_eq, List.all_eq_true, Bool.not_eq_true'] at h
 obtain ⟨⟨⟨h1, h2⟩, h3⟩, h4⟩ := h
 have hq := FP.q_nat hP
 have hq2 := P.q_two
 have hn : n1 P = p ^ md.length - 1 := by unfold n1; omega
 have e1 : kN P (digN p md.length 1) = 1 := Subtype.ext (by
  rw [← hP.2.1, QcP hP.1 1 (by omega)]; rfl)
 have spec := Qbq hP (one := digN p md.length 1) (x := digN p md.length g) (ZT _ _ _) (ZT _ _ _) e1 8
 refine ⟨kN P (digN p md.length g), ?_⟩
 rw [hn]
 have e0 : ∀ n, eqL (powN p md (digN p md.length 1) (digN p md.length g) 8 n) (digN p md.length 1) = false → n < 256 → npow (kN P (digN p md.length g)) n ≠ 1 := fun n hne hlt he => by
  have hs := spec n (by omega)
  rw [he, ← e1] at hs
  have hv := congrArg K.v hs.2
  have key : ∀ l m : List Nat, l.length = md.length → m.length = md.length → (∀ z ∈ l, z < p) → (∀ z ∈ m, z < p) → Cg P.M P.p (vecN l) (vecN m) → l = m := fun l m hl hm hl' hm' hc => by
   apply List.ext_getElem (by omega)
   intro j hj1 hj2
   have := hc j (by rw [hP.2.1]; omega)
   simp only [vecN, List.getD_eq_getElem?_getD, List.getElem?_eq_getElem hj1, List.getElem?_eq_getElem hj2, Option.getD_some, hP.1] at this
   have a1 := hl' _ (List.getElem_mem hj1)
   have a2 := hm' _ (List.getElem_mem hj2)
   rw [Int.emod_eq_of_lt (by omega) (by omega), Int.emod_eq_of_lt (by omega) (by omega)] at this
   omega
  have hp : 0 < p := by have := P.hp; rw [hP.1] at this; omega
  have lo1 : ∀ m x, ∀ z ∈ digN p m x, z < p := fun m => by
   induction m with
   | zero => intro x z hz; simp [digN] at hz
   | succ m ih =>
    intro x z hz
    simp only [digN, List.mem_cons] at hz
    rcases hz with rfl | hz
    ·exact Nat.mod_lt _ hp
    ·exact ih _ z hz
  have lo2 : ∀ f n, ∀ z ∈ powN p md (digN p md.length 1) (digN p md.length g) f n, z < p := fun f n => by
   cases f with
   | zero => exact lo1 _ _
   | succ f =>
    unfold powN
    split
    ·exact lo1 _ _
    ·split
     ·exact Qb8 hp _
     ·exact Qb8 hp _
  have hc : Cg P.M P.p (vecN (powN p md (digN p md.length 1) (digN p md.length g) 8 n)) (vecN (digN p md.length 1)) :=
   (K.v_mk _).symm.trans ((by show Cg P.M P.p (K.v (kN P _)) (K.v (kN P _)); rw [hs.2]; exact Cg.refl _ : Cg P.M P.p (kN P (powN p md (digN p md.length 1) (digN p md.length g) 8 n)).v (kN P (digN p md.length 1)).v).trans (K.v_mk _))
  have := key _ _ hs.1 (ZT _ _ _) (lo2 8 n) (lo1 _ _) hc
  rw [this, QcY] at hne
  cases hne
 refine Qdi (by omega) ?_ (fun r hr hd => ?_)
 ·have hs := spec (p ^ md.length - 1) (by omega)
  rw [eqL_eq h3, e1] at hs
  exact hs.2.symm
 ·have hmem := prOK_spec h1 (by omega) hr hd
  exact e0 _ (h4 r hmem) (by have := Nat.div_le_self (p ^ md.length - 1) r; omega)
theorem div_zero {P : FP} {p M v a b : Nat} (hP : Fits P p (digN p M v)) (h : divOK p M v a b = true) : irr (dig p M v) p = false ∧ ∀ x : K P, ¬ HasOrder x (n1 P) := by
 simp only [divOK, Bool.and_eq_true, decide_eq_true_eq, List.any_eq_true, List.mem_range] at h
 obtain ⟨⟨⟨d, _, ⟨⟨h1, h2⟩, h3⟩, h4⟩, ha0, ha1, hb0, hb1⟩, h5⟩ := h
 constructor
 ·unfold irr
  rw [QZ]
  refine KE h4 ?_ _ h1
  have e : ((p : Int) ^ (d + 1)).toNat = p ^ (d + 1) := by rw [← Int.natCast_pow, Int.toNat_natCast]
  rw [e]; exact h3
 ·intro x hx
  have hM : P.M = M := by rw [hP.2.1, ZT]
  have hq : P.q = ((p ^ M : Nat) : Int) := by rw [FP.q_nat hP, ZT]
  have va := QcP hP.1 a (by rw [hq]; omega)
  have vb := QcP hP.1 b (by rw [hq]; omega)
  have v0 := QcP hP.1 0 (by rw [hq]; omega)
  rw [hM] at va vb v0
  have hm := kN_mul hP (a := digN p M a) (b := digN p M b) (by simp [ZT]) (by simp [ZT])
  rw [eqL_eq h5] at hm
  have hz : kN P (digN p M a) * kN P (digN p M b) = 0 := by
   rw [← hm]
   exact Subtype.ext v0
  rcases Qb2 hx hz with e | e
  ·rw [e] at va
   have : (0 : Int) = a := va
   omega
  ·rw [e] at vb
   have : (0 : Int) = b := vb
   omega
end Go.Fd
namespace Go.Proofs.YtcfbigmjjpknfaaGreatDoor
open Go Go.Sx Go.Pl Go.RowKit Go.Fd
def ordZ (p m : Int) : Int := if p < 2 ∨ 256 < p ∨ m < 1 ∨ 8 < m ∨ 256 < p ^ m.toNat then 0 else p ^ m.toNat
theorem ZQ {p : Int} (hp : 2 ≤ p) (n : Nat) : 1 ≤ p ^ n := by
 have := Int.pow_pos (n := p) (m := n) (by omega)
 omega
theorem ZJ {p : Int} (hp : 2 ≤ p) {m n : Nat} (h : m ≤ n) : p ^ m ≤ p ^ n := by
 obtain ⟨k, rfl⟩ : ∃ k, n = m + k := ⟨n - m, by omega⟩
 rw [Int.pow_add]
 have h1 := ZQ hp m
 have h2 := ZQ hp k
 have := Int.mul_le_mul_of_nonneg_left (c := p ^ m) h2 (by omega)
 rw [Int.mul_one] at this
 exact this
theorem QaM {p : Int} (n : Int) (h : 0 ≤ n) : p ^ (n + 1).toNat = p ^ n.toNat * p := by
 rw [show (n + 1).toNat = n.toNat + 1 by omega, Int.pow_succ]
theorem QbH (p m : Int) (w : World) :
  Calls Tryz.prog 56 #[.int .i64 p, .int .i64 m] w (RetX w fun v _ => v = .int .i64 (ordZ p m)) := by
 refine QD Tryz.func56 rfl rfl (Qc (Qb [0] rfl (Qk rfl rfl (Qd (Qa (Qc (Qc (Qb [0,1,2,3,4,5,6,7,8,9,10,11,12,13] rfl (mvV rfl rfl (Qy rfl rfl rfl (mvV rfl rfl ?_)))))))))))
 refine OR (π1 := [3,4,5]) (π2 := [6,7,8,9,10,11,12,13]) (tc := 8) (tp := 11) rfl rfl rfl (by
   intro _
   refine SK rfl rfl rfl rfl rfl (SK rfl rfl rfl rfl rfl (pkV rfl rfl rfl ?_))
   exact Zx rfl) (by
   intro hg
   simp at hg
   refine Vg rfl rfl rfl (mv rfl) (Vg rfl rfl rfl (Ju rfl rfl) (pkV rfl rfl rfl ?_))
   exact Zx rfl) ?_
 refine mvV rfl rfl ?_
 refine OR (π1 := [7,8,9]) (π2 := [10,11,12,13]) (tc := 12) (tp := 15) rfl rfl rfl (by
   intro _
   refine SK rfl rfl rfl rfl rfl (SK rfl rfl rfl rfl rfl (pkV rfl rfl rfl ?_))
   exact Zx rfl) (by
   intro hg
   simp at hg
   refine Vg rfl rfl rfl (mv rfl) (Vg rfl rfl rfl (Qan rfl rfl) (pkV rfl rfl rfl ?_))
   exact Zx rfl) ?_
 refine mvV rfl rfl ?_
 refine OR (π1 := [11,12,13]) (π2 := []) (tc := 16) (tp := 19) rfl rfl rfl (by
   intro _
   refine SK rfl rfl rfl rfl rfl (SK rfl rfl rfl rfl rfl (pkV rfl rfl rfl ?_))
   exact Zx rfl) (by
   intro hg
   simp at hg
   refine Vg rfl rfl rfl (mv rfl) (Vg rfl rfl rfl (Ju rfl rfl) (pkV rfl rfl rfl ?_))
   exact Zx rfl) ?_
 refine Qd (Qa (Qo rfl ?_ ?_))
 ·intro h
  simp at h
  refine Qc (Qb [0] rfl (Qk rfl rfl (Qd (Qa (Qq (Qp (Qj rfl rfl ?_)))))))
  exact ⟨Ext.refl _, by rw [ordZ, if_pos (by omega)]⟩
 ·intro h
  simp at h
  refine Qe (Qa (Qc (Qb [0] rfl (Qk rfl rfl (Qd (Qa (Qc (Qc (Qb [0,1] rfl (mvV rfl rfl (mvV rfl rfl (Qd (Qa (Qf ?_))))))))))))))
  refine Qv (fun i : Int => [(0, .int .i64 p), (5, .int .i64 (p ^ i.toNat)), (20, .int .i64 m), (21, .int .i64 i)])
   (fun i w' => 0 ≤ i ∧ i ≤ m ∧ p ^ i.toNat ≤ 256 ∧ w' = w) (fun i => (m - i).toNat) 0 ⟨rfl, by rw [show (0 : Int).toNat = 0 from rfl, Int.pow_zero]; rfl, rfl, rfl, trivial⟩ ⟨by omega, by omega, by simp, rfl⟩ ?_
  rintro i w' ⟨h0, h1, hq, rfl⟩
  have hq0 := ZQ (p := p) (by omega) i.toNat
  try dsimp only
  refine Qc (Qb [0] rfl (Qy rfl rfl rfl (Qd (Qa (Qc (Qo rfl ?_ ?_))))))
  ·intro hi
   simp at hi
   refine Qe (Qa (Qc (Qf (Qc ?_))))
   have hm : p ^ i.toNat * p ≤ 256 * 256 := Int.mul_le_mul hq (by omega) (by omega) (by omega)
   have hm0 : 0 ≤ p ^ i.toNat * p := Int.mul_nonneg (by omega) (by omega)
   refine Qb [0,1,2,3] rfl (mvV rfl rfl (mvV rfl rfl (Vw rfl (Kx rfl rfl) (Qk rfl rfl (Qd (Qa (Qc ?_)))))))
   rw [← QaM i h0]
   refine Qb [0,1] rfl (mvV rfl rfl (ZA rfl rfl rfl (Qd (Qa (Qo rfl ?_ ?_)))))
   ·intro hb
    simp at hb
    refine Qc (Qb [0] rfl (Qk rfl rfl (Qd (Qa (Qq (Qu (Qp (QE (Qu (Qp (Qj rfl rfl ?_)))))))))))
    have := ZJ (p := p) (by omega) (m := (i + 1).toNat) (n := m.toNat) (by omega)
    exact ⟨Ext.refl _, by rw [ordZ, if_pos (by omega)]⟩
   ·intro hb
    simp at hb
    refine Qe (Qg (Qa (Qb [0,1] rfl (Qw rfl rfl rfl (mvV rfl rfl (Qd ?_))))))
    exact Qi (i + 1) ⟨rfl, rfl, rfl, rfl, trivial⟩ ⟨by omega, by omega, hb, rfl⟩ (by omega)
  ·intro hi
   simp at hi
   refine Qt (Ql (Qm (Qh (Qa (Qc ?_)))))
   have e : i = m := by omega
   subst e
   refine Qb [0,1] rfl (mvV rfl rfl (Qk rfl rfl (Qd (Qa (Qq (Qj rfl rfl ?_))))))
   exact ⟨Ext.refl _, by rw [ordZ, if_neg (by omega)]⟩
theorem Qaj {n : Nat} : primeN n = true ↔ 2 ≤ n ∧ ∀ d, 2 ≤ d → d < n → n % d ≠ 0 := by
 simp only [primeN, Bool.and_eq_true, decide_eq_true_eq, List.all_eq_true, List.mem_range, Bool.not_eq_true', Bool.and_eq_false_iff, decide_eq_false_iff_not]
 constructor
 ·rintro ⟨h1, h2⟩
  refine ⟨h1, fun d hd hn => ?_⟩
  rcases h2 d hn with h | h
  ·exact absurd hd h
  ·exact h
 ·rintro ⟨h1, h2⟩
  refine ⟨h1, fun d hn => ?_⟩
  by_cases hd : 2 ≤ d
  ·exact .inr (h2 d hd hn)
  ·exact .inl hd
theorem XS {n d : Int} (h0 : 2 ≤ d) (h1 : d < n) (h : n % d = 0) : primeN n.toNat = false := by
 cases hp : primeN n.toNat
 ·rfl
 ·exfalso
  refine (Qaj.1 hp).2 d.toNat (by omega) (by omega) ?_
  have : ((n.toNat % d.toNat : Nat) : Int) = n % d := by rw [Int.natCast_emod]; congr 1 <;> omega
  omega
theorem Kr {n d : Int} (hn : 2 ≤ n) (h0 : 2 ≤ d) (h : ∀ e : Int, 2 ≤ e → e < d → n % e ≠ 0) (hd : n < d * d) : primeN n.toNat = true := by
 rw [Qaj]
 refine ⟨by omega, fun e h2 hlt hm => ?_⟩
 have hme : n % (e : Int) = 0 := by
  have : ((n.toNat % e : Nat) : Int) = n % (e : Int) := by rw [Int.natCast_emod]; congr 1; omega
  omega
 by_cases hed : (e : Int) < d
 ·exact h e (by omega) hed hme
 ·have hmul := Int.mul_ediv_add_emod n (e : Int)
  have hf : n = e * (n / e) := by omega
  have hf2 : 2 ≤ n / (e : Int) := by
   apply Classical.byContradiction
   intro hc
   have h0' : 0 ≤ n / (e : Int) := Int.ediv_nonneg (by omega) (by omega)
   have : n / (e : Int) = 0 ∨ n / (e : Int) = 1 := by omega
   rcases this with h | h
   ·rw [h] at hf; simp at hf; omega
   ·rw [h] at hf; simp at hf; omega
  have hfd : n / (e : Int) < d := by
   apply Classical.byContradiction
   intro hc
   have h4 : d * d ≤ (e : Int) * (n / (e : Int)) := Int.mul_le_mul (by omega) (by omega) (by omega) (by omega)
   omega
  refine h (n / e) hf2 hfd ?_
  have h3 : n % (n / (e : Int)) = (e * (n / e)) % (n / (e : Int)) := by rw [← hf]
  rw [h3, Int.mul_emod_left]
theorem fIsPrime (n : Int) (w : World) (hn : 2 ≤ n ∧ n ≤ 256) :
  Calls Tryz.prog 102 #[.int .i64 n] w (RetX w fun v _ => v = .bool (primeN n.toNat)) := by
 refine QL Tryz.func102 rfl rfl (Qc (Qb [0] rfl (Qk rfl rfl (Qd (Qa (Qc (Qc (Qb [0] rfl (Qk rfl rfl (Qd (Qa (Qf ?_))))))))))))
 refine Qv (fun d : Int => [(0, .int .i64 n), (3, .int .i64 d)])
  (fun d w' => 2 ≤ d ∧ d ≤ n + 1 ∧ (∀ e : Int, 2 ≤ e → e < d → n % e ≠ 0) ∧ w' = w) (fun d => (n + 1 - d).toNat) 2 ⟨rfl, rfl, trivial⟩ ⟨by omega, by omega, fun e _ _ => by omega, rfl⟩ ?_
 rintro d w' ⟨h0, h1, h2, rfl⟩
 have hm : d * d ≤ 257 * 257 := Int.mul_le_mul (by omega) (by omega) (by omega) (by omega)
 have hm2 : 2 * d ≤ d * d := Int.mul_le_mul_of_nonneg_right h0 (by omega)
 try dsimp only
 refine Qc (Qc (Qb [0,1,2,3,4] rfl (mvV rfl rfl (mvV rfl rfl (Vw rfl (Kx rfl rfl) (mvV rfl rfl (Vw rfl (Qbz rfl rfl) (Qd (Qa (Qo rfl ?_ ?_))))))))))
 ·intro hd
  simp at hd
  refine Qe (Qa (Qc (Qf (Qc (Qb [0,1,2,3] rfl (mvV rfl rfl (mvV rfl rfl (Vw rfl (Qbe rfl rfl) (QU rfl rfl rfl (Qd (Qa (Qo rfl ?_ ?_))))))))))))
  ·intro he
   simp at he
   refine Qc (Qb [0] rfl (Qk rfl rfl (Qd (Qa (Qq (Qu (Qp (QE (Qu (Qp (Qj rfl rfl ?_)))))))))))
   exact ⟨Ext.refl _, by rw [XS h0 (by omega) he]⟩
  ·intro he
   simp at he
   refine Qe (Qg (Qa (Qb [0,1,2] rfl (mvV rfl rfl (Qw rfl rfl rfl (Qk rfl rfl (Qd ?_)))))))
   exact Qi (d + 1) ⟨rfl, rfl, trivial⟩ ⟨by omega, by omega, fun e he1 he2 => (by
    by_cases e' : e = d
    ·rw [e']; exact he
    ·exact h2 e he1 (by omega)), rfl⟩ (by omega)
 ·intro hd
  simp at hd
  refine Qt (Ql (Qm (Qh (Qa (Qc (Qb [0,1,2] rfl (mvV rfl rfl (Vw rfl (Xb rfl rfl) (Qk rfl rfl (Qd (Qa (Qq (Qj rfl rfl ?_)))))))))))))
  exact ⟨Ext.refl _, by rw [Kr hn.1 h0 h2 hd]; simp [hn.1]⟩
theorem si_app (pre : List Int) (k : Nat) (u : Int) : si (pre ++ List.replicate (k + 1) 0) pre.length u = (pre ++ [u]) ++ List.replicate k 0 := by
 simp [si, List.replicate_succ]
structure Dg (p : Int) (m : Nat) (x0 : Int) (i : Nat) (x : Int) (l : List Int) : Prop where
 pre : ∃ pre : List Int, pre.length = i ∧ l = pre ++ List.replicate (m - i) 0 ∧ dig p m x0 = pre ++ dig p (m - i) x
theorem Dg.first (p : Int) (m : Nat) (x0 : Int) : Dg p m x0 0 x0 (tab m fun _ => 0) := ⟨[], rfl, by rw [← Jo]; simp, by simp⟩
theorem Dg.step {p : Int} {m : Nat} {x0 : Int} {i : Nat} {x : Int} {l : List Int} (h : Dg p m x0 i x l) (hi : i < m) : Dg p m x0 (i + 1) (x / p) (si l i (x % p)) := by
 obtain ⟨pre, h1, h2, h3⟩ := h
 obtain ⟨k, hk⟩ : ∃ k, m - i = k + 1 := ⟨m - i - 1, by omega⟩
 refine ⟨pre ++ [x % p], by simp [h1], ?_, ?_⟩
 ·rw [h2, hk, ← h1, si_app, show m - (pre.length + 1) = k by omega]
 ·rw [h3, hk, dig, show m - (i + 1) = k by omega]
  simp
theorem Dg.len {p : Int} {m : Nat} {x0 : Int} {i : Nat} {x : Int} {l : List Int} (h : Dg p m x0 i x l) (hi : i ≤ m) : l.length = m := by
 obtain ⟨pre, h1, h2, h3⟩ := h
 rw [h2]
 simp [h1]
 omega
theorem Dg.last {p : Int} {m : Nat} {x0 : Int} {x : Int} {l : List Int} (h : Dg p m x0 m x l) : l = dig p m x0 := by
 obtain ⟨pre, h1, h2, h3⟩ := h
 rw [h2, h3, Nat.sub_self]
 simp [dig]
theorem fDigits (x p : Int) (m : Nat) (w : World) (hx : 0 ≤ x ∧ x ≤ 65536) (hp : 2 ≤ p ∧ p ≤ 256) (hm : m ≤ 64) :
  Calls Tryz.prog 142 #[.int .i64 x, .int .i64 p, .int .i64 m] w (RetX w fun v w' => OwnI w.heap.size w' v 3 (dig p m x) ∧ v.ownBlock = some w.heap.size) := by
 refine QS Tryz.func142 rfl rfl (Qc (Qb [0] rfl (Qk rfl rfl (Qd (Qa (Qc (Qb [0,1,2] rfl (mvV rfl rfl (MKI (n := m) rfl wu rfl rfl QA ?_)))))))))
 intro s w1 hE hs hsi hsb
 refine Qk rfl rfl (Qd (Qa (Qc (Qc (Qb [0,1,2] rfl (mvV rfl rfl (Vw rfl (Zh rfl QA) ?_)))))))
 refine mvV rfl rfl (Qd (Qa (Qf ?_)))
 rw [Qs]
 refine Qv (fun q : Int × Int × List Int => [(0, .int .i64 q.2.1), (1, .int .i64 p), (7, s), (12, .int .i64 m), (13, .int .i64 q.1)])
  (fun q w' => 0 ≤ q.1 ∧ q.1 ≤ m ∧ 0 ≤ q.2.1 ∧ q.2.1 ≤ 65536 ∧ Dg p m x q.1.toNat q.2.1 q.2.2 ∧ Ext w w' ∧ OwnI w.heap.size w' s 3 q.2.2) (fun q => (m - q.1).toNat) (0, x, tab m fun _ => 0) ⟨rfl, rfl, rfl, rfl, rfl, trivial⟩ ⟨by omega, by omega, hx.1, hx.2, Dg.first p m x, hE, hs⟩ ?_
 clear hE hs hsi
 rintro ⟨i, y, l⟩ w2 ⟨h0, h1, hy0, hy1, hD, hE, hs⟩
 simp only at h0 h1 hy0 hy1 hD hE hs
 have hsi := hs.ints
 have hl := hD.len (by omega)
 have hy2 : y / p ≤ y := Int.ediv_le_self _ hy0
 have hy3 : 0 ≤ y / p := Int.ediv_nonneg hy0 (by omega)
 try dsimp only
 refine Qc (Qb [0] rfl (Qy rfl rfl rfl (Qd (Qa (Qc (Qo rfl ?_ ?_))))))
 ·intro hi
  simp at hi
  refine Qe (Qa (Qc (Qf (Qc (Qb [0,1] rfl (mvV rfl rfl (Qk rfl rfl (Qd (Qa (Qc (Qb [0,1,2,3,4,5,6] rfl (mvV rfl rfl (mvV rfl rfl (mvV rfl rfl (mvV rfl rfl ?_)))))))))))))))
  refine Vw rfl (Qbe rfl rfl) (Vw rfl (QO rfl rfl QA) ?_)
  refine STI rfl wu rfl rfl sz3 nofun ?_
  intro w3 hg hX hs3 hsi3
  refine Qd (Qa ?_)
  have hD' := hD.step (by omega)
  rw [show ((i.toNat : Nat) : Int) = i by omega] at hD'
  refine Qb [0,1,2,3] rfl (mvV rfl rfl (mvV rfl rfl (Vw rfl (quoI rfl rfl) (Qk rfl rfl (Qd (Qg (Qa (Qb [0,1] rfl (Qw rfl rfl rfl (mvV rfl rfl (Qd ?_)))))))))))
  exact Qi (i + 1, y / p, si l i (y % p)) ⟨rfl, rfl, rfl, rfl, rfl, trivial⟩ ⟨by show 0 ≤ i + 1; omega, by show i + 1 ≤ _; omega, hy3, by show y / p ≤ _; omega, by show Dg p m x (i + 1).toNat _ _; rw [show (i + 1).toNat = i.toNat + 1 by omega]; exact hD', hX _ (Nat.le_refl _) hE, hs3⟩ (by show (m - (i + 1)).toNat < (m - i).toNat; omega)
 ·intro hi
  simp at hi
  refine Qt (Ql (Qm (Qh (Qa (Qc (Qb [0,1] rfl (mvV rfl rfl (Qk rfl rfl (Qd (Qa (Qq (Qj rfl rfl ?_))))))))))))
  have e : i.toNat = m := by omega
  rw [e] at hD
  rw [hD.last] at hs
  exact ⟨hE, hs, hsb⟩
theorem lo_drop {p : Int} {l : List Int} (h : Lo p l) (n : Nat) : Lo p (l.drop n) := fun z hz => h z (List.mem_of_mem_drop hz)
theorem val_le {p : Int} (hp : 2 ≤ p) {l : List Int} (h : Lo p l) (hq : p ^ l.length ≤ 65536) (n : Nat) : 0 ≤ val p (l.drop n) ∧ val p (l.drop n) < 65536 := by
 have h1 := Xf hp _ (lo_drop h n)
 have h2 := ZJ hp (m := (l.drop n).length) (n := l.length) (by simp)
 omega
theorem Qcx {p : Int} {l : List Int} {i : Int} (h0 : 0 ≤ i) (h1 : i < l.length) : val p (l.drop (i + 1).toNat) * p + gi l i = val p (l.drop i.toNat) := by
 have hk : i.toNat < l.length := by omega
 rw [List.drop_eq_getElem_cons hk, val, show (i + 1).toNat = i.toNat + 1 by omega, Int.mul_comm]
 simp [gi, hk]
 omega
theorem Xr {p : Int} {l : List Int} (h : Lo p l) {i : Int} (h0 : 0 ≤ i) (h1 : i < l.length) : 0 ≤ gi l i ∧ gi l i < p := by
 have hk : i.toNat < l.length := by omega
 have := h _ (List.getElem_mem hk)
 simpa [gi, hk] using this
theorem fValue (d : Value) (l : List Int) (p : Int) (w : World) (hd : Ints w d l) (hp : 2 ≤ p ∧ p ≤ 256) (hl : Lo p l) (hq : p ^ l.length ≤ 65536) (hlen : l.length ≤ 64) :
  Calls Tryz.prog 143 #[d, .int .i64 p] w (RetX w fun v _ => v = .int .i64 (val p l)) := by
 refine QD Tryz.func143 rfl rfl (Qc (Qb [0] rfl (Qk rfl rfl (Qd (Qa (Qc (Qb [0] rfl (Qk rfl rfl (Qd (Qa (Qc (Qc (Qb [0,1,2,3] rfl (mvV rfl rfl ?_))))))))))))))
 refine Vw rfl (Zh rfl QA) ?_
 refine Zd rfl rfl rfl (Qk rfl rfl (Qd (Qa (Qf ?_))))
 refine Qv (fun i : Int => [(0, d), (1, .int .i64 p), (5, .int .i64 (val p (l.drop (i + 1).toNat))), (6, .int .i64 i)])
  (fun i w' => -1 ≤ i ∧ i < l.length ∧ w' = w) (fun i => (i + 1).toNat) (l.length - 1) ⟨rfl, rfl, by
   show _ = some (Value.int .i64 (val p (l.drop ((l.length : Int) - 1 + 1).toNat)))
   rw [show ((l.length : Int) - 1 + 1).toNat = l.length by omega, List.drop_length]; rfl, rfl, trivial⟩ ⟨by omega, by omega, rfl⟩ ?_
 rintro i w' ⟨h0, h1, rfl⟩
 have hv := val_le hp.1 hl hq (i + 1).toNat
 try dsimp only
 refine Qc (Qc (Qb [0,1] rfl (mvV rfl rfl (Vw rfl (Xb rfl rfl) (Qd (Qa (Qo rfl ?_ ?_)))))))
 ·intro hi
  simp at hi
  refine Qe (Qa (Qc (Qf ?_)))
  have hg := Xr hl hi h1
  have hm : 0 ≤ val p (l.drop (i + 1).toNat) * p ∧ val p (l.drop (i + 1).toNat) * p ≤ 65536 * 256 := ⟨Int.mul_nonneg hv.1 (by omega), Int.mul_le_mul (by omega) hp.2 (by omega) (by omega)⟩
  refine Qb [0,1,2,3,4,5,6,7,8] rfl (mvV rfl rfl (mvV rfl rfl (Vw rfl (Kx rfl rfl) (mvV rfl rfl (mvV rfl rfl (Vw rfl (QO rfl rfl QA) ?_))))))
  refine Vw rfl (ldI rfl na3) ?_
  refine Qw rfl rfl rfl (Qk rfl rfl (Qd (Qg (Qa ?_))))
  rw [Qcx hi h1]
  refine Qb [0,1,2] rfl (mvV rfl rfl (Zd rfl rfl rfl (Qk rfl rfl (Qd ?_))))
  exact Qi (i - 1) ⟨rfl, rfl, by show _ = some (Value.int .i64 (val p (l.drop (i - 1 + 1).toNat))); rw [show i - 1 + 1 = i by omega]; rfl, rfl, trivial⟩ ⟨by omega, by omega, rfl⟩ (by omega)
 ·intro hi
  simp at hi
  refine Qt (Ql (Qm (Qh (Qa (Qc (Qb [0,1] rfl (mvV rfl rfl (Qk rfl rfl (Qd (Qa (Qq (Qj rfl rfl ?_))))))))))))
  refine ⟨Ext.refl _, ?_⟩
  rw [show (i + 1).toNat = 0 by omega, List.drop_zero]
end Go.Proofs.YtcfbigmjjpknfaaGreatDoor
namespace Go.Fd
open Go.Pl Go.Alg Go Go.Sx
def ms (P : FP) (x y : Int) (i : Nat) : List Int := tab P.M fun j => H P.M P.md ((dig P.p P.M y).drop i) (vec P x) j % P.p
theorem Ja (P : FP) (x y : Int) (i : Nat) : (ms P x y i).length = P.M := Qs _ _
theorem ms_first (P : FP) (x y : Int) : ms P x y P.M = tab P.M fun _ => 0 := by
 have e : (dig P.p P.M y).drop P.M = [] := by
  apply List.drop_eq_nil_of_le
  rw [QZ]
  exact Nat.le_refl _
 unfold ms
 rw [e]
 exact QF fun t _ => by simp [H, v0]
theorem ms_lo (P : FP) (x y : Int) (i : Nat) : Lo P.p (ms P x y i) := Qbm P _
theorem ms_last (P : FP) (x y : K P) : val P.p (ms P x.1 y.1 0) = (x * y).1 := by
 have e : tab P.M (vec P y.1) = dig P.p P.M y.1 := by
  have hl := QZ P.p P.M y.1
  rw [JQ (dig P.p P.M y.1), hl]
  rfl
 show _ = red P (mulV P.M P.md x.v y.v)
 unfold ms red mulV K.v
 rw [e, List.drop_zero]
def shc (L : List Int) : List Int := tab L.length fun t => if t = 0 then gi L 0 else gi L ((t : Int) - 1)
def sh (L : List Int) : List Int := tab L.length fun t => if t = 0 then 0 else gi L ((t : Int) - 1)
theorem shc_eq (L : List Int) (m : Nat) (hL : L.length = m) (hm : 1 ≤ m) : putAt (L.map (Value.int .i64)) (1 : Int).toNat ((((L.map (Value.int .i64)).drop (0 : Int).toNat).take ((m : Int) - 1 - 0).toNat).take (((L.map (Value.int .i64)).length : Int) - 1).toNat) = (shc L).map (Value.int .i64) := by
 have e1 : (1 : Int).toNat = 1 := rfl
 have e0 : (0 : Int).toNat = 0 := rfl
 have e2 : ((m : Int) - 1 - 0).toNat = m - 1 := by omega
 have e3 : (((L.map (Value.int .i64)).length : Int) - 1).toNat = m - 1 := by simp; omega
 rw [e1, e0, e2, e3]
 subst hL
 apply List.ext_getElem?
 intro j
 simp only [putAt, shc, map_tab, List.getElem?_append, List.length_append, List.length_take, List.length_map, List.getElem?_take, List.getElem?_drop, List.getElem?_map, List.drop_zero]
 by_cases hj : j < L.length
 ·rw [Za hj]
  by_cases h0 : j = 0
  ·subst h0
   rw [if_pos (by omega), if_pos (by omega), if_pos (by omega)]
   simp [gi, hj]
  ·rw [if_pos (by omega), if_neg (by omega), if_pos (by omega), if_pos (by omega), if_neg h0]
   have hk : ((j : Int) - 1).toNat = j - 1 := by omega
   have hlt : j - 1 < L.length := by omega
   have hlt' : j - min 1 L.length = j - 1 := by omega
   simp [gi, hk, hlt, hlt']
 ·rw [List.getElem?_eq_none (l := tab _ _) (by rw [Qs]; omega)]
  rw [if_neg (by omega)]
  rw [List.getElem?_eq_none (by omega)]
  rfl
theorem shc_zero (L : List Int) : si (shc L) 0 0 = sh L := by
 rw [shc, Jt]
 exact QF fun t _ => by
  by_cases h : t = 0
  ·simp [h]
  ·simp [h]
def mi (P : FP) (x y : Int) (i : Nat) (j : Int) : List Int := tab P.M fun t => if (t : Int) < j then gi (ms P x y i) t else gi (sh (ms P x y (i + 1))) t
theorem Qbv (P : FP) (x y : Int) (i : Nat) (j : Int) : (mi P x y i j).length = P.M := Qs _ _
theorem mi_first (P : FP) (x y : Int) (i : Nat) : sh (ms P x y (i + 1)) = mi P x y i 0 := by
 have hl : (sh (ms P x y (i + 1))).length = P.M := by rw [sh, Qs, Ja]
 rw [JQ (sh (ms P x y (i + 1))), hl]
 exact QF fun t _ => by rw [if_neg (by omega)]; simp [gi]
theorem mi_last (P : FP) (x y : Int) (i : Nat) : mi P x y i P.M = ms P x y i := by
 rw [JQ (ms P x y i), Ja]
 exact QF fun t ht => by rw [if_pos (by omega)]; simp [gi]
theorem mi_get (P : FP) (x y : Int) (i : Nat) {j : Int} (h0 : 0 ≤ j) (h1 : j < P.M) : gi (mi P x y i j) j = gi (sh (ms P x y (i + 1))) j := by
 rw [mi, ZO (by omega) h0, if_neg (by omega)]
 congr 1
 omega
theorem sh_get (L : List Int) {j : Int} (h0 : 0 ≤ j) (h1 : j < L.length) : gi (sh L) j = if j = 0 then 0 else gi L (j - 1) := by
 rw [sh, ZO (by omega) h0]
 by_cases h : j = 0
 ·rw [if_pos (by omega), if_pos h]
 ·rw [if_neg (by omega), if_neg h]
  congr 1
  omega
theorem gi_ms (P : FP) (x y : Int) (i : Nat) {j : Int} (h0 : 0 ≤ j) (h1 : j < P.M) : gi (ms P x y i) j = H P.M P.md ((dig P.p P.M y).drop i) (vec P x) j.toNat % P.p := by
 rw [ms, ZO h1 h0]
theorem mi_val (P : FP) (x y : Int) (i : Nat) (hi : i < P.M) {j : Int} (h0 : 0 ≤ j) (h1 : j < P.M) :
  (gi (sh (ms P x y (i + 1))) j + (P.p - gi (ms P x y (i + 1)) (P.M - 1)) * P.md j.toNat + gi (dig P.p P.M y) i * gi (dig P.p P.M x) j) % P.p = gi (ms P x y i) j := by
 have hl := QZ P.p P.M y
 rw [gi_ms P x y i h0 h1, List.drop_eq_getElem_cons (by omega)]
 simp only [H, vadd, vsm]
 have eb : gi (dig P.p P.M y) i = (dig P.p P.M y)[i]'(by omega) := by simp [gi, hl, hi]
 have ea : gi (dig P.p P.M x) j = vec P x j.toNat := rfl
 rw [eb, ea]
 refine Xu ?_ rfl
 have hj : ((j.toNat : Nat) : Int) = j := by omega
 have e1 : gi (sh (ms P x y (i + 1))) j % P.p = (match j.toNat with | 0 => 0 | k + 1 => H P.M P.md ((dig P.p P.M y).drop (i + 1)) (vec P x) k) % P.p := by
  rw [sh_get _ h0 (by rw [Ja]; exact h1)]
  by_cases h : j = 0
  ·subst h; rfl
  ·rw [if_neg h, gi_ms P x y (i + 1) (by omega) (by omega), Int.emod_emod_of_dvd _ (Int.dvd_refl _)]
   obtain ⟨k, hk⟩ : ∃ k, j.toNat = k + 1 := ⟨j.toNat - 1, by omega⟩
   rw [hk, show (j - 1).toNat = k by omega]
 have e2 : (P.p - gi (ms P x y (i + 1)) (P.M - 1)) * P.md j.toNat % P.p = (- (H P.M P.md ((dig P.p P.M y).drop (i + 1)) (vec P x) (P.M - 1) * P.md j.toNat)) % P.p := by
  rw [← Int.neg_mul]
  refine Xt ?_ rfl
  rw [gi_ms P x y (i + 1) (by have := P.hM; omega) (by omega), show ((P.M : Int) - 1).toNat = P.M - 1 by omega]
  have h0' : (P.p - H P.M P.md ((dig P.p P.M y).drop (i + 1)) (vec P x) (P.M - 1) % P.p) % P.p = (0 - H P.M P.md ((dig P.p P.M y).drop (i + 1)) (vec P x) (P.M - 1)) % P.p := JS (by simp) (Int.emod_emod_of_dvd _ (Int.dvd_refl _))
  rw [h0']
  simp
 have := Xu e1 e2
 unfold S
 cases hk : j.toNat with
 | zero => rw [hk] at this; simpa [Int.sub_eq_add_neg] using this
 | succ k => rw [hk] at this; simpa [Int.sub_eq_add_neg] using this
theorem mi_step (P : FP) (x y : Int) (i : Nat) {j : Int} (h0 : 0 ≤ j) (_ : j < P.M) : si (mi P x y i j) j (gi (ms P x y i) j) = mi P x y i (j + 1) := by
 rw [mi, Jt]
 refine QF fun t ht => ?_
 by_cases e : t = j.toNat
 ·rw [if_pos e, if_pos (by omega), e]
  congr 1
  omega
 ·rw [if_neg e]
  by_cases h : (t : Int) < j
  ·rw [if_pos h, if_pos (by omega)]
  ·rw [if_neg h, if_neg (by omega)]
theorem dig_get {p : Int} (hp : 2 ≤ p) (m : Nat) (x : Int) {j : Int} (h0 : 0 ≤ j) (h1 : j < m) : 0 ≤ gi (dig p m x) j ∧ gi (dig p m x) j < p := by
 have hl := QZ p m x
 have hk : j.toNat < (dig p m x).length := by omega
 have := QbJ hp m x _ (List.getElem_mem hk)
 simpa [gi, hk] using this
end Go.Fd
namespace Go.Proofs.YtcfbigmjjpknfaaGreatDoor
open Go Go.Sx Go.Pl Go.RowKit Go.Fd Go.Alg
structure FV (w : World) (P : FP) (mo : Value) (md : List Int) : Prop where
 ints : Ints w mo md
 p : P.p ≤ 256
 m : P.M ≤ 8
 q : P.q ≤ 256
 mdf : P.md = fun j => md.getD j 0
 one : P.M = 1 → md = []
 len : P.M ≠ 1 → md.length = P.M
 lo : Lo P.p md
theorem FV.ext {w w' : World} {P : FP} {mo : Value} {md : List Int} (h : FV w P mo md) (hE : Ext w w') : FV w' P mo md := ⟨h.ints.ext hE, h.p, h.m, h.q, h.mdf, h.one, h.len, h.lo⟩
def fv (P : FP) (mo : Value) : Value := .agg #[.int .i64 P.p, .int .i64 P.M, mo]
theorem FV.low {w : World} {P : FP} {mo : Value} {md : List Int} (h : FV w P mo md) (j : Nat) : 0 ≤ P.md j ∧ P.md j < P.p := by
 rw [h.mdf]
 have := P.hp
 by_cases hj : j < md.length
 ·have := h.lo _ (List.getElem_mem hj)
  simpa [hj] using this
 ·simp [List.getD_eq_getElem?_getD, List.getElem?_eq_none (Nat.le_of_not_lt hj)]
  omega
theorem Jh {a b c d : Int} (h0 : 0 ≤ a) (h1 : a ≤ c) (h2 : 0 ≤ b) (h3 : b ≤ d) : 0 ≤ a * b ∧ a * b ≤ c * d := ⟨Int.mul_nonneg h0 h2, Int.mul_le_mul h1 h3 h2 (by omega)⟩
set_option maxRecDepth 10000 in
theorem fMul (P : FP) (mo : Value) (md : List Int) (x y : K P) (w : World) (hF : FV w P mo md) :
  Calls Tryz.prog 104 #[fv P mo, .int .i64 x.1, .int .i64 y.1] w (RetX w fun v _ => v = .int .i64 (x * y).1) := by
 have hp := P.hp
 have hp2 := hF.p
 have hM := P.hM
 have hM2 := hF.m
 have hq := hF.q
 have hx := x.2
 have hy := y.2
 refine QS Tryz.func104 rfl rfl (Qc (Qb [0,1] rfl (BXA rfl wu rfl rfl ?_)))
 intro g w1 hE hB hg
 refine Qk rfl rfl (Qd (Qa (Qc (Qx QK [0,1,2,3,4,6,7,8,9,10,5,11,12,13] (by kernel_rfl) ?_))))
 intro w2 hd _
 replace hB := hB.ext hd
 replace hE := hE.trans hd
 refine mvV rfl rfl (Qz rfl rfl QY (Vw rfl (ldB rfl na3) ?_))
 refine Qz rfl rfl Zl (Vw rfl (ldB rfl na3) ?_)
 refine mvV rfl rfl (Qz rfl rfl QY (Vw rfl (ldB rfl na3) ?_))
 refine Qz rfl rfl Zl (Vw rfl (ldB rfl na3) ?_)
 refine C rfl wu rfl rfl Tryz.call142 (fDigits x.1 P.p P.M _ ⟨hx.1, by omega⟩ ⟨hp, hp2⟩ (by omega)) ?_
 rintro a w3 hE3 ⟨ha, _⟩
 refine C rfl wu rfl rfl Tryz.call142 (fDigits y.1 P.p P.M _ ⟨hy.1, by omega⟩ ⟨hp, hp2⟩ (by omega)) ?_
 rintro b w4 hE4 ⟨hb, _⟩
 refine Qk rfl rfl (Qk rfl rfl (Qd (Qa (Qc ?_))))
 have hai := ha.ints.ext hE4
 have hbi := hb.ints
 replace hB := (hB.ext hE3).ext hE4
 replace hE := (hE.trans hE3).trans hE4
 have hmi := hF.ints.ext hE
 have hE0 := hE
 clear ha hb hE3 hE4 hd hE
 have hE := Ext.refl w4
 refine Qb [0,1,2,3] rfl (Qz rfl rfl Zl (Vw rfl (ldB rfl na3) ?_))
 refine MKI (n := P.M) rfl wu rfl rfl QA ?_
 intro out w5 hE5 ho hi _
 refine Qk rfl rfl (Qd (Qa (Qc (Qc ?_))))
 rw [← ms_first P x.1 y.1] at ho
 refine Qb [0,1,2,3] rfl (Qz rfl rfl Zl (Vw rfl (ldB rfl na3) ?_))
 refine Zd rfl rfl rfl (Qk rfl rfl (Qd (Qa (Qf ?_))))
 refine Qv (fun i : Int => [(3, .pointer (some ⟨g, 0, none⟩)), (7, a), (8, b), (9, out), (10, .int .i64 i)])
  (fun i w' => -1 ≤ i ∧ i < P.M ∧ Ext w4 w' ∧ OwnI w4.heap.size w' out 3 (ms P x.1 y.1 (i + 1).toNat)) (fun i => (i + 1).toNat) (P.M - 1) ⟨rfl, rfl, rfl, rfl, rfl, trivial⟩
  ⟨by omega, by omega, hE5, by rw [show ((P.M : Int) - 1 + 1).toNat = P.M by omega]; exact ho⟩ ?_
 clear ho hi hE5 hE
 rintro i w6 ⟨h0, h1, hE, ho⟩
 have hi := ho.ints
 have hl := Ja P x.1 y.1 (i + 1).toNat
 have hla := QZ P.p P.M x.1
 have hlb := QZ P.p P.M y.1
 try dsimp only
 refine Qc (Qc (Qb [0,1] rfl (mvV rfl rfl (Vw rfl (Xb rfl rfl) (Qd (Qa (Qo rfl ?_ ?_)))))))
 ·intro hc
  simp at hc
  refine Qe (Qa (Qc (Qf (Qc ?_))))
  have hin : (i + 1).toNat = i.toNat + 1 := by omega
  have htop := Xr (ms_lo P x.1 y.1 (i + 1).toNat) (i := (P.M : Int) - 1) (by omega) (by omega)
  refine Qb [0,1,2,3,4,5,6] rfl (mvV rfl rfl (Qz rfl rfl Zl (Vw rfl (ldB rfl na3) ?_)))
  refine Zd rfl rfl rfl (Vw rfl (QO rfl rfl QA) ?_)
  refine Vw rfl (ldI rfl na3) ?_
  refine Qk rfl rfl (Qd (Qa (Qc (Qx QK [0,1,2,3,4,5,6,7] (by kernel_rfl) ?_))))
  intro w7 hd _
  replace hE := hE.trans hd
  replace ho := ho.ext hd
  replace hi := hi.ext hd
  refine mvV rfl rfl (Vw rfl (slL rfl rfl QA hi (by omega) (by simp; omega)) (mvV rfl rfl (Qz rfl rfl Zl (Vw rfl (ldB rfl na3) ?_))))
  refine Zd rfl rfl rfl (Vw rfl (slH rfl rfl QA hi (by omega) (by simp; omega)) ?_)
  refine CP rfl wu rfl rfl rfl QA ho (Sl.slv hi (by omega) (by omega) (by simp; omega)) (Ext.refl _) (by intro u hu; obtain ⟨_, _, rfl⟩ := List.mem_map.1 (List.mem_of_mem_drop (List.mem_of_mem_take hu)); rfl) (by intro h; kernel_rfl) ?_ (by omega) (by simp; omega) (by simp)
  intro w8 hg8 ho8
  rw [shc_eq _ P.M hl hM] at ho8
  have hE8 := hE.grownI hg8 ho (Nat.le_refl _)
  refine Qd (Qa (Qc ?_))
  have hi8 : Ints w8 out (shc (ms P x.1 y.1 (i + 1).toNat)) := OwnI.ints ho8
  have hl8 : (shc (ms P x.1 y.1 (i + 1).toNat)).length = P.M := by rw [shc, Qs, hl]
  clear ho hi hE
  have ho : OwnI w4.heap.size w8 out 3 (shc (ms P x.1 y.1 (i + 1).toNat)) := ho8
  clear ho8
  refine Qb [0,1,2] rfl (mvV rfl rfl (Vw rfl (QO rfl rfl QA) ?_))
  refine STI rfl wu rfl rfl sz3 nofun ?_
  intro w9 hg9 hX9 ho9 hi9
  refine Qd (Qa (Qc ?_))
  rw [shc_zero, hin, mi_first] at ho9 hi9
  have hE9 := hX9 _ (Nat.le_refl _) hE8
  refine Qb [0,1,2] rfl (mvV rfl rfl (Vw rfl (Zh rfl QA) ?_))
  refine mvV rfl rfl (Qd (Qa (Qf ?_)))
  rw [Qbv]
  refine Qv (fun j : Int => [(3, .pointer (some ⟨g, 0, none⟩)), (7, a), (8, b), (9, out), (10, .int .i64 i), (11, .int .i64 (gi (ms P x.1 y.1 (i.toNat + 1)) (P.M - 1))), (53, .int .i64 P.M), (54, .int .i64 j)])
   (fun j w' => 0 ≤ j ∧ j ≤ P.M ∧ Ext w4 w' ∧ OwnI w4.heap.size w' out 3 (mi P x.1 y.1 i.toNat j)) (fun j => (P.M - j).toNat) 0 ⟨rfl, rfl, rfl, rfl, rfl, by rw [← hin]; rfl, rfl, rfl, trivial⟩
   ⟨by omega, by omega, hE9, ho9⟩ ?_
  clear ho ho9 hi8 hi9 hE8 hE9 hg8 hg9 hX9
  rintro j w10 ⟨j0, j1, hE, ho⟩
  have hi := ho.ints
  have hlm := Qbv P x.1 y.1 i.toNat j
  try dsimp only
  refine Qc (Qb [0] rfl (Qy rfl rfl rfl (Qd (Qa (Qc (Qo rfl ?_ ?_))))))
  ·intro hj
   simp at hj
   refine Qe (Qa (Qc (Qf (Qc (Qb [0,1] rfl (mvV rfl rfl (Qk rfl rfl (Qd (Qa (Qc (Qb [0] rfl (Qk rfl rfl (Qd (Qa (Qc (Qc ?_))))))))))))))))
   have hlow := hF.low j.toNat
   refine Qb [0,1,2] rfl (Qz rfl rfl Zl (Vw rfl (ldB rfl na3) ?_))
   refine ZA rfl rfl rfl (Qd (Qa ?_))
   refine XO (σ := Unit) (fun _ => [(3, .pointer (some ⟨g, 0, none⟩)), (7, a), (8, b), (9, out), (10, .int .i64 i), (11, .int .i64 (gi (ms P x.1 y.1 (i.toNat + 1)) (P.M - 1))), (12, .int .i64 j), (13, .int .i64 (P.md j.toNat)), (53, .int .i64 P.M), (54, .int .i64 j)])
    (fun _ w' => w' = w10) ?_ ?_
   ·skip
    refine Qo rfl ?_ ?_
    ·intro hM1
     simp at hM1
     have hlen := hF.len (by omega)
     refine Qb [0,1,2,3,4,5] rfl (Qz rfl rfl Jm (Vw rfl (ldB rfl Zk) ?_))
     refine mvV rfl rfl (Vw rfl (QO rfl rfl QA) ?_)
     refine Vw rfl (ldI rfl na3) ?_
     refine Qk rfl rfl ?_
     exact Qd (Zb () ⟨rfl, rfl, rfl, rfl, rfl, rfl, rfl, by show _ = some (Value.int .i64 (P.md j.toNat)); rw [hF.mdf]; rfl, rfl, rfl, trivial⟩ rfl)
    ·intro hM1
     simp at hM1
     have hone := hF.one (by omega)
     exact Qe (Zb () ⟨rfl, rfl, rfl, rfl, rfl, rfl, rfl, by show _ = some (Value.int .i64 (P.md j.toNat)); rw [hF.mdf, hone]; rfl, rfl, rfl, trivial⟩ rfl)
   ·rintro _ _ rfl
    have htop' := htop
    rw [hin] at htop'
    have g1 := mi_get P x.1 y.1 i.toNat j0 (by omega)
    have g2 := Xr (l := mi P x.1 y.1 i.toNat j) (p := P.p) (by
     intro z hz
     simp only [mi, tab, List.mem_map, List.mem_range] at hz
     obtain ⟨t, ht, rfl⟩ := hz
     split
     ·exact Xr (ms_lo P x.1 y.1 i.toNat) (by omega) (by rw [Ja]; omega)
     ·rw [sh_get _ (by omega) (by rw [Ja]; omega)]
      split
      ·omega
      ·exact Xr (ms_lo P x.1 y.1 (i.toNat + 1)) (by omega) (by rw [Ja]; omega)) j0 (by omega)
    have g3 := dig_get hp P.M y.1 (j := i) (by omega) h1
    have g4 := dig_get hp P.M x.1 (j := j) j0 (by omega)
    have m1 := Jh (a := P.p - gi (ms P x.1 y.1 (i.toNat + 1)) (P.M - 1)) (b := P.md j.toNat) (c := 256) (d := 256) (by omega) (by omega) hlow.1 (by omega)
    have m2 := Jh (a := gi (dig P.p P.M y.1) i) (b := gi (dig P.p P.M x.1) j) (c := 256) (d := 256) g3.1 (by omega) g4.1 (by omega)
    have hval := mi_val P x.1 y.1 i.toNat (by omega) j0 (by omega)
    rw [← g1, show ((i.toNat : Nat) : Int) = i by omega] at hval
    have hstep := mi_step P x.1 y.1 i.toNat j0 (by omega)
    refine Qx QK [0,1,2,3,4,5,6,7,8,9,10,11,12,13,14,15,16,17,18,19,20,21,22,23,24,25,26,27] (by kernel_rfl) ?_
    intro w11 hd _
    replace hE := hE.trans hd
    replace ho := ho.ext hd
    replace hi := hi.ext hd
    refine mvV rfl rfl (mvV rfl rfl (mvV rfl rfl (mvV rfl rfl (Vw rfl (QO rfl rfl QA) ?_))))
    refine Vw rfl (ldI rfl na3) ?_
    refine Qz rfl rfl QY (Vw rfl (ldB rfl na3) ?_)
    refine mvV rfl rfl (Zd rfl rfl rfl (mvV rfl rfl (Vw rfl (Kx rfl rfl) (Qw rfl rfl rfl (mvV rfl rfl (mvV rfl rfl (Vw rfl (QO rfl rfl QA) ?_)))))))
    refine Vw rfl (ldI rfl na3) ?_
    refine mvV rfl rfl (mvV rfl rfl (Vw rfl (QO rfl rfl QA) ?_))
    refine Vw rfl (ldI rfl na3) ?_
    refine Vw rfl (Kx rfl rfl) (Qw rfl rfl rfl (Qz rfl rfl QY (Vw rfl (ldB rfl na3) ?_)))
    refine Vw rfl (Qbe rfl rfl) (Vw rfl (QO rfl rfl QA) ?_)
    refine STI rfl wu rfl rfl sz3 (by intro h; kernel_rfl) ?_
    intro w12 hg12 hX12 ho12 hi12
    refine Qd (Qg (Qa ?_))
    rw [hval, hstep] at ho12
    refine Qb [0,1] rfl (Qw rfl rfl rfl (mvV rfl rfl (Qd ?_)))
    exact Qi (j + 1) ⟨rfl, rfl, rfl, rfl, rfl, rfl, rfl, rfl, trivial⟩ ⟨by omega, by omega, hX12 _ (Nat.le_refl _) hE, ho12⟩ (by omega)
  ·intro hj
   simp at hj
   refine Qt (Ql (Qm (Qh (Qg (Qa ?_)))))
   have hjm : j = (P.M : Int) := by omega
   subst hjm
   rw [mi_last] at ho
   refine Qb [0,1,2] rfl (mvV rfl rfl (Zd rfl rfl rfl (Qk rfl rfl (Qd ?_))))
   exact Qi (i - 1) ⟨rfl, rfl, rfl, rfl, rfl, trivial⟩ ⟨by omega, by omega, hE, by rw [show (i - 1 + 1).toNat = i.toNat by omega]; exact ho⟩ (by omega)
 ·intro hc
  simp at hc
  refine Qt (Ql (Qm (Qh (Qa (Qc ?_)))))
  rw [show (i + 1).toNat = 0 by omega] at ho hi hl
  refine Qb [0,1,2,3,4] rfl (mvV rfl rfl (Qz rfl rfl QY (Vw rfl (ldB rfl na3) ?_)))
  refine C rfl wu rfl rfl Tryz.call143 (fValue out _ P.p _ hi ⟨hp, hp2⟩ (ms_lo P _ _ _) (by rw [hl]; have : P.p ^ P.M = P.q := rfl; omega) (by omega)) ?_
  rintro _ w11 hE11 rfl
  refine Qk rfl rfl (Qd (Qa (Qq (Qj rfl rfl ?_))))
  exact ⟨(hE0.trans hE).trans hE11, by rw [ms_last]⟩
end Go.Proofs.YtcfbigmjjpknfaaGreatDoor
