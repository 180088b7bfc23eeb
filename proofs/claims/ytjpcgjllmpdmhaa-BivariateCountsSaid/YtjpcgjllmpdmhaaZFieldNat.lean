/-
  Multiplication of residues on lists of digits (natural numbers), fit for the kernel; it is the multiplication of the ring of residues. No program in sight.
-/
import Derived.Test.YtjpcgjllmpdmhaaZFieldGen
namespace Go.Fd
open Go.Pl Go.Alg

def zip3 (p top b : Nat) : List Nat → List Nat → List Nat → List Nat
  | s :: ss, l :: ls, a :: as => ((s + (p - top) * l + b * a) % p) :: zip3 p top b ss ls as
  | _, _, _ => []
def mulN (p : Nat) (md a : List Nat) : List Nat → List Nat
  | [] => md.map fun _ => 0
  | b :: bs => zip3 p ((mulN p md a bs).getD (md.length - 1) 0) b (0 :: mulN p md a bs) md a
def vecN (l : List Nat) : V := fun j => ((l.getD j 0 : Nat) : Int)
theorem zip3_get (p top b : Nat) : ∀ (ss ls as : List Nat) (j : Nat), j < ss.length → j < ls.length → j < as.length → (zip3 p top b ss ls as).getD j 0 = (ss.getD j 0 + (p - top) * ls.getD j 0 + b * as.getD j 0) % p
  | [], _, _, j, h, _, _ => by simp at h
  | _ :: _, [], _, j, _, h, _ => by simp at h
  | _ :: _, _ :: _, [], j, _, _, h => by simp at h
  | s :: ss, l :: ls, a :: as, 0, _, _, _ => by simp [zip3]
  | s :: ss, l :: ls, a :: as, j + 1, h1, h2, h3 => by
    have := zip3_get p top b ss ls as j (by simpa using h1) (by simpa using h2) (by simpa using h3)
    simpa [zip3] using this
theorem zip3_len (p top b : Nat) : ∀ (ss ls as : List Nat) (m : Nat), m ≤ ss.length → ls.length = m → as.length = m → (zip3 p top b ss ls as).length = m
  | [], ls, as, m, h, h1, h2 => by
    have : m = 0 := by simpa using h
    subst this
    simp [zip3]
  | s :: ss, [], as, m, h, h1, h2 => by simp [zip3]; simp at h1; omega
  | s :: ss, l :: ls, [], m, h, h1, h2 => by simp [zip3]; simp at h2; omega
  | s :: ss, l :: ls, a :: as, m, h, h1, h2 => by
    obtain ⟨k, rfl⟩ : ∃ k, m = k + 1 := ⟨m - 1, by simp at h1; omega⟩
    simp only [List.length_cons] at h h1 h2
    simp [zip3, zip3_len p top b ss ls as k (by omega) (by omega) (by omega)]
theorem zip3_lo {p : Nat} (hp : 0 < p) (top b : Nat) : ∀ (ss ls as : List Nat), ∀ z ∈ zip3 p top b ss ls as, z < p
  | [], _, _, z, h => by simp [zip3] at h
  | _ :: _, [], _, z, h => by simp [zip3] at h
  | _ :: _, _ :: _, [], z, h => by simp [zip3] at h
  | s :: ss, l :: ls, a :: as, z, h => by
    simp only [zip3, List.mem_cons] at h
    rcases h with rfl | h
    · exact Nat.mod_lt _ hp
    · exact zip3_lo hp top b ss ls as z h
theorem mulN_len {p : Nat} {md a : List Nat} (ha : a.length = md.length) : ∀ bs, (mulN p md a bs).length = md.length
  | [] => by simp [mulN]
  | b :: bs => zip3_len _ _ _ _ _ _ md.length (by simp [mulN_len ha bs]) rfl ha
theorem mulN_lo {p : Nat} (hp : 0 < p) {md a : List Nat} : ∀ bs, ∀ z ∈ mulN p md a bs, z < p
  | [], z, h => by
    simp [mulN] at h
    omega
  | b :: bs, z, h => zip3_lo hp _ _ _ _ _ z h
/-- What the parameters are for the digits md. -/
def Fits (P : FP) (p : Nat) (md : List Nat) : Prop := P.p = p ∧ P.M = md.length ∧ ∀ j, j < md.length → P.md j = vecN md j
theorem mulN_H {P : FP} {p : Nat} {md : List Nat} (hP : Fits P p md) {a : List Nat} (ha : a.length = md.length) : ∀ bs : List Nat, Cg P.M P.p (vecN (mulN p md a bs)) (H P.M P.md (bs.map Int.ofNat) (vecN a))
  | [] => Cg.of_eq fun j hj => by
    rw [hP.2.1] at hj
    simp [mulN, vecN, H, v0, hj]
  | b :: bs => fun j hj => by
    have ih := mulN_H hP ha bs
    have hM := P.hM
    have hp : 0 < p := by have := P.hp; rw [hP.1] at this; omega
    have hl := mulN_len (p := p) ha bs
    have hj' : j < md.length := by rw [← hP.2.1]; exact hj
    have hg : (mulN p md a (b :: bs)).getD j 0 = _ := zip3_get p ((mulN p md a bs).getD (md.length - 1) 0) b (0 :: mulN p md a bs) md a j (by simp [hl]; omega) hj' (by omega)
    have htop : (mulN p md a bs).getD (md.length - 1) 0 < p := by
      rw [List.getD_eq_getElem?_getD, List.getElem?_eq_getElem (by omega)]
      exact mulN_lo hp bs _ (List.getElem_mem _)
    have hi := ih (P.M - 1) (by omega)
    simp only [vecN] at hi ⊢
    rw [hg]
    rw [hP.2.1] at hi ⊢
    generalize htt : (mulN p md a bs).getD (md.length - 1) 0 = top at *
    have e1 : (((0 :: mulN p md a bs).getD j 0 + (p - top) * md.getD j 0 + b * a.getD j 0) % p : Nat) = ((((0 :: mulN p md a bs).getD j 0 : Nat) : Int) + ((p : Int) - top) * (md.getD j 0 : Nat) + (b : Int) * (a.getD j 0 : Nat)) % (p : Int) := by
      rw [Int.natCast_emod, Int.natCast_add, Int.natCast_add, Int.natCast_mul, Int.natCast_mul, Int.natCast_sub (by omega)]
    rw [e1, hP.1, Int.emod_emod_of_dvd _ (Int.dvd_refl _)]
    simp only [List.map_cons, H, vadd, vsm]
    rw [hP.1] at hi
    refine emod_add ?_ rfl
    have e2 : (((0 :: mulN p md a bs).getD j 0 : Nat) : Int) % p = (match j with | 0 => 0 | j + 1 => H md.length P.md (bs.map Int.ofNat) (vecN a) j) % (p : Int) := by
      cases j with
      | zero => simp
      | succ j =>
        have := ih j (by omega)
        rw [hP.1, hP.2.1] at this
        simpa [vecN] using this
    show _ = (_ - H md.length P.md (bs.map Int.ofNat) (vecN a) (md.length - 1) * P.md j) % (p : Int)
    rw [hP.2.2 j hj']
    have e3 : ((p : Int) - top) * (md.getD j 0 : Nat) % (p : Int) = (- (H md.length P.md (bs.map Int.ofNat) (vecN a) (md.length - 1) * vecN md j)) % (p : Int) := by
      rw [← Int.neg_mul]
      refine emod_mul ?_ rfl
      have h0 : ((p : Int) - top) % p = (0 - top) % p := emod_sub (by simp) rfl
      rw [h0]
      have := emod_sub (p := (p : Int)) (a := 0) (b := 0) rfl hi
      simpa using this
    have := emod_add e2 e3
    cases j with
    | zero => simpa [Int.sub_eq_add_neg] using this
    | succ j => simpa [Int.sub_eq_add_neg] using this

/-- The residue with these digits. -/
def kN (P : FP) (l : List Nat) : K P := K.mk P (vecN l)
theorem kN_mul {P : FP} {p : Nat} {md : List Nat} (hP : Fits P p md) {a b : List Nat} (ha : a.length = md.length) (hb : b.length = md.length) : kN P (mulN p md a b) = kN P a * kN P b := by
  apply K.ext
  refine (K.v_mk _).trans ((mulN_H hP ha b).trans (Cg.symm ((v_mul _ _).trans ((mulV_cg (K.v_mk _) (K.v_mk _)).trans ?_))))
  have e : tab P.M (vecN b) = b.map Int.ofNat := by
    rw [hP.2.1, ← hb]
    apply List.ext_getElem?
    intro i
    by_cases hi : i < b.length
    · rw [tab_get hi]
      simp [vecN, hi]
    · rw [List.getElem?_eq_none (by rw [tab_length]; omega), List.getElem?_eq_none (by simp; omega)]
  unfold mulV
  rw [e]
  exact Cg.refl _
def digN (p : Nat) : Nat → Nat → List Nat
  | 0, _ => []
  | m + 1, x => x % p :: digN p m (x / p)
theorem digN_len (p : Nat) : ∀ m x, (digN p m x).length = m
  | 0, _ => rfl
  | m + 1, x => by simp [digN, digN_len p m (x / p)]
theorem digN_dig (p : Nat) : ∀ (m x : Nat), (digN p m x).map Int.ofNat = dig p m x
  | 0, _ => rfl
  | m + 1, x => by
    have := digN_dig p m (x / p)
    simp only [digN, dig, List.map_cons, this]
    simp
theorem vecN_dig {P : FP} {p : Nat} (hP : P.p = p) (x : Nat) : vecN (digN p P.M x) = vec P x := by
  funext j
  unfold vec vecN
  rw [hP, ← digN_dig]
  simp only [List.getD_eq_getElem?_getD, List.getElem?_map]
  cases (digN p P.M x)[j]? <;> simp
theorem kN_dig {P : FP} {p : Nat} (hP : P.p = p) (x : Nat) (hx : (x : Int) < P.q) : (kN P (digN p P.M x)).1 = x := by
  unfold kN
  rw [vecN_dig hP]
  exact red_vec P (by omega) hx
/-- x^n by squaring. -/
def powN (p : Nat) (md one x : List Nat) : Nat → Nat → List Nat
  | 0, _ => one
  | f + 1, n => if n = 0 then one else if n % 2 = 0 then mulN p md (powN p md one x f (n / 2)) (powN p md one x f (n / 2)) else mulN p md (mulN p md (powN p md one x f (n / 2)) (powN p md one x f (n / 2))) x
theorem powN_spec {P : FP} {p : Nat} {md : List Nat} (hP : Fits P p md) {one x : List Nat} (ho : one.length = md.length) (hx : x.length = md.length) (h1 : kN P one = 1) :
    ∀ f n, n < 2 ^ f → (powN p md one x f n).length = md.length ∧ kN P (powN p md one x f n) = npow (kN P x) n
  | 0, n, h => by
    have : n = 0 := by simpa using h
    subst this
    exact ⟨ho, h1⟩
  | f + 1, n, h => by
    rw [Nat.pow_succ] at h
    obtain ⟨l, e⟩ := powN_spec hP ho hx h1 f (n / 2) (by omega)
    unfold powN
    by_cases h0 : n = 0
    · rw [if_pos h0, h0]
      exact ⟨ho, h1⟩
    · rw [if_neg h0]
      have hs : kN P (mulN p md (powN p md one x f (n / 2)) (powN p md one x f (n / 2))) = npow (kN P x) (2 * (n / 2)) := by
        rw [kN_mul hP l l, e, ← npow_add]
        congr 1
        omega
      have hl := mulN_len (p := p) l (powN p md one x f (n / 2))
      by_cases h2 : n % 2 = 0
      · rw [if_pos h2]
        refine ⟨hl, ?_⟩
        rw [hs]
        congr 1
        omega
      · rw [if_neg h2]
        refine ⟨mulN_len hl _, ?_⟩
        rw [kN_mul hP hl hx, hs, ← npow_succ]
        congr 1
        omega
end Go.Fd
