import Derived.Test.YtcfbigmjjpknfaaGreatDoorW32
import Derived.Test.YtcfbigmjjpknfaaGreatDoorW09
import Derived.Test.YtcfbigmjjpknfaaGreatDoorW05
import Derived.Test.YtcfbigmjjpknfaaGreatDoorW16
import Derived.Test.YtcfbigmjjpknfaaGreatDoorW08
namespace Go.Alg
section
variable {R S T : Type} [CR R] [CR S] [CR T]
end
section
variable {R : Type} [CR R]
noncomputable def sub (F : Pol (Pol R)) (h : Pol R) : Pol R := pev (fun c => c) h F
noncomputable def nx (r : R) (F : Pol (Pol R)) : Pol (Pol R) := pev pC (pC (pC r) + pC pX * pX) F
def line (F : Pol (Pol R)) : Pol R := ⟨fun j => (F.co j).co 0, by
 obtain ⟨n, hn⟩ := F.2
 exact ⟨n, fun j hj => by show (F.1 j).co 0 = 0; rw [hn j hj]; rfl⟩⟩
end
end Go.Alg
namespace Go.Alg
section
variable {R : Type} [CR R]
def dropP (m : Nat) (f : Pol R) : Pol R := ⟨fun i => f.1 (i + m), by
 obtain ⟨n, hn⟩ := f.2
 exact ⟨n, fun i hi => hn (i + m) (by omega)⟩⟩
theorem Qdq (m : Nat) : dropP m (0 : Pol R) = 0 := rfl
def dv (m : Nat) (F : Pol (Pol R)) : Pol (Pol R) := ⟨fun j => dropP m (F.1 j), by
 obtain ⟨n, hn⟩ := F.2
 exact ⟨n, fun j hj => by show dropP m (F.1 j) = 0; rw [hn j hj, Qdq]⟩⟩
def Low (m : Nat) (F : Pol (Pol R)) : Prop := (∀ i j, i < m → (F.co j).co i = 0) ∧ ∃ j, (F.co j).co m ≠ 0
theorem Qdl {F : Pol (Pol R)} (h : F ≠ 0) : ∃ m, Low m F := by
 have hne : ∃ m, ∃ j, (F.co j).co m ≠ 0 := Classical.byContradiction fun hc => h (Pol.ext fun j => Pol.ext fun i => Classical.byContradiction fun hn => hc ⟨i, j, hn⟩)
 obtain ⟨m, h1, h2⟩ := QbA hne
 exact ⟨m, fun i j hi => Classical.byContradiction fun hn => h2 i hi ⟨j, hn⟩, h1⟩
end
end Go.Alg
namespace Go.Alg
section
variable {R : Type} [CR R]
def part (n : Nat) (f : Pol R) : Pol R := ⟨fun i => if i < n then f.co i else 0, n, fun i hi => if_neg (by omega)⟩
end
end Go.Alg
namespace Go.Fd
open Go.Pl Go.Alg
variable {P : FP}
end Go.Fd
namespace Go.Alg
section
variable {R : Type} [CR R]
def YB (n : Nat) (F : Pol R) : Prop := ∀ i, n ≤ i → F.co i = 0
def XB (n : Nat) (F : Pol (Pol R)) : Prop := ∀ j, YB n (F.co j)
end
end Go.Alg
namespace Go.Fd
open Go.Pl Go.Alg
variable {P : FP}
end Go.Fd
namespace Go.Alg
section
variable {R : Type} [CR R]
end
end Go.Alg
namespace Go.Fd
open Go.Pl Go.Alg
variable {P : FP}
end Go.Fd
namespace Go.Fd
open Go.Pl Go.Alg
variable {P : FP}
end Go.Fd
namespace Go.Fd
open Go.Alg
variable {P : FP}
end Go.Fd
namespace Go.Alg
end Go.Alg
namespace Go.Fd
open Go.Pl Go.Alg
variable {P : FP}
end Go.Fd
namespace Go.Fd
open Go.Pl Go.Alg
variable {P : FP}
end Go.Fd
namespace Go.Fd
open Go.Pl Go.Alg
variable {P : FP}
noncomputable def dd (x y : K P) (a b : Nat) (F : Pol (Pol (K P))) : K P := val2 (hs2 a b F) x y
def rc (w L : Nat) (F : Pol (Pol (K P))) (r : Nat) : K P := if w * (r % L) ≤ r / L then (F.co (r % L)).co (r / L - w * (r % L)) else 0
end Go.Fd
namespace Go.Fd
open Go.Alg
variable {P : FP}
def ivl (p a : Int) : Nat → Int
 | 0 => 1
 | i + 1 => (ivl p a i * a) % p
def inv (p a : Int) : Int := ivl p a (p - 2).toNat
end Go.Fd
namespace Go.Fd
open Go.Pl Go.Alg
variable {P : FP}
def ns : Nat → (Nat → Nat) → Nat
 | 0, _ => 0
 | n + 1, f => ns n f + f n
end Go.Fd
namespace Go.Fd
open Go.Pl Go.Alg
variable {P : FP}
end Go.Fd
namespace Go.Fd
open Go.Pl Go.Alg
variable {P : FP}
def rs (m : Nat) : Nat → Nat
 | 0 => 0
 | b + 1 => rs m b + (m - b)
def cnt (m i b a : Nat) : Nat := i * rs m m + rs m b + a
end Go.Fd
namespace Go.Fd
open Go.Pl Go.Alg
variable {P : FP}
end Go.Fd
namespace Go.Ld
end Go.Ld
namespace Go.Fd
open Go.Pl Go.Alg Go.Ld
end Go.Fd
namespace Go.Fd
open Go.Pl Go.Alg
def AllIn (q : Int) (l : List Int) : Prop := ∀ i : Nat, i < l.length → 0 ≤ gi l i ∧ gi l i < q
variable {P : FP}
noncomputable def vals (P : FP) (ws ms : List Int) : List Int := tab ws.length fun i => (inK P (gi ws i) * invK P (inK P (gi ms i))).1
theorem inK_ne {z : Int} (h : 0 ≤ z ∧ z < P.q) (h0 : z ≠ 0) : inK P z ≠ 0 := fun e => by
 have := congrArg Subtype.val e
 rw [ZF h] at this
 exact h0 this
end Go.Fd
namespace Go.Alg
section
variable {R : Type} [CR R]
end
end Go.Alg
namespace Go.Fd
open Go.Pl Go.Alg
variable {P : FP}
noncomputable def lowOf (F : Pol (Pol (K P))) : Nat := open Classical in if h : F ≠ 0 then Classical.choose (Qdl h) else 0
def rootsIn (P : FP) (f : K P → K P) (xs : List Int) : List Int := xs.filter fun x => decide ((f (inK P x)).1 = 0)
def els (n : Nat) : List Int := (List.range n).map fun k : Nat => (k : Int)
noncomputable def srch (P : FP) : Nat → Pol (Pol (K P)) → List Int → List (List Int)
 | 0, F, f => if cl (F.co 0) = [] then [f] else []
 | k + 1, F, f => (rootsIn P (fun x => val1 (line (Go.Alg.dv (lowOf F) F)) x) (els P.q.toNat)).flatMap fun r => srch P k (nx (inK P r) (Go.Alg.dv (lowOf F) F)) (f ++ [r])
end Go.Fd
namespace Go.Fd
open Go.Pl Go.Alg
variable {P : FP}
theorem JC : (1 : K P) ≠ 0 := fun e => by
 have := congrArg Subtype.val e
 exact absurd this (by show ¬ ((1 : Int) = 0); omega)
end Go.Fd
namespace Go.Fd
open Go.Pl Go.Alg
variable {P : FP}
end Go.Fd
namespace Go.Fd
open Go.Pl Go.Alg
variable {P : FP}
end Go.Fd
namespace Go.Fd
open Go.Pl Go.Alg
variable {P : FP}
noncomputable def rowL (P : FP) (n : Nat) (f : Nat → K P) : List Int := tab n fun j => (f j).1
theorem QT (n : Nat) (f : Nat → K P) : (rowL P n f).length = n := Qs _ _
theorem Zu {n : Nat} {f : Nat → K P} {j : Nat} (h : j < n) : gi (rowL P n f) j = (f j).1 := by rw [rowL, ZO (by omega) (by omega)]; rfl
theorem JY {n : Nat} {f : Nat → K P} {j : Nat} (h : j < n) : inK P (gi (rowL P n f) j) = f j := by rw [Zu h, Zi]
theorem rowL_all (n : Nat) (f : Nat → K P) : AllIn P.q (rowL P n f) := fun i hi => by
 rw [QT] at hi
 rw [Zu hi]
 exact (f i).2
theorem JO {n : Nat} {f g : Nat → K P} (h : ∀ j, j < n → f j = g j) : rowL P n f = rowL P n g := QF fun j hj => by rw [h j hj]
theorem Jw {l : List Int} {i : Nat} (h : i < l.length) : gi l i = l[i] := by simp [gi, List.getD_eq_getElem?_getD, h]
noncomputable def matL (P : FP) (m n : Nat) (M : Nat → Nat → K P) : List (List Int) := tab m fun i => rowL P n (M i)
theorem QP (m n : Nat) (M : Nat → Nat → K P) : (matL P m n M).length = m := Qs _ _
theorem ZS {m n : Nat} {M : Nat → Nat → K P} {i : Nat} (h : i < m) : (matL P m n M).getD i [] = rowL P n (M i) := by rw [matL, tab_at, if_pos h]
theorem JP {m n : Nat} {M : Nat → Nat → K P} {i : Nat} {f : Nat → K P} : (matL P m n M).set i (rowL P n f) = matL P m n fun t => if t = i then f else M t := by
 rw [matL, XD, matL]
 refine QF fun t _ => ?_
 by_cases e : t = i
 ·rw [if_pos e, if_pos e]
 ·rw [if_neg e, if_neg e]
theorem Zs {m n : Nat} {M M' : Nat → Nat → K P} (h : ∀ i j, i < m → j < n → M i j = M' i j) : matL P m n M = matL P m n M' := QF fun i hi => JO fun j hj => h i j hi hj
theorem Qbx {m n a : Nat} {M : Nat → Nat → K P} (h : a ≤ m) : (matL P m n M).take a = matL P a n M := List.ext_getElem (by rw [List.length_take, QP, QP]; omega) fun i h1 h2 => by
 rw [QP] at h2
 simp [matL, tab]
def Red (P : FP) (m n : Nat) (M0 : Nat → Nat → K P) (a : Nat) (M : Nat → Nat → K P) (pv : Nat → Nat) : Prop := a ≤ m ∧ Rr a n M pv ∧ ∀ v, Sp a n M v ↔ Sp m n M0 v
theorem Red.same {a n b : Nat} {G M : Nat → Nat → K P} {pv qv : Nat → Nat} (h1 : (1 : K P) ≠ 0) (hG : Rr a n G pv) (h : Red P a n G b M qv) : b = a ∧ matL P b n M = matL P a n G := by
 obtain ⟨_, hR, hs⟩ := h
 obtain ⟨e, hq⟩ := hR.uniq h1 hG (fun i hi => (hs _).1 (Sp.row hi)) (fun i hi => (hs _).2 (Sp.row hi))
 subst e
 exact ⟨rfl, Zs fun i j hi hj => (hq i hi).2 j hj⟩
end Go.Fd
namespace Go.Sx
open Go Go.RowKit Go.Pl
end Go.Sx
namespace Go.Proofs.YtcfbigmjjpknfaaGreatDoor
open Go Go.Sx Go.Pl Go.RowKit Go.Fd
end Go.Proofs.YtcfbigmjjpknfaaGreatDoor
namespace Go.Proofs.YtcfbigmjjpknfaaGreatDoor
open Go Go.Sx Go.Pl Go.RowKit Go.Fd Go.Alg
theorem QcE (p M : Int) (mo : Value) (w : World) :
  Calls Tryz.prog 17 #[fv0 p M mo] w (RetX w fun v _ => v = .int .i64 (ordZ p M)) := by
 refine QL Tryz.func17 rfl rfl (Qc (Qb [0,1] rfl (BXA rfl wu rfl rfl ?_)))
 intro g w1 hE hB hg
 refine Qk rfl rfl (Qd (Qa (Qc (Qc (Qb [0,1,2,3,4,5,6,7,8,9,10,11,12] rfl (Qz rfl rfl QY (Vw rfl (ldB rfl na3) ?_)))))))
 refine Qy rfl rfl rfl (mvV rfl rfl ?_)
 refine OR (π1 := [4,5,6,7]) (π2 := [8,9,10,11,12]) (tc := 8) (tp := 12) rfl rfl rfl (by
   intro _
   refine SK rfl rfl rfl rfl rfl (SK rfl rfl rfl rfl rfl (SK rfl rfl rfl rfl rfl (pkV rfl rfl rfl ?_)))
   exact Zx rfl) (by
   intro hg
   simp at hg
   refine Vg rfl rfl rfl (fad rfl Zl) (Vg rfl rfl rfl (ldB rfl na3) ?_)
   refine Vg rfl rfl rfl (Qan rfl rfl) (pkV rfl rfl rfl ?_)
   exact Zx rfl) ?_
 refine mvV rfl rfl ?_
 refine OR (π1 := [9,10,11,12]) (π2 := []) (tc := 13) (tp := 17) rfl rfl rfl (by
   intro _
   refine SK rfl rfl rfl rfl rfl (SK rfl rfl rfl rfl rfl (SK rfl rfl rfl rfl rfl (pkV rfl rfl rfl ?_)))
   exact Zx rfl) (by
   intro hg
   simp at hg
   refine Vg rfl rfl rfl (fad rfl Zl) (Vg rfl rfl rfl (ldB rfl na3) ?_)
   refine Vg rfl rfl rfl (Ju rfl rfl) (pkV rfl rfl rfl ?_)
   exact Zx rfl) ?_
 refine Qd (Qa (Qo rfl ?_ ?_))
 ·intro h
  simp at h
  refine Qc (Qb [0] rfl (Qk rfl rfl (Qd (Qa (Qq (Qp (Qj rfl rfl ?_)))))))
  exact ⟨hE, by rw [ordZ, if_pos (by omega)]⟩
 ·intro h
  simp at h
  refine Qe (Qa (Qc (Qb [0] rfl (Qk rfl rfl (Qd (Qa (Qc (Qc (Qb [0] rfl (Qk rfl rfl (Qd (Qa (Qf ?_)))))))))))))
  refine Qv (fun i : Int => [(1, .pointer (some ⟨g, 0, none⟩)), (3, .int .i64 (p ^ i.toNat)), (4, .int .i64 i)])
   (fun i w' => 0 ≤ i ∧ i ≤ M ∧ p ^ i.toNat ≤ 256 ∧ w' = w1) (fun i => (M - i).toNat) 0 ⟨rfl, by rw [show (0 : Int).toNat = 0 from rfl, Int.pow_zero]; rfl, rfl, trivial⟩ ⟨by omega, by omega, by simp, rfl⟩ ?_
  rintro i w' ⟨h0, h1, hq, rfl⟩
  have hq0 := ZQ (p := p) (by omega) i.toNat
  try dsimp only
  refine Qc (Qc (Qb [0,1,2,3] rfl (mvV rfl rfl (Qz rfl rfl Zl (Vw rfl (ldB rfl na3) ?_)))))
  refine Qy rfl rfl rfl (Qd (Qa (Qo rfl ?_ ?_)))
  ·intro hi
   simp at hi
   refine Qe (Qa (Qc (Qf (Qc (Qc ?_)))))
   have hd : p ^ i.toNat ≤ 256 / p ↔ p ^ i.toNat * p ≤ 256 := Int.le_ediv_iff_mul_le (by omega)
   have hnx := QaM (p := p) i h0
   refine Qb [0,1,2,3,4] rfl (mvV rfl rfl (Qz rfl rfl QY (Vw rfl (ldB rfl na3) ?_)))
   refine Vw rfl (quoI rfl rfl) (ZA rfl rfl rfl (Qd (Qa (Qo rfl ?_ ?_))))
   ·intro hb
    simp at hb
    refine Qc (Qb [0] rfl (Qk rfl rfl (Qd (Qa (Qq (Qp (Qu (Qp (QE (Qu (Qp (Qj rfl rfl ?_))))))))))))
    have := ZJ (p := p) (by omega) (m := (i + 1).toNat) (n := M.toNat) (by omega)
    have hn : ¬ p ^ i.toNat ≤ 256 / p := by omega
    have hn' : ¬ p ^ i.toNat * p ≤ 256 := fun hc => hn (hd.2 hc)
    exact ⟨hE, by rw [ordZ, if_pos (by omega)]⟩
   ·intro hb
    simp at hb
    have hb' := hd.1 hb
    have hm0 : 0 ≤ p ^ i.toNat * p := Int.mul_nonneg (by omega) (by omega)
    refine Qe (Qa (Qb [0,1,2,3,4] rfl (mvV rfl rfl (Qz rfl rfl QY (Vw rfl (ldB rfl na3) ?_)))))
    refine Vw rfl (Kx rfl rfl) (Qk rfl rfl (Qd (Qg (Qa ?_))))
    rw [← hnx]
    refine Qb [0,1,2] rfl (mvV rfl rfl (Qw rfl rfl rfl (Qk rfl rfl (Qd ?_))))
    exact Qi (i + 1) ⟨rfl, rfl, rfl, trivial⟩ ⟨by omega, by omega, by omega, rfl⟩ (by omega)
  ·intro hi
   simp at hi
   refine Qt (Ql (Qm (Qh (Qa (Qc ?_)))))
   have e : i = M := by omega
   subst e
   refine Qb [0,1] rfl (mvV rfl rfl (Qk rfl rfl (Qd (Qa (Qq (Qj rfl rfl ?_))))))
   have hp : p ≤ 256 := by
    have := ZJ (p := p) (by omega) (m := 1) (n := i.toNat) (by omega)
    rw [Int.pow_succ, Int.pow_zero, Int.one_mul] at this
    omega
   exact ⟨hE, by rw [ordZ, if_neg (by omega)]⟩
theorem rPrime (n : Int) (w : World) (hn : 2 ≤ n ∧ n ≤ 256) :
  Calls Tryz.prog 95 #[.int .i64 n] w (RetX w fun v _ => v = .bool (primeN n.toNat)) := by
 refine QL Tryz.func95 rfl rfl (Qc (Qb [0] rfl (Qk rfl rfl (Qd (Qa (Qc (Qc (Qb [0] rfl (Qk rfl rfl (Qd (Qa (Qf ?_))))))))))))
 refine Qv (fun d : Int => [(0, .int .i64 n), (3, .int .i64 d)])
  (fun d w' => 2 ≤ d ∧ d ≤ n ∧ (∀ e : Int, 2 ≤ e → e < d → n % e ≠ 0) ∧ w' = w) (fun d => (n - d).toNat) 2 ⟨rfl, rfl, trivial⟩ ⟨by omega, by omega, fun e _ _ => by omega, rfl⟩ ?_
 rintro d w' ⟨h0, h1, h2, rfl⟩
 try dsimp only
 refine Qc (Qc (Qb [0,1,2] rfl (mvV rfl rfl (mvV rfl rfl (Qy rfl rfl rfl (Qd (Qa (Qo rfl ?_ ?_))))))))
 ·intro hd
  simp at hd
  refine Qe (Qa (Qc (Qf (Qc (Qb [0,1,2,3] rfl (mvV rfl rfl (mvV rfl rfl (Vw rfl (Qbe rfl rfl) (QU rfl rfl rfl (Qd (Qa (Qo rfl ?_ ?_))))))))))))
  ·intro he
   simp at he
   refine Qc (Qb [0] rfl (Qk rfl rfl (Qd (Qa (Qq (Qu (Qp (QE (Qu (Qp (Qj rfl rfl ?_)))))))))))
   exact ⟨Ext.refl _, by rw [XS h0 hd he]⟩
  ·intro he
   simp at he
   refine Qe (Qg (Qa (Qb [0,1,2] rfl (mvV rfl rfl (Qw rfl rfl rfl (Qk rfl rfl (Qd ?_)))))))
   exact Qi (d + 1) ⟨rfl, rfl, trivial⟩ ⟨by omega, by omega, fun e he1 he2 => (by
    by_cases e' : e = d
    ·rw [e']; exact he
    ·exact h2 e he1 (by omega)), rfl⟩ (by omega)
 ·intro hd
  simp at hd
  refine Qt (Ql (Qm (Qh (Qa (Qc (Qb [0] rfl (Qk rfl rfl (Qd (Qa (Qq (Qj rfl rfl ?_)))))))))))
  refine ⟨Ext.refl _, ?_⟩
  have e : d = n := by omega
  subst e
  have hm : 2 * d ≤ d * d := Int.mul_le_mul_of_nonneg_right hn.1 (by omega)
  rw [Kr hn.1 h0 h2 (by omega)]
theorem rDigits (x p : Int) (m : Nat) (w : World) (hx : 0 ≤ x ∧ x ≤ 65536) (hp : 2 ≤ p ∧ p ≤ 256) (hm : m ≤ 64) :
  Calls Tryz.prog 140 #[.int .i64 x, .int .i64 p, .int .i64 m] w (RetX w fun v w' => OwnI w.heap.size w' v 3 (dig p m x) ∧ v.ownBlock = some w.heap.size) := by
 refine QS Tryz.func140 rfl rfl (Qc (Qb [0] rfl (Qk rfl rfl (Qd (Qa (Qc (Qb [0,1,2] rfl (mvV rfl rfl (MKI (n := m) rfl wu rfl rfl QA ?_)))))))))
 intro s w1 hE hs hsi hsb
 refine Qk rfl rfl (Qd (Qa (Qc (Qc (Qb [0] rfl (Qk rfl rfl (Qd (Qa (Qf ?_)))))))))
 refine Qv (fun q : Int × Int × List Int => [(0, .int .i64 q.2.1), (1, .int .i64 p), (2, .int .i64 m), (7, s), (8, .int .i64 q.1)])
  (fun q w' => 0 ≤ q.1 ∧ q.1 ≤ m ∧ 0 ≤ q.2.1 ∧ q.2.1 ≤ 65536 ∧ Dg p m x q.1.toNat q.2.1 q.2.2 ∧ Ext w w' ∧ OwnI w.heap.size w' s 3 q.2.2) (fun q => (m - q.1).toNat) (0, x, tab m fun _ => 0) ⟨rfl, rfl, rfl, rfl, rfl, trivial⟩ ⟨by omega, by omega, hx.1, hx.2, Dg.first p m x, hE, hs⟩ ?_
 clear hE hs hsi
 rintro ⟨i, y, l⟩ w2 ⟨h0, h1, hy0, hy1, hD, hE, hs⟩
 simp only at h0 h1 hy0 hy1 hD hE hs
 have hsi := hs.ints
 have hl := hD.len (by omega)
 have hy2 : y / p ≤ y := Int.ediv_le_self _ hy0
 have hy3 : 0 ≤ y / p := Int.ediv_nonneg hy0 (by omega)
 try dsimp only
 refine Qc (Qc (Qb [0,1,2] rfl (mvV rfl rfl (mvV rfl rfl (Qy rfl rfl rfl (Qd (Qa (Qo rfl ?_ ?_))))))))
 ·intro hi
  simp at hi
  refine Qe (Qa (Qc (Qf (Qc (Qb [0,1,2,3,4,5,6] rfl (mvV rfl rfl (mvV rfl rfl (mvV rfl rfl (mvV rfl rfl (Vw rfl (Qbe rfl rfl) (Vw rfl (QO rfl rfl QA) ?_)))))))))))
  refine STI rfl wu rfl rfl sz3 nofun ?_
  intro w3 hg hX hs3 hsi3
  refine Qd (Qa ?_)
  have hD' := hD.step (by omega)
  rw [show ((i.toNat : Nat) : Int) = i by omega] at hD'
  refine Qb [0,1,2,3] rfl (mvV rfl rfl (mvV rfl rfl (Vw rfl (quoI rfl rfl) (Qk rfl rfl (Qd (Qg (Qa (Qb [0,1,2] rfl (mvV rfl rfl (Qw rfl rfl rfl (Qk rfl rfl ?_)))))))))))
  refine Qd ?_
  exact Qi (i + 1, y / p, si l i (y % p)) ⟨rfl, rfl, rfl, rfl, rfl, trivial⟩ ⟨by show 0 ≤ i + 1; omega, by show i + 1 ≤ _; omega, hy3, by show y / p ≤ _; omega, by show Dg p m x (i + 1).toNat _ _; rw [show (i + 1).toNat = i.toNat + 1 by omega]; exact hD', hX _ (Nat.le_refl _) hE, hs3⟩ (by show (m - (i + 1)).toNat < (m - i).toNat; omega)
 ·intro hi
  simp at hi
  refine Qt (Ql (Qm (Qh (Qa (Qc (Qb [0,1] rfl (mvV rfl rfl (Qk rfl rfl (Qd (Qa (Qq (Qj rfl rfl ?_))))))))))))
  have e : i.toNat = m := by omega
  rw [e] at hD
  rw [hD.last] at hs
  exact ⟨hE, hs, hsb⟩
end Go.Proofs.YtcfbigmjjpknfaaGreatDoor
namespace Go.Proofs.YtcfbigmjjpknfaaGreatDoor
open Go Go.Sx Go.Pl Go.RowKit Go.Fd Go.Alg
theorem FV.ord {w : World} {P : FP} {mo : Value} {md : List Int} (h : FV w P mo md) : ordZ P.p P.M = P.q := by
 have h1 := P.hp
 have h2 := P.hM
 have h3 := h.p
 have h4 := h.m
 have h5 : P.p ^ P.M ≤ 256 := h.q
 rw [ordZ, show ((P.M : Int)).toNat = P.M by omega, if_neg (by omega)]
 rfl
theorem rIs (P : FP) (mo : Value) (md : List Int) (x : Int) (w : World) (hF : FV w P mo md) :
  Calls Tryz.prog 51 #[fv P mo, .int .i64 x] w (RetX w fun v _ => v = .bool (decide (0 ≤ x) && decide (x < P.q))) := by
 refine QD Tryz.func51 rfl rfl (Qc (Qb [0,1] rfl (BXA rfl wu rfl rfl ?_)))
 intro g w1 hE hB hg
 refine Qk rfl rfl (Qd (Qa (Qc (Qb [0,1,2,3,4,5,6,7,8] rfl (mvV rfl rfl (Vw rfl (Xb rfl rfl) (mvV rfl rfl ?_)))))))
 refine ANDX (π1 := [3,4,5,6,7]) (π2 := [8]) (tc := 7) (tp := 12) rfl rfl rfl (by
   intro hg
   simp at hg
   refine Vg rfl rfl rfl (mv rfl) (Vg rfl rfl rfl (ldA rfl Zf) ?_)
   refine C rfl (wg rfl rfl) rfl rfl Tryz.call17 (QcE P.p P.M mo _) ?_
   rintro _ w2 hE2 rfl
   refine Vg rfl rfl rfl (Qan rfl rfl) (pkV rfl rfl rfl ?_)
   exact Qab rfl) (by
   intro _
   refine SK rfl rfl rfl rfl rfl (SK rfl rfl rfl rfl rfl (SK rfl rfl rfl rfl rfl (SK rfl rfl rfl rfl rfl (pkV rfl rfl rfl ?_))))
   exact Qab rfl) ?_
 intro w2 hE2
 refine Qk rfl rfl (Qd (Qa (Qq (Qj rfl rfl ?_))))
 exact ⟨hE.trans hE2, by rw [hF.ord]⟩
theorem rIn (P : FP) (mo : Value) (md : List Int) (x : Int) (w : World) (hF : FV w P mo md) :
  Calls Tryz.prog 147 #[fv P mo, .int .i64 x] w (RetX w fun v _ => v = .int .i64 (inK P x).1) := by
 refine QD Tryz.func147 rfl rfl (Qc (Qb [0,1] rfl (BXA rfl wu rfl rfl ?_)))
 intro g w1 hE hB hg
 refine Qk rfl rfl (Qd (Qa (Qc (Qc (Qb [0,1,2] rfl (Vw rfl (ldA rfl Zf) ?_))))))
 refine mvV rfl rfl (C rfl wu rfl rfl Tryz.call51 (rIs P mo md x _ (hF.ext hE)) ?_)
 rintro _ w2 hE2 rfl
 refine Qd (Qa (Qo rfl ?_ ?_))
 ·intro h
  simp at h
  refine Qc (Qb [0,1] rfl (mvV rfl rfl (Qk rfl rfl (Qd (Qa (Qq (Qp (Qj rfl rfl ?_))))))))
  exact ⟨hE.trans hE2, by rw [ZF h]⟩
 ·intro h
  simp at h
  refine Qe (Qa (Qc (Qb [0] rfl (Qk rfl rfl (Qd (Qa (Qq (Qj rfl rfl ?_))))))))
  exact ⟨hE.trans hE2, by rw [Qcf (by omega)]; rfl⟩
theorem rDigs (P : FP) (mo : Value) (md : List Int) (x : Int) (w : World) (hF : FV w P mo md) :
  Calls Tryz.prog 106 #[fv P mo, .int .i64 x] w (RetX w fun v w' => OwnI w.heap.size w' v 3 (dig P.p P.M (inK P x).1) ∧ ∃ k, v.ownBlock = some k) := by
 have hp := P.hp
 have hp2 := hF.p
 have hm := hF.m
 have hq := hF.q
 have hX := (inK P x).2
 refine QD Tryz.func106 rfl rfl (Qc (Qb [0,1] rfl (BXA rfl wu rfl rfl ?_)))
 intro g w1 hE hB hg
 refine Qk rfl rfl (Qd (Qa (Qc (Qx QK [0,1,3,4,5,6,2,7,8] (by kernel_rfl) ?_))))
 intro w2 hd _
 replace hE := hE.trans hd
 replace hB := hB.ext hd
 refine Vw rfl (ldA rfl Zf) ?_
 refine mvV rfl rfl (Qz rfl rfl QY (Vw rfl (ldB rfl na3) ?_))
 refine Qz rfl rfl Zl (Vw rfl (ldB rfl na3) ?_)
 refine C rfl wu rfl rfl Tryz.call147 (rIn P mo md x _ (hF.ext hE)) ?_
 rintro _ w3 hE3 rfl
 replace hE := hE.trans hE3
 refine C rfl wu rfl rfl Tryz.call140 (rDigits (inK P x).1 P.p P.M _ ⟨hX.1, by omega⟩ ⟨hp, hp2⟩ (by omega)) ?_
 rintro v w4 hE4 ⟨hv, hb⟩
 refine Qk rfl rfl (Qd (Qa (Qq (Qj rfl rfl ?_))))
 exact ⟨hE.trans hE4, Own.mono hv hE.size, _, hb⟩
theorem own_ne {B B' : Nat} {w w' : World} {u v : Value} {E E' : TypeId} {xs ys : List Value} (ha : Own B w v E xs) (hb : Own B' w' u E' ys) (hs : w.heap.size ≤ B') (hu : ∃ k, u.ownBlock = some k) : u.ownBlock ≠ v.ownBlock := fun e => by
 obtain ⟨k, hk⟩ := hu
 have h1 := hb.lt k hk
 have h2 := ha.lt k (by rw [← e]; exact hk)
 omega
theorem rVal (P : FP) (mo : Value) (d : Value) (l : List Int) (w : World) (hd : Ints w d l) (hp : 2 ≤ P.p ∧ P.p ≤ 256) (hl : Lo P.p l) (hq : P.p ^ l.length ≤ 65536) (hlen : l.length ≤ 64) :
  Calls Tryz.prog 107 #[fv P mo, d] w (RetX w fun v _ => v = .int .i64 (val P.p l)) := by
 refine QD Tryz.func107 rfl rfl (Qc (Qb [0,1] rfl (BXA rfl wu rfl rfl ?_)))
 intro g w1 hE hB hg
 refine Qk rfl rfl (Qd (Qa (Qc ?_)))
 have hdi := hd.ext hE
 refine Qb [0] rfl (Qk rfl rfl (Qd (Qa (Qc (Qc (Qb [0,1,2,3] rfl (mvV rfl rfl (Vw rfl (Zh rfl QA) ?_))))))))
 refine Zd rfl rfl rfl (Qk rfl rfl (Qd (Qa (Qf ?_))))
 refine Qv (fun i : Int => [(1, d), (2, .pointer (some ⟨g, 0, none⟩)), (5, .int .i64 (val P.p (l.drop (i + 1).toNat))), (6, .int .i64 i)])
  (fun i w' => -1 ≤ i ∧ i < l.length ∧ Ext w1 w') (fun i => (i + 1).toNat) (l.length - 1) ⟨rfl, rfl, by
   show _ = some (Value.int .i64 (val P.p (l.drop ((l.length : Int) - 1 + 1).toNat)))
   rw [show ((l.length : Int) - 1 + 1).toNat = l.length by omega, List.drop_length]; rfl, rfl, trivial⟩ ⟨by omega, by omega, Ext.refl _⟩ ?_
 rintro i w' ⟨h0, h1, hE1⟩
 have hv := val_le hp.1 hl hq (i + 1).toNat
 try dsimp only
 refine Qc (Qc (Qb [0,1] rfl (mvV rfl rfl (Vw rfl (Xb rfl rfl) (Qd (Qa (Qo rfl ?_ ?_)))))))
 ·intro hi
  simp at hi
  refine Qe (Qa (Qc (Qf ?_)))
  have hg := Xr hl hi h1
  have hm : 0 ≤ val P.p (l.drop (i + 1).toNat) * P.p ∧ val P.p (l.drop (i + 1).toNat) * P.p ≤ 65536 * 256 := ⟨Int.mul_nonneg hv.1 (by omega), Int.mul_le_mul (by omega) hp.2 (by omega) (by omega)⟩
  refine Qx QK [0,1,2,3,4,5,6,7,8,9] (by kernel_rfl) ?_
  intro w2 hd2 _
  replace hE1 := hE1.trans hd2
  refine mvV rfl rfl (Qz rfl rfl QY (Vw rfl (ldB rfl na3) ?_))
  refine Vw rfl (Kx rfl rfl) (mvV rfl rfl (mvV rfl rfl (Vw rfl (QO rfl rfl QA) ?_)))
  refine Vw rfl (ldI rfl na3) ?_
  refine Qw rfl rfl rfl (Qk rfl rfl (Qd (Qg (Qa ?_))))
  rw [Qcx hi h1]
  refine Qb [0,1,2] rfl (mvV rfl rfl (Zd rfl rfl rfl (Qk rfl rfl (Qd ?_))))
  exact Qi (i - 1) ⟨rfl, rfl, by show _ = some (Value.int .i64 (val P.p (l.drop (i - 1 + 1).toNat))); rw [show i - 1 + 1 = i by omega]; rfl, rfl, trivial⟩ ⟨by omega, by omega, hE1⟩ (by omega)
 ·intro hi
  simp at hi
  refine Qt (Ql (Qm (Qh (Qa (Qc (Qb [0,1] rfl (mvV rfl rfl (Qk rfl rfl (Qd (Qa (Qq (Qj rfl rfl ?_))))))))))))
  refine ⟨hE.trans hE1, ?_⟩
  rw [show (i + 1).toNat = 0 by omega, List.drop_zero]
theorem dig_upd (P : FP) (x : K P) (f : Nat → Int) : dig P.p P.M x.1 = upd P.M f x.v 0 := by
 have h := upd_zero (dig P.p P.M x.1) f
 rw [QZ] at h
 exact h.symm
set_option maxRecDepth 10000 in
theorem rAdd (P : FP) (mo : Value) (md : List Int) (x y : Int) (w : World) (hF : FV w P mo md) :
  Calls Tryz.prog 99 #[fv P mo, .int .i64 x, .int .i64 y] w (RetX w fun v _ => v = .int .i64 (inK P x + inK P y).1) := by
 have hp := P.hp
 have hp2 := hF.p
 have hm := hF.m
 have hq : P.p ^ P.M ≤ 256 := hF.q
 refine QS Tryz.func99 rfl rfl (Qc (Qb [0,1] rfl (BXA rfl wu rfl rfl ?_)))
 intro g w1 hE hB hg
 refine Qk rfl rfl (Qd (Qa (Qc (Qb [0,1,2,3] rfl (Vw rfl (ldA rfl Zf) ?_)))))
 refine mvV rfl rfl (C rfl wu rfl rfl Tryz.call106 (rDigs P mo md x _ (hF.ext hE)) ?_)
 rintro a w2 hE2 ⟨ha, hab⟩
 refine Qk rfl rfl (Qd (Qa (Qc (Qb [0,1,2,3] rfl (Vw rfl (ldA rfl Zf) ?_)))))
 refine mvV rfl rfl (C rfl wu rfl rfl Tryz.call106 (rDigs P mo md y _ (hF.ext (hE.trans hE2))) ?_)
 rintro b w3 hE3 ⟨hb, hbb⟩
 refine Qk rfl rfl (Qd (Qa (Qc (Qc ?_))))
 have hne := own_ne ha hb (Nat.le_refl _) hbb
 have ha := Own.ext ha hE3
 have hbi := OwnI.ints hb
 have hE1 := hE2.trans hE3
 clear hE2 hE3 hb
 generalize inK P x = X at ha ⊢
 generalize inK P y = Y at hbi ⊢
 have hlb := QZ P.p P.M Y.1
 have ha : OwnI w1.heap.size w3 a 3 (upd P.M (fun t => (X.v t + Y.v t) % P.p) X.v 0) := by
  rw [← dig_upd]
  exact ha
 refine Qb [0] rfl (Qk rfl rfl (Qd (Qa (Qf ?_))))
 refine Qv (fun i : Int => [(3, .pointer (some ⟨g, 0, none⟩)), (7, a), (8, b), (9, .int .i64 i)])
  (fun i w' => 0 ≤ i ∧ i ≤ P.M ∧ Ext w1 w' ∧ Ints w' b (dig P.p P.M Y.1) ∧ OwnI w1.heap.size w' a 3 (upd P.M (fun t => (X.v t + Y.v t) % P.p) X.v i)) (fun i => (P.M - i).toNat) 0 ⟨rfl, rfl, rfl, rfl, trivial⟩ ⟨by omega, by omega, hE1, hbi, ha⟩ ?_
 clear ha hE1 hbi
 rintro i w4 ⟨i0, i1, hE1, hbi, ha⟩
 have hai := OwnI.ints ha
 have hl := JL P.M (fun t => (X.v t + Y.v t) % P.p) X.v i
 try dsimp only
 refine Qc (Qc (Qb [0,1,2,3] rfl (mvV rfl rfl (mvV rfl rfl (Vw rfl (Zh rfl QA) ?_)))))
 refine Qy rfl rfl rfl (Qd (Qa ?_))
 rw [hl]
 refine Qo rfl ?_ ?_
 ·intro hc
  simp at hc
  refine Qe (Qa (Qc (Qf ?_)))
  have g1 := upd_get (m := P.M) (f := fun t => (X.v t + Y.v t) % P.p) (g := X.v) i0 hc
  have g2 := gi_v Y (j := i)
  have l1 := v_lo X i.toNat (by omega)
  have l2 := v_lo Y i.toNat (by omega)
  refine Qx QK [0,1,2,3,4,5,6,7,8,9,10,11,12,13,14,15] (by kernel_rfl) ?_
  intro w5 hd _
  replace hE1 := hE1.trans hd
  replace hbi := hbi.ext hd
  replace hai := hai.ext hd
  replace ha := ha.ext hd
  refine mvV rfl rfl (mvV rfl rfl (mvV rfl rfl (mvV rfl rfl (Vw rfl (QO rfl rfl QA) ?_))))
  refine Vw rfl (ldI rfl na3) ?_
  refine mvV rfl rfl (mvV rfl rfl (Vw rfl (QO rfl rfl QA) ?_))
  refine Vw rfl (ldI rfl na3) ?_
  refine Qw rfl rfl rfl (Qz rfl rfl QY (Vw rfl (ldB rfl na3) ?_))
  refine Vw rfl (Qbe rfl rfl) (Vw rfl (QO rfl rfl QA) ?_)
  refine STI rfl wu rfl rfl sz3 (by intro h; kernel_rfl) ?_
  intro w6 hg6 hX6 ha6 hai6
  refine Qd (Qg (Qa ?_))
  rw [g1, g2, Xg i0] at ha6
  refine Qb [0,1,2] rfl (mvV rfl rfl (Qw rfl rfl rfl (Qk rfl rfl (Qd ?_))))
  exact Qi (i + 1) ⟨rfl, rfl, rfl, rfl, trivial⟩ ⟨by omega, by omega, hX6 _ (Nat.le_refl _) hE1, hbi.kept hg6 hne, ha6⟩ (by omega)
 ·intro hc
  simp at hc
  refine Qt (Ql (Qm (Qh (Qa (Qc ?_)))))
  rw [Kb _ _ _ (by omega)] at hai
  refine Qb [0,1,2,3] rfl (Vw rfl (ldA rfl Zf) ?_)
  refine mvV rfl rfl (C rfl wu rfl rfl Tryz.call107 (rVal P mo a _ _ hai ⟨hp, hp2⟩ (Qbm P (vadd X.v Y.v)) (by rw [Qs]; omega) (by rw [Qs]; omega)) ?_)
  rintro _ w5 hE5 rfl
  refine Qk rfl rfl (Qd (Qa (Qq (Qj rfl rfl ?_))))
  exact ⟨(hE.trans hE1).trans hE5, rfl⟩
set_option maxRecDepth 10000 in
theorem rNeg (P : FP) (mo : Value) (md : List Int) (x : Int) (w : World) (hF : FV w P mo md) :
  Calls Tryz.prog 65 #[fv P mo, .int .i64 x] w (RetX w fun v _ => v = .int .i64 (-inK P x).1) := by
 have hp := P.hp
 have hp2 := hF.p
 have hm := hF.m
 have hq : P.p ^ P.M ≤ 256 := hF.q
 refine QD Tryz.func65 rfl rfl (Qc (Qb [0,1] rfl (BXA rfl wu rfl rfl ?_)))
 intro g w1 hE hB hg
 refine Qk rfl rfl (Qd (Qa (Qc (Qb [0,1,2,3] rfl (Vw rfl (ldA rfl Zf) ?_)))))
 refine mvV rfl rfl (C rfl wu rfl rfl Tryz.call106 (rDigs P mo md x _ (hF.ext hE)) ?_)
 rintro a w2 hE2 ⟨ha, hab⟩
 refine Qk rfl rfl (Qd (Qa (Qc (Qc ?_))))
 generalize inK P x = X at ha ⊢
 have ha : OwnI w1.heap.size w2 a 3 (upd P.M (fun t => (P.p - X.v t) % P.p) X.v 0) := by
  rw [← dig_upd]
  exact ha
 refine Qb [0] rfl (Qk rfl rfl (Qd (Qa (Qf ?_))))
 refine Qv (fun i : Int => [(2, .pointer (some ⟨g, 0, none⟩)), (5, a), (6, .int .i64 i)])
  (fun i w' => 0 ≤ i ∧ i ≤ P.M ∧ Ext w1 w' ∧ OwnI w1.heap.size w' a 3 (upd P.M (fun t => (P.p - X.v t) % P.p) X.v i)) (fun i => (P.M - i).toNat) 0 ⟨rfl, rfl, rfl, trivial⟩ ⟨by omega, by omega, hE2, ha⟩ ?_
 clear ha hE2
 rintro i w4 ⟨i0, i1, hE1, ha⟩
 have hai := OwnI.ints ha
 have hl := JL P.M (fun t => (P.p - X.v t) % P.p) X.v i
 try dsimp only
 refine Qc (Qc (Qb [0,1,2,3] rfl (mvV rfl rfl (mvV rfl rfl (Vw rfl (Zh rfl QA) ?_)))))
 refine Qy rfl rfl rfl (Qd (Qa ?_))
 rw [hl]
 refine Qo rfl ?_ ?_
 ·intro hc
  simp at hc
  refine Qe (Qa (Qc (Qf ?_)))
  have g1 := upd_get (m := P.M) (f := fun t => (P.p - X.v t) % P.p) (g := X.v) i0 hc
  have l1 := v_lo X i.toNat (by omega)
  refine Qx QK [0,1,2,3,4,5,6,7,8,9,10,11,12,13] (by kernel_rfl) ?_
  intro w5 hd _
  replace hE1 := hE1.trans hd
  replace hai := hai.ext hd
  replace ha := ha.ext hd
  refine mvV rfl rfl (mvV rfl rfl (Qz rfl rfl QY (Vw rfl (ldB rfl na3) ?_)))
  refine mvV rfl rfl (mvV rfl rfl (Vw rfl (QO rfl rfl QA) ?_))
  refine Vw rfl (ldI rfl na3) ?_
  refine Zd rfl rfl rfl (Qz rfl rfl QY (Vw rfl (ldB rfl na3) ?_))
  refine Vw rfl (Qbe rfl rfl) (Vw rfl (QO rfl rfl QA) ?_)
  refine STI rfl wu rfl rfl sz3 (by intro h; kernel_rfl) ?_
  intro w6 hg6 hX6 ha6 hai6
  refine Qd (Qg (Qa ?_))
  rw [g1, Xg i0] at ha6
  refine Qb [0,1,2] rfl (mvV rfl rfl (Qw rfl rfl rfl (Qk rfl rfl (Qd ?_))))
  exact Qi (i + 1) ⟨rfl, rfl, rfl, trivial⟩ ⟨by omega, by omega, hX6 _ (Nat.le_refl _) hE1, ha6⟩ (by omega)
 ·intro hc
  simp at hc
  refine Qt (Ql (Qm (Qh (Qa (Qc ?_)))))
  have e : tab P.M (fun t => (P.p - X.v t) % P.p) = tab P.M fun t => vneg X.v t % P.p := QF fun t _ => by
   show (P.p - X.v t) % P.p = (-X.v t) % P.p
   rw [show P.p - X.v t = -X.v t + P.p * 1 by omega, Int.add_mul_emod_self_left]
  rw [Kb _ _ _ (by omega), e] at hai
  refine Qb [0,1,2,3] rfl (Vw rfl (ldA rfl Zf) ?_)
  refine mvV rfl rfl (C rfl wu rfl rfl Tryz.call107 (rVal P mo a _ _ hai ⟨hp, hp2⟩ (Qbm P (vneg X.v)) (by rw [Qs]; omega) (by rw [Qs]; omega)) ?_)
  rintro _ w5 hE5 rfl
  refine Qk rfl rfl (Qd (Qa (Qq (Qj rfl rfl ?_))))
  exact ⟨(hE.trans hE1).trans hE5, rfl⟩
end Go.Proofs.YtcfbigmjjpknfaaGreatDoor
