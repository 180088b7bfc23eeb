import Derived.Test.YtcfbigmjjpknfaaGreatDoorW03
import Derived.Test.YtcfbigmjjpknfaaGreatDoorW00
namespace Go.Proofs.YtcfbigmjjpknfaaGreatDoor
open Go Go.Sx Go.Pl Go.RowKit
theorem infoI : Tryz.prog.info? 3 = some Tryz.t3 := by kernel_rfl
theorem QaG : ∀ w, (sizeOf 3).run Tryz.prog w = .ok 1 w := fun w => by simp [sizeOf, typeInfo, infoI]; rfl
theorem infoS : Tryz.prog.info? 22 = some Tryz.t22 := by kernel_rfl
theorem szSl : ∀ w, (sizeOf 22).run Tryz.prog w = .ok 1 w := fun w => by simp [sizeOf, typeInfo, infoS]; rfl
theorem infoF : Tryz.prog.info? 24 = some Tryz.t24 := by kernel_rfl
theorem szF : ∀ w, (sizeOf 24).run Tryz.prog w = .ok 3 w := fun w => by simp [sizeOf, typeInfo, infoF]; rfl
theorem infoG : Tryz.prog.info? 107 = some Tryz.t107 := by kernel_rfl
theorem Zk : NA Tryz.prog 22 := fun w => Tryz.isAgg22 w
theorem na4 : NA Tryz.prog 4 := fun w => Tryz.isAgg4 w
theorem QaE : SlT Tryz.prog 68 4 (.bool false) 1 1 := ⟨by kernel_rfl, by kernel_rfl⟩
theorem sz4 : ∃ j, Tryz.prog.info? 4 = some j ∧ j.size = 1 := ⟨Tryz.t4, by kernel_rfl, by kernel_rfl⟩
theorem Zf : AG Tryz.prog 24 3 := ⟨fun w => by simp [isAgg, run_underlying Tryz.underlying24], szF⟩
theorem QY : FA Tryz.prog 24 0 0 := fun a w => by
 simp [Instr.fieldAt, run_underlying Tryz.underlying24, Instr.sureAddr, fieldPlace]
theorem Zl : FA Tryz.prog 24 1 1 := fun a w => by
 simp [Instr.fieldAt, run_underlying Tryz.underlying24, Instr.sureAddr, fieldPlace]
theorem Jm : FA Tryz.prog 24 2 2 := fun a w => by
 simp [Instr.fieldAt, run_underlying Tryz.underlying24, Instr.sureAddr, fieldPlace]
theorem ZN : FA Tryz.prog 107 0 0 := fun a w => by
 simp [Instr.fieldAt, run_underlying Tryz.underlying107, Instr.sureAddr, fieldPlace]
theorem KK : FA Tryz.prog 107 1 3 := fun a w => by
 simp [Instr.fieldAt, run_underlying Tryz.underlying107, Instr.sureAddr, fieldPlace]
theorem fa107_2 : FA Tryz.prog 107 2 4 := fun a w => by
 simp [Instr.fieldAt, run_underlying Tryz.underlying107, Instr.sureAddr, fieldPlace]
theorem Qa2 : FA Tryz.prog 107 3 5 := fun a w => by
 simp [Instr.fieldAt, run_underlying Tryz.underlying107, Instr.sureAddr, fieldPlace]
theorem Qa8 (k : IntKind) (n : Int) : (Value.int k n).cells = #[.int k n] := rfl
theorem Zo (cs : Array Value) : (Value.agg cs).cells = cs := rfl
theorem zeroF (w : World) : ∃ zv, (zeroValue 24).run Tryz.prog w = .ok zv w ∧ zv.cells = #[.int .i64 0, .int .i64 0, .slice none 0 0] := ⟨_, by simp [zeroValue, typeInfo, infoF]; rfl, rfl⟩
theorem zeroG (w : World) : ∃ zv, (zeroValue 107).run Tryz.prog w = .ok zv w ∧ zv.cells = #[.int .i64 0, .int .i64 0, .slice none 0 0, .int .i64 0, .slice none 0 0, .slice none 0 0] := ⟨_, by simp [zeroValue, typeInfo, infoG]; rfl, rfl⟩
theorem bdF (p M : Int) (v : Value) (hv : v.cells = #[v]) : ∀ w, (Instr.build 24 #[(0, .int .i64 p), (1, .int .i64 M), (2, v)]).run Tryz.prog w = .ok (.agg #[.int .i64 p, .int .i64 M, v]) w := fun w => by
 obtain ⟨zv, h1, h2⟩ := zeroF w
 simp [Instr.build, h1, h2, run_underlying Tryz.underlying24, Instr.fill, Qa8, hv]
theorem bdG (f0 f1 f2 : Value) (q : Int) (a b : Value) (ha : a.cells = #[a]) (hb : b.cells = #[b]) : ∀ w, (Instr.build 107 #[(0, .agg #[f0, f1, f2]), (1, .int .i64 q), (2, a), (3, b)]).run Tryz.prog w = .ok (.agg #[f0, f1, f2, .int .i64 q, a, b]) w := fun w => by
 obtain ⟨zv, h1, h2⟩ := zeroG w
 simp [Instr.build, h1, h2, run_underlying Tryz.underlying107, Instr.fill, Qa8, ha, hb, Zo]
theorem Zw {w : World} {v : Value} {zs : List Int} (h : Ints w v zs) : v.cells = #[v] := by
 obtain ⟨⟨a, c, rfl, _⟩, _⟩ := h
 rfl
theorem und4 : Tryz.prog.underlying 4 = some .bool := Tryz.underlying4
end Go.Proofs.YtcfbigmjjpknfaaGreatDoor
namespace Go.Alg
class CR (R : Type) extends Add R, Mul R, Neg R, Zero R, One R where
 add_assoc : ∀ a b c : R, a + b + c = a + (b + c)
 add_comm : ∀ a b : R, a + b = b + a
 zero_add : ∀ a : R, 0 + a = a
 neg_add : ∀ a : R, -a + a = 0
 mul_assoc : ∀ a b c : R, a * b * c = a * (b * c)
 mul_comm : ∀ a b : R, a * b = b * a
 one_mul : ∀ a : R, 1 * a = a
 mul_add : ∀ a b c : R, a * (b + c) = a * b + a * c
section
variable {R : Type} [CR R]
theorem add_assoc (a b c : R) : a + b + c = a + (b + c) := CR.add_assoc a b c
theorem add_comm (a b : R) : a + b = b + a := CR.add_comm a b
theorem mul_assoc (a b c : R) : a * b * c = a * (b * c) := CR.mul_assoc a b c
theorem mul_comm (a b : R) : a * b = b * a := CR.mul_comm a b
theorem Qbd (a b c : R) : a + (b + c) = b + (a + c) := by rw [← add_assoc, add_comm a b, add_assoc]
theorem mul_left_comm (a b c : R) : a * (b * c) = b * (a * c) := by rw [← mul_assoc, mul_comm a b, mul_assoc]
theorem zero_add (a : R) : 0 + a = a := CR.zero_add a
theorem add_zero (a : R) : a + 0 = a := by rw [add_comm, zero_add]
theorem neg_add (a : R) : -a + a = 0 := CR.neg_add a
theorem Xd (a : R) : a + -a = 0 := by rw [add_comm, neg_add]
theorem one_mul (a : R) : 1 * a = a := CR.one_mul a
theorem mul_one (a : R) : a * 1 = a := by rw [mul_comm, one_mul]
theorem mul_add (a b c : R) : a * (b + c) = a * b + a * c := CR.mul_add a b c
theorem add_mul (a b c : R) : (a + b) * c = a * c + b * c := by rw [mul_comm, mul_add, mul_comm c a, mul_comm c b]
theorem Jc {a b c : R} (h : a + b = a + c) : b = c := by
 have : -a + (a + b) = -a + (a + c) := by rw [h]
 rwa [← add_assoc, ← add_assoc, neg_add, zero_add, zero_add] at this
theorem XZ {a b c : R} (h : b + a = c + a) : b = c := by
 rw [add_comm b a, add_comm c a] at h
 exact Jc h
theorem mul_zero (a : R) : a * 0 = 0 := by
 have h : a * 0 + a * 0 = a * 0 + 0 := by rw [← mul_add, zero_add, add_zero]
 exact Jc h
theorem zero_mul (a : R) : 0 * a = 0 := by rw [mul_comm, mul_zero]
theorem Jj {a b : R} (h : a + b = 0) : b = -a := by
 apply Jc (a := a)
 rw [h, Xd]
theorem Kw (a : R) : - -a = a := (Jj (neg_add a)).symm
theorem QcM : -(0 : R) = 0 := (Jj (zero_add (0 : R))).symm
theorem neg_mul (a b : R) : -a * b = -(a * b) := by
 apply Jj
 rw [← add_mul, Xd, zero_mul]
theorem mul_neg (a b : R) : a * -b = -(a * b) := by rw [mul_comm, neg_mul, mul_comm]
theorem neg_inj {a b : R} (h : -a = -b) : a = b := by rw [← Kw a, h, Kw]
theorem Qa3 {a b : R} (h : a + -b = 0) : a = b := by
 have h1 := Jj h
 exact (neg_inj h1).symm
def npow (a : R) : Nat → R
 | 0 => 1
 | n + 1 => npow a n * a
theorem Qbs (a : R) : npow a 0 = 1 := rfl
theorem Zz (a : R) (n : Nat) : npow a (n + 1) = npow a n * a := rfl
theorem npow_one (a : R) : npow a 1 = a := one_mul a
theorem ZR (a : R) (m : Nat) : ∀ n, npow a (m + n) = npow a m * npow a n
 | 0 => by rw [Qbs, mul_one]; rfl
 | n + 1 => by rw [← Nat.add_assoc, Zz, ZR a m n, Zz, mul_assoc]
theorem Xm (a : R) (m : Nat) : ∀ n, npow a (m * n) = npow (npow a m) n
 | 0 => rfl
 | n + 1 => by rw [Nat.mul_succ, ZR, Xm a m n, Zz]
theorem Kg : ∀ n, npow (1 : R) n = 1
 | 0 => rfl
 | n + 1 => by rw [Zz, Kg n, one_mul]
theorem zero_npow {n : Nat} (h : 0 < n) : npow (0 : R) n = 0 := by
 obtain ⟨m, rfl⟩ : ∃ m, n = m + 1 := ⟨n - 1, by omega⟩
 rw [Zz, mul_zero]
end
class Fld (K : Type) extends CR K where
 one_ne : (1 : K) ≠ 0
 inv : K → K
 mul_inv : ∀ a : K, a ≠ 0 → a * inv a = 1
section
variable {K : Type} [Fld K]
theorem one_ne : (1 : K) ≠ 0 := Fld.one_ne
theorem mul_inv {a : K} (h : a ≠ 0) : a * Fld.inv a = 1 := Fld.mul_inv a h
end
section
variable {R : Type} [CR R]
def HasOrder (x : R) (n : Nat) : Prop := 0 < n ∧ npow x n = 1 ∧ ∀ k, 0 < k → k < n → npow x k ≠ 1
theorem QaR {x : R} {n : Nat} (hx : npow x n = 1) (k : Nat) : npow x k = npow x (k % n) := by
 have h : npow x k = npow x (n * (k / n) + k % n) := by rw [Nat.div_add_mod]
 rw [h, ZR, Xm, hx, Kg, one_mul]
theorem HasOrder.dvd {x : R} {n k : Nat} (h : HasOrder x n) (hk : npow x k = 1) : n ∣ k := by
 obtain ⟨h0, h1, h2⟩ := h
 rw [QaR h1] at hk
 rcases Nat.eq_zero_or_pos (k % n) with hm | hm
 ·exact Nat.dvd_of_mod_eq_zero hm
 ·exact absurd hk (h2 _ hm (Nat.mod_lt _ h0))
theorem QbI {x : R} : ∀ {n : Nat}, 0 < n → npow x n = 1 → ∃ m, HasOrder x m ∧ m ∣ n := by
 intro n
 induction n using Nat.strongRecOn with
 | _ n ih =>
  intro h0 h1
  by_cases h : ∃ k, 0 < k ∧ k < n ∧ npow x k = 1
  ·obtain ⟨k, hk0, hk, hk1⟩ := h
   obtain ⟨m, hm, _⟩ := ih k hk hk0 hk1
   exact ⟨m, hm, hm.dvd h1⟩
  ·exact ⟨n, ⟨h0, h1, fun k hk0 hk hk1 => h ⟨k, hk0, hk, hk1⟩⟩, Nat.dvd_refl n⟩
end
end Go.Alg
namespace Go.Fd
open Go.Pl Go.Alg
abbrev V := Nat → Int
def vadd (f g : V) : V := fun j => f j + g j
def vsm (c : Int) (f : V) : V := fun j => c * f j
def vneg (f : V) : V := fun j => - f j
def v0 : V := fun _ => 0
def e0 : V := fun j => if j = 0 then 1 else 0
def S (M : Nat) (md : V) (f : V) : V := fun j => (match j with | 0 => 0 | j + 1 => f j) - f (M - 1) * md j
def H (M : Nat) (md : V) : List Int → V → V
 | [], _ => v0
 | b :: bs, a => vadd (S M md (H M md bs a)) (vsm b a)
section
variable {M : Nat} {md : V}
theorem S_add (f g : V) : S M md (vadd f g) = vadd (S M md f) (S M md g) := by
 funext j
 cases j <;> simp only [S, vadd, Int.add_mul] <;> omega
theorem S_smul (c : Int) (f : V) : S M md (vsm c f) = vsm c (S M md f) := by
 funext j
 cases j <;> simp only [S, vsm, Int.mul_sub, Int.mul_assoc, Int.mul_zero]
theorem S_zero : S M md v0 = v0 := by
 funext j
 cases j <;> simp [S, v0]
theorem vsm_add (c : Int) (f g : V) : vsm c (vadd f g) = vadd (vsm c f) (vsm c g) := by
 funext j
 simp only [vsm, vadd, Int.mul_add]
theorem vsm_smul (c d : Int) (f : V) : vsm c (vsm d f) = vsm d (vsm c f) := by
 funext j
 simp only [vsm]
 rw [← Int.mul_assoc, ← Int.mul_assoc, Int.mul_comm c d]
theorem vadd_four (a b c d : V) : vadd (vadd a b) (vadd c d) = vadd (vadd a c) (vadd b d) := by
 funext j
 simp only [vadd]
 omega
theorem vadd_zero (a : V) : vadd a v0 = a := by funext j; simp [vadd, v0]
theorem H_add : ∀ (bs : List Int) (f g : V), H M md bs (vadd f g) = vadd (H M md bs f) (H M md bs g)
 | [], f, g => by simp only [H]; rw [vadd_zero]
 | b :: bs, f, g => by
  simp only [H]
  rw [H_add bs f g, S_add, vsm_add, vadd_four]
theorem Qc3 (c : Int) : ∀ (bs : List Int) (f : V), H M md bs (vsm c f) = vsm c (H M md bs f)
 | [], f => by funext j; simp [H, vsm, v0]
 | b :: bs, f => by
  simp only [H]
  rw [Qc3 c bs f, S_smul, vsm_add, vsm_smul]
theorem H_S : ∀ (bs : List Int) (f : V), H M md bs (S M md f) = S M md (H M md bs f)
 | [], f => by simp only [H]; rw [S_zero]
 | b :: bs, f => by
  simp only [H]
  rw [H_S bs f, S_add, S_smul]
theorem H_comm : ∀ (bs cs : List Int) (f : V), H M md bs (H M md cs f) = H M md cs (H M md bs f)
 | [], cs, f => by
  simp only [H]
  have e : (v0 : V) = vsm 0 v0 := by funext j; simp [vsm, v0]
  rw [e, Qc3]
  funext j; simp [vsm]
 | b :: bs, cs, f => by
  simp only [H]
  rw [H_comm bs cs f, ← H_S, ← Qc3, ← H_add]
theorem H_e0 : ∀ (bs : List Int), bs.length ≤ M → ∀ j, H M md bs e0 j = bs.getD j 0
 | [], _, j => by simp [H, v0]
 | b :: bs, h, j => by
  simp only [List.length_cons] at h
  have ih := H_e0 bs (by omega)
  have ht : H M md bs e0 (M - 1) = 0 := by
   rw [ih, List.getD_eq_getElem?_getD, List.getElem?_eq_none (by omega)]; rfl
  cases j with
  | zero => simp [H, vadd, vsm, S, ht, e0]
  | succ j => simp [H, vadd, vsm, S, ht, e0, ih]
def Cg (M : Nat) (p : Int) (f g : V) : Prop := ∀ j, j < M → f j % p = g j % p
variable {p : Int}
theorem Cg.refl (f : V) : Cg M p f f := fun _ _ => rfl
theorem Cg.symm {f g : V} (h : Cg M p f g) : Cg M p g f := fun j hj => (h j hj).symm
theorem Cg.trans {f g k : V} (h : Cg M p f g) (h' : Cg M p g k) : Cg M p f k := fun j hj => (h j hj).trans (h' j hj)
theorem Cg.of_eq {f g : V} (h : ∀ j, j < M → f j = g j) : Cg M p f g := fun j hj => by rw [h j hj]
theorem Xu {a b c d : Int} (h1 : a % p = b % p) (h2 : c % p = d % p) : (a + c) % p = (b + d) % p := by rw [Int.add_emod, h1, h2, ← Int.add_emod]
theorem JS {a b c d : Int} (h1 : a % p = b % p) (h2 : c % p = d % p) : (a - c) % p = (b - d) % p := by rw [Int.sub_emod, h1, h2, ← Int.sub_emod]
theorem Xt {a b c d : Int} (h1 : a % p = b % p) (h2 : c % p = d % p) : (a * c) % p = (b * d) % p := by rw [Int.mul_emod, h1, h2, ← Int.mul_emod]
theorem Cg.add {f g f' g' : V} (h : Cg M p f g) (h' : Cg M p f' g') : Cg M p (vadd f f') (vadd g g') := fun j hj => Xu (h j hj) (h' j hj)
theorem Cg.smul {f g : V} {c d : Int} (hc : c % p = d % p) (h : Cg M p f g) : Cg M p (vsm c f) (vsm d g) := fun j hj => Xt hc (h j hj)
theorem Cg.neg {f g : V} (h : Cg M p f g) : Cg M p (vneg f) (vneg g) := fun j hj => by
 have := JS (p := p) (a := 0) (b := 0) rfl (h j hj)
 simpa [vneg] using this
theorem Cg.S {f g : V} (h : Cg M p f g) : Cg M p (S M md f) (S M md g) := fun j hj => by
 have h1 := h (M - 1) (by omega)
 cases j with
 | zero => exact JS rfl (Xt h1 rfl)
 | succ j => exact JS (h j (by omega)) (Xt h1 rfl)
theorem Cg.H {f g : V} (h : Cg M p f g) : ∀ (bs : List Int), Cg M p (H M md bs f) (H M md bs g)
 | [] => Cg.refl _
 | _ :: bs => (Cg.S (Cg.H h bs)).add (Cg.smul rfl h)
def Cl (p : Int) : List Int → List Int → Prop
 | [], [] => True
 | a :: l, b :: m => a % p = b % p ∧ Cl p l m
 | _, _ => False
theorem Cg.H2 {f : V} : ∀ (bs cs : List Int), Cl p bs cs → Cg M p (Fd.H M md bs f) (Fd.H M md cs f)
 | [], [], _ => Cg.refl _
 | _ :: bs, _ :: cs, h => (Cg.S (Cg.H2 bs cs h.2)).add (Cg.smul h.1 (Cg.refl _))
theorem Cl.of_get : ∀ (l m : List Int), l.length = m.length → (∀ j, j < l.length → l.getD j 0 % p = m.getD j 0 % p) → Cl p l m
 | [], [], _, _ => trivial
 | [], _ :: _, h, _ => by simp at h
 | _ :: _, [], h, _ => by simp at h
 | a :: l, b :: m, h, hg => ⟨by simpa using hg 0 (by simp), Cl.of_get l m (by simpa using h) (fun j hj => by simpa using hg (j + 1) (by simp; omega))⟩
theorem Kc {f : V} {j : Nat} (h : j < M) : (tab M f).getD j 0 = f j := by
 rw [List.getD_eq_getElem?_getD, Za h]; rfl
theorem Cl.tab {f g : V} (h : Cg M p f g) : Cl p (tab M f) (tab M g) := Cl.of_get _ _ (by simp [Qs]) (fun j hj => by
 rw [Qs] at hj
 rw [Kc hj, Kc hj]
 exact h j hj)
def mulV (M : Nat) (md : V) (u v : V) : V := H M md (tab M v) u
theorem QaC (u : V) : Cg M p (H M md (tab M u) e0) u := Cg.of_eq fun j hj => by
 rw [H_e0 _ (by rw [Qs]; exact Nat.le_refl _), Kc hj]
theorem XF {u u' v v' : V} (hu : Cg M p u u') (hv : Cg M p v v') : Cg M p (mulV M md u v) (mulV M md u' v') :=
 (Cg.H hu _).trans (Cg.H2 _ _ (Cl.tab hv))
theorem Jk (u v : V) : Cg M p (mulV M md u v) (mulV M md v u) := by
 have h1 : Cg M p (mulV M md u v) (H M md (tab M v) (H M md (tab M u) e0)) := Cg.H (QaC u).symm _
 rw [H_comm] at h1
 exact h1.trans (Cg.H (QaC v) _)
theorem Qdj (u v w : V) : Cg M p (mulV M md (mulV M md u v) w) (mulV M md u (mulV M md v w)) := by
 refine Cg.symm ((Jk u (mulV M md v w)).trans ?_)
 show Cg M p (H M md (tab M u) (H M md (tab M w) v)) _
 rw [H_comm]
 exact Cg.H (Jk v u) _
theorem QcN (u : V) : Cg M p (mulV M md e0 u) u := QaC u
theorem mulV_add (u v w : V) : mulV M md (vadd v w) u = vadd (mulV M md v u) (mulV M md w u) := H_add _ _ _
end
def val (p : Int) : List Int → Int
 | [] => 0
 | d :: ds => d + p * val p ds
def dig (p : Int) : Nat → Int → List Int
 | 0, _ => []
 | m + 1, x => x % p :: dig p m (x / p)
theorem QZ (p : Int) : ∀ m x, (dig p m x).length = m
 | 0, _ => rfl
 | m + 1, x => by simp [dig, QZ p m (x / p)]
def Lo (p : Int) (l : List Int) : Prop := ∀ z ∈ l, 0 ≤ z ∧ z < p
theorem QbJ {p : Int} (hp : 2 ≤ p) : ∀ m x, Lo p (dig p m x)
 | 0, _ => fun z hz => by simp [dig] at hz
 | m + 1, x => fun z hz => by
  simp only [dig, List.mem_cons] at hz
  rcases hz with rfl | hz
  ·exact ⟨Int.emod_nonneg _ (by omega), Int.emod_lt_of_pos _ (by omega)⟩
  ·exact QbJ hp m (x / p) z hz
theorem Xf {p : Int} (hp : 2 ≤ p) : ∀ l : List Int, Lo p l → 0 ≤ val p l ∧ val p l < p ^ l.length
 | [], _ => by simp [val]
 | d :: ds, h => by
  have hd := h d (List.mem_cons_self ..)
  have ih := Xf hp ds (fun z hz => h z (List.mem_cons_of_mem _ hz))
  have e : p ^ (d :: ds).length = p * p ^ ds.length := by rw [List.length_cons, Int.pow_succ, Int.mul_comm]
  rw [e]
  have h1 : 0 ≤ p * val p ds := Int.mul_nonneg (by omega) ih.1
  have h2 : p * (val p ds + 1) ≤ p * p ^ ds.length := Int.mul_le_mul_of_nonneg_left (by omega) (by omega)
  rw [Int.mul_add, Int.mul_one] at h2
  simp only [val]
  omega
theorem val_dig {p : Int} (hp : 2 ≤ p) : ∀ (m : Nat) (x : Int), 0 ≤ x → x < p ^ m → val p (dig p m x) = x
 | 0, x, h0, h1 => by simp at h1; simp [dig, val]; omega
 | m + 1, x, h0, h1 => by
  rw [Int.pow_succ] at h1
  have h2 : x / p < p ^ m := Int.ediv_lt_of_lt_mul (by omega) h1
  rw [dig, val, val_dig hp m (x / p) (Int.ediv_nonneg h0 (by omega)) h2]
  exact Int.emod_add_mul_ediv x p
theorem Qcm {p : Int} (hp : 2 ≤ p) : ∀ (l : List Int), Lo p l → dig p l.length (val p l) = l
 | [], _ => rfl
 | d :: ds, h => by
  have hd := h d (List.mem_cons_self ..)
  have ih := Qcm hp ds (fun z hz => h z (List.mem_cons_of_mem _ hz))
  simp only [List.length_cons, dig, val]
  rw [Int.add_mul_emod_self_left, Int.emod_eq_of_lt hd.1 hd.2, Int.add_mul_ediv_left _ _ (by omega), Int.ediv_eq_zero_of_lt hd.1 hd.2, Int.zero_add, ih]
structure FP where
 p : Int
 M : Nat
 md : V
 hp : 2 ≤ p
 hM : 1 ≤ M
def FP.q (P : FP) : Int := P.p ^ P.M
theorem FP.q_two (P : FP) : 2 ≤ P.q := by
 unfold FP.q
 obtain ⟨m, hm⟩ : ∃ m, P.M = m + 1 := ⟨P.M - 1, by have := P.hM; omega⟩
 rw [hm, Int.pow_succ]
 have h1 : 1 ≤ P.p ^ m := by
  have := Int.pow_pos (n := P.p) (m := m) (by have := P.hp; omega)
  omega
 have := Int.mul_le_mul h1 P.hp (by omega) (by omega)
 omega
def vec (P : FP) (x : Int) : V := fun j => (dig P.p P.M x).getD j 0
def red (P : FP) (u : V) : Int := val P.p (tab P.M fun j => u j % P.p)
theorem Qbm (P : FP) (u : V) : Lo P.p (tab P.M fun j => u j % P.p) := fun z hz => by
 simp only [tab, List.mem_map, List.mem_range] at hz
 obtain ⟨j, _, rfl⟩ := hz
 have := P.hp
 exact ⟨Int.emod_nonneg _ (by omega), Int.emod_lt_of_pos _ (by omega)⟩
theorem red_range (P : FP) (u : V) : 0 ≤ red P u ∧ red P u < P.q := by
 have := Xf P.hp _ (Qbm P u)
 rw [Qs] at this
 exact this
theorem vec_red (P : FP) (u : V) : Cg P.M P.p (vec P (red P u)) u := fun j hj => by
 have h := Qcm P.hp _ (Qbm P u)
 rw [Qs] at h
 show (dig P.p P.M (val P.p (tab P.M fun j => u j % P.p))).getD j 0 % P.p = _
 rw [h, Kc (f := fun j => u j % P.p) hj, Int.emod_emod_of_dvd _ (Int.dvd_refl _)]
theorem red_cg (P : FP) {u v : V} (h : Cg P.M P.p u v) : red P u = red P v := by
 unfold red
 rw [QF (fun t ht => h t ht)]
theorem red_vec (P : FP) {x : Int} (h0 : 0 ≤ x) (h1 : x < P.q) : red P (vec P x) = x := by
 have e : (tab P.M fun j => vec P x j % P.p) = dig P.p P.M x := by
  have hl := QZ P.p P.M x
  rw [JQ (dig P.p P.M x), hl]
  refine QF (fun t ht => ?_)
  have hm := QbJ P.hp P.M x ((dig P.p P.M x).getD t 0) (by
   rw [List.getD_eq_getElem?_getD, List.getElem?_eq_getElem (by omega)]
   exact List.getElem_mem _)
  exact Int.emod_eq_of_lt hm.1 hm.2
 unfold red
 rw [e]
 exact val_dig P.hp P.M x h0 h1
def K (P : FP) := { x : Int // 0 ≤ x ∧ x < P.q }
def K.mk (P : FP) (u : V) : K P := ⟨red P u, red_range P u⟩
def K.v {P : FP} (x : K P) : V := vec P x.1
theorem K.mk_v {P : FP} (x : K P) : K.mk P x.v = x := Subtype.ext (red_vec P x.2.1 x.2.2)
theorem K.v_mk {P : FP} (u : V) : Cg P.M P.p (K.mk P u).v u := vec_red P u
theorem K.ext {P : FP} {x y : K P} (h : Cg P.M P.p x.v y.v) : x = y := by
 rw [← K.mk_v x, ← K.mk_v y]
 exact Subtype.ext (red_cg P h)
theorem K.mk_eq {P : FP} {u v : V} (h : Cg P.M P.p u v) : K.mk P u = K.mk P v := Subtype.ext (red_cg P h)
theorem vec_zero (P : FP) : Cg P.M P.p (vec P 0) v0 := Cg.of_eq fun j _ => by
 have h : ∀ m j, (dig P.p m 0).getD j 0 = 0 := fun m => by
  induction m with
  | zero => intro j; simp [dig]
  | succ m ih =>
   intro j
   cases j with
   | zero => simp [dig]
   | succ j => simpa [dig] using ih j
 exact h P.M j
theorem vec_one (P : FP) : Cg P.M P.p (vec P 1) e0 := Cg.of_eq fun j _ => by
 obtain ⟨m, hm⟩ : ∃ m, P.M = m + 1 := ⟨P.M - 1, by have := P.hM; omega⟩
 have hp := P.hp
 have h : ∀ m j, (dig P.p m 0).getD j 0 = 0 := fun m => by
  induction m with
  | zero => intro j; simp [dig]
  | succ m ih =>
   intro j
   cases j with
   | zero => simp [dig]
   | succ j => simpa [dig] using ih j
 have e1 : (1 : Int) % P.p = 1 := Int.emod_eq_of_lt (by omega) (by omega)
 have e2 : (1 : Int) / P.p = 0 := Int.ediv_eq_zero_of_lt (by omega) (by omega)
 unfold vec
 rw [hm, dig, e1, e2]
 cases j with
 | zero => rfl
 | succ j => simpa [e0] using h m j
instance (P : FP) : Add (K P) := ⟨fun x y => K.mk P (vadd x.v y.v)⟩
instance (P : FP) : Mul (K P) := ⟨fun x y => K.mk P (mulV P.M P.md x.v y.v)⟩
instance (P : FP) : Neg (K P) := ⟨fun x => K.mk P (vneg x.v)⟩
instance (P : FP) : Zero (K P) := ⟨⟨0, by have := P.q_two; omega⟩⟩
instance (P : FP) : One (K P) := ⟨⟨1, by have := P.q_two; omega⟩⟩
theorem KX {P : FP} (x y : K P) : Cg P.M P.p (x + y).v (vadd x.v y.v) := K.v_mk _
theorem Ko {P : FP} (x y : K P) : Cg P.M P.p (x * y).v (mulV P.M P.md x.v y.v) := K.v_mk _
theorem v_neg {P : FP} (x : K P) : Cg P.M P.p (-x).v (vneg x.v) := K.v_mk _
theorem v_zero {P : FP} : Cg P.M P.p (0 : K P).v v0 := vec_zero P
theorem v_one {P : FP} : Cg P.M P.p (1 : K P).v e0 := vec_one P
instance (P : FP) : CR (K P) where
 add_assoc a b c := K.ext ((KX _ _).trans ((Cg.add (KX a b) (Cg.refl _)).trans (Cg.symm ((KX _ _).trans ((Cg.add (Cg.refl _) (KX b c)).trans (Cg.of_eq fun j _ => by simp only [vadd]; omega))))))
 add_comm a b := K.ext ((KX _ _).trans (Cg.symm ((KX _ _).trans (Cg.of_eq fun j _ => by simp only [vadd]; omega))))
 zero_add a := K.ext ((KX _ _).trans ((Cg.add v_zero (Cg.refl _)).trans (Cg.of_eq fun j _ => by simp [vadd, v0])))
 neg_add a := K.ext ((KX _ _).trans ((Cg.add (v_neg a) (Cg.refl _)).trans (Cg.symm (v_zero.trans (Cg.of_eq fun j _ => by simp only [vadd, v0, vneg]; omega)))))
 mul_assoc a b c := K.ext ((Ko _ _).trans ((XF (Ko a b) (Cg.refl _)).trans ((Qdj _ _ _).trans (Cg.symm ((Ko _ _).trans (XF (Cg.refl _) (Ko b c)))))))
 mul_comm a b := K.ext ((Ko _ _).trans ((Jk _ _).trans (Ko _ _).symm))
 one_mul a := K.ext ((Ko _ _).trans ((XF v_one (Cg.refl _)).trans (QcN _)))
 mul_add a b c := K.ext ((Ko _ _).trans ((Jk _ _).trans ((XF (KX b c) (Cg.refl _)).trans (Cg.symm ((KX _ _).trans (by
  rw [mulV_add]
  exact Cg.add ((Ko _ _).trans (Jk _ _)) ((Ko _ _).trans (Jk _ _))))))))
end Go.Fd
namespace Go.Fd
open Go.Pl Go.Alg
theorem QcK : ∀ (n : Nat) (l : List Nat), l.Nodup → (∀ x ∈ l, x < n) → l.length ≤ n
 | 0, l, _, h => by
  cases l with
  | nil => simp
  | cons x l => exact absurd (h x (by simp)) (by omega)
 | n + 1, l, hn, h => by
  by_cases hm : n ∈ l
  ·have h1 := QcK n (l.erase n) (hn.erase n) (fun x hx => by
    have hx' := (hn.mem_erase_iff).1 hx
    have := h x hx'.2
    have := hx'.1
    omega)
   rw [List.length_erase_of_mem hm] at h1
   omega
  ·have := QcK n l hn (fun x hx => by
    have := h x hx
    have : x ≠ n := fun e => hm (e ▸ hx)
    omega)
   omega
theorem Qdh (n : Nat) (l : List Nat) (hn : l.Nodup) (h : ∀ x ∈ l, x < n) (hl : l.length = n) : ∀ y, y < n → y ∈ l := fun y hy => by
 apply Classical.byContradiction
 intro hc
 have := QcK n (y :: l) (List.nodup_cons.2 ⟨hc, hn⟩) (fun x hx => by
  rcases List.mem_cons.1 hx with rfl | hx
  ·exact hy
  ·exact h x hx)
 simp at this
 omega
section
variable {P : FP}
theorem zero_val : (0 : K P).1 = 0 := rfl
theorem one_val : (1 : K P).1 = 1 := rfl
theorem Jq : (1 : K P) ≠ 0 := fun h => by have := congrArg Subtype.val h; rw [zero_val, one_val] at this; omega
def n1 (P : FP) : Nat := (P.q - 1).toNat
theorem n1_pos : 1 ≤ n1 P := by have := P.q_two; unfold n1; omega
theorem QaS : ((n1 P : Nat) : Int) = P.q - 1 := by have := P.q_two; unfold n1; omega
theorem Kf {R : Type} [CR R] {x : R} {n : Nat} (h : npow x n = 1) {i : Nat} (hi : i ≤ n) : npow x i * npow x (n - i) = 1 := by
 rw [← ZR, show i + (n - i) = n by omega, h]
theorem Qb0 {R : Type} [CR R] {x : R} {n : Nat} (h : HasOrder x n) {i j : Nat} (hi : i < n) (hj : j < n) (he : npow x i = npow x j) : i = j := by
 have key : ∀ {i j : Nat}, i < j → j < n → npow x i = npow x j → False := fun {i j} hij hj he => by
  refine h.2.2 (j - i) (by omega) (by omega) ?_
  have hu := Kf h.2.1 (i := i) (by omega)
  have e : npow x j = npow x i * npow x (j - i) := by rw [← ZR, show i + (j - i) = j by omega]
  calc npow x (j - i) = (npow x i * npow x (n - i)) * npow x (j - i) := by rw [hu, one_mul]
   _ = npow x (n - i) * (npow x i * npow x (j - i)) := by rw [mul_comm (npow x i), mul_assoc]
   _ = npow x (n - i) * npow x i := by rw [← e, he]
   _ = 1 := by rw [mul_comm, hu]
 rcases Nat.lt_trichotomy i j with hl | hl | hl
 ·exact (key hl hj he).elim
 ·exact hl
 ·exact (key hl hi he.symm).elim
theorem pow_ne {x : K P} {n : Nat} (h : npow x n = 1) {i : Nat} (hi : i ≤ n) : npow x i ≠ 0 := fun e => by
 have := Kf h hi
 rw [e, zero_mul] at this
 exact Jq this.symm
theorem K.pos {y : K P} (h : y ≠ 0) : 1 ≤ y.1 := by
 have := y.2.1
 have : y.1 ≠ 0 := fun e => h (Subtype.ext e)
 omega
theorem KF {x : K P} (h : HasOrder x (n1 P)) (y : K P) (hy : y ≠ 0) : ∃ i, i < n1 P ∧ npow x i = y := by
 have hl : ((List.range (n1 P)).map fun i => ((npow x i).1 - 1).toNat).length = n1 P := by simp
 have hpos : ∀ i, i < n1 P → 1 ≤ (npow x i).1 ∧ (npow x i).1 < P.q := fun i hi => ⟨K.pos (pow_ne h.2.1 (by omega)), (npow x i).2.2⟩
 have hn : ((List.range (n1 P)).map fun i => ((npow x i).1 - 1).toNat).Nodup := by
  rw [List.Nodup, List.pairwise_map]
  refine List.Pairwise.imp_of_mem ?_ (List.nodup_range (n := n1 P))
  intro a b ha hb hne he
  rw [List.mem_range] at ha hb
  have h1 := hpos a ha
  have h2 := hpos b hb
  exact hne (Qb0 h ha hb (Subtype.ext (by omega)))
 have hy1 := K.pos hy
 have hy2 := y.2.2
 have := Qdh (n1 P) _ hn (fun z hz => by
  obtain ⟨i, hi, rfl⟩ := List.mem_map.1 hz
  have h1 := hpos i (List.mem_range.1 hi)
  have := QaS (P := P)
  omega) hl (y.1 - 1).toNat (by have := QaS (P := P); omega)
 obtain ⟨i, hi, he⟩ := List.mem_map.1 this
 have hi := List.mem_range.1 hi
 have h1 := hpos i hi
 exact ⟨i, hi, Subtype.ext (by omega)⟩
theorem Qb2 {x : K P} (h : HasOrder x (n1 P)) {a b : K P} (hab : a * b = 0) : a = 0 ∨ b = 0 := by
 by_cases ha : a = 0
 ·exact .inl ha
 ·refine .inr ?_
  obtain ⟨i, hi, rfl⟩ := KF h a ha
  have hu := Kf h.2.1 (i := i) (by omega)
  calc b = (npow x i * npow x (n1 P - i)) * b := by rw [hu, one_mul]
   _ = npow x (n1 P - i) * (npow x i * b) := by rw [mul_comm (npow x i), mul_assoc]
   _ = 0 := by rw [hab, mul_zero]
end
def IsP (r : Nat) : Prop := 2 ≤ r ∧ ∀ d, 2 ≤ d → d ∣ r → d = r
theorem Qbp : ∀ k : Nat, 1 < k → ∃ r, IsP r ∧ r ∣ k := by
 intro k
 induction k using Nat.strongRecOn with
 | _ k ih =>
  intro hk
  by_cases h : ∃ d, 2 ≤ d ∧ d ∣ k ∧ d ≠ k
  ·obtain ⟨d, h2, hd, hne⟩ := h
   have hle := Nat.le_of_dvd (by omega) hd
   obtain ⟨r, hr, hrd⟩ := ih d (by omega) (by omega)
   exact ⟨r, hr, Nat.dvd_trans hrd hd⟩
  ·exact ⟨k, ⟨by omega, fun d h2 hd => Classical.byContradiction fun hne => h ⟨d, h2, hd, hne⟩⟩, Nat.dvd_refl k⟩
theorem Qdi {R : Type} [CR R] {x : R} {n : Nat} (hn : 0 < n) (h1 : npow x n = 1) (hr : ∀ r, IsP r → r ∣ n → npow x (n / r) ≠ 1) : HasOrder x n := by
 obtain ⟨m, hm, hmn⟩ := QbI hn h1
 by_cases e : m = n
 ·rw [← e]; exact hm
 ·exfalso
  obtain ⟨k, rfl⟩ := hmn
  have hm0 := hm.1
  have hk : 1 < k := by
   rcases Nat.lt_or_ge 1 k with h | h
   ·exact h
   ·have : k = 0 ∨ k = 1 := by omega
    rcases this with rfl | rfl
    ·simp at hn
    ·simp at e
  obtain ⟨r, hrp, c, rfl⟩ := Qbp k hk
  refine hr r hrp ⟨m * c, by rw [Nat.mul_left_comm]⟩ ?_
  have hr0 : 0 < r := by have := hrp.1; omega
  rw [Nat.mul_left_comm, Nat.mul_div_cancel_left _ hr0, Xm, hm.2.1, Kg]
end Go.Fd
namespace Go.Fd
open Go.Pl Go.Alg
def zip3 (p top b : Nat) : List Nat → List Nat → List Nat → List Nat
 | s :: ss, l :: ls, a :: aZs => ((s + (p - top) * l + b * a) % p) :: zip3 p top b ss ls aZs
 | _, _, _ => []
def mulN (p : Nat) (md a : List Nat) : List Nat → List Nat
 | [] => md.map fun _ => 0
 | b :: bs => zip3 p ((mulN p md a bs).getD (md.length - 1) 0) b (0 :: mulN p md a bs) md a
def vecN (l : List Nat) : V := fun j => ((l.getD j 0 : Nat) : Int)
theorem Qcs (p top b : Nat) : ∀ (ss ls aZs : List Nat) (j : Nat), j < ss.length → j < ls.length → j < aZs.length → (zip3 p top b ss ls aZs).getD j 0 = (ss.getD j 0 + (p - top) * ls.getD j 0 + b * aZs.getD j 0) % p
 | [], _, _, j, h, _, _ => by simp at h
 | _ :: _, [], _, j, _, h, _ => by simp at h
 | _ :: _, _ :: _, [], j, _, _, h => by simp at h
 | s :: ss, l :: ls, a :: aZs, 0, _, _, _ => by simp [zip3]
 | s :: ss, l :: ls, a :: aZs, j + 1, h1, h2, h3 => by
  have := Qcs p top b ss ls aZs j (by simpa using h1) (by simpa using h2) (by simpa using h3)
  simpa [zip3] using this
theorem Qcr (p top b : Nat) : ∀ (ss ls aZs : List Nat) (m : Nat), m ≤ ss.length → ls.length = m → aZs.length = m → (zip3 p top b ss ls aZs).length = m
 | [], ls, aZs, m, h, h1, h2 => by
  have : m = 0 := by simpa using h
  subst this
  simp [zip3]
 | s :: ss, [], aZs, m, h, h1, h2 => by simp [zip3]; simp at h1; omega
 | s :: ss, l :: ls, [], m, h, h1, h2 => by simp [zip3]; simp at h2; omega
 | s :: ss, l :: ls, a :: aZs, m, h, h1, h2 => by
  obtain ⟨k, rfl⟩ : ∃ k, m = k + 1 := ⟨m - 1, by simp at h1; omega⟩
  simp only [List.length_cons] at h h1 h2
  simp [zip3, Qcr p top b ss ls aZs k (by omega) (by omega) (by omega)]
theorem zip3_lo {p : Nat} (hp : 0 < p) (top b : Nat) : ∀ (ss ls aZs : List Nat), ∀ z ∈ zip3 p top b ss ls aZs, z < p
 | [], _, _, z, h => by simp [zip3] at h
 | _ :: _, [], _, z, h => by simp [zip3] at h
 | _ :: _, _ :: _, [], z, h => by simp [zip3] at h
 | s :: ss, l :: ls, a :: aZs, z, h => by
  simp only [zip3, List.mem_cons] at h
  rcases h with rfl | h
  ·exact Nat.mod_lt _ hp
  ·exact zip3_lo hp top b ss ls aZs z h
theorem Kj {p : Nat} {md a : List Nat} (ha : a.length = md.length) : ∀ bs, (mulN p md a bs).length = md.length
 | [] => by simp [mulN]
 | b :: bs => Qcr _ _ _ _ _ _ md.length (by simp [Kj ha bs]) rfl ha
theorem Qb8 {p : Nat} (hp : 0 < p) {md a : List Nat} : ∀ bs, ∀ z ∈ mulN p md a bs, z < p
 | [], z, h => by
  simp [mulN] at h
  omega
 | b :: bs, z, h => zip3_lo hp _ _ _ _ _ z h
def Fits (P : FP) (p : Nat) (md : List Nat) : Prop := P.p = p ∧ P.M = md.length ∧ ∀ j, j < md.length → P.md j = vecN md j
theorem mulN_H {P : FP} {p : Nat} {md : List Nat} (hP : Fits P p md) {a : List Nat} (ha : a.length = md.length) : ∀ bs : List Nat, Cg P.M P.p (vecN (mulN p md a bs)) (H P.M P.md (bs.map Int.ofNat) (vecN a))
 | [] => Cg.of_eq fun j hj => by
  rw [hP.2.1] at hj
  simp [mulN, vecN, H, v0, hj]
 | b :: bs => fun j hj => by
  have ih := mulN_H hP ha bs
  have hM := P.hM
  have hp : 0 < p := by have := P.hp; rw [hP.1] at this; omega
  have hl := Kj (p := p) ha bs
  have hj' : j < md.length := by rw [← hP.2.1]; exact hj
  have hg : (mulN p md a (b :: bs)).getD j 0 = _ := Qcs p ((mulN p md a bs).getD (md.length - 1) 0) b (0 :: mulN p md a bs) md a j (by simp [hl]; omega) hj' (by omega)
  have htop : (mulN p md a bs).getD (md.length - 1) 0 < p := by
   rw [List.getD_eq_getElem?_getD, List.getElem?_eq_getElem (by omega)]
   exact Qb8 hp bs _ (List.getElem_mem _)
  have hi := ih (P.M - 1) (by omega)
  simp only [vecN] at hi ⊢
  rw [hg]
  rw [hP.2.1] at hi ⊢
  generalize htt : (mulN p md a bs).getD (md.length - 1) 0 = top at *
  have e1 : (((0 :: mulN p md a bs).getD j 0 + (p - top) * md.getD j 0 + b * a.getD j 0) % p : Nat) = ((((0 :: mulN p md a bs).getD j 0 : Nat) : Int) + ((p : Int) - top) * (md.getD j 0 : Nat) + (b : Int) * (a.getD j 0 : Nat)) % (p : Int) := by
   rw [Int.natCast_emod, Int.natCast_add, Int.natCast_add, Int.natCast_mul, Int.natCast_mul, Int.natCast_sub (by omega)]
  rw [e1, hP.1, Int.emod_emod_of_dvd _ (Int.dvd_refl _)]
  simp only [List.map_cons, H, vadd, vsm]
  rw [hP.1] at hi
  refine Xu ?_ rfl
  have e2 : (((0 :: mulN p md a bs).getD j 0 : Nat) : Int) % p = (match j with | 0 => 0 | j + 1 => H md.length P.md (bs.map Int.ofNat) (vecN a) j) % (p : Int) := by
   cases j with
   | zero => simp
   | succ j =>
    have := ih j (by omega)
    rw [hP.1, hP.2.1] at this
    simpa [vecN] using this
  show _ = (_ - H md.length P.md (bs.map Int.ofNat) (vecN a) (md.length - 1) * P.md j) % (p : Int)
  rw [hP.2.2 j hj']
  have e3 : ((p : Int) - top) * (md.getD j 0 : Nat) % (p : Int) = (- (H md.length P.md (bs.map Int.ofNat) (vecN a) (md.length - 1) * vecN md j)) % (p : Int) := by
   rw [← Int.neg_mul]
   refine Xt ?_ rfl
   have h0 : ((p : Int) - top) % p = (0 - top) % p := JS (by simp) rfl
   rw [h0]
   have := JS (p := (p : Int)) (a := 0) (b := 0) rfl hi
   simpa using this
  have := Xu e2 e3
  cases j with
  | zero => simpa [Int.sub_eq_add_neg] using this
  | succ j => simpa [Int.sub_eq_add_neg] using this
def kN (P : FP) (l : List Nat) : K P := K.mk P (vecN l)
theorem kN_mul {P : FP} {p : Nat} {md : List Nat} (hP : Fits P p md) {a b : List Nat} (ha : a.length = md.length) (hb : b.length = md.length) : kN P (mulN p md a b) = kN P a * kN P b := by
 apply K.ext
 refine (K.v_mk _).trans ((mulN_H hP ha b).trans (Cg.symm ((Ko _ _).trans ((XF (K.v_mk _) (K.v_mk _)).trans ?_))))
 have e : tab P.M (vecN b) = b.map Int.ofNat := by
  rw [hP.2.1, ← hb]
  apply List.ext_getElem?
  intro i
  by_cases hi : i < b.length
  ·rw [Za hi]
   simp [vecN, hi]
  ·rw [List.getElem?_eq_none (by rw [Qs]; omega), List.getElem?_eq_none (by simp; omega)]
 unfold mulV
 rw [e]
 exact Cg.refl _
def digN (p : Nat) : Nat → Nat → List Nat
 | 0, _ => []
 | m + 1, x => x % p :: digN p m (x / p)
theorem ZT (p : Nat) : ∀ m x, (digN p m x).length = m
 | 0, _ => rfl
 | m + 1, x => by simp [digN, ZT p m (x / p)]
theorem Qa6 (p : Nat) : ∀ (m x : Nat), (digN p m x).map Int.ofNat = dig p m x
 | 0, _ => rfl
 | m + 1, x => by
  have := Qa6 p m (x / p)
  simp only [digN, dig, List.map_cons, this]
  simp
theorem vecN_dig {P : FP} {p : Nat} (hP : P.p = p) (x : Nat) : vecN (digN p P.M x) = vec P x := by
 funext j
 unfold vec vecN
 rw [hP, ← Qa6]
 simp only [List.getD_eq_getElem?_getD, List.getElem?_map]
 cases (digN p P.M x)[j]? <;> simp
theorem QcP {P : FP} {p : Nat} (hP : P.p = p) (x : Nat) (hx : (x : Int) < P.q) : (kN P (digN p P.M x)).1 = x := by
 unfold kN
 rw [vecN_dig hP]
 exact red_vec P (by omega) hx
def powN (p : Nat) (md one x : List Nat) : Nat → Nat → List Nat
 | 0, _ => one
 | f + 1, n => if n = 0 then one else if n % 2 = 0 then mulN p md (powN p md one x f (n / 2)) (powN p md one x f (n / 2)) else mulN p md (mulN p md (powN p md one x f (n / 2)) (powN p md one x f (n / 2))) x
theorem Qbq {P : FP} {p : Nat} {md : List Nat} (hP : Fits P p md) {one x : List Nat} (ho : one.length = md.length) (hx : x.length = md.length) (h1 : kN P one = 1) :
  ∀ f n, n < 2 ^ f → (powN p md one x f n).length = md.length ∧ kN P (powN p md one x f n) = npow (kN P x) n
 | 0, n, h => by
  have : n = 0 := by simpa using h
  subst this
  exact ⟨ho, h1⟩
 | f + 1, n, h => by
  rw [Nat.pow_succ] at h
  obtain ⟨l, e⟩ := Qbq hP ho hx h1 f (n / 2) (by omega)
  unfold powN
  by_cases h0 : n = 0
  ·rw [if_pos h0, h0]
   exact ⟨ho, h1⟩
  ·rw [if_neg h0]
   have hs : kN P (mulN p md (powN p md one x f (n / 2)) (powN p md one x f (n / 2))) = npow (kN P x) (2 * (n / 2)) := by
    rw [kN_mul hP l l, e, ← ZR]
    congr 1
    omega
   have hl := Kj (p := p) l (powN p md one x f (n / 2))
   by_cases h2 : n % 2 = 0
   ·rw [if_pos h2]
    refine ⟨hl, ?_⟩
    rw [hs]
    congr 1
    omega
   ·rw [if_neg h2]
    refine ⟨Kj hl _, ?_⟩
    rw [kN_mul hP hl hx, hs, ← Zz]
    congr 1
    omega
end Go.Fd
namespace Go.Fd
open Go.Pl
def dvJ (p c o : Int) (low r : List Int) : Nat → List Int
 | 0 => r
 | j + 1 => si (dvJ p c o low r j) (o + j) ((gi (dvJ p c o low r j) (o + j) + (p - c) * gi low j) % p)
def dvI (p : Int) (low r : List Int) (top : Int) : Nat → List Int
 | 0 => r
 | k + 1 => si (dvJ p (gi (dvI p low r top k) (top - k)) (top - k - low.length) low (dvI p low r top k) low.length) (top - k) 0
def zeros : List Int → Bool
 | [] => true
 | z :: l => decide (z = 0) && zeros l
def dv (low md : List Int) (p : Int) : Bool := zeros (dvI p low (md ++ [1]) md.length (md.length + 1 - low.length))
def noDv (md : List Int) (p : Int) (d : Nat) : Nat → Bool
 | 0 => true
 | n + 1 => noDv md p d n && !dv (dig p d n) md p
def irrB (md : List Int) (p : Int) : Nat → Bool
 | 0 => true
 | k + 1 => irrB md p k && noDv md p (k + 1) (p ^ (k + 1)).toNat
def irr (md : List Int) (p : Int) : Bool := irrB md p (md.length / 2)
theorem Qal {md : List Int} {p : Int} {d v : Nat} (h : dv (dig p d v) md p = true) : ∀ n, v < n → noDv md p d n = false
 | 0, hn => absurd hn (by omega)
 | n + 1, hn => by
  rw [noDv]
  by_cases e : v = n
  ·rw [← e, h]; simp
  ·rw [Qal h n (by omega)]; rfl
theorem KE {md : List Int} {p : Int} {d v : Nat} (h : dv (dig p (d + 1) v) md p = true) (hv : v < (p ^ (d + 1)).toNat) : ∀ k, d < k → irrB md p k = false
 | 0, hk => absurd hk (by omega)
 | k + 1, hk => by
  rw [irrB]
  by_cases e : d = k
  ·rw [← e, Qal h _ hv]; simp
  ·rw [KE h hv k (by omega)]; rfl
end Go.Fd
