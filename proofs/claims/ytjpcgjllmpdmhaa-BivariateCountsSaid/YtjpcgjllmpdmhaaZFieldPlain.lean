/-
  Residues modulo a monic polynomial over the integers modulo p, as numbers below p^M: they are a commutative ring. No program in sight.
-/
import Derived.Test.YtjpcgjllmpdmhaaZMSxa
import Derived.Test.YtjpcgjllmpdmhaaZAlg
namespace Go.Fd
open Go.Pl Go.Alg

/-- Vectors: coefficient j of X^j. -/
abbrev V := Nat → Int
def vadd (f g : V) : V := fun j => f j + g j
def vsm (c : Int) (f : V) : V := fun j => c * f j
def vneg (f : V) : V := fun j => - f j
def v0 : V := fun _ => 0
def e0 : V := fun j => if j = 0 then 1 else 0
/-- Multiplication by X. -/
def S (M : Nat) (md : V) (f : V) : V := fun j => (match j with | 0 => 0 | j + 1 => f j) - f (M - 1) * md j
/-- Multiplication by the polynomial with the coefficients bs, by Horner. -/
def H (M : Nat) (md : V) : List Int → V → V
  | [], _ => v0
  | b :: bs, a => vadd (S M md (H M md bs a)) (vsm b a)
section
variable {M : Nat} {md : V}
theorem S_add (f g : V) : S M md (vadd f g) = vadd (S M md f) (S M md g) := by
  funext j
  cases j <;> simp only [S, vadd, Int.add_mul] <;> omega
theorem S_smul (c : Int) (f : V) : S M md (vsm c f) = vsm c (S M md f) := by
  funext j
  cases j <;> simp only [S, vsm, Int.mul_sub, Int.mul_assoc, Int.mul_zero]
theorem S_zero : S M md v0 = v0 := by
  funext j
  cases j <;> simp [S, v0]
theorem vsm_add (c : Int) (f g : V) : vsm c (vadd f g) = vadd (vsm c f) (vsm c g) := by
  funext j
  simp only [vsm, vadd, Int.mul_add]
theorem vsm_smul (c d : Int) (f : V) : vsm c (vsm d f) = vsm d (vsm c f) := by
  funext j
  simp only [vsm]
  rw [← Int.mul_assoc, ← Int.mul_assoc, Int.mul_comm c d]
theorem vadd_four (a b c d : V) : vadd (vadd a b) (vadd c d) = vadd (vadd a c) (vadd b d) := by
  funext j
  simp only [vadd]
  omega
theorem vadd_zero (a : V) : vadd a v0 = a := by funext j; simp [vadd, v0]
theorem H_add : ∀ (bs : List Int) (f g : V), H M md bs (vadd f g) = vadd (H M md bs f) (H M md bs g)
  | [], f, g => by simp only [H]; rw [vadd_zero]
  | b :: bs, f, g => by
    simp only [H]
    rw [H_add bs f g, S_add, vsm_add, vadd_four]
theorem H_smul (c : Int) : ∀ (bs : List Int) (f : V), H M md bs (vsm c f) = vsm c (H M md bs f)
  | [], f => by funext j; simp [H, vsm, v0]
  | b :: bs, f => by
    simp only [H]
    rw [H_smul c bs f, S_smul, vsm_add, vsm_smul]
theorem H_S : ∀ (bs : List Int) (f : V), H M md bs (S M md f) = S M md (H M md bs f)
  | [], f => by simp only [H]; rw [S_zero]
  | b :: bs, f => by
    simp only [H]
    rw [H_S bs f, S_add, S_smul]
theorem H_comm : ∀ (bs cs : List Int) (f : V), H M md bs (H M md cs f) = H M md cs (H M md bs f)
  | [], cs, f => by
    simp only [H]
    have e : (v0 : V) = vsm 0 v0 := by funext j; simp [vsm, v0]
    rw [e, H_smul]
    funext j; simp [vsm]
  | b :: bs, cs, f => by
    simp only [H]
    rw [H_comm bs cs f, ← H_S, ← H_smul, ← H_add]
theorem H_e0 : ∀ (bs : List Int), bs.length ≤ M → ∀ j, H M md bs e0 j = bs.getD j 0
  | [], _, j => by simp [H, v0]
  | b :: bs, h, j => by
    simp only [List.length_cons] at h
    have ih := H_e0 bs (by omega)
    have ht : H M md bs e0 (M - 1) = 0 := by
      rw [ih, List.getD_eq_getElem?_getD, List.getElem?_eq_none (by omega)]; rfl
    cases j with
    | zero => simp [H, vadd, vsm, S, ht, e0]
    | succ j => simp [H, vadd, vsm, S, ht, e0, ih]

/-! Congruence modulo p, on the places below M. -/
def Cg (M : Nat) (p : Int) (f g : V) : Prop := ∀ j, j < M → f j % p = g j % p
variable {p : Int}
theorem Cg.refl (f : V) : Cg M p f f := fun _ _ => rfl
theorem Cg.symm {f g : V} (h : Cg M p f g) : Cg M p g f := fun j hj => (h j hj).symm
theorem Cg.trans {f g k : V} (h : Cg M p f g) (h' : Cg M p g k) : Cg M p f k := fun j hj => (h j hj).trans (h' j hj)
theorem Cg.of_eq {f g : V} (h : ∀ j, j < M → f j = g j) : Cg M p f g := fun j hj => by rw [h j hj]
theorem emod_add {a b c d : Int} (h1 : a % p = b % p) (h2 : c % p = d % p) : (a + c) % p = (b + d) % p := by rw [Int.add_emod, h1, h2, ← Int.add_emod]
theorem emod_sub {a b c d : Int} (h1 : a % p = b % p) (h2 : c % p = d % p) : (a - c) % p = (b - d) % p := by rw [Int.sub_emod, h1, h2, ← Int.sub_emod]
theorem emod_mul {a b c d : Int} (h1 : a % p = b % p) (h2 : c % p = d % p) : (a * c) % p = (b * d) % p := by rw [Int.mul_emod, h1, h2, ← Int.mul_emod]
theorem Cg.add {f g f' g' : V} (h : Cg M p f g) (h' : Cg M p f' g') : Cg M p (vadd f f') (vadd g g') := fun j hj => emod_add (h j hj) (h' j hj)
theorem Cg.smul {f g : V} {c d : Int} (hc : c % p = d % p) (h : Cg M p f g) : Cg M p (vsm c f) (vsm d g) := fun j hj => emod_mul hc (h j hj)
theorem Cg.neg {f g : V} (h : Cg M p f g) : Cg M p (vneg f) (vneg g) := fun j hj => by
  have := emod_sub (p := p) (a := 0) (b := 0) rfl (h j hj)
  simpa [vneg] using this
theorem Cg.S {f g : V} (h : Cg M p f g) : Cg M p (S M md f) (S M md g) := fun j hj => by
  have h1 := h (M - 1) (by omega)
  cases j with
  | zero => exact emod_sub rfl (emod_mul h1 rfl)
  | succ j => exact emod_sub (h j (by omega)) (emod_mul h1 rfl)
theorem Cg.H {f g : V} (h : Cg M p f g) : ∀ (bs : List Int), Cg M p (H M md bs f) (H M md bs g)
  | [] => Cg.refl _
  | b :: bs => (Cg.S (Cg.H h bs)).add (Cg.smul rfl h)
/-- Lists that are congruent entry by entry. -/
def Cl (p : Int) : List Int → List Int → Prop
  | [], [] => True
  | a :: l, b :: m => a % p = b % p ∧ Cl p l m
  | _, _ => False
theorem Cg.H2 {f : V} : ∀ (bs cs : List Int), Cl p bs cs → Cg M p (Fd.H M md bs f) (Fd.H M md cs f)
  | [], [], _ => Cg.refl _
  | b :: bs, c :: cs, h => (Cg.S (Cg.H2 bs cs h.2)).add (Cg.smul h.1 (Cg.refl _))
theorem Cl.of_get : ∀ (l m : List Int), l.length = m.length → (∀ j, j < l.length → l.getD j 0 % p = m.getD j 0 % p) → Cl p l m
  | [], [], _, _ => trivial
  | [], _ :: _, h, _ => by simp at h
  | _ :: _, [], h, _ => by simp at h
  | a :: l, b :: m, h, hg => ⟨by simpa using hg 0 (by simp), Cl.of_get l m (by simpa using h) (fun j hj => by simpa using hg (j + 1) (by simp; omega))⟩
theorem tab_getD {f : V} {j : Nat} (h : j < M) : (tab M f).getD j 0 = f j := by
  rw [List.getD_eq_getElem?_getD, tab_get h]; rfl
theorem Cl.tab {f g : V} (h : Cg M p f g) : Cl p (tab M f) (tab M g) := Cl.of_get _ _ (by simp [tab_length]) (fun j hj => by
  rw [tab_length] at hj
  rw [tab_getD hj, tab_getD hj]
  exact h j hj)

def mulV (M : Nat) (md : V) (u v : V) : V := H M md (tab M v) u
theorem unit_id (u : V) : Cg M p (H M md (tab M u) e0) u := Cg.of_eq fun j hj => by
  rw [H_e0 _ (by rw [tab_length]; exact Nat.le_refl _), tab_getD hj]
theorem mulV_cg {u u' v v' : V} (hu : Cg M p u u') (hv : Cg M p v v') : Cg M p (mulV M md u v) (mulV M md u' v') :=
  (Cg.H hu _).trans (Cg.H2 _ _ (Cl.tab hv))
theorem mulV_comm (u v : V) : Cg M p (mulV M md u v) (mulV M md v u) := by
  have h1 : Cg M p (mulV M md u v) (H M md (tab M v) (H M md (tab M u) e0)) := Cg.H (unit_id u).symm _
  rw [H_comm] at h1
  exact h1.trans (Cg.H (unit_id v) _)
theorem mulV_assoc (u v w : V) : Cg M p (mulV M md (mulV M md u v) w) (mulV M md u (mulV M md v w)) := by
  refine Cg.symm ((mulV_comm u (mulV M md v w)).trans ?_)
  show Cg M p (H M md (tab M u) (H M md (tab M w) v)) _
  rw [H_comm]
  exact Cg.H (mulV_comm v u) _
theorem mulV_one (u : V) : Cg M p (mulV M md e0 u) u := unit_id u
theorem mulV_add (u v w : V) : mulV M md (vadd v w) u = vadd (mulV M md v u) (mulV M md w u) := H_add _ _ _
end

/-! ### Digits and values -/
def val (p : Int) : List Int → Int
  | [] => 0
  | d :: ds => d + p * val p ds
def dig (p : Int) : Nat → Int → List Int
  | 0, _ => []
  | m + 1, x => x % p :: dig p m (x / p)
theorem dig_length (p : Int) : ∀ m x, (dig p m x).length = m
  | 0, _ => rfl
  | m + 1, x => by simp [dig, dig_length p m (x / p)]
/-- The entries lie below p. -/
def Lo (p : Int) (l : List Int) : Prop := ∀ z ∈ l, 0 ≤ z ∧ z < p
theorem dig_lo {p : Int} (hp : 2 ≤ p) : ∀ m x, Lo p (dig p m x)
  | 0, _ => fun z hz => by simp [dig] at hz
  | m + 1, x => fun z hz => by
    simp only [dig, List.mem_cons] at hz
    rcases hz with rfl | hz
    · exact ⟨Int.emod_nonneg _ (by omega), Int.emod_lt_of_pos _ (by omega)⟩
    · exact dig_lo hp m (x / p) z hz
theorem val_range {p : Int} (hp : 2 ≤ p) : ∀ l : List Int, Lo p l → 0 ≤ val p l ∧ val p l < p ^ l.length
  | [], _ => by simp [val]
  | d :: ds, h => by
    have hd := h d (List.mem_cons_self ..)
    have ih := val_range hp ds (fun z hz => h z (List.mem_cons_of_mem _ hz))
    have e : p ^ (d :: ds).length = p * p ^ ds.length := by rw [List.length_cons, Int.pow_succ, Int.mul_comm]
    rw [e]
    have h1 : 0 ≤ p * val p ds := Int.mul_nonneg (by omega) ih.1
    have h2 : p * (val p ds + 1) ≤ p * p ^ ds.length := Int.mul_le_mul_of_nonneg_left (by omega) (by omega)
    rw [Int.mul_add, Int.mul_one] at h2
    simp only [val]
    omega
theorem val_dig {p : Int} (hp : 2 ≤ p) : ∀ (m : Nat) (x : Int), 0 ≤ x → x < p ^ m → val p (dig p m x) = x
  | 0, x, h0, h1 => by simp at h1; simp [dig, val]; omega
  | m + 1, x, h0, h1 => by
    rw [Int.pow_succ] at h1
    have h2 : x / p < p ^ m := Int.ediv_lt_of_lt_mul (by omega) h1
    rw [dig, val, val_dig hp m (x / p) (Int.ediv_nonneg h0 (by omega)) h2]
    exact Int.emod_add_mul_ediv x p
theorem dig_val {p : Int} (hp : 2 ≤ p) : ∀ (l : List Int), Lo p l → dig p l.length (val p l) = l
  | [], _ => rfl
  | d :: ds, h => by
    have hd := h d (List.mem_cons_self ..)
    have ih := dig_val hp ds (fun z hz => h z (List.mem_cons_of_mem _ hz))
    simp only [List.length_cons, dig, val]
    rw [Int.add_mul_emod_self_left, Int.emod_eq_of_lt hd.1 hd.2, Int.add_mul_ediv_left _ _ (by omega), Int.ediv_eq_zero_of_lt hd.1 hd.2, Int.zero_add, ih]

/-- Parameters: p from 2 on, M from 1 on, the low coefficients of the monic polynomial. -/
structure FP where
  p : Int
  M : Nat
  md : V
  hp : 2 ≤ p
  hM : 1 ≤ M
def FP.q (P : FP) : Int := P.p ^ P.M
theorem FP.q_two (P : FP) : 2 ≤ P.q := by
  unfold FP.q
  obtain ⟨m, hm⟩ : ∃ m, P.M = m + 1 := ⟨P.M - 1, by have := P.hM; omega⟩
  rw [hm, Int.pow_succ]
  have h1 : 1 ≤ P.p ^ m := by
    have := Int.pow_pos (n := P.p) (m := m) (by have := P.hp; omega)
    omega
  have := Int.mul_le_mul h1 P.hp (by omega) (by omega)
  omega
def vec (P : FP) (x : Int) : V := fun j => (dig P.p P.M x).getD j 0
def red (P : FP) (u : V) : Int := val P.p (tab P.M fun j => u j % P.p)
theorem red_lo (P : FP) (u : V) : Lo P.p (tab P.M fun j => u j % P.p) := fun z hz => by
  simp only [tab, List.mem_map, List.mem_range] at hz
  obtain ⟨j, _, rfl⟩ := hz
  have := P.hp
  exact ⟨Int.emod_nonneg _ (by omega), Int.emod_lt_of_pos _ (by omega)⟩
theorem red_range (P : FP) (u : V) : 0 ≤ red P u ∧ red P u < P.q := by
  have := val_range P.hp _ (red_lo P u)
  rw [tab_length] at this
  exact this
theorem vec_red (P : FP) (u : V) : Cg P.M P.p (vec P (red P u)) u := fun j hj => by
  have h := dig_val P.hp _ (red_lo P u)
  rw [tab_length] at h
  show (dig P.p P.M (val P.p (tab P.M fun j => u j % P.p))).getD j 0 % P.p = _
  rw [h, tab_getD (f := fun j => u j % P.p) hj, Int.emod_emod_of_dvd _ (Int.dvd_refl _)]
theorem red_cg (P : FP) {u v : V} (h : Cg P.M P.p u v) : red P u = red P v := by
  unfold red
  rw [tab_congr (fun t ht => h t ht)]
theorem red_vec (P : FP) {x : Int} (h0 : 0 ≤ x) (h1 : x < P.q) : red P (vec P x) = x := by
  have e : (tab P.M fun j => vec P x j % P.p) = dig P.p P.M x := by
    have hl := dig_length P.p P.M x
    rw [list_tab (dig P.p P.M x), hl]
    refine tab_congr (fun t ht => ?_)
    have hm := dig_lo P.hp P.M x ((dig P.p P.M x).getD t 0) (by
      rw [List.getD_eq_getElem?_getD, List.getElem?_eq_getElem (by omega)]
      exact List.getElem_mem _)
    exact Int.emod_eq_of_lt hm.1 hm.2
  unfold red
  rw [e]
  exact val_dig P.hp P.M x h0 h1

/-- The residues. -/
def K (P : FP) := { x : Int // 0 ≤ x ∧ x < P.q }
def K.mk (P : FP) (u : V) : K P := ⟨red P u, red_range P u⟩
def K.v {P : FP} (x : K P) : V := vec P x.1
theorem K.mk_v {P : FP} (x : K P) : K.mk P x.v = x := Subtype.ext (red_vec P x.2.1 x.2.2)
theorem K.v_mk {P : FP} (u : V) : Cg P.M P.p (K.mk P u).v u := vec_red P u
theorem K.ext {P : FP} {x y : K P} (h : Cg P.M P.p x.v y.v) : x = y := by
  rw [← K.mk_v x, ← K.mk_v y]
  exact Subtype.ext (red_cg P h)
theorem K.mk_eq {P : FP} {u v : V} (h : Cg P.M P.p u v) : K.mk P u = K.mk P v := Subtype.ext (red_cg P h)
theorem vec_zero (P : FP) : Cg P.M P.p (vec P 0) v0 := Cg.of_eq fun j _ => by
  have h : ∀ m j, (dig P.p m 0).getD j 0 = 0 := fun m => by
    induction m with
    | zero => intro j; simp [dig]
    | succ m ih =>
      intro j
      cases j with
      | zero => simp [dig]
      | succ j => simpa [dig] using ih j
  exact h P.M j
theorem vec_one (P : FP) : Cg P.M P.p (vec P 1) e0 := Cg.of_eq fun j _ => by
  obtain ⟨m, hm⟩ : ∃ m, P.M = m + 1 := ⟨P.M - 1, by have := P.hM; omega⟩
  have hp := P.hp
  have h : ∀ m j, (dig P.p m 0).getD j 0 = 0 := fun m => by
    induction m with
    | zero => intro j; simp [dig]
    | succ m ih =>
      intro j
      cases j with
      | zero => simp [dig]
      | succ j => simpa [dig] using ih j
  have e1 : (1 : Int) % P.p = 1 := Int.emod_eq_of_lt (by omega) (by omega)
  have e2 : (1 : Int) / P.p = 0 := Int.ediv_eq_zero_of_lt (by omega) (by omega)
  unfold vec
  rw [hm, dig, e1, e2]
  cases j with
  | zero => rfl
  | succ j => simpa [e0] using h m j
instance (P : FP) : Add (K P) := ⟨fun x y => K.mk P (vadd x.v y.v)⟩
instance (P : FP) : Mul (K P) := ⟨fun x y => K.mk P (mulV P.M P.md x.v y.v)⟩
instance (P : FP) : Neg (K P) := ⟨fun x => K.mk P (vneg x.v)⟩
instance (P : FP) : Zero (K P) := ⟨⟨0, by have := P.q_two; omega⟩⟩
instance (P : FP) : One (K P) := ⟨⟨1, by have := P.q_two; omega⟩⟩
theorem v_add {P : FP} (x y : K P) : Cg P.M P.p (x + y).v (vadd x.v y.v) := K.v_mk _
theorem v_mul {P : FP} (x y : K P) : Cg P.M P.p (x * y).v (mulV P.M P.md x.v y.v) := K.v_mk _
theorem v_neg {P : FP} (x : K P) : Cg P.M P.p (-x).v (vneg x.v) := K.v_mk _
theorem v_zero {P : FP} : Cg P.M P.p (0 : K P).v v0 := vec_zero P
theorem v_one {P : FP} : Cg P.M P.p (1 : K P).v e0 := vec_one P
instance (P : FP) : CR (K P) where
  add_assoc a b c := K.ext ((v_add _ _).trans ((Cg.add (v_add a b) (Cg.refl _)).trans (Cg.symm ((v_add _ _).trans ((Cg.add (Cg.refl _) (v_add b c)).trans (Cg.of_eq fun j _ => by simp only [vadd]; omega))))))
  add_comm a b := K.ext ((v_add _ _).trans (Cg.symm ((v_add _ _).trans (Cg.of_eq fun j _ => by simp only [vadd]; omega))))
  zero_add a := K.ext ((v_add _ _).trans ((Cg.add v_zero (Cg.refl _)).trans (Cg.of_eq fun j _ => by simp [vadd, v0])))
  neg_add a := K.ext ((v_add _ _).trans ((Cg.add (v_neg a) (Cg.refl _)).trans (Cg.symm (v_zero.trans (Cg.of_eq fun j _ => by simp only [vadd, v0, vneg]; omega)))))
  mul_assoc a b c := K.ext ((v_mul _ _).trans ((mulV_cg (v_mul a b) (Cg.refl _)).trans ((mulV_assoc _ _ _).trans (Cg.symm ((v_mul _ _).trans (mulV_cg (Cg.refl _) (v_mul b c)))))))
  mul_comm a b := K.ext ((v_mul _ _).trans ((mulV_comm _ _).trans (v_mul _ _).symm))
  one_mul a := K.ext ((v_mul _ _).trans ((mulV_cg v_one (Cg.refl _)).trans (mulV_one _)))
  mul_add a b c := K.ext ((v_mul _ _).trans ((mulV_comm _ _).trans ((mulV_cg (v_add b c) (Cg.refl _)).trans (Cg.symm ((v_add _ _).trans (by
    rw [mulV_add]
    exact Cg.add ((v_mul _ _).trans (mulV_comm _ _)) ((v_mul _ _).trans (mulV_comm _ _))))))))
end Go.Fd
