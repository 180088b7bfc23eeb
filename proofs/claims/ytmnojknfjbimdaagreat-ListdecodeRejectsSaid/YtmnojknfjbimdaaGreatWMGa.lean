/-
  A description of a field is right, by the reference's check, just if some residue has the greatest order. No program in sight. The ring of residues as polynomials in one element: integers as residues, sums of digits and powers. No program in sight. Lists that a loop fills entry by entry; products of polynomials term by term. No program in sight. Powers with integer exponents, inverses and orders in the ring of residues with a residue of the greatest order. No program in sight.
-/
import Derived.Test.YtmnojknfjbimdaaGreatWFieldData
import Derived.Test.YtmnojknfjbimdaaGreatWMFa
namespace Go.Fd
open Go.Pl Go.Alg
def Shp (p M : Int) (md : List Int) : Prop := 2 ≤ p ∧ 1 ≤ M ∧ M ≤ 8 ∧ p ^ M.toNat ≤ 256 ∧ primeN p.toNat = true ∧ (M = 1 → md = []) ∧ (M ≠ 1 → (md.length : Int) = M ∧ Lo p md)
def fpOf (p M : Int) (md : List Int) (hp : 2 ≤ p) (hM : 1 ≤ M) : FP := ⟨p, M.toNat, fun j => md.getD j 0, hp, by omega⟩
theorem Shp.one {p M : Int} {md : List Int} (h : Shp p M md) (hM : M = 1) : ∃ x : K (fpOf p M md h.1 h.2.1), HasOrder x (n1 (fpOf p M md h.1 h.2.1)) := by
  obtain ⟨h1, h2, h3, h4, h5, h6, h7⟩ := h
  have hmd := h6 hM
  subst hM hmd
  have h4 : p ≤ 256 := by
    rw [show (1 : Int).toNat = 1 from rfl, Int.pow_succ, Int.pow_zero, Int.one_mul] at h4
    exact h4
  have ha := List.all_eq_true.1 all_primes p.toNat (List.mem_range.2 (by omega))
  simp only [h5, Bool.not_true, Bool.false_or, List.any_eq_true] at ha
  obtain ⟨⟨q, g, rs⟩, hm, he⟩ := ha
  have he : q = p.toNat := by simpa using he
  subst he
  have ho := List.all_eq_true.1 ok_primes _ hm
  refine ordOK_spec (p := p.toNat) (md := [0]) ⟨?_, rfl, ?_⟩ ho
  · show p = _
    omega
  · intro j hj
    have : j = 0 := by simpa using hj
    subst this
    simp [fpOf, vecN]
theorem Shp.more {p M : Int} {md : List Int} (h : Shp p M md) (hM : M ≠ 1) :
    (irr md p = true ∧ ∃ x : K (fpOf p M md h.1 h.2.1), HasOrder x (n1 (fpOf p M md h.1 h.2.1))) ∨ (irr md p = false ∧ ∀ x : K (fpOf p M md h.1 h.2.1), ¬ HasOrder x (n1 (fpOf p M md h.1 h.2.1))) := by
  obtain ⟨h1, h2, h3, h4, h5, h6, h7⟩ := h
  obtain ⟨hl, hlo⟩ := h7 hM
  have hp : ((p.toNat : Nat) : Int) = p := by omega
  have hMl : M.toNat = md.length := by omega
  have h4' : p.toNat ^ M.toNat ≤ 256 := by
    have e : ((p.toNat ^ M.toNat : Nat) : Int) = p ^ M.toNat := by rw [Int.natCast_pow, hp]
    omega
  obtain ⟨rs, hs, hok⟩ := shape_ok h5 (by omega) (by omega) h4'
  have hv := val_range h1 md hlo
  have hvn : (((val p md).toNat : Nat) : Int) = val p md := by omega
  have hlt : (val p md).toNat < p.toNat ^ M.toNat := by
    have e : ((p.toNat ^ M.toNat : Nat) : Int) = p ^ M.toNat := by rw [Int.natCast_pow, hp]
    rw [hMl] at e ⊢
    omega
  obtain ⟨a, b, hab⟩ := allOK_spec hok hlt
  have hdig : dig (p.toNat : Int) M.toNat ((val p md).toNat : Int) = md := by rw [hp, hvn, hMl]; exact dig_val h1 md hlo
  have hF : Fits (fpOf p M md h1 h2) p.toNat (digN p.toNat M.toNat (val p md).toNat) := by
    refine ⟨by show p = _; omega, by rw [digN_len]; rfl, fun j hj => ?_⟩
    have e := digN_dig p.toNat M.toNat (val p md).toNat
    rw [hdig] at e
    show md.getD j 0 = _
    have e2 : ∀ ds : List Nat, ds.map Int.ofNat = md → md.getD j 0 = vecN ds j := by
      rintro ds rfl
      unfold vecN
      simp only [List.getD_eq_getElem?_getD, List.getElem?_map]
      cases ds[j]? <;> simp
    exact e2 _ e
  unfold chk at hab
  by_cases h0 : a = 0
  · rw [if_pos h0, hdig, hp, Bool.and_eq_true] at hab
    exact .inl ⟨hab.1, ordOK_spec hF hab.2⟩
  · rw [if_neg h0] at hab
    have := div_zero hF hab
    rw [hdig, hp] at this
    exact .inr this
def OkF (p M : Int) (md : List Int) : Prop := Shp p M md ∧ (M = 1 ∨ irr md p = true)
theorem OkF.gen {p M : Int} {md : List Int} (h : OkF p M md) : ∃ x : K (fpOf p M md h.1.1 h.1.2.1), HasOrder x (n1 (fpOf p M md h.1.1 h.1.2.1)) := by
  by_cases hM : M = 1
  · exact h.1.one hM
  · rcases h.1.more hM with h' | h'
    · exact h'.2
    · rcases h.2 with e | e
      · exact absurd e hM
      · rw [h'.1] at e; cases e
theorem OkF.of_gen {p M : Int} {md : List Int} (h : Shp p M md) {x : K (fpOf p M md h.1 h.2.1)} (hx : HasOrder x (n1 (fpOf p M md h.1 h.2.1))) : OkF p M md := by
  by_cases hM : M = 1
  · exact ⟨h, .inl hM⟩
  · rcases h.more hM with h' | h'
    · exact ⟨h, .inr h'.1⟩
    · exact absurd hx (h'.2 x)
end Go.Fd


namespace Go.Fd
open Go.Pl Go.Alg
section
variable {P : FP}
theorem mk_add (u v : V) : K.mk P (vadd u v) = K.mk P u + K.mk P v := K.mk_eq (Cg.add (K.v_mk u) (K.v_mk v)).symm
theorem mk_neg (u : V) : K.mk P (vneg u) = - K.mk P u := K.mk_eq (Cg.neg (K.v_mk u)).symm
theorem mk_mul (u v : V) : K.mk P (mulV P.M P.md u v) = K.mk P u * K.mk P v := K.mk_eq (mulV_cg (K.v_mk u) (K.v_mk v)).symm
theorem mk_zero : K.mk P v0 = 0 := K.ext ((K.v_mk _).trans v_zero.symm)
theorem mk_one : K.mk P e0 = 1 := K.ext ((K.v_mk _).trans v_one.symm)
def zK (P : FP) (z : Int) : K P := K.mk P (vsm z e0)
theorem mk_smul (a : Int) (u : V) : K.mk P (vsm a u) = zK P a * K.mk P u := by
  rw [zK, ← mk_mul]
  refine K.mk_eq ?_
  rw [mulV, H_smul]
  exact Cg.smul rfl (mulV_one u).symm
theorem zK_add (a b : Int) : zK P (a + b) = zK P a + zK P b := by
  unfold zK
  rw [← mk_add]
  congr 1
  funext j
  simp only [vsm, vadd, Int.add_mul]
theorem zK_mul (a b : Int) : zK P (a * b) = zK P a * zK P b := by
  have h := mk_smul (P := P) a (vsm b e0)
  rw [zK.eq_1 P b, ← h, zK]
  congr 1
  funext j
  simp only [vsm, Int.mul_assoc]
theorem zK_zero : zK P 0 = 0 := by
  rw [zK, ← mk_zero]
  congr 1
  funext j
  simp [vsm, v0]
theorem zK_one : zK P 1 = 1 := by
  rw [zK, ← mk_one]
  congr 1
  funext j
  simp [vsm]
theorem zK_neg (a : Int) : zK P (-a) = - zK P a := by
  rw [zK, zK, ← mk_neg]
  congr 1
  funext j
  simp [vsm, vneg, Int.neg_mul]
theorem zK_cg {a b : Int} (h : a % P.p = b % P.p) : zK P a = zK P b := K.mk_eq (Cg.smul h (Cg.refl _))
theorem zK_mod (a : Int) : zK P (a % P.p) = zK P a := zK_cg (Int.emod_emod_of_dvd _ (Int.dvd_refl _))
def xi (P : FP) : K P := K.mk P (S P.M P.md e0)
theorem mk_S (u : V) : K.mk P (S P.M P.md u) = xi P * K.mk P u := by
  rw [xi, ← mk_mul, mulV, H_S]
  exact K.mk_eq (Cg.S (unit_id u).symm)
def ej (n : Nat) : V := fun j => if j = n then 1 else 0
theorem S_ej {n : Nat} (h : n + 1 < P.M) : S P.M P.md (ej n) = ej (n + 1) := by
  funext j
  have e : ej n (P.M - 1) = 0 := if_neg (by omega)
  cases j with
  | zero => simp only [S, e]; simp [ej]
  | succ j => simp only [S, e]; simp [ej]
theorem xi_pow : ∀ n, n < P.M → npow (xi P) n = K.mk P (ej n)
  | 0, _ => by rw [npow_zero, ← mk_one]; rfl
  | n + 1, h => by rw [npow_succ, xi_pow n (by omega), ← S_ej h, mk_S, mul_comm]
def pe (P : FP) (c : Nat → Int) : Nat → K P
  | 0 => 0
  | n + 1 => pe P c n + zK P (c n) * npow (xi P) n
theorem pe_congr {c d : Nat → Int} : ∀ n, (∀ j, j < n → c j = d j) → pe P c n = pe P d n
  | 0, _ => rfl
  | n + 1, h => by rw [pe, pe, pe_congr n (fun j hj => h j (by omega)), h n (by omega)]
theorem mk_pe' (u : V) : ∀ n, n ≤ P.M → K.mk P (fun j => if j < n then u j else 0) = pe P u n
  | 0, _ => by
    rw [pe, ← mk_zero]
    congr 1
  | n + 1, h => by
    rw [pe, ← mk_pe' u n (by omega), xi_pow n h, ← mk_smul, ← mk_add]
    congr 1
    funext j
    simp only [vadd, vsm, ej]
    by_cases e : j = n
    · subst e; simp
    · by_cases hj : j < n
      · rw [if_pos (by omega), if_pos hj, if_neg e]; simp
      · rw [if_neg (by omega), if_neg hj, if_neg e]; simp
theorem mk_pe (u : V) : K.mk P u = pe P u P.M := by
  rw [← mk_pe' u P.M (Nat.le_refl _)]
  exact K.mk_eq (Cg.of_eq fun j hj => by rw [if_pos hj])
theorem xi_top : npow (xi P) P.M = - pe P P.md P.M := by
  have hM := P.hM
  obtain ⟨m, hm⟩ : ∃ m, P.M = m + 1 := ⟨P.M - 1, by omega⟩
  rw [← mk_pe, ← mk_neg, hm, npow_succ, xi_pow m (by omega), mul_comm, ← mk_S]
  refine K.mk_eq (Cg.of_eq fun j hj => ?_)
  have e : ej m (P.M - 1) = 1 := if_pos (by omega)
  cases j with
  | zero => simp [S, e, vneg]
  | succ j =>
    have e2 : ej m j = 0 := if_neg (by omega)
    simp [S, e, e2, vneg]
theorem pe_set (c : Nat → Int) (k : Nat) (u : Int) : ∀ n, k < n → pe P (fun t => if t = k then u else c t) n = pe P c n + (zK P u + -zK P (c k)) * npow (xi P) k
  | 0, h => absurd h (by omega)
  | n + 1, h => by
    by_cases e : k = n
    · subst e
      rw [pe, pe, pe_congr (d := c) k (fun j hj => if_neg (by omega)), if_pos rfl, add_mul, neg_mul, add_assoc, add_comm (zK P (c k) * _), add_assoc, neg_add, add_zero]
    · rw [pe, pe, pe_set c k u n (by omega), if_neg (by omega), add_assoc, add_assoc, add_comm ((zK P u + -zK P (c k)) * _)]
theorem pe_zero : ∀ n, pe P (fun _ => 0) n = 0
  | 0 => rfl
  | n + 1 => by rw [pe, pe_zero n, zK_zero, zero_mul, add_zero]
theorem pe_self (x : K P) : pe P x.v P.M = x := by rw [← mk_pe, K.mk_v]
theorem val_pe {l : List Int} (hl : P.M ≤ l.length) (hlo : Lo P.p l) : val P.p (l.take P.M) = (pe P (fun j => l.getD j 0) P.M).1 := by
  rw [← mk_pe]
  show _ = val P.p (tab P.M fun j => l.getD j 0 % P.p)
  congr 1
  apply List.ext_getElem?
  intro j
  by_cases hj : j < P.M
  · have hj' : j < l.length := by omega
    have := hlo _ (List.getElem_mem hj')
    rw [tab_get hj, List.getElem?_take, if_pos hj]
    simp only [List.getD_eq_getElem?_getD, List.getElem?_eq_getElem hj', Option.getD_some]
    rw [Int.emod_eq_of_lt this.1 this.2]
  · rw [List.getElem?_eq_none (by simp; omega), List.getElem?_eq_none (by rw [tab_length]; omega)]
theorem getD_set (l : List Int) (k : Nat) (u : Int) (hk : k < l.length) : (fun t => (l.set k u).getD t 0) = fun t => if t = k then u else l.getD t 0 := by
  funext t
  by_cases e : t = k
  · subst e; simp [hk]
  · rw [if_neg e]; simp [List.getElem?_set_ne (Ne.symm e)]
def inK (P : FP) (z : Int) : K P := if h : 0 ≤ z ∧ z < P.q then ⟨z, h⟩ else 0
theorem inK_in {z : Int} (h : 0 ≤ z ∧ z < P.q) : inK P z = ⟨z, h⟩ := dif_pos h
theorem inK_out {z : Int} (h : ¬ (0 ≤ z ∧ z < P.q)) : inK P z = 0 := dif_neg h
theorem inK_val (x : K P) : inK P x.1 = x := dif_pos x.2
def cln (P : FP) (z : Int) : Int := (inK P z).1
end
def ps (p : Int) (f : Nat → Int) : Nat → Int
  | 0 => 0
  | n + 1 => ps p f n + f n * p ^ n
theorem val_snoc (p : Int) (d : Int) : ∀ l : List Int, val p (l ++ [d]) = val p l + d * p ^ l.length
  | [] => by simp [val]
  | a :: l => by
    rw [List.cons_append, val, val, val_snoc p d l, List.length_cons, Int.pow_succ, Int.mul_add, Int.add_assoc, Int.mul_left_comm, Int.mul_comm (p ^ l.length) p]
theorem val_tab (p : Int) (f : Nat → Int) : ∀ n, val p (tab n f) = ps p f n
  | 0 => rfl
  | n + 1 => by
    have e : tab (n + 1) f = tab n f ++ [f n] := by simp [tab, List.range_succ]
    rw [e, val_snoc, val_tab p f n, tab_length, ps]
theorem dig_dd {p : Int} (hp : 2 ≤ p) : ∀ (m : Nat) (x : Int) (j : Nat), 0 ≤ x → j < m → (dig p m x).getD j 0 = x / p ^ j % p
  | 0, _, _, _, h => absurd h (by omega)
  | m + 1, x, 0, _, _ => by simp [dig]
  | m + 1, x, j + 1, hx, h => by
    rw [dig, List.getD_cons_succ, dig_dd hp m (x / p) j (Int.ediv_nonneg hx (by omega)) (by omega), Int.pow_succ, Int.mul_comm (p ^ j) p, Int.ediv_ediv, if_neg (by omega), Int.sub_zero]
theorem ps_congr {p : Int} {f g : Nat → Int} : ∀ n, (∀ j, j < n → f j = g j) → ps p f n = ps p g n
  | 0, _ => rfl
  | n + 1, h => by rw [ps, ps, ps_congr n (fun j hj => h j (by omega)), h n (by omega)]
theorem ps_range {p : Int} (hp : 2 ≤ p) {f : Nat → Int} (hf : ∀ j, 0 ≤ f j ∧ f j < p) : ∀ n, 0 ≤ ps p f n ∧ ps p f n < p ^ n
  | 0 => by simp [ps]
  | n + 1 => by
    have ih := ps_range hp hf n
    have h0 : 0 ≤ p ^ n := by omega
    have h1 := Int.mul_nonneg (hf n).1 h0
    have h2 : f n * p ^ n ≤ (p - 1) * p ^ n := Int.mul_le_mul_of_nonneg_right (by have := (hf n).2; omega) h0
    rw [Int.sub_mul, Int.one_mul] at h2
    rw [ps, Int.pow_succ, Int.mul_comm (p ^ n) p]
    omega
theorem ps_more {p : Int} {f : Nat → Int} {k : Nat} (h : ∀ j, k ≤ j → f j = 0) : ∀ n, k ≤ n → ps p f n = ps p f k
  | 0, hn => by
    have : k = 0 := by omega
    rw [this]
  | n + 1, hn => by
    by_cases e : k = n + 1
    · rw [e]
    · rw [ps, ps_more h n (by omega), h n (by omega), Int.zero_mul, Int.add_zero]
def da (p x y : Int) (j : Nat) : Int := (x / p ^ j % p + y / p ^ j % p) % p
def dn (p x : Int) (j : Nat) : Int := (p - x / p ^ j % p) % p
section
variable {P : FP}
theorem add_ps (x y : K P) : (x + y).1 = ps P.p (da P.p x.1 y.1) P.M := by
  show val P.p (tab P.M fun j => vadd x.v y.v j % P.p) = _
  rw [val_tab]
  refine ps_congr _ fun j hj => ?_
  simp only [vadd, K.v, vec]
  rw [dig_dd P.hp _ _ _ x.2.1 hj, dig_dd P.hp _ _ _ y.2.1 hj]
  rfl
end
theorem xor_low (a b : Nat) : a ^^^ b = 2 * ((a / 2) ^^^ (b / 2)) + (a % 2 + b % 2) % 2 := by
  have h1 : (a ^^^ b) / 2 = (a / 2) ^^^ (b / 2) := Nat.xor_div_two
  have h2 : (a ^^^ b) % 2 = (a % 2 + b % 2) % 2 := by
    have h := Nat.testBit_xor a b 0
    simp only [Nat.testBit_zero] at h
    have ha := Nat.mod_two_eq_zero_or_one a
    have hb := Nat.mod_two_eq_zero_or_one b
    have hc := Nat.mod_two_eq_zero_or_one (a ^^^ b)
    rcases ha with ha | ha <;> rcases hb with hb | hb <;> rcases hc with hc | hc <;> simp [ha, hb, hc] at h ⊢
  omega
theorem ps_low (p : Int) (f : Nat → Int) : ∀ n, ps p f (n + 1) = f 0 + p * ps p (fun j => f (j + 1)) n
  | 0 => by simp [ps]
  | n + 1 => by
    have e : f (n + 1) * (p ^ n * p) = p * (f (n + 1) * p ^ n) := by rw [Int.mul_comm (p ^ n) p, Int.mul_left_comm]
    rw [ps, ps_low p f n, ps, Int.mul_add, Int.pow_succ, Int.add_assoc, e]
theorem xor_ps : ∀ (n : Nat) (a b : Nat), a < 2 ^ n → b < 2 ^ n → ((a ^^^ b : Nat) : Int) = ps 2 (da 2 a b) n
  | 0, a, b, ha, hb => by
    have : a = 0 := by simpa using ha
    have : b = 0 := by simpa using hb
    subst a b
    rfl
  | n + 1, a, b, ha, hb => by
    have hs := xor_ps n (a / 2) (b / 2) (by rw [Nat.pow_succ] at ha; omega) (by rw [Nat.pow_succ] at hb; omega)
    have e : ps 2 (fun j => da 2 a b (j + 1)) n = ps 2 (da 2 (a / 2 : Nat) (b / 2 : Nat)) n := by
      refine ps_congr _ fun j _ => ?_
      unfold da
      rw [Int.pow_succ, Int.mul_comm (2 ^ j) 2, Int.natCast_ediv, Int.natCast_ediv, Int.ediv_ediv, if_neg (by omega), Int.sub_zero, Int.ediv_ediv, if_neg (by omega), Int.sub_zero]
      rfl
    have h0 : da 2 a b 0 = ((a % 2 + b % 2) % 2 : Nat) := by
      unfold da
      simp
    rw [ps_low, e, ← hs, h0, xor_low a b]
    omega
end Go.Fd


namespace Go.Fd
open Go.Pl Go.Alg
def upd (m : Nat) (f g : Nat → Int) (i : Int) : List Int := tab m fun t => if (t : Int) < i then f t else g t
theorem upd_length (m : Nat) (f g : Nat → Int) (i : Int) : (upd m f g i).length = m := tab_length _ _
theorem upd_zero (l : List Int) (f : Nat → Int) : upd l.length f (fun t => l.getD t 0) 0 = l := by
  conv => rhs; rw [list_tab l]
  exact tab_congr fun t _ => if_neg (by omega)
theorem upd_zero' (m : Nat) (f g : Nat → Int) : upd m f g 0 = tab m g := tab_congr fun t _ => if_neg (by omega)
theorem upd_last (m : Nat) (f g : Nat → Int) {i : Int} (h : (m : Int) ≤ i) : upd m f g i = tab m f := tab_congr fun t ht => if_pos (by omega)
theorem upd_get {m : Nat} {f g : Nat → Int} {i : Int} (h0 : 0 ≤ i) (h1 : i < m) : gi (upd m f g i) i = g i.toNat := by
  rw [upd, gi_tab h1 h0, if_neg (by omega)]
theorem upd_step {m : Nat} {f g : Nat → Int} {i : Int} (h0 : 0 ≤ i) : si (upd m f g i) i (f i.toNat) = upd m f g (i + 1) := by
  rw [upd, si_tab]
  refine tab_congr fun t _ => ?_
  by_cases e : t = i.toNat
  · rw [if_pos e, if_pos (by omega), e]
  · rw [if_neg e]
    by_cases h : (t : Int) < i
    · rw [if_pos h, if_pos (by omega)]
    · rw [if_neg h, if_neg (by omega)]
section
variable {P : FP}
theorem v_lo (x : K P) (j : Nat) (hj : j < P.M) : 0 ≤ x.v j ∧ x.v j < P.p := by
  have hl := dig_length P.p P.M x.1
  have := dig_lo P.hp P.M x.1 _ (List.getElem_mem (h := by rw [hl]; exact hj) : (dig P.p P.M x.1)[j]'(by rw [hl]; exact hj) ∈ _)
  have e : x.v j = (dig P.p P.M x.1)[j]'(by rw [hl]; exact hj) := by
    show (dig P.p P.M x.1).getD j 0 = _
    simp [hl, hj]
  rw [e]
  exact this
theorem gi_v (x : K P) {j : Int} : gi (dig P.p P.M x.1) j = x.v j.toNat := rfl
theorem pe_mstep (l : List Int) {k i j n : Nat} (hk : k = i + j) (hkn : k < n) (hkl : k < l.length) {u a b : Int} (hu : zK P u = zK P (l.getD k 0) + zK P a * zK P b) :
    pe P (fun t => (l.set k u).getD t 0) n = pe P (fun t => l.getD t 0) n + zK P a * npow (xi P) i * (zK P b * npow (xi P) j) := by
  rw [getD_set l k u hkl, pe_set _ k u n hkn, hu, add_assoc, add_comm (zK P a * zK P b), ← add_assoc, add_neg, zero_add, hk, npow_add]
  congr 1
  rw [mul_assoc, mul_assoc, mul_left_comm (zK P b)]
theorem pe_red (l : List Int) {i m : Nat} {t : Int} {Z : K P} (hi : i = m + P.M) (ht : l.getD i 0 = t) (h : pe P (fun t => l.getD t 0) (i + 1) = Z + zK P (-t) * npow (xi P) m * pe P P.md P.M) :
    pe P (fun t => l.getD t 0) i = Z := by
  have e1 : pe P P.md P.M = -npow (xi P) P.M := by rw [xi_top, neg_neg]
  rw [pe, ht, e1, zK_neg, neg_mul, neg_mul, mul_neg, neg_neg, mul_assoc, ← npow_add, ← hi] at h
  exact add_right_cancel h
def dotK (P : FP) : List Int → List Int → K P
  | x :: a, y :: b => inK P x * inK P y + dotK P a b
  | _, _ => 0
end
end Go.Fd


namespace Go.Fd
open Go.Pl Go.Alg
section
variable {P : FP}
instance decK (P : FP) : DecidableEq (K P) := fun x y => if h : x.1 = y.1 then isTrue (Subtype.ext h) else isFalse (fun e => h (by rw [e]))
theorem pow_n1 {g : K P} (hg : HasOrder g (n1 P)) {x : K P} (hx : x ≠ 0) : npow x (n1 P) = 1 := by
  obtain ⟨i, _, rfl⟩ := gen_all hg x hx
  rw [← npow_mul, Nat.mul_comm, npow_mul, hg.2.1, one_npow]
def powA (P : FP) (x : K P) (n : Int) : K P × Int := if n = 0 then (1, 0) else if x = 0 then (0, if n < 0 then 7 else 0) else (npow x (n % n1 P).toNat, 0)
def invK (P : FP) (x : K P) : K P := npow x (n1 P - 1)
theorem mul_invK {g : K P} (hg : HasOrder g (n1 P)) {x : K P} (hx : x ≠ 0) : x * invK P x = 1 := by
  have h := pow_n1 hg hx
  have h1 := n1_pos (P := P)
  rw [invK, mul_comm, ← npow_succ, show n1 P - 1 + 1 = n1 P by omega, h]
theorem inv_uniq {x y z : K P} (hy : x * y = 1) (hz : x * z = 1) : y = z := by
  rw [← mul_one y, ← hz, ← mul_assoc, mul_comm y x, hy, one_mul]
end
end Go.Fd

