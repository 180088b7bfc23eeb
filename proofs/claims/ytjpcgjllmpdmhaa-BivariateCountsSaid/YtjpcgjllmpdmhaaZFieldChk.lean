/-
  A description of a field is right, by the reference's check, just if some residue has the greatest order. No program in sight.
-/
import Derived.Test.YtjpcgjllmpdmhaaZFieldData
namespace Go.Fd
open Go.Pl Go.Alg

/-- P, M and the entries of Mod are in range. -/
def Shp (p M : Int) (md : List Int) : Prop := 2 ≤ p ∧ 1 ≤ M ∧ M ≤ 8 ∧ p ^ M.toNat ≤ 256 ∧ primeN p.toNat = true ∧ (M = 1 → md = []) ∧ (M ≠ 1 → (md.length : Int) = M ∧ Lo p md)
def fpOf (p M : Int) (md : List Int) (hp : 2 ≤ p) (hM : 1 ≤ M) : FP := ⟨p, M.toNat, fun j => md.getD j 0, hp, by omega⟩
theorem Shp.one {p M : Int} {md : List Int} (h : Shp p M md) (hM : M = 1) : ∃ x : K (fpOf p M md h.1 h.2.1), HasOrder x (n1 (fpOf p M md h.1 h.2.1)) := by
  obtain ⟨h1, h2, h3, h4, h5, h6, h7⟩ := h
  have hmd := h6 hM
  subst hM hmd
  have h4 : p ≤ 256 := by
    rw [show (1 : Int).toNat = 1 from rfl, Int.pow_succ, Int.pow_zero, Int.one_mul] at h4
    exact h4
  have ha := List.all_eq_true.1 all_primes p.toNat (List.mem_range.2 (by omega))
  simp only [h5, Bool.not_true, Bool.false_or, List.any_eq_true] at ha
  obtain ⟨⟨q, g, rs⟩, hm, he⟩ := ha
  have he : q = p.toNat := by simpa using he
  subst he
  have ho := List.all_eq_true.1 ok_primes _ hm
  refine ordOK_spec (p := p.toNat) (md := [0]) ⟨?_, rfl, ?_⟩ ho
  · show p = _
    omega
  · intro j hj
    have : j = 0 := by simpa using hj
    subst this
    simp [fpOf, vecN]
theorem Shp.more {p M : Int} {md : List Int} (h : Shp p M md) (hM : M ≠ 1) :
    (irr md p = true ∧ ∃ x : K (fpOf p M md h.1 h.2.1), HasOrder x (n1 (fpOf p M md h.1 h.2.1))) ∨ (irr md p = false ∧ ∀ x : K (fpOf p M md h.1 h.2.1), ¬ HasOrder x (n1 (fpOf p M md h.1 h.2.1))) := by
  obtain ⟨h1, h2, h3, h4, h5, h6, h7⟩ := h
  obtain ⟨hl, hlo⟩ := h7 hM
  have hp : ((p.toNat : Nat) : Int) = p := by omega
  have hMl : M.toNat = md.length := by omega
  have h4' : p.toNat ^ M.toNat ≤ 256 := by
    have e : ((p.toNat ^ M.toNat : Nat) : Int) = p ^ M.toNat := by rw [Int.natCast_pow, hp]
    omega
  obtain ⟨rs, hs, hok⟩ := shape_ok h5 (by omega) (by omega) h4'
  have hv := val_range h1 md hlo
  have hvn : (((val p md).toNat : Nat) : Int) = val p md := by omega
  have hlt : (val p md).toNat < p.toNat ^ M.toNat := by
    have e : ((p.toNat ^ M.toNat : Nat) : Int) = p ^ M.toNat := by rw [Int.natCast_pow, hp]
    rw [hMl] at e ⊢
    omega
  obtain ⟨a, b, hab⟩ := allOK_spec hok hlt
  have hdig : dig (p.toNat : Int) M.toNat ((val p md).toNat : Int) = md := by rw [hp, hvn, hMl]; exact dig_val h1 md hlo
  have hF : Fits (fpOf p M md h1 h2) p.toNat (digN p.toNat M.toNat (val p md).toNat) := by
    refine ⟨by show p = _; omega, by rw [digN_len]; rfl, fun j hj => ?_⟩
    have e := digN_dig p.toNat M.toNat (val p md).toNat
    rw [hdig] at e
    show md.getD j 0 = _
    have e2 : ∀ ds : List Nat, ds.map Int.ofNat = md → md.getD j 0 = vecN ds j := by
      rintro ds rfl
      unfold vecN
      simp only [List.getD_eq_getElem?_getD, List.getElem?_map]
      cases ds[j]? <;> simp
    exact e2 _ e
  unfold chk at hab
  by_cases h0 : a = 0
  · rw [if_pos h0, hdig, hp, Bool.and_eq_true] at hab
    exact .inl ⟨hab.1, ordOK_spec hF hab.2⟩
  · rw [if_neg h0] at hab
    have := div_zero hF hab
    rw [hdig, hp] at this
    exact .inr this
/-- The description is right. -/
def OkF (p M : Int) (md : List Int) : Prop := Shp p M md ∧ (M = 1 ∨ irr md p = true)
theorem OkF.gen {p M : Int} {md : List Int} (h : OkF p M md) : ∃ x : K (fpOf p M md h.1.1 h.1.2.1), HasOrder x (n1 (fpOf p M md h.1.1 h.1.2.1)) := by
  by_cases hM : M = 1
  · exact h.1.one hM
  · rcases h.1.more hM with h' | h'
    · exact h'.2
    · rcases h.2 with e | e
      · exact absurd e hM
      · rw [h'.1] at e; cases e
theorem OkF.of_gen {p M : Int} {md : List Int} (h : Shp p M md) {x : K (fpOf p M md h.1 h.2.1)} (hx : HasOrder x (n1 (fpOf p M md h.1 h.2.1))) : OkF p M md := by
  by_cases hM : M = 1
  · exact ⟨h, .inl hM⟩
  · rcases h.more hM with h' | h'
    · exact ⟨h, .inr h'.1⟩
    · exact absurd hx (h'.2 x)
end Go.Fd
