/-
  Words over the ring of residues: cleaned words, sums entry by entry, supports and distances. No program in sight.
-/
import Derived.Test.YtlcokneidokfnaaUpd
namespace Go.Fd
open Go.Pl Go.Alg
section
variable {P : FP}
instance (P : FP) : DecidableEq (K P) := fun x y => if h : x.1 = y.1 then isTrue (Subtype.ext h) else isFalse (fun e => h (by rw [e]))
/-- Entry t of a list as a residue. -/
def kt (P : FP) (l : List Int) (t : Nat) : K P := inK P (l.getD t 0)
def clean (P : FP) (l : List Int) : List Int := tab l.length fun t => (kt P l t).1
theorem clean_length (l : List Int) : (clean P l).length = l.length := tab_length _ _
theorem getD_tab {m : Nat} {f : Nat → Int} {t : Nat} (h : t < m) : (tab m f).getD t 0 = f t := by simp [tab_get h]
theorem kt_gi (l : List Int) {i : Int} : inK P (gi l i) = kt P l i.toNat := rfl
theorem kt_tab {m : Nat} {f : Nat → K P} {t : Nat} (h : t < m) : kt P (tab m fun t => (f t).1) t = f t := by rw [kt, getD_tab h, inK_val]
theorem kt_clean {l : List Int} {t : Nat} (h : t < l.length) : kt P (clean P l) t = kt P l t := kt_tab h
theorem clean_get {l : List Int} {i : Int} (h0 : 0 ≤ i) (h1 : i < l.length) : gi (clean P l) i = (kt P l i.toNat).1 := gi_tab h1 h0
theorem clean_clean (l : List Int) : clean P (clean P l) = clean P l := by
  unfold clean
  rw [tab_length]
  exact tab_congr fun t ht => by rw [kt_tab ht]
theorem upd_skip {m : Nat} {f g : Nat → Int} {i : Int} (h0 : 0 ≤ i) (h : f i.toNat = g i.toNat) : upd m f g i = upd m f g (i + 1) := by
  refine tab_congr fun t _ => ?_
  by_cases e : t = i.toNat
  · rw [if_neg (by omega), if_pos (by omega), e, h]
  · by_cases h : (t : Int) < i
    · rw [if_pos h, if_pos (by omega)]
    · rw [if_neg h, if_neg (by omega)]

/-- The positions below n at which c is not 0. -/
def supN (c : List Int) : Nat → List Int
  | 0 => []
  | n + 1 => if c.getD n 0 = 0 then supN c n else supN c n ++ [(n : Int)]
def cnt (p : Nat → Bool) : Nat → Nat
  | 0 => 0
  | n + 1 => cnt p n + if p n then 1 else 0
theorem cnt_le (p : Nat → Bool) : ∀ n, cnt p n ≤ n
  | 0 => Nat.le_refl _
  | n + 1 => by
    have := cnt_le p n
    rw [cnt]
    split <;> omega
theorem cnt_congr {p q : Nat → Bool} : ∀ n, (∀ t, t < n → p t = q t) → cnt p n = cnt q n
  | 0, _ => rfl
  | n + 1, h => by rw [cnt, cnt, cnt_congr n (fun t ht => h t (by omega)), h n (by omega)]
theorem cnt_zero {p : Nat → Bool} : ∀ n, cnt p n = 0 ↔ ∀ t, t < n → p t = false
  | 0 => by simp [cnt]
  | n + 1 => by
    have ih := cnt_zero (p := p) n
    rw [cnt]
    constructor
    · intro h t ht
      have h1 : cnt p n = 0 := by omega
      by_cases e : t = n
      · subst e
        cases hp : p t
        · rfl
        · rw [hp] at h; simp at h
      · exact ih.1 h1 t (by omega)
    · intro h
      rw [ih.2 (fun t ht => h t (by omega)), h n (by omega)]
      rfl
theorem cnt_tri {p q r : Nat → Bool} : ∀ n, (∀ t, t < n → p t = true → q t = true ∨ r t = true) → cnt p n ≤ cnt q n + cnt r n
  | 0, _ => by simp [cnt]
  | n + 1, h => by
    have ih := cnt_tri n (fun t ht => h t (by omega))
    have hn := h n (by omega)
    rw [cnt, cnt, cnt]
    cases hp : p n
    · simp; omega
    · rcases hn hp with h1 | h1 <;> rw [h1] <;> simp <;> omega
theorem supN_length (c : List Int) : ∀ n, (supN c n).length = cnt (fun t => decide (c.getD t 0 ≠ 0)) n
  | 0 => rfl
  | n + 1 => by
    rw [supN, cnt]
    by_cases h : c.getD n 0 = 0
    · rw [if_pos h, supN_length c n, if_neg (by simp only [ne_eq, decide_eq_true_eq]; exact fun hn => hn h)]; rfl
    · rw [if_neg h, List.length_append, supN_length c n, if_pos (by simp only [ne_eq, decide_eq_true_eq]; exact h)]; rfl
theorem supN_succ (c : List Int) {i : Int} (h0 : 0 ≤ i) : supN c (i + 1).toNat = if gi c i = 0 then supN c i.toNat else supN c i.toNat ++ [i] := by
  rw [show (i + 1).toNat = i.toNat + 1 by omega, supN, show ((i.toNat : Nat) : Int) = i by omega]
  rfl
/-- The positions of the entries that are not 0 when cleaned, and their number. -/
def sup (P : FP) (l : List Int) : List Int := supN (clean P l) l.length
def wgt (P : FP) (l : List Int) : Nat := cnt (fun t => decide (kt P l t ≠ 0)) l.length
theorem sup_length (l : List Int) : (sup P l).length = wgt P l := by
  rw [sup, supN_length, wgt]
  refine cnt_congr _ fun t ht => ?_
  rw [clean, getD_tab ht, decide_eq_decide]
  exact not_congr ⟨fun h => Subtype.ext h, fun h => by rw [h]; rfl⟩
/-- The entries of two lists, put together. -/
def pw (P : FP) (f : K P → K P → K P) (a b : List Int) : List Int := tab a.length fun t => (f (kt P a t) (kt P b t)).1
theorem pw_length (f : K P → K P → K P) (a b : List Int) : (pw P f a b).length = a.length := tab_length _ _
theorem kt_pw {f : K P → K P → K P} {a b : List Int} {t : Nat} (h : t < a.length) : kt P (pw P f a b) t = f (kt P a t) (kt P b t) := kt_tab h
def pwA (P : FP) (f : K P → K P → K P) (a b : List Int) : List Int × Int := if a.length = b.length then (pw P f a b, 0) else ([], 4)
theorem sub_add (x y : K P) : x + y + -y = x := by rw [add_assoc, add_neg, add_zero]
theorem sub_eq_zero (x y : K P) : x + -y = 0 ↔ x = y := ⟨eq_of_add_neg, fun h => by rw [h, add_neg]⟩
theorem pw_back {a b : List Int} (h : a.length = b.length) : pw P (fun x y => x + -y) (pw P (fun x y => x + y) a b) b = clean P a := by
  unfold pw clean
  rw [tab_length]
  refine tab_congr fun t ht => ?_
  rw [kt_tab ht]
  show (kt P a t + kt P b t + -kt P b t).1 = _
  rw [sub_add]
/-- The number of positions at which the cleaned entries differ. -/
def dst (P : FP) (a b : List Int) : Nat := cnt (fun t => decide (kt P a t ≠ kt P b t)) a.length
theorem wgt_sub {a b : List Int} : wgt P (pw P (fun x y => x + -y) a b) = dst P a b := by
  rw [wgt, dst, pw_length]
  refine cnt_congr _ fun t ht => ?_
  rw [kt_pw ht, decide_eq_decide]
  exact not_congr (sub_eq_zero _ _)
theorem dst_comm {a b : List Int} (h : a.length = b.length) : dst P a b = dst P b a := by
  rw [dst, dst, h]
  refine cnt_congr _ fun t _ => ?_
  rw [decide_eq_decide]
  exact not_congr ⟨Eq.symm, Eq.symm⟩
theorem dst_tri {a b c : List Int} (h : a.length = b.length) : dst P a c ≤ dst P a b + dst P b c := by
  rw [dst, dst, dst, ← h]
  refine cnt_tri _ fun t _ hp => ?_
  simp only [ne_eq, decide_eq_true_eq] at hp ⊢
  by_cases e : kt P a t = kt P b t
  · exact .inr fun e2 => hp (e.trans e2)
  · exact .inl e
theorem dst_zero {a b : List Int} (h : a.length = b.length) : dst P a b = 0 ↔ clean P a = clean P b := by
  rw [dst, cnt_zero]
  constructor
  · intro hz
    unfold clean
    rw [← h]
    refine tab_congr fun t ht => ?_
    have := hz t ht
    simp only [ne_eq, decide_eq_false_iff_not, Decidable.not_not] at this
    rw [this]
  · intro e t ht
    have h1 := kt_clean (P := P) (l := a) ht
    have h2 := kt_clean (P := P) (l := b) (t := t) (by omega)
    simp only [ne_eq, decide_eq_false_iff_not, Decidable.not_not]
    rw [← h1, ← h2, e]

/-! The inner product. -/
theorem dotK_comm : ∀ a b : List Int, dotK P a b = dotK P b a
  | [], [] => rfl
  | [], _ :: _ => rfl
  | _ :: _, [] => rfl
  | x :: a, y :: b => by rw [dotK, dotK, mul_comm, dotK_comm a b]
theorem tab_cons {α : Type} (n : Nat) (f : Nat → α) : tab (n + 1) f = f 0 :: tab n fun t => f (t + 1) := by
  simp [tab, List.range_succ_eq_map]
theorem pw_cons (f : K P → K P → K P) (x y : Int) (a b : List Int) : pw P f (x :: a) (y :: b) = (f (inK P x) (inK P y)).1 :: pw P f a b := by
  rw [pw, List.length_cons, tab_cons]
  rfl
theorem dotK_add : ∀ a b c : List Int, a.length = b.length → dotK P (pw P (fun x y => x + y) a b) c = dotK P a c + dotK P b c
  | [], [], c, _ => by
    cases c <;> (show (0 : K P) = 0 + 0; rw [add_zero])
  | x :: a, y :: b, [], _ => by
    rw [pw_cons]
    show (0 : K P) = 0 + 0
    rw [add_zero]
  | x :: a, y :: b, z :: c, h => by
    simp only [List.length_cons, Nat.add_right_cancel_iff] at h
    rw [pw_cons, dotK, dotK, dotK, dotK_add a b c h, inK_val, add_mul, add_assoc, add_assoc, add_left_comm (inK P y * inK P z)]
end
end Go.Fd
