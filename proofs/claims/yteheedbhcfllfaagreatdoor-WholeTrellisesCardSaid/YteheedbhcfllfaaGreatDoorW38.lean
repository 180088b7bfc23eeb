import Derived.Test.YteheedbhcfllfaaGreatDoorW36
import Derived.Test.YteheedbhcfllfaaGreatDoorW37
import Derived.Test.YteheedbhcfllfaaGreatDoorW26
import Derived.Test.YteheedbhcfllfaaGreatDoorW00
import Derived.Test.YteheedbhcfllfaaGreatDoorW08
import Derived.Test.YteheedbhcfllfaaGreatDoorW10
namespace Go.Fd
open Go.Pl Go.Alg Go.Proofs.YteheedbhcfllfaaGreatDoor
variable {P : FP}
theorem cv_sub {v row : List Int} {x : Int} {j : Nat} (hj : j < v.length) : inK P (gi (Ml.subRow (opsP P) v x row) j) = inK P (gi v j) + -(inK P x * inK P (gi row j)) := by
 rw [Ml.subRow, Zw (by omega) (by omega), Int.toNat_natCast]
 simp only [opsP, Zq]
theorem cv_scale {v : List Int} {a : Int} {j : Nat} (hj : j < v.length) : inK P (gi (Ml.scaleR (opsP P) a v) j) = inK P a * inK P (gi v j) := by
 rw [Ml.scaleR, Zw (by omega) (by omega), Int.toNat_natCast]
 simp only [opsP, Zq]
theorem cv_step {R : List (List Int)} {ps : List Nat} {v : List Int} {i j : Nat} (hj : j < v.length) : inK P (gi (Ml.redStep (opsP P) R ps v i) j) = inK P (gi v j) + -(inK P (gi v (ps.getD i 0 : Nat)) * kM P R i j) := by
 unfold Ml.redStep
 split
 ·rename_i h
  rw [h, inK0, zero_mul, Km, add_zero]
 ·exact cv_sub hj
structure Bas (P : FP) (k : Nat) (R : List (List Int)) (ps : List Nat) : Prop where
 len : ps.length = R.length
 rl : Ml.RL k R
 lt : ∀ t, t < R.length → ps.getD t 0 < k
 one : ∀ t, t < R.length → kM P R t (ps.getD t 0) = 1
 zero : ∀ s t, s < t → t < R.length → kM P R t (ps.getD s 0) = 0
theorem Bas.nil (k : Nat) : Bas P k [] [] := ⟨rfl, fun l hl => by (cases hl), fun t ht => by (cases ht), fun t ht => by (cases ht), fun s t _ ht => by (cases ht)⟩
theorem Bas.fold {k : Nat} {R : List (List Int)} {ps : List Nat} (h : Bas P k R ps) {v : List Int} (hv : v.length = k) : ∀ i, i ≤ R.length →
  ∃ c : Nat → K P, (∀ j, j < k → inK P (gi (Ml.redFold (opsP P) R ps v i) j) = inK P (gi v j) + sm i fun t => c t * kM P R t j) ∧ ∀ s, s < i → inK P (gi (Ml.redFold (opsP P) R ps v i) (ps.getD s 0 : Nat)) = 0
 | 0, _ => ⟨fun _ => 0, fun j _ => by rw [show sm 0 (fun t => (0 : K P) * kM P R t j) = 0 from rfl, add_zero]; rfl, fun s hs => by (cases hs)⟩
 | i + 1, hi => by
  obtain ⟨c, h1, h2⟩ := Bas.fold h hv i (by omega)
  have hl : (Ml.redFold (opsP P) R ps v i).length = k := by rw [Ml.redFold_length, hv]
  have hst : ∀ j, j < k → inK P (gi (Ml.redFold (opsP P) R ps v (i + 1)) j) = inK P (gi (Ml.redFold (opsP P) R ps v i) j) + -(inK P (gi (Ml.redFold (opsP P) R ps v i) (ps.getD i 0 : Nat)) * kM P R i j) := fun j hj => by
   rw [Ml.redFold_succ]
   exact cv_step (by omega)
  refine ⟨fun t => if t = i then -(inK P (gi (Ml.redFold (opsP P) R ps v i) (ps.getD i 0 : Nat))) else c t, fun j hj => ?_, fun s hs => ?_⟩
  ·rw [hst j hj, h1 j hj]
   show _ = _ + (sm i _ + _)
   dsimp only
   rw [if_pos rfl, neg_mul, add_assoc]
   congr 2
   exact QO fun t ht => by rw [if_neg (by omega)]
  ·have hps := h.lt s (by omega)
   rw [hst _ hps]
   by_cases e : s = i
   ·rw [e, h.one i (by omega), mul_one, Jw]
   ·rw [h2 s (by omega), h.zero s i (by omega) (by omega), mul_zero, Km, add_zero]
theorem QbM {R : List (List Int)} {x : List Int} {t j : Nat} (h : t < R.length) : kM P (R ++ [x]) t j = kM P R t j := by
 rw [kM, kM]
 congr 2
 simp [Ml.rw, List.getD_eq_getElem?_getD, List.getElem?_append_left h]
theorem Qa5 {R : List (List Int)} {x : List Int} {j : Nat} : kM P (R ++ [x]) R.length j = inK P (gi x j) := by
 rw [kM]
 congr 2
 simp [Ml.rw, List.getD_eq_getElem?_getD]
theorem Bas.ind {k : Nat} {R : List (List Int)} {ps : List Nat} (h : Bas P k R ps) : Ind R.length k (kM P R) := by
 intro x hx i
 induction i using Nat.strongRecOn with
 | _ i ih =>
  intro hi
  have h0 := hx _ (h.lt i hi)
  rw [Qbv hi (fun t ht hne => by
   rcases Nat.lt_or_gt_of_ne hne with e | e
   ·rw [ih t e ht, zero_mul]
   ·rw [h.zero i t e ht, mul_zero]), h.one i hi, mul_one] at h0
  exact h0
theorem lead_none {v : List Int} (h : Ml.lead v = none) {j : Nat} (hj : j < v.length) : gi v j = 0 := by
 have := List.findIdx?_eq_none_iff.1 h (v[j]) (List.getElem_mem _)
 rw [XJ hj]
 simpa using this
theorem Bas.add (hgen : ∃ g : K P, HasOrder g (n1 P)) {k : Nat} {R : List (List Int)} {ps : List Nat} (h : Bas P k R ps) {v : List Int} (hv : v.length = k) (hin : InR P v) {m : Nat} {C : Nat → Nat → K P} (hs : ∀ t, t < R.length → Sp m k C (kM P R t)) (hC : ∀ j, j < k → C m j = inK P (gi v j)) :
  Bas P k (Ml.basAdd (opsP P) R ps v).1 (Ml.basAdd (opsP P) R ps v).2.1 ∧ (∀ t, t < (Ml.basAdd (opsP P) R ps v).1.length → Sp (m + 1) k C (kM P (Ml.basAdd (opsP P) R ps v).1 t)) ∧
   (∀ u, Sp R.length k (kM P R) u → Sp (Ml.basAdd (opsP P) R ps v).1.length k (kM P (Ml.basAdd (opsP P) R ps v).1) u) ∧ Sp (Ml.basAdd (opsP P) R ps v).1.length k (kM P (Ml.basAdd (opsP P) R ps v).1) (C m) ∧
   (Ml.basAdd (opsP P) R ps v).1.length = R.length + (if (Ml.basAdd (opsP P) R ps v).2.2 then 1 else 0) := by
 obtain ⟨c, h1, h2⟩ := h.fold hv R.length (Nat.le_refl _)
 have hrl : (Ml.redFold (opsP P) R ps v R.length).length = k := by rw [Ml.redFold_length, hv]
 have hvr : ∀ j, j < k → C m j = inK P (gi (Ml.redFold (opsP P) R ps v R.length) j) + sm R.length fun t => -(c t) * kM P R t j := fun j hj => by
  rw [h1 j hj, hC j hj, add_assoc, ← XU]
  rw [Jd (fun t _ => by rw [neg_mul, Jw]), add_zero]
 rcases Ml.basAdd_cases (o := opsP P) R ps v with ⟨e, eq⟩ | ⟨p, e, eq⟩
 ·rw [eq]
  dsimp only
  refine ⟨h, fun t ht => (hs t ht).more (Nat.le_succ _), fun u hu => hu, ⟨fun t => -(c t), fun j hj => ?_⟩, by simp⟩
  rw [hvr j hj, lead_none (v := Ml.redFold (opsP P) R ps v R.length) e (by omega), inK0, zero_add]
 ·obtain ⟨hp1, hp2⟩ := Ml.lead_some e
  have hp1 : p < k := by rw [← hrl]; exact hp1
  have hinr := InR.redFold (R := R) (ps := ps) hin R.length
  have hpr := InR.get hinr (k := (p : Int)) (by omega) (by rw [hrl]; omega)
  have hne : inK P (gi (Ml.redFold (opsP P) R ps v R.length) p) ≠ 0 := inK_ne hpr hp2
  obtain ⟨g, hg⟩ := hgen
  have hmul := JR hg hne
  have hiv : inK P ((opsP P).iv (gi (Ml.redV (opsP P) R ps v) p)) = invK P (inK P (gi (Ml.redFold (opsP P) R ps v R.length) p)) := by
   show inK P (if inK P (gi (Ml.redFold (opsP P) R ps v R.length) p) = 0 then 1 else (invK P (inK P (gi (Ml.redFold (opsP P) R ps v R.length) p))).1) = _
   rw [if_neg hne, Zq]
  have hnew : ∀ j, j < k → inK P (gi (Ml.scaleR (opsP P) ((opsP P).iv (gi (Ml.redV (opsP P) R ps v) p)) (Ml.redV (opsP P) R ps v)) j) = invK P (inK P (gi (Ml.redFold (opsP P) R ps v R.length) p)) * inK P (gi (Ml.redFold (opsP P) R ps v R.length) j) := fun j hj => by
   rw [cv_scale (by rw [Ml.redV, hrl]; exact hj), hiv, Ml.redV]
  rw [eq]
  dsimp only
  generalize hx : Ml.scaleR (opsP P) ((opsP P).iv (gi (Ml.redV (opsP P) R ps v) p)) (Ml.redV (opsP P) R ps v) = x at hnew
  have hxl : x.length = k := by rw [← hx, Ml.scaleR_length, Ml.redV, hrl]
  have hlen : (R ++ [x]).length = R.length + 1 := by simp
  have hpg : ∀ t, t < R.length → (ps ++ [p]).getD t 0 = ps.getD t 0 := fun t ht => by
   simp [List.getD_eq_getElem?_getD, List.getElem?_append_left (show t < ps.length by rw [h.len]; exact ht)]
  have hpl : (ps ++ [p]).getD R.length 0 = p := by
   rw [← h.len]; simp [List.getD_eq_getElem?_getD]
  have hlastSp : Sp (m + 1) k C (kM P (R ++ [x]) R.length) := by
   refine ((((Sp.row (M := C) (i := m) (Nat.lt_succ_self m)).add ((Sp.sum c R.length (fun t ht => (hs t ht).more (Nat.le_succ m)))))).smul (invK P (inK P (gi (Ml.redFold (opsP P) R ps v R.length) p)))).congr fun j hj => ?_
   rw [Qa5, hnew j hj, h1 j hj, hC j hj]
  refine ⟨⟨by simp [h.len], fun l hl => ?_, fun t ht => ?_, fun t ht => ?_, fun s t hst ht => ?_⟩, fun t ht => ?_, fun u hu => ?_, ?_, by simp⟩
  ·rcases List.mem_append.1 hl with hm | hm
   ·exact h.rl l hm
   ·rw [List.mem_singleton.1 hm]; exact hxl
  ·by_cases et : t < R.length
   ·rw [hpg t et]; exact h.lt t et
   ·obtain rfl : t = R.length := by omega
    rw [hpl]; exact hp1
  ·by_cases et : t < R.length
   ·rw [hpg t et, QbM et]; exact h.one t et
   ·obtain rfl : t = R.length := by omega
    rw [hpl, Qa5, hnew p hp1, mul_comm]; exact hmul
  ·by_cases et : t < R.length
   ·rw [hpg s (by omega), QbM et]; exact h.zero s t hst et
   ·obtain rfl : t = R.length := by omega
    rw [hpg s hst, Qa5, hnew _ (h.lt s hst), h2 s hst, mul_zero]
  ·by_cases et : t < R.length
   ·exact ((hs t et).more (Nat.le_succ _)).congr fun j hj => QbM et
   ·obtain rfl : t = R.length := by omega
    exact hlastSp
  ·rw [hlen]
   refine hu.trans fun t ht => ?_
   exact (Sp.row (M := kM P (R ++ [x])) (i := t) (by omega)).congr fun j hj => (QbM ht).symm
  ·rw [hlen]
   have ha : Sp (R.length + 1) k (kM P (R ++ [x])) (fun j => sm R.length fun t => -(c t) * kM P R t j) := Sp.sum (fun t => -(c t)) R.length fun t ht => (Sp.row (M := kM P (R ++ [x])) (i := t) (by omega)).congr fun j hj => (QbM ht).symm
   have hb := (Sp.row (m := R.length + 1) (n := k) (M := kM P (R ++ [x])) (i := R.length) (by omega)).smul (inK P (gi (Ml.redFold (opsP P) R ps v R.length) p))
   refine (hb.add ha).congr fun j hj => ?_
   rw [hvr j hj, Qa5, hnew j hj, ← mul_assoc, hmul, one_mul]
noncomputable def cvec (P : FP) (L : List (List Int)) (i : Int) : Nat → K P := fun r => inK P (gi (Ml.rw L r) i)
theorem colM_get {L : List (List Int)} {i : Int} {j : Nat} (hj : j < L.length) : gi (Ml.colM L i) j = gi (Ml.rw L j) i := by
 simp [gi, Ml.colM, Ml.rw, List.getD_eq_getElem?_getD, hj]
theorem Qan (hgen : ∃ g : K P, HasOrder g (n1 P)) {L : List (List Int)} {n : Nat} (hr : Ml.RL n L) (hin : ∀ l ∈ L, InR P l) {l : List Int} (hl : ∀ x ∈ l, 0 ≤ x ∧ x < (n : Int)) : ∀ i, i ≤ l.length →
  ∃ R ps, Ml.greedyM (opsP P) L (l.take i) = (R, ps, (Ml.greedyM (opsP P) L (l.take i)).2.2) ∧ (Ml.greedyM (opsP P) L (l.take i)).2.2.length = R.length ∧ Bas P L.length R ps ∧ (∀ t, t < R.length → Sp i L.length (fun j => cvec P L (gi l j)) (kM P R t)) ∧ ∀ j, j < i → Sp R.length L.length (kM P R) (cvec P L (gi l j))
 | 0, _ => ⟨[], [], rfl, rfl, Bas.nil _, fun t ht => by (cases ht), fun j hj => by (cases hj)⟩
 | i + 1, hi => by
  obtain ⟨R, ps, e, hlen, hb, h1, h2⟩ := Qan hgen hr hin hl i (by omega)
  have hst := Ml.greedyM_step (o := opsP P) (G := L) (l := l) (i := i) (by omega)
  have hgi : gi l i = l[i]'(by omega) := XJ (by omega)
  have hgb := hl (gi l i) (by rw [hgi]; exact List.getElem_mem _)
  obtain ⟨q, hq⟩ : ∃ q : Nat, gi l i = q := ⟨(gi l i).toNat, by omega⟩
  obtain ⟨a1, a2, a3, a4, a5⟩ := hb.add hgen (v := Ml.colM L (gi l i)) Ml.colM_length (by rw [hq]; exact InR.col hin hr (by omega)) (m := i) (C := fun j => cvec P L (gi l j)) h1 (fun j hj => by rw [colM_get hj]; rfl)
  rw [e] at hst
  unfold Ml.grStep at hst
  dsimp only at hst
  generalize (Ml.greedyM (opsP P) L (l.take i)).2.2 = ol at hst hlen
  generalize Ml.basAdd (opsP P) R ps (Ml.colM L (gi l i)) = b at hst a1 a2 a3 a4 a5
  refine ⟨b.1, b.2.1, ?_, ?_, a1, a2, fun j hj => ?_⟩
  ·rw [hst]
  ·rw [hst, a5]
   dsimp only
   split
   ·rw [List.length_append, hlen]; rfl
   ·rw [hlen]; rfl
  ·by_cases ej : j = i
   ·rw [ej]; exact a4
   ·exact a3 _ (h2 j (by omega))
theorem Kv (hgen : ∃ g : K P, HasOrder g (n1 P)) {L : List (List Int)} {n : Nat} (hr : Ml.RL n L) (hin : ∀ l ∈ L, InR P l) {l : List Int} (hl : ∀ x ∈ l, 0 ≤ x ∧ x < (n : Int)) :
  ∃ B : Nat → Nat → K P, Ind (Ml.rankM (opsP P) L l) L.length B ∧ (∀ t, t < Ml.rankM (opsP P) L l → Sp l.length L.length (fun j => cvec P L (gi l j)) (B t)) ∧ ∀ x ∈ l, Sp (Ml.rankM (opsP P) L l) L.length B (cvec P L x) := by
 obtain ⟨R, ps, e, hlen, hb, h1, h2⟩ := Qan hgen hr hin hl l.length (Nat.le_refl _)
 rw [List.take_length] at hlen
 have hrk : Ml.rankM (opsP P) L l = R.length := hlen
 rw [hrk]
 refine ⟨kM P R, hb.ind, h1, fun x hx => ?_⟩
 obtain ⟨t, ht, rfl⟩ := List.getElem_of_mem hx
 have := h2 t ht
 rw [XJ ht] at this
 exact this
theorem KO (hgen : ∃ g : K P, HasOrder g (n1 P)) : ∀ x : K P, x ≠ 0 → ∃ y, x * y = 1 := fun x hx => by
 obtain ⟨g, hg⟩ := hgen
 exact ⟨_, JR hg hx⟩
def ap {R : Type} [CR R] (k : Nat) (T : Nat → Nat → R) (v : Nat → R) : Nat → R := fun i => sm k fun r => T i r * v r
theorem Qdm {R : Type} [CR R] {k m : Nat} {T : Nat → Nat → R} {x : Nat → R} {f : Nat → Nat → R} {v : Nat → R} (hv : ∀ j, j < k → v j = sm m fun t => x t * f t j) (i : Nat) : ap k T v i = sm m fun t => x t * ap k T (f t) i := by
 have h1 : ap k T v i = sm k fun r => sm m fun t => x t * (T i r * f t r) := QO fun r hr => by
  rw [hv r hr, ← Ku]
  exact QO fun t _ => by rw [mul_left_comm]
 rw [h1, sm_swap (fun r t => x t * (T i r * f t r))]
 exact QO fun t _ => by rw [Ku]; rfl
theorem rank_le (hgen : ∃ g : K P, HasOrder g (n1 P)) {L L' : List (List Int)} {n n' : Nat} (hr : Ml.RL n L) (hin : ∀ l ∈ L, InR P l) (hr' : Ml.RL n' L') (hin' : ∀ l ∈ L', InR P l) {l l' : List Int} (hl : ∀ x ∈ l, 0 ≤ x ∧ x < (n : Int)) (hl' : ∀ x ∈ l', 0 ≤ x ∧ x < (n' : Int))
  {T S : Nat → Nat → K P} (hT : ∀ x ∈ l, ∃ y ∈ l', ∀ i, i < L'.length → cvec P L' y i = ap L.length T (cvec P L x) i) (hS : ∀ x ∈ l, ∀ i, i < L.length → ap L'.length S (ap L.length T (cvec P L x)) i = cvec P L x i) :
  Ml.rankM (opsP P) L l ≤ Ml.rankM (opsP P) L' l' := by
 obtain ⟨B, b1, b2, _⟩ := Kv hgen hr hin hl
 obtain ⟨B', _, _, c3⟩ := Kv hgen hr' hin' hl'
 have hmem : ∀ j, j < l.length → gi l j ∈ l := fun j hj => by rw [XJ hj]; exact List.getElem_mem _
 refine Qdt (KO hgen) (fun e => Ji e) (n := L'.length) _ _ (fun t => ap L.length T (B t)) (fun t ht => ?_) (fun x hx => ?_) (g := B')
 ·obtain ⟨y, hy⟩ := b2 t ht
  have h1 : Sp (Ml.rankM (opsP P) L' l') L'.length B' (fun i => sm l.length fun j => y j * ap L.length T (cvec P L (gi l j)) i) := Sp.sum y l.length fun j hj => by
   obtain ⟨z, hz, hz2⟩ := hT _ (hmem j hj)
   exact (c3 z hz).congr fun i hi => (hz2 i hi).symm
  exact h1.congr fun i hi => Qdm (f := fun j => cvec P L (gi l j)) hy i
 ·refine b1 x fun j hj => ?_
  have hST : ∀ t, t < Ml.rankM (opsP P) L l → ∀ i, i < L.length → ap L'.length S (ap L.length T (B t)) i = B t i := fun t ht i hi => by
   obtain ⟨y, hy⟩ := b2 t ht
   rw [Qdm (f := fun j => ap L.length T (cvec P L (gi l j))) (fun r _ => Qdm (f := fun j => cvec P L (gi l j)) hy r) i, hy i hi]
   exact QO fun j hj => by rw [hS _ (hmem j hj) i hi]
  have h2 : ap L'.length S (fun i => sm (Ml.rankM (opsP P) L l) fun t => x t * ap L.length T (B t) i) j = sm (Ml.rankM (opsP P) L l) fun t => x t * ap L'.length S (ap L.length T (B t)) j := Qdm (fun _ _ => rfl) j
  have h3 : ap L'.length S (fun i => sm (Ml.rankM (opsP P) L l) fun t => x t * ap L.length T (B t) i) j = 0 := Jd fun r hr => by
   have h4 := hx r hr
   dsimp only at h4 ⊢
   rw [h4, mul_zero]
  rw [h3] at h2
  rw [h2]
  exact QO fun t ht => by rw [hST t ht j hj]
theorem rank_rows (hgen : ∃ g : K P, HasOrder g (n1 P)) {L : List (List Int)} {n : Nat} (hr : Ml.RL n L) (hin : ∀ l ∈ L, InR P l) {l : List Int} (hl : ∀ x ∈ l, 0 ≤ x ∧ x < (n : Int)) : Ml.rankM (opsP P) L l ≤ L.length := by
 obtain ⟨B, b1, _, _⟩ := Kv hgen hr hin hl
 refine Qdt (KO hgen) (fun e => Ji e) (n := L.length) (g := fun i j => if i = j then 1 else 0) _ _ B (fun t _ => ⟨B t, fun j hj => ?_⟩) b1
 rw [Qbv hj fun i _ hne => by dsimp only; rw [if_neg hne, mul_zero]]
 dsimp only
 rw [if_pos rfl, mul_one]
end Go.Fd
namespace Go.Ml
open Go.Pl
def bitsL (n m : Nat) : List Int := ((List.range n).filter fun i => m / 2 ^ i % 2 == 1).map Int.ofNat
theorem bitsL_succ {n m : Nat} : bitsL (n + 1) m = bitsL n m ++ (if m / 2 ^ n % 2 = 1 then [(n : Int)] else []) := by
 rw [bitsL, List.range_succ, List.filter_append, List.map_append]
 congr 1
 by_cases h : m / 2 ^ n % 2 = 1
 ·simp [h]
 ·simp [h]
theorem bitsL_len (n m : Nat) : (bitsL n m).length ≤ n := by
 rw [bitsL, List.length_map]
 exact Nat.le_trans (List.length_filter_le _ _) (by rw [List.length_range]; exact Nat.le_refl _)
theorem bitsL_mem {n m : Nat} {x : Int} : x ∈ bitsL n m ↔ ∃ i : Nat, i < n ∧ m / 2 ^ i % 2 = 1 ∧ x = i := by
 rw [bitsL, List.mem_map]
 constructor
 ·rintro ⟨i, hi, rfl⟩
  rw [List.mem_filter, List.mem_range] at hi
  exact ⟨i, hi.1, by simpa using hi.2, rfl⟩
 ·rintro ⟨i, h1, h2, rfl⟩
  exact ⟨i, by rw [List.mem_filter, List.mem_range]; exact ⟨h1, by simpa using h2⟩, rfl⟩
theorem bitsL_congr {n m k : Nat} (h : ∀ i, i < n → m / 2 ^ i % 2 = k / 2 ^ i % 2) : bitsL n m = bitsL n k := by
 rw [bitsL, bitsL]
 congr 1
 exact List.filter_congr fun i hi => by rw [h i (List.mem_range.1 hi)]
def ascB (l : List Int) : Bool := (List.range l.length).all fun k => k == 0 || decide (gi l ((k : Int) - 1) < gi l k)
theorem bitsL_ascB : ∀ n : Nat, n < 8 → ∀ m : Nat, m < 128 → ascB (bitsL n m) = true := by decide +kernel
theorem compl_bits : ∀ n : Nat, n < 8 → ∀ m : Nat, m < 2 ^ n → ∀ i : Nat, i < n → (18446744073709551615 - m) / 2 ^ i % 2 = (2 ^ n - 1 - m) / 2 ^ i % 2 := by decide +kernel
section
variable (o : Ops) (L : List (List Int)) (n : Nat)
def rkM (m : Nat) : Nat := rankM o L (bitsL n m)
def dmM (m : Nat) : Int := (rkM o L n m : Int) + rkM o L n (2 ^ n - 1 - m) - L.length
def mskL (l : List Int) : Nat := l.foldl (fun m x => m ||| 2 ^ x.toNat) 0
def wdL (l : List Int) : Nat → Int
 | 0 => 0
 | i + 1 => max (wdL l i) (dmM o L n (mskL (l.take (i + 1))))
end
variable {o : Ops} {L : List (List Int)} {n : Nat}
theorem Qat : ∀ (l : List Int) (s : List (List Int) × List Nat × List Int), (l.foldl (grStep o L) s).2.2.length ≤ s.2.2.length + l.length
 | [], s => Nat.le_refl _
 | x :: l, s => by
  rw [List.foldl_cons]
  refine Nat.le_trans (Qat l _) ?_
  have : (grStep o L s x).2.2.length ≤ s.2.2.length + 1 := by
   unfold grStep
   dsimp only
   split
   ·simp
   ·exact Nat.le_succ _
  simp only [List.length_cons]
  omega
theorem rankM_le {l : List Int} : rankM o L l ≤ l.length := by
 have := Qat (o := o) (L := L) l ([], [], [])
 simpa [rankM, greedyM] using this
theorem rkM_le {m : Nat} : rkM o L n m ≤ n := Nat.le_trans rankM_le (bitsL_len n m)
theorem mskL_take {l : List Int} {i : Nat} (h : i < l.length) : mskL (l.take (i + 1)) = mskL (l.take i) ||| 2 ^ (gi l i).toNat := by
 have e : l.take (i + 1) = l.take i ++ [gi l i] := by
  rw [List.take_add_one, List.getElem?_eq_getElem h]
  simp [gi, List.getD_eq_getElem?_getD, h]
 rw [mskL, e, List.foldl_append]
 rfl
theorem KD : ∀ (l : List Int) (m : Nat), m < 2 ^ n → (∀ x ∈ l, 0 ≤ x ∧ x < (n : Int)) → l.foldl (fun m x => m ||| 2 ^ x.toNat) m < 2 ^ n
 | [], _, h, _ => h
 | x :: l, m, h, hx => by
  rw [List.foldl_cons]
  refine KD l _ (Nat.or_lt_two_pow h ?_) fun y hy => hx y (List.mem_cons_of_mem _ hy)
  have := hx x (List.mem_cons_self ..)
  exact Nat.pow_lt_pow_right (by decide) (by omega)
theorem mskL_lt {l : List Int} (hx : ∀ x ∈ l, 0 ≤ x ∧ x < (n : Int)) : mskL l < 2 ^ n := KD l 0 (Nat.pow_pos (by decide)) hx
structure OrdOk (n : Nat) (l : List Int) : Prop where
 len : l.length = n
 lo : ∀ x ∈ l, 0 ≤ x ∧ x < (n : Int)
 new : ∀ i : Nat, i < l.length → (l.take i).contains (gi l i) = false
theorem OrdOk.get {l : List Int} (h : OrdOk n l) {i : Nat} (hi : i < l.length) : 0 ≤ gi l i ∧ gi l i < (n : Int) := by
 have e : gi l i = l[i] := by simp [gi, List.getD_eq_getElem?_getD, hi]
 rw [e]
 exact h.lo _ (List.getElem_mem _)
theorem OrdOk.take_lt {l : List Int} (h : OrdOk n l) (i : Nat) : mskL (l.take i) < 2 ^ n := mskL_lt fun x hx => h.lo x (List.mem_of_mem_take hx)
end Go.Ml
namespace Go.Ml
open Go.Pl
def restN (s : Nat) : Nat → Nat
 | 0 => s
 | j + 1 => restN s j &&& (restN s j - 1)
def bitAt (s j : Nat) : Nat := (gi (bitsL 7 s) j).toNat
def lowB (r : Nat) : Nat := (BitVec.ofInt 64 (r : Int) &&& BitVec.ofInt 64 (-(r : Int))).toNat
def dropB (s b : Nat) : Nat := (BitVec.ofInt 64 (s : Int) &&& ~~~ BitVec.ofInt 64 (b : Int)).toNat
theorem rest_facts : ∀ s : Nat, s < 128 → ∀ j : Nat, j < 8 → restN s j < 128 ∧ (j < (bitsL 7 s).length → restN s j ≠ 0 ∧ lowB (restN s j) = 2 ^ bitAt s j ∧ dropB s (2 ^ bitAt s j) = s - 2 ^ bitAt s j ∧ 2 ^ bitAt s j ≤ s) ∧ (j = (bitsL 7 s).length → restN s j = 0) := by decide +kernel
theorem bits7 : ∀ n : Nat, n < 8 → ∀ s : Nat, s < 2 ^ n → bitsL 7 s = bitsL n s := by decide +kernel
theorem xor_all : ∀ n : Nat, n < 8 → ∀ s : Nat, s < 2 ^ n → (2 ^ n - 1) ^^^ s = 2 ^ n - 1 - s := by decide +kernel
def leastT (t : List Int) (n s i : Nat) : Int := ((bitsL n s).take i).foldl (fun b x => min b (gi t ((s - 2 ^ x.toNat : Nat) : Int))) n
theorem leastT_step {t : List Int} {n s i : Nat} (h : i < (bitsL n s).length) : leastT t n s (i + 1) = min (leastT t n s i) (gi t ((s - 2 ^ (gi (bitsL n s) i).toNat : Nat) : Int)) := by
 have e : (bitsL n s).take (i + 1) = (bitsL n s).take i ++ [gi (bitsL n s) i] := by
  rw [List.take_add_one, List.getElem?_eq_getElem h]
  simp [gi, List.getD_eq_getElem?_getD, h]
 rw [leastT, e, List.foldl_append]
 rfl
theorem Qau {t t' : List Int} {s : Nat} : ∀ (l : List Int) (b : Int), (∀ x ∈ l, gi t ((s - 2 ^ x.toNat : Nat) : Int) = gi t' ((s - 2 ^ x.toNat : Nat) : Int)) → l.foldl (fun b x => min b (gi t ((s - 2 ^ x.toNat : Nat) : Int))) b = l.foldl (fun b x => min b (gi t' ((s - 2 ^ x.toNat : Nat) : Int))) b
 | [], _, _ => rfl
 | x :: l, b, h => by
  rw [List.foldl_cons, List.foldl_cons, h x (List.mem_cons_self ..)]
  exact Qau l _ fun y hy => h y (List.mem_cons_of_mem _ hy)
theorem XX {t t' : List Int} {n s i : Nat} (hs : 0 < s) (h : ∀ y : Nat, y < s → gi t y = gi t' y) : leastT t n s i = leastT t' n s i :=
 Qau _ _ fun x _ => h _ (by have := Nat.pow_pos (n := x.toNat) (show 0 < 2 by decide); omega)
section
variable (o : Ops) (L : List (List Int)) (n : Nat)
def dimsL : List Int := tab (2 ^ n) fun s => if s = 0 then 0 else dmM o L n s
structure TabTo (s : Nat) (t : List Int) : Prop where
 len : t.length = 2 ^ n
 zero : gi t 0 = 0
 eq : ∀ y : Nat, 0 < y → y < s → gi t y = max (dmM o L n y) (leastT t n y (bitsL n y).length)
end
variable {o : Ops} {L : List (List Int)} {n : Nat}
theorem TabTo.set {s : Nat} {t : List Int} (h : TabTo o L n s t) (hs : 0 < s) (hs2 : s < 2 ^ n) : TabTo o L n (s + 1) (si t s (max (dmM o L n s) (leastT t n s (bitsL n s).length))) := by
 have hg : ∀ y : Nat, y ≠ s → gi (si t s (max (dmM o L n s) (leastT t n s (bitsL n s).length))) y = gi t y := fun y hy => by
  simp only [gi, si, Int.toNat_natCast, List.getD_eq_getElem?_getD]
  rw [List.getElem?_set_ne (by omega)]
 refine ⟨by rw [Zy, h.len], by rw [show (0 : Int) = ((0 : Nat) : Int) from rfl, hg 0 (by omega)]; exact h.zero, fun y h1 h2 => ?_⟩
 rw [XX (t' := t) h1 (fun z hz => hg z (by omega))]
 by_cases e : y = s
 ·subst e
  have hl := h.len
  simp only [gi, si, Int.toNat_natCast, List.getD_eq_getElem?_getD]
  rw [List.getElem?_set_self (by omega)]
  rfl
 ·rw [hg y e]
  exact h.eq y h1 (by omega)
theorem TabTo.uniq {t t' : List Int} (h : TabTo o L n (2 ^ n) t) (h' : TabTo o L n (2 ^ n) t') : t = t' := by
 have key : ∀ y : Nat, y < 2 ^ n → gi t y = gi t' y := by
  intro y
  induction y using Nat.strongRecOn with
  | _ y ih =>
   intro hy
   by_cases e : y = 0
   ·subst e
    exact h.zero.trans h'.zero.symm
   ·rw [h.eq y (by omega) hy, h'.eq y (by omega) hy, XX (by omega) fun z hz => ih z hz (by omega)]
 refine List.ext_getElem (h.len.trans h'.len.symm) fun i h1 h2 => ?_
 have := key i (by rw [← h.len]; exact h1)
 simpa [gi, List.getD_eq_getElem?_getD, h1, h2] using this
end Go.Ml
namespace Go.Ml
open Go.Pl
def bitF (n s i : Nat) : Bool := s / 2 ^ i % 2 == 1 || (s ||| 2 ^ i == s + 2 ^ i && (decide (s + 2 ^ i < 2 ^ n) && ((bitsL n (s + 2 ^ i)).length == (bitsL n s).length + 1 && (s + 2 ^ i) / 2 ^ i % 2 == 1)))
theorem bitF_all : ∀ n : Nat, n < 8 → ∀ s : Nat, s < 2 ^ n → ∀ i : Nat, i < n → bitF n s i = true := by decide +kernel
theorem bit_facts (n : Nat) (hn : n < 8) (s : Nat) (hs : s < 2 ^ n) (i : Nat) (hi : i < n) (hb : s / 2 ^ i % 2 = 0) : s ||| 2 ^ i = s + 2 ^ i ∧ s + 2 ^ i < 2 ^ n ∧ (bitsL n (s + 2 ^ i)).length = (bitsL n s).length + 1 ∧ (s + 2 ^ i) / 2 ^ i % 2 = 1 := by
 have := bitF_all n hn s hs i hi
 simp only [bitF, Bool.or_eq_true, Bool.and_eq_true, beq_iff_eq, decide_eq_true_eq] at this
 rcases this with e | ⟨h1, h2, h3, h4⟩
 ·omega
 ·exact ⟨h1, h2, h3, h4⟩
theorem bit_some : ∀ n : Nat, n < 8 → ∀ s : Nat, s < 2 ^ n → 0 < s → 0 < (bitsL n s).length := by decide +kernel
theorem bit_all : ∀ n : Nat, n < 8 → ∀ s : Nat, s < 2 ^ n → (s + 1 = 2 ^ n ↔ (bitsL n s).length = n) := by decide +kernel
theorem bit_sum : ∀ n : Nat, n < 8 → ∀ s : Nat, s < 2 ^ n → (bitsL n s).length + (bitsL n (2 ^ n - 1 - s)).length = n := by decide +kernel
theorem bit_take : ∀ n : Nat, n < 8 → ∀ s : Nat, s < 2 ^ n → ∀ i : Nat, i < n → s / 2 ^ i % 2 = 1 → 2 ^ i ≤ s ∧ (s - 2 ^ i) / 2 ^ i % 2 = 0 := by decide +kernel
theorem bitsL_zero : ∀ n : Nat, n < 8 → bitsL n 0 = [] := by decide +kernel
theorem Qb7 {m i : Nat} : m.testBit i = true ↔ m / 2 ^ i % 2 = 1 := by rw [Nat.testBit_eq_decide_div_mod_eq, decide_eq_true_eq]
theorem XW : ∀ (l : List Int) (m i : Nat), (∀ x ∈ l, 0 ≤ x) → ((l.foldl (fun m x => m ||| 2 ^ x.toNat) m).testBit i = true ↔ m.testBit i = true ∨ (i : Int) ∈ l)
 | [], m, i, _ => by simp
 | x :: l, m, i, h => by
  rw [List.foldl_cons, XW l _ i (fun y hy => h y (List.mem_cons_of_mem _ hy)), Nat.testBit_or, Nat.testBit_two_pow]
  have hx := h x (List.mem_cons_self ..)
  simp only [Bool.or_eq_true, decide_eq_true_eq, List.mem_cons]
  constructor
  ·rintro ((e | e) | e)
   ·exact .inl e
   ·exact .inr (.inl (by omega))
   ·exact .inr (.inr e)
  ·rintro (e | e | e)
   ·exact .inl (.inl e)
   ·exact .inl (.inr (by omega))
   ·exact .inr e
theorem mskL_bit {l : List Int} {i : Nat} (h : ∀ x ∈ l, 0 ≤ x) : mskL l / 2 ^ i % 2 = 1 ↔ (i : Int) ∈ l := by
 rw [← Qb7, mskL, XW l 0 i h]
 simp
theorem Jg {l : List Int} {x : Int} : l.contains x = false ↔ x ∉ l := by simp
variable {o : Ops} {L : List (List Int)} {n : Nat}
theorem OrdOk.step {l : List Int} (h : OrdOk n l) (hn : n < 8) {j : Nat} (hj : j < l.length) : ∃ x : Nat, gi l j = x ∧ x < n ∧ mskL (l.take j) / 2 ^ x % 2 = 0 ∧ mskL (l.take (j + 1)) = mskL (l.take j) + 2 ^ x := by
 have hg := h.get hj
 have hnew := Jg.1 (h.new j hj)
 have hx : gi l j = ((gi l j).toNat : Int) := by omega
 have hb : ¬ mskL (l.take j) / 2 ^ (gi l j).toNat % 2 = 1 := fun e => hnew (by
  have := (mskL_bit (fun x hx => (h.lo x (List.mem_of_mem_take hx)).1)).1 e
  rwa [← hx] at this)
 have hb0 : mskL (l.take j) / 2 ^ (gi l j).toNat % 2 = 0 := by omega
 refine ⟨(gi l j).toNat, hx, by omega, hb0, ?_⟩
 rw [mskL_take hj]
 exact (bit_facts n hn _ (h.take_lt j) _ (by omega) hb0).1
theorem OrdOk.count {l : List Int} (h : OrdOk n l) (hn : n < 8) : ∀ j, j ≤ l.length → (bitsL n (mskL (l.take j))).length = j
 | 0, _ => by
  rw [List.take_zero, mskL, List.foldl_nil, bitsL_zero n hn]; rfl
 | j + 1, hj => by
  obtain ⟨x, _, hx, hb, e⟩ := h.step hn (j := j) (by omega)
  rw [e, (bit_facts n hn _ (h.take_lt j) x hx hb).2.2.1, h.count hn j (by omega)]
theorem OrdOk.full {l : List Int} (h : OrdOk n l) (hn : n < 8) : mskL l + 1 = 2 ^ n := by
 have hc := h.count hn l.length (Nat.le_refl _)
 have hl := h.take_lt l.length
 rw [List.take_length] at hc hl
 exact (bit_all n hn _ hl).2 (by rw [hc, h.len])
theorem Xe {f : Int → Int} : ∀ (l : List Int) (b : Int), l.foldl (fun b x => min b (f x)) b ≤ b ∧ ∀ x ∈ l, l.foldl (fun b x => min b (f x)) b ≤ f x
 | [], b => ⟨Int.le_refl _, fun x hx => by cases hx⟩
 | y :: l, b => by
  rw [List.foldl_cons]
  obtain ⟨h1, h2⟩ := Xe (f := f) l (min b (f y))
  refine ⟨by omega, fun x hx => ?_⟩
  rcases List.mem_cons.1 hx with rfl | hx
  ·omega
  ·exact h2 x hx
theorem KL {f : Int → Int} {m : Int} : ∀ (l : List Int) (b : Int), m ≤ b → (∀ x ∈ l, m ≤ f x) → m ≤ l.foldl (fun b x => min b (f x)) b
 | [], b, h, _ => h
 | y :: l, b, h, hx => by
  rw [List.foldl_cons]
  have := hx y (List.mem_cons_self ..)
  exact KL l _ (by omega) fun x h' => hx x (List.mem_cons_of_mem _ h')
theorem KM {f : Int → Int} {m : Int} : ∀ (l : List Int) (b : Int), l.foldl (fun b x => min b (f x)) b ≤ m → b ≤ m ∨ ∃ x ∈ l, f x ≤ m
 | [], b, h => .inl h
 | y :: l, b, h => by
  rw [List.foldl_cons] at h
  rcases KM l _ h with e | ⟨x, hx, e⟩
  ·by_cases h2 : b ≤ m
   ·exact .inl h2
   ·exact .inr ⟨y, List.mem_cons_self .., by omega⟩
  ·exact .inr ⟨x, List.mem_cons_of_mem _ hx, e⟩
theorem Xc {t : List Int} {s : Nat} : leastT t n s (bitsL n s).length = (bitsL n s).foldl (fun b x => min b (gi t ((s - 2 ^ x.toNat : Nat) : Int))) n := by rw [leastT, List.take_length]
theorem leastT_le {t : List Int} {s x : Nat} (hx : x < n) (hb : s / 2 ^ x % 2 = 1) : leastT t n s (bitsL n s).length ≤ gi t ((s - 2 ^ x : Nat) : Int) := by
 rw [Xc]
 have := (Xe (f := fun x => gi t ((s - 2 ^ x.toNat : Nat) : Int)) (bitsL n s) n).2 x (bitsL_mem.2 ⟨x, hx, hb, rfl⟩)
 simpa using this
theorem dm_le (hn : n < 8) {s : Nat} (hs : s < 2 ^ n) : dmM o L n s ≤ n := by
 have h1 : rkM o L n s ≤ (bitsL n s).length := rankM_le
 have h2 : rkM o L n (2 ^ n - 1 - s) ≤ (bitsL n (2 ^ n - 1 - s)).length := rankM_le
 have := bit_sum n hn s hs
 unfold dmM
 omega
variable {t : List Int} (hT : TabTo o L n (2 ^ n) t)
include hT
theorem TabTo.bd (hn : n < 8) : ∀ s : Nat, s < 2 ^ n → 0 ≤ gi t s ∧ gi t s ≤ n := by
 intro s
 induction s using Nat.strongRecOn with
 | _ s ih =>
  intro hs
  by_cases e : s = 0
  ·subst e
   have := hT.zero
   rw [show ((0 : Nat) : Int) = 0 from rfl, this]
   omega
  ·have hle : ∀ x ∈ bitsL n s, 0 ≤ gi t ((s - 2 ^ x.toNat : Nat) : Int) := fun x _ => (ih _ (by have := Nat.pow_pos (n := x.toNat) (show 0 < 2 by decide); omega) (Nat.lt_of_le_of_lt (Nat.sub_le _ _) hs)).1
   have h1 := (Xe (f := fun x => gi t ((s - 2 ^ x.toNat : Nat) : Int)) (bitsL n s) n).1
   have h2 := KL (f := fun x => gi t ((s - 2 ^ x.toNat : Nat) : Int)) (m := 0) (bitsL n s) n (by omega) hle
   have h3 := dm_le (o := o) (L := L) hn hs
   rw [hT.eq s (by omega) hs, Xc]
   omega
theorem TabTo.least (hn : n < 8) {l : List Int} (h : OrdOk n l) : ∀ j, j ≤ l.length → gi t (mskL (l.take j)) ≤ wdL o L n l j
 | 0, _ => by
  rw [List.take_zero, mskL, List.foldl_nil, wdL]
  exact Int.le_of_eq hT.zero
 | j + 1, hj => by
  obtain ⟨x, _, hx, hb, e⟩ := h.step hn (j := j) (by omega)
  have ih := TabTo.least hn h j (by omega)
  have hlt := h.take_lt (j + 1)
  have hp := Nat.pow_pos (n := x) (show 0 < 2 by decide)
  have hbit := (bit_facts n hn _ (h.take_lt j) x hx hb).2.2.2
  rw [← e] at hbit
  have hle := leastT_le (t := t) hx hbit
  have hsub : mskL (l.take (j + 1)) - 2 ^ x = mskL (l.take j) := by omega
  rw [hsub] at hle
  rw [hT.eq _ (by omega) hlt, wdL]
  omega
theorem TabTo.best_le (hn : n < 8) {l : List Int} (h : OrdOk n l) : gi t ((2 ^ n - 1 : Nat) : Int) ≤ wdL o L n l l.length := by
 have := TabTo.least hT hn h l.length (Nat.le_refl _)
 have hf := h.full hn
 rw [List.take_length] at this
 rw [show 2 ^ n - 1 = mskL l by omega]
 exact this
omit hT
structure EndTo (o : Ops) (L : List (List Int)) (n : Nat) (most : Int) (k : Nat) (e : List Bool) : Prop where
 len : e.length = 2 ^ n
 hi : ∀ s, k ≤ s → s < 2 ^ n → (e.getD s false = true ↔ gi (dimsL o L n) s ≤ most ∧ (s + 1 = 2 ^ n ∨ ∃ i, i < n ∧ s / 2 ^ i % 2 = 0 ∧ e.getD (s + 2 ^ i) false = true))
 lo : ∀ s, s < k → e.getD s false = false
theorem dims_zero : gi (dimsL o L n) (0 : Nat) = 0 := by
 rw [dimsL, Zw (by have := Nat.pow_pos (n := n) (show 0 < 2 by decide); omega) (by omega)]
 rfl
theorem dims_pos {s : Nat} (h0 : 0 < s) (hs : s < 2 ^ n) : gi (dimsL o L n) s = dmM o L n s := by
 rw [dimsL, Zw (by omega) (by omega), Int.toNat_natCast, if_neg (by omega)]
include hT
theorem TabTo.dims_le (_ : n < 8) {s : Nat} (hs : s < 2 ^ n) {m : Int} (hm : 0 ≤ m) (h : gi t s ≤ m) : gi (dimsL o L n) s ≤ m := by
 by_cases e : s = 0
 ·subst e
  rw [dims_zero]; exact hm
 ·rw [dims_pos (by omega) hs]
  have := hT.eq s (by omega) hs
  omega
theorem TabTo.down (hn : n < 8) {most : Int} (hm : 0 ≤ most) {e : List Bool} (he : EndTo o L n most 0 e) : ∀ s : Nat, s < 2 ^ n → gi t s ≤ most → e.getD s false = true → e.getD 0 false = true := by
 intro s
 induction s using Nat.strongRecOn with
 | _ s ih =>
  intro hs h1 h2
  by_cases e0 : s = 0
  ·rw [e0] at h2; exact h2
  ·have heq := hT.eq s (by omega) hs
   have hl : leastT t n s (bitsL n s).length ≤ most := by omega
   have hex : ∃ x : Nat, x < n ∧ s / 2 ^ x % 2 = 1 ∧ gi t ((s - 2 ^ x : Nat) : Int) ≤ most := by
    rw [Xc] at hl
    rcases KM _ _ hl with h3 | ⟨x, hx, h3⟩
    ·have hlen := bit_some n hn s hs (by omega)
     obtain ⟨i, hi, hb, _⟩ := bitsL_mem.1 (List.getElem_mem hlen)
     have := (TabTo.bd hT hn (s - 2 ^ i) (Nat.lt_of_le_of_lt (Nat.sub_le _ _) hs)).2
     exact ⟨i, hi, hb, by omega⟩
    ·obtain ⟨i, hi, hb, rfl⟩ := bitsL_mem.1 hx
     exact ⟨i, hi, hb, h3⟩
   obtain ⟨x, hx, hb, h3⟩ := hex
   obtain ⟨h4, h5⟩ := bit_take n hn s hs x hx hb
   have hp := Nat.pow_pos (n := x) (show 0 < 2 by decide)
   refine ih (s - 2 ^ x) (by omega) (by omega) h3 ((he.hi _ (Nat.zero_le _) (by omega)).2 ⟨TabTo.dims_le hT hn (by omega) hm h3, .inr ⟨x, hx, h5, ?_⟩⟩)
   rw [show s - 2 ^ x + 2 ^ x = s by omega]
   exact h2
theorem TabTo.start (hn : n < 8) {e : List Bool} (he : EndTo o L n (gi t ((2 ^ n - 1 : Nat) : Int)) 0 e) : e.getD 0 false = true := by
 have hp := Nat.pow_pos (n := n) (show 0 < 2 by decide)
 have hlt : 2 ^ n - 1 < 2 ^ n := by omega
 have hm := (TabTo.bd hT hn _ hlt).1
 exact TabTo.down hT hn hm he (2 ^ n - 1) hlt (Int.le_refl _) ((he.hi _ (Nat.zero_le _) hlt).2 ⟨TabTo.dims_le hT hn hlt hm (Int.le_refl _), .inl (by omega)⟩)
omit hT
structure Way (o : Ops) (L : List (List Int)) (n : Nat) (most : Int) (l : List Int) (s : Nat) : Prop where
 lo : ∀ x ∈ l, 0 ≤ x ∧ x < (n : Int)
 new : ∀ i : Nat, i < l.length → (l.take i).contains (gi l i) = false
 msk : mskL l = s
 cnt : (bitsL n s).length = l.length
 wd : wdL o L n l l.length ≤ most
theorem Way.nil (hn : n < 8) {most : Int} (hm : 0 ≤ most) : Way o L n most [] 0 := ⟨fun x hx => by (cases hx), fun i hi => by (cases hi), rfl, congrArg List.length (bitsL_zero n hn), hm⟩
theorem QcM {l l' : List Int} : ∀ j, (∀ i, i ≤ j → l.take i = l'.take i) → wdL o L n l j = wdL o L n l' j
 | 0, _ => rfl
 | j + 1, h => by rw [wdL, wdL, QcM j (fun i hi => h i (by omega)), h (j + 1) (Nat.le_refl _)]
theorem Way.step {most : Int} {l : List Int} {s i : Nat} (h : Way o L n most l s) (hn : n < 8) (hs : s < 2 ^ n) (hi : i < n) (hb : s / 2 ^ i % 2 = 0) (hd : dmM o L n (s + 2 ^ i) ≤ most) : Way o L n most (l ++ [(i : Int)]) (s + 2 ^ i) := by
 obtain ⟨f1, f2, f3, _⟩ := bit_facts n hn s hs i hi hb
 have hm : mskL (l ++ [(i : Int)]) = s + 2 ^ i := by
  rw [mskL, List.foldl_append]
  show mskL l ||| 2 ^ (i : Int).toNat = _
  rw [h.msk, Int.toNat_natCast, f1]
 refine ⟨fun x hx => ?_, fun j hj => ?_, hm, by rw [f3, h.cnt, List.length_append]; rfl, ?_⟩
 ·rcases List.mem_append.1 hx with hx | hx
  ·exact h.lo x hx
  ·rw [List.mem_singleton.1 hx]; omega
 ·rw [List.length_append, List.length_singleton] at hj
  by_cases e : j < l.length
  ·have h1 : (l ++ [(i : Int)]).take j = l.take j := List.take_append_of_le_length (by omega)
   have h2 : gi (l ++ [(i : Int)]) j = gi l j := by simp [gi, List.getD_eq_getElem?_getD, List.getElem?_append_left e]
   rw [h1, h2]
   exact h.new j e
  ·obtain rfl : j = l.length := by omega
   have h1 : (l ++ [(i : Int)]).take l.length = l := List.take_left' rfl
   have h2 : gi (l ++ [(i : Int)]) l.length = i := by simp [gi, List.getD_eq_getElem?_getD]
   rw [h1, h2, Jg]
   intro hx
   have := (mskL_bit (fun x hx => (h.lo x hx).1)).2 hx
   rw [h.msk] at this
   omega
 ·rw [List.length_append, List.length_singleton, wdL]
  have h1 : wdL o L n (l ++ [(i : Int)]) l.length = wdL o L n l l.length := QcM _ fun j hj => List.take_append_of_le_length (by omega)
  have h2 : (l ++ [(i : Int)]).take (l.length + 1) = l ++ [(i : Int)] := List.take_of_length_le (by simp)
  rw [h1, h2, hm]
  have := h.wd
  omega
theorem Way.done {most : Int} {l : List Int} {s : Nat} (h : Way o L n most l s) (hn : n < 8) (hs : s + 1 = 2 ^ n) : OrdOk n l := by
 refine ⟨?_, h.lo, h.new⟩
 rw [← h.cnt]
 exact (bit_all n hn s (by omega)).1 hs
end Go.Ml
namespace Go.Sx
open Go Go.RowKit Go.Pl
def K64 (k : IntKind) : Prop := k = .i64 ∨ k = .u64
theorem K64.i : K64 .i64 := .inl rfl
theorem K64.u : K64 .u64 := .inr rfl
theorem K64.bits {k : IntKind} (h : K64 k) : k.bits = 64 := by rcases h with rfl | rfl <;> rfl
theorem K64.wrap {k : IntKind} (h : K64 k) {n : Nat} (hn : n < 9223372036854775808) : k.wrap n = n := by
 rcases h with rfl | rfl
 ·rw [IntKind.wrap_i64]; omega
 ·rw [IntKind.wrap_u64]; omega
theorem QbX {k : IntKind} (h : K64 k) {n : Nat} (hn : n < 18446744073709551616) : (BitVec.ofInt k.bits (n : Int)).toNat = n := by
 rw [h.bits]
 simp
 omega
section
variable {P : Program} {N : Nat} {l : Env} {w : World} {ty T T' : TypeId} {x y : Operand} {k : IntKind} {a b : Nat}
theorem orN (hk : K64 k) (hx : ev l x = some (.int k a)) (hy : ev l y = some (.int k b)) (ha : a < 4294967296) (hb : b < 4294967296) : Yl P N (.binOp .or T x y T') ty l w (.int k ((a ||| b : Nat) : Int)) :=
 Ze hx hy (fun w => by
  have hlt : a ||| b < 2 ^ 32 := Nat.or_lt_two_pow (by omega) (by omega)
  have e : (BitVec.ofInt k.bits (a : Int) ||| BitVec.ofInt k.bits (b : Int)).toNat = a ||| b := by
   rw [BitVec.toNat_or, QbX hk (by omega), QbX hk (by omega)]
  have h1 : (binOp .or T (.int k a) (.int k b)).run P w = (Op.intBits .or k a b).run P w := by simp [binOp]
  rw [h1]
  simp only [Op.intBits, e, hk.wrap (show a ||| b < 9223372036854775808 by omega)]
  rfl) (fun _ _ _ => Qr)
theorem andN (hk : K64 k) (hx : ev l x = some (.int k a)) (hy : ev l y = some (.int k b)) (ha : a < 18446744073709551616) (hb : b < 4294967296) : Yl P N (.binOp .and T x y T') ty l w (.int k ((a &&& b : Nat) : Int)) :=
 Ze hx hy (fun w => by
  have hlt : a &&& b ≤ b := Nat.and_le_right
  have e : (BitVec.ofInt k.bits (a : Int) &&& BitVec.ofInt k.bits (b : Int)).toNat = a &&& b := by
   rw [BitVec.toNat_and, QbX hk (by omega), QbX hk (by omega)]
  have h1 : (binOp .and T (.int k a) (.int k b)).run P w = (Op.intBits .and k a b).run P w := by simp [binOp]
  rw [h1]
  simp only [Op.intBits, e, hk.wrap (show a &&& b < 9223372036854775808 by omega)]
  rfl) (fun _ _ _ => Qr)
theorem and1 (hk : K64 k) (hx : ev l x = some (.int k a)) (hy : ev l y = some (.int k 1)) (ha : a < 18446744073709551616) : Yl P N (.binOp .and T x y T') ty l w (.int k ((a % 2 : Nat) : Int)) := by
 have h := andN (P := P) (N := N) (w := w) (ty := ty) (T := T) (T' := T') (b := 1) hk hx hy ha (by decide)
 rwa [Nat.and_one_is_mod] at h
theorem shlN {q : IntKind} (hk : K64 k) (hx : ev l x = some (.int k 1)) (hy : ev l y = some (.int q b)) (hb : b < 32) : Yl P N (.binOp .shl T x y T') ty l w (.int k ((2 ^ b : Nat) : Int)) :=
 Ze hx hy (fun w => by
  have h2 : 2 ^ b < 2 ^ 32 := Nat.pow_lt_pow_right (by decide) hb
  have e : min b 64 = b := by omega
  have e2 : k.wrap ((2 : Int) ^ b) = (2 : Int) ^ b := by
   have := hk.wrap (show 2 ^ b < 9223372036854775808 by omega)
   rw [Int.natCast_pow] at this
   exact this
  have h3 : ¬ ((b : Int) < 0) := by omega
  simp [binOp, Op.shift, hk.bits, e, e2, h3]) (fun _ _ _ => Qr)
theorem shrN {q : IntKind} (hk : K64 k) (hx : ev l x = some (.int k a)) (hy : ev l y = some (.int q b)) (hb : b < 32) : Yl P N (.binOp .shr T x y T') ty l w (.int k ((a / 2 ^ b : Nat) : Int)) :=
 Ze hx hy (fun w => by
  have e : min b 64 = b := by omega
  have h3 : ¬ ((b : Int) < 0) := by omega
  have e2 : (a : Int).fdiv (2 ^ b) = ((a / 2 ^ b : Nat) : Int) := by
   rw [Int.fdiv_eq_ediv_of_nonneg _ (Int.le_of_lt (Int.pow_pos (by decide)))]
   simp
  simp [binOp, Op.shift, hk.bits, e, h3, e2]) (fun _ _ _ => Qr)
theorem notU (hx : ev l x = some (.int .u64 a)) (ha : a < 4294967296) : Yl P N (.unOp .xor T x) ty l w (.int .u64 ((18446744073709551615 - a : Nat) : Int)) := fun f hf w' _ o ho _ => by
 have e : (BitVec.ofInt IntKind.u64.bits 18446744073709551615 ^^^ BitVec.ofInt IntKind.u64.bits (a : Int)).toNat = 18446744073709551615 - a := by
  have h64 : IntKind.u64.bits = 64 := rfl
  have h : BitVec.ofInt 64 18446744073709551615 = BitVec.allOnes 64 := by decide
  have hb := QbX (k := .u64) K64.u (n := a) (by omega)
  rw [h64] at hb
  rw [h64, h, BitVec.allOnes_xor, BitVec.toNat_not, hb]
 have e2 : IntKind.u64.wrap ((18446744073709551615 - a : Nat) : Int) = ((18446744073709551615 - a : Nat) : Int) := by
  rw [IntKind.wrap_u64]; omega
 have hm : IntKind.u64.max = 18446744073709551615 := by decide
 have hs : IntKind.u64.signed = false := rfl
 have h1 : (Op.unary .xor (.int .u64 a)).run P w' = .ok (.int .u64 ((18446744073709551615 - a : Nat) : Int)) w' := by
  simp only [Op.unary, hs, hm, Op.intBits, Bool.false_eq_true, if_false, e, e2]
  rfl
 simp [execOp, ho, hf.eval hx, h1]
end
end Go.Sx
