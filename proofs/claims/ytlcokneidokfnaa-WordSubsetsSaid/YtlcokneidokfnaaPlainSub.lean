/-
  All subsets of a size in lexicographic order: the list by recursion, and the successor by which a loop goes through it. No program in sight.
-/
import Derived.Test.YtlcokneidokfnaaPlain
namespace Go.Pl
/-- a, a + 1, .. (k ints). -/
def run (a : Int) : Nat → List Int
  | 0 => []
  | k + 1 => a :: run (a + 1) k
theorem run_length : ∀ (k : Nat) (a : Int), (run a k).length = k
  | 0, _ => rfl
  | k + 1, a => by simp [run, run_length k (a + 1)]
theorem run_get : ∀ (k : Nat) (a : Int) (j : Nat), j < k → (run a k)[j]? = some (a + j)
  | k + 1, a, 0, _ => by simp [run]
  | k + 1, a, j + 1, h => by
    rw [run, List.getElem?_cons_succ, run_get k (a + 1) j (by omega)]
    congr 1
    omega
theorem run_tab (k : Nat) (a : Int) : run a k = tab k (fun t => a + t) := by
  apply List.ext_getElem?
  intro i
  by_cases h : i < k
  · rw [run_get k a i h, tab_get h]
  · rw [List.getElem?_eq_none (by rw [run_length]; omega), List.getElem?_eq_none (by rw [tab_length]; omega)]
/-- The next subset of 0 .. n - 1 of the same size. -/
def nxt (n : Int) : List Int → Option (List Int)
  | [] => none
  | a :: x => match nxt n x with
    | some y => some (a :: y)
    | none => if a = n - (x.length + 1 : Nat) then none else some (run (a + 1) (x.length + 1))
/-- The subsets of size k of the last r of the numbers below n. -/
def subs (n : Int) : Nat → Nat → List (List Int)
  | _, 0 => [[]]
  | 0, _ + 1 => []
  | r + 1, k + 1 => (subs n r k).map ((n - (r + 1 : Nat)) :: ·) ++ subs n r (k + 1)
theorem subs_length (n : Int) : ∀ r k, (subs n r k).length = bin r k
  | 0, 0 => rfl
  | 0, _ + 1 => rfl
  | _ + 1, 0 => rfl
  | r + 1, k + 1 => by simp [subs, bin, subs_length n r k, subs_length n r (k + 1)]
/-- L is what the successor goes through from s on. -/
def Gen (n : Int) : List Int → List (List Int) → Prop
  | _, [] => False
  | s, x :: L => x = s ∧ match L with
    | [] => nxt n s = none
    | y :: L' => nxt n s = some y ∧ Gen n y (y :: L')
theorem Gen.head {n : Int} {s : List Int} {L : List (List Int)} (h : Gen n s L) : ∃ L', L = s :: L' := by
  cases L with
  | nil => exact h.elim
  | cons x L =>
    cases L with
    | nil => obtain ⟨rfl, _⟩ := h; exact ⟨_, rfl⟩
    | cons y L => obtain ⟨rfl, _⟩ := h; exact ⟨_, rfl⟩
theorem gen_map {n a : Int} {k : Nat} {L2 : List (List Int)} (h2 : (a = n - (k + 1 : Nat) ∧ L2 = []) ∨ (a ≠ n - (k + 1 : Nat) ∧ Gen n (run (a + 1) (k + 1)) L2)) :
    ∀ (L : List (List Int)) (s : List Int), (∀ x ∈ L, x.length = k) → Gen n s L → Gen n (a :: s) (L.map (a :: ·) ++ L2)
  | [], _, _, h => h.elim
  | [x], s, hl, h => by
    obtain ⟨rfl, h⟩ := h
    have hx : x.length = k := hl x (by simp)
    rcases h2 with ⟨ha, rfl⟩ | ⟨ha, hg⟩
    · refine ⟨rfl, ?_⟩
      show nxt n (a :: x) = none
      simp only [nxt, h, hx]
      rw [if_pos ha]
    · obtain ⟨L', rfl⟩ := hg.head
      refine ⟨rfl, ?_, hg⟩
      simp only [nxt, h, hx]
      rw [if_neg ha]
  | x :: y :: L, s, hl, h => by
    obtain ⟨rfl, h, hg⟩ := h
    refine ⟨rfl, ?_, ?_⟩
    · simp only [nxt, h]
    · exact gen_map h2 (y :: L) y (fun z hz => hl z (List.mem_cons_of_mem _ hz)) hg
theorem subs_big (n : Int) (r k : Nat) (h : r < k) : subs n r k = [] := by
  apply List.eq_nil_of_length_eq_zero
  rw [subs_length, bin_big r k h]
theorem subs_len (n : Int) : ∀ r k, ∀ x ∈ subs n r k, x.length = k
  | 0, 0, x, h => by simp [subs] at h; simp [h]
  | 0, _ + 1, x, h => by simp [subs] at h
  | _ + 1, 0, x, h => by simp [subs] at h; simp [h]
  | r + 1, k + 1, x, h => by
    simp only [subs, List.mem_append, List.mem_map] at h
    rcases h with ⟨y, hy, rfl⟩ | h
    · simp [subs_len n r k y hy]
    · exact subs_len n r (k + 1) x h
theorem gen_subs (n : Int) : ∀ (r k : Nat), k ≤ r → Gen n (run (n - r) k) (subs n r k)
  | 0, 0, _ => ⟨rfl, rfl⟩
  | _ + 1, 0, _ => ⟨rfl, rfl⟩
  | 0, _ + 1, h => absurd h (by omega)
  | r + 1, k + 1, h => by
    have e : n - ((r + 1 : Nat) : Int) + 1 = n - r := by omega
    rw [subs, run, e]
    refine gen_map ?_ _ _ (subs_len n r k) (gen_subs n r k (by omega))
    rw [e]
    by_cases hk : k = r
    · exact .inl ⟨by rw [hk], subs_big n r (k + 1) (by omega)⟩
    · exact .inr ⟨by omega, gen_subs n r (k + 1) (by omega)⟩

/-! The successor as a loop finds it. -/
theorem nxt_max {n : Int} : ∀ (s : List Int), (∀ j : Nat, j < s.length → gi s j = n - s.length + j) → nxt n s = none
  | [], _ => rfl
  | a :: x, h => by
    have hx := nxt_max (n := n) x (fun j hj => by
      have := h (j + 1) (by simp; omega)
      simp only [gi, List.length_cons, List.getD] at this ⊢
      have e : ((j + 1 : Nat) : Int).toNat = (j : Int).toNat + 1 := by omega
      rw [e, List.getElem?_cons_succ] at this
      rw [this]
      omega)
    have ha := h 0 (by simp)
    simp [gi] at ha
    simp only [nxt, hx]
    rw [if_pos (by rw [ha]; omega)]
theorem nxt_at {n : Int} : ∀ (s : List Int) (i : Nat), i < s.length → (∀ j : Nat, i < j → j < s.length → gi s j = n - s.length + j) → gi s i ≠ n - s.length + i →
    nxt n s = some (s.take i ++ run (gi s i + 1) (s.length - i))
  | [], _, h, _, _ => by simp at h
  | a :: x, 0, _, h, hi => by
    have hx := nxt_max (n := n) x (fun j hj => by
      have := h (j + 1) (by omega) (by simp; omega)
      simp only [gi, List.length_cons, List.getD] at this ⊢
      have e : ((j + 1 : Nat) : Int).toNat = (j : Int).toNat + 1 := by omega
      rw [e, List.getElem?_cons_succ] at this
      rw [this]
      omega)
    simp [gi] at hi
    simp only [nxt, hx]
    rw [if_neg (by intro hc; apply hi; rw [hc]; omega)]
    simp [gi]
  | a :: x, i + 1, hl, h, hi => by
    simp only [List.length_cons] at hl
    have g : ∀ j : Nat, gi (a :: x) ((j + 1 : Nat) : Int) = gi x j := fun j => by
      have e : ((j + 1 : Nat) : Int).toNat = (j : Int).toNat + 1 := by omega
      simp only [gi, List.getD]
      rw [e, List.getElem?_cons_succ]
    have hx := nxt_at (n := n) x i (by omega) (fun j h1 h2 => by
      have := h (j + 1) (by omega) (by simp; omega)
      rw [g] at this
      rw [this]
      simp; omega) (by
      intro hc
      apply hi
      rw [g, hc]
      simp; omega)
    simp only [nxt, hx]
    rw [g]
    simp
/-- The tail refilled up to j. -/
def fil (s : List Int) (i a j : Int) : List Int := tab s.length (fun t => if (t : Int) < i then gi s t else if (t : Int) < j then a + (t - i) else gi s t)
theorem fil_length (s : List Int) (i a j : Int) : (fil s i a j).length = s.length := tab_length _ _
theorem fil_first (s : List Int) (i a : Int) (h0 : 0 ≤ i) (h1 : i < s.length) : si s i a = fil s i a (i + 1) := by
  have hs : si s i a = si (tab s.length (fun t => gi s t)) i a := by
    congr 1
    exact (list_tab s).trans (tab_congr (fun t _ => by simp [gi]))
  rw [hs, si_tab]
  refine tab_congr (fun t ht => ?_)
  by_cases e : t = i.toNat
  · subst e
    rw [if_pos rfl, if_neg (by omega), if_pos (by omega)]
    omega
  · rw [if_neg e]
    by_cases h : (t : Int) < i
    · rw [if_pos h]
    · rw [if_neg h, if_neg (by omega)]
theorem fil_get (s : List Int) (i a j : Int) (h0 : 0 ≤ i) (h1 : i < j) (h2 : j ≤ s.length) : gi (fil s i a j) (j - 1) = a + (j - 1 - i) := by
  rw [fil, gi_tab (by omega) (by omega), if_neg (by omega), if_pos (by omega)]
  omega
theorem fil_step (s : List Int) (i a j : Int) (h0 : 0 ≤ i) (h1 : i < j) (h2 : j < s.length) : si (fil s i a j) j (a + (j - 1 - i) + 1) = fil s i a (j + 1) := by
  rw [fil, si_tab]
  refine tab_congr (fun t ht => ?_)
  by_cases e : t = j.toNat
  · subst e
    rw [if_pos rfl, if_neg (by omega), if_pos (by omega)]
    omega
  · rw [if_neg e]
    by_cases h : (t : Int) < i
    · rw [if_pos h, if_pos h]
    · rw [if_neg h, if_neg h]
      by_cases h' : (t : Int) < j
      · rw [if_pos h', if_pos (by omega)]
      · rw [if_neg h', if_neg (by omega)]
theorem fil_last (s : List Int) (i : Nat) (a : Int) (h : i < s.length) : fil s i a s.length = s.take i ++ run a (s.length - i) := by
  apply List.ext_getElem?
  intro t
  by_cases ht : t < s.length
  · rw [fil, tab_get ht, List.getElem?_append, List.length_take]
    by_cases h1 : t < i
    · rw [if_pos (by omega), if_pos (by omega), List.getElem?_take, if_pos h1]
      simp [gi, ht]
    · rw [if_neg (by omega), if_pos (by omega), if_neg (by omega), show min i s.length = i by omega, run_get _ _ _ (by omega)]
      congr 1
      omega
  · rw [List.getElem?_eq_none (by rw [fil_length]; omega), List.getElem?_eq_none (by simp [run_length]; omega)]
end Go.Pl
