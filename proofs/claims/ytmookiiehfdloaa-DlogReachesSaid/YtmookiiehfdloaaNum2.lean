/-
  Factor and the primes that divide a number up to 256, by contract; the reference's primes.
-/
import Derived.Test.YtmookiiehfdloaaNum1
import Derived.Test.YtmookiiehfdloaaSxAp0
import Derived.Test.YtmookiiehfdloaaUpd
namespace Go.Proofs.Ytmookiiehfdloaa
open Go Go.Sx Go.Pl Go.RowKit Go.Nm Go.Fd

theorem Own.keptR {B : Nat} {w w' : World} {v : Value} {E : TypeId} {xs : List Value} {b : Nat} (h : Own B w v E xs) (hg : w.grownBy w' (some b)) (hne : v.ownBlock ≠ some b) : Own B w' v E xs :=
  ⟨h.row.kept hg (.inr hne), h.le⟩
theorem strip_go {p m : Int} {f : Nat} (hp : 2 ≤ p) (hm : 1 ≤ m) (hd : m % p = 0) (hf : m.toNat < 2 ^ f) : ∃ f', f = f' + 1 ∧ stripN p.toNat f m.toNat = stripN p.toNat f' (m / p).toNat ∧ (m / p).toNat < 2 ^ f' ∧ 1 ≤ m / p ∧ m / p < m := by
  have hmn := nat_mod (m := m) (p := p) (by omega) (by omega)
  have h1 := Int.mul_ediv_add_emod m p
  have h0 : 0 ≤ m / p := Int.ediv_nonneg (by omega) (by omega)
  have h2 : 1 ≤ m / p := by
    apply Classical.byContradiction
    intro hc
    have : m / p = 0 := by omega
    rw [this, hd] at h1
    simp at h1
    omega
  have h3 : 2 * (m / p) ≤ p * (m / p) := Int.mul_le_mul_of_nonneg_right hp h0
  cases f with
  | zero => simp at hf; omega
  | succ f =>
    have e : (m / p).toNat = m.toNat / p.toNat := by
      have : ((m.toNat / p.toNat : Nat) : Int) = m / p := by rw [Int.natCast_ediv]; congr 1 <;> omega
      omega
    refine ⟨f, rfl, ?_, ?_, h2, by omega⟩
    · rw [stripN, if_pos (by omega), e]
    · rw [Nat.pow_succ] at hf
      omega
theorem sv3 : ∀ w, (sizeOf 3).run Try.prog w = .ok 1 w := szI1
def heads (L : List (List Int)) : List Int := L.map fun r => r.getD 0 0
theorem heads_snoc (L : List (List Int)) (p e : Int) : heads (L ++ [[p, e]]) = heads L ++ [p] := by simp [heads]

set_option maxRecDepth 10000 in
theorem nFactor (n : Int) (w : World) (hn : 1 ≤ n ∧ n ≤ 256) : Calls Try.prog 62 #[.int .i64 n] w (RetX w fun v w' => ∃ s L, v = .tuple #[s, .int .i64 0] ∧ RowsI w' s 2 L ∧ heads L = prs n) := by
  refine calls1 Try.func62 rfl rfl ?_
  refine wc_seq ?_
  refine wc_region [0,1] rfl ?_
  refine Go.Sx.V rfl wu rfl rfl (asg rfl) ?_
  refine Go.Sx.V rfl wu rfl rfl (asg rfl) ?_
  refine wr_nil (post_thenN (wc_seq (wc_seq ?_)))
  refine wc_region [0,1,2] rfl ?_
  refine Go.Sx.V rfl wu rfl rfl (mv rfl) ?_
  refine C rfl wu rfl rfl Try.call69 (nIn n 1 _) ?_
  rintro _ w1 hE rfl
  refine Go.Sx.V rfl wu rfl rfl (notB rfl) ?_
  refine wr_nil (post_thenN ?_)
  refine wc_condF rfl (by simp <;> omega) ?_
  refine wc_skip (post_thenN (wc_seq ?_))
  refine wc_region [0] rfl ?_
  refine Go.Sx.V rfl wu rfl rfl (asg rfl) ?_
  refine wr_nil (post_thenN (wc_seq (wc_block ?_)))
  refine wc_loop (fun q : Int × Value × List (List Int) => [(0, .int .i64 q.1), (4, q.2.1)])
    (fun q w' => 1 ≤ q.1 ∧ q.1 ≤ n ∧ Ext w w' ∧ OwnR w.heap.size w' q.2.1 87 2 q.2.2 ∧ q.2.2.length + q.1 ≤ 257 ∧ heads q.2.2 ++ prs q.1 = prs n) (fun q => q.1.toNat) (n, .slice none 0 0, []) ⟨rfl, rfl, trivial⟩
    ⟨hn.1, Int.le_refl _, hE, OwnR.nil _ _ _ _, by show (0 : Int) + n ≤ 257; omega, rfl⟩ ?_
  clear hE
  rintro ⟨m, out, L⟩ w2 ⟨m0, m1, hE, ho, hL, hp⟩
  dsimp only at m0 m1 hE ho hL hp
  try dsimp only
  refine wc_seq (wc_seq ?_)
  refine wc_region [0,1] rfl ?_
  refine Go.Sx.V rfl wu rfl rfl (mv rfl) ?_
  refine Go.Sx.V rfl wu rfl rfl (gtrI rfl rfl) ?_
  refine wr_nil (post_thenN ?_)
  refine wc_cond rfl ?_ ?_
  · intro hm
    simp at hm
    refine wc_skip (post_thenN (wc_block (wc_seq ?_)))
    have hE0 := hE
    refine wc_region [0,1,2] rfl ?_
    refine Go.Sx.V rfl wu rfl rfl (mv rfl) ?_
    refine C rfl wu rfl rfl Try.call70 (nLeast m _ (by omega)) ?_
    rintro _ w3 hE3 ⟨p, rfl, hl⟩
    replace ho := ho.ext hE3
    replace hE := hE.trans hE3
    refine Go.Sx.V rfl wu rfl rfl (asg rfl) ?_
    refine wr_nil (post_thenN (wc_seq ?_))
    have hpm := hl.le (by omega)
    have hst := prs_step (by omega) (by omega) hl
    have hlt := ho.lt
    refine wc_region [0,1,2,3] rfl ?_
    refine Go.Sx.V rfl wu rfl rfl (mv rfl) ?_
    refine Go.Sx.V rfl wu rfl rfl (bld (us := [.int .i64 p]) (r := [.int .i64 p, .int .i64 0]) rfl (bd87 p)) ?_
    refine AL rfl wu rfl zv87 ?_
    intro b w4 hE4 hB hb
    replace ho := ho.ext hE4
    replace hE := hE.trans hE4
    refine STB (vs := [.int .i64 p, .int .i64 0]) (cs' := [.int .i64 p, .int .i64 0]) rfl wu rfl rfl rfl sv87 (by intro h; cases h) (by assumption) (by first | (simp [Value.oneCell']; done) | (intro v hv; simp only [List.mem_cons, List.not_mem_nil, or_false] at hv; rcases hv with rfl | rfl | rfl <;> first | rfl | assumption) | (intro v hv; simp only [List.mem_cons, List.not_mem_nil, or_false] at hv; rcases hv with rfl | rfl <;> first | rfl | assumption)) rfl rfl rfl ?_
    intro w5 hg hX hB2
    refine wr_nil (post_thenN (wc_seq (wc_block ?_)))
    have hnb : out.ownBlock ≠ some b := fun e => by have h1 := (hlt b e).2; omega
    have hsz : w.heap.size ≤ b := by have := hE3.size; have := hE4.size; have := ho.lt; have := hB.lt; have := (Ext.size (hE0.trans hE3)); omega
    replace hE := hX _ hsz hE
    replace ho := ho.keptB hg hnb
    clear hB hg hX hE3 hE4
    refine wc_loop (fun q : Int × Int => [(0, .int .i64 q.1), (4, out), (5, .int .i64 p), (6, .pointer (some ⟨b, 0, none⟩))])
      (fun q w' => 1 ≤ q.1 ∧ q.1 ≤ m ∧ 0 ≤ q.2 ∧ q.2 + q.1 ≤ 256 ∧ (∃ f, stripN p.toNat f q.1.toNat = stripN p.toNat 9 m.toNat ∧ q.1.toNat < 2 ^ f) ∧ Ext w w' ∧ OwnR w.heap.size w' out 87 2 L ∧ Blk w' b 87 [.int .i64 p, .int .i64 q.2].toArray) (fun q => q.1.toNat) (m, 0)
      ⟨rfl, rfl, rfl, rfl, trivial⟩ ⟨m0, Int.le_refl _, Int.le_refl _, by show (0 : Int) + m ≤ 256; omega, ⟨9, rfl, by show m.toNat < 2 ^ 9; omega⟩, hE, ho, hB2⟩ ?_
    clear hE ho hB2
    rintro ⟨u, e⟩ w6 ⟨u0, u1, e0, e1, ⟨f, hf, hf2⟩, hE, ho, hB⟩
    dsimp only at u0 u1 e0 e1 hf hf2 hE ho hB
    have hp2 := hl.1
    have hun := nat_mod (m := u) (p := p) (by omega) (by omega)
    try dsimp only
    refine wc_seq (wc_seq ?_)
    refine wc_region [0,1,2,3] rfl ?_
    refine Go.Sx.V rfl wu rfl rfl (mv rfl) ?_
    refine Go.Sx.V rfl wu rfl rfl (mv rfl) ?_
    refine Go.Sx.V rfl wu rfl rfl (remI rfl rfl) ?_
    refine Go.Sx.V rfl wu rfl rfl (eqlI rfl rfl) ?_
    refine wr_nil (post_thenN ?_)
    refine wc_cond rfl ?_ ?_
    · intro hc
      simp at hc
      obtain ⟨f', rfl, h1, h2, h3, h4⟩ := strip_go hp2 u0 hc hf2
      refine wc_skip (post_thenN (wc_block (wc_seq ?_)))
      refine wc_region [0,1,2,3,4] rfl ?_
      refine Go.Sx.V rfl wu rfl rfl (fad rfl fa87_1) ?_
      refine Go.Sx.V rfl wu rfl rfl (ldB rfl na3) ?_
      refine Go.Sx.V rfl wu rfl rfl (addI rfl rfl) ?_
      refine Go.Sx.V rfl wu rfl rfl (fad rfl fa87_1) ?_
      refine STB (vs := [.int .i64 (e + 1)]) (cs' := [.int .i64 p, .int .i64 (e + 1)]) rfl wu rfl rfl rfl sv3 (by intro h; cases h) (by assumption) (by first | (simp [Value.oneCell']; done) | (intro v hv; simp only [List.mem_cons, List.not_mem_nil, or_false] at hv; rcases hv with rfl | rfl | rfl <;> first | rfl | assumption) | (intro v hv; simp only [List.mem_cons, List.not_mem_nil, or_false] at hv; rcases hv with rfl | rfl <;> first | rfl | assumption)) rfl rfl rfl ?_
      intro w7 hg hX hB2
      refine wr_nil (post_thenN ?_)
      refine wc_region [0,1,2,3] rfl ?_
      refine Go.Sx.V rfl wu rfl rfl (mv rfl) ?_
      refine Go.Sx.V rfl wu rfl rfl (mv rfl) ?_
      refine Go.Sx.V rfl wu rfl rfl (quoI rfl rfl) ?_
      refine Go.Sx.V rfl wu rfl rfl (asg rfl) ?_
      refine wr_nil (post_blockN ?_)
      exact post_loopN (u / p, e + 1) ⟨rfl, rfl, rfl, rfl, trivial⟩ ⟨h3, by show u / p ≤ m; omega, by show 0 ≤ e + 1; omega, by show e + 1 + u / p ≤ 256; omega, ⟨f', by rw [← h1]; exact hf, h2⟩, hX _ hsz hE, ho.keptB hg hnb, hB2⟩ (by show (u / p).toNat < u.toNat; omega)
    · intro hc
      simp at hc
      have hum : u ≠ m := fun h => hc (by rw [h]; exact hl.2.1)
      rw [strip_end (by omega)] at hf
      rw [hst, ← hf, show ((u.toNat : Nat) : Int) = u by omega] at hp
      refine wc_exit (post_thenE (post_loopE (post_blockX (post_thenN ?_))))
      refine wc_region [0,1,2,3,4] rfl ?_
      refine Go.Sx.V rfl wu rfl rfl (mv rfl) ?_
      refine Go.Sx.V rfl wu rfl rfl (ldA rfl ag87) ?_
      refine BSR (r := [p, e]) rfl wu rfl rfl ty83 rfl (by decide) (by decide) ?_
      intro v1 w7 hE7 hv1
      replace ho := ho.ext hE7
      replace hE := hE.trans hE7
      refine APR (r := [p, e]) rfl wu rfl rfl rfl ty83 rfl (by decide) (by intro h h2; cases h) ?_ (ho := ho)
      intro out' w8 hg8 hX8 ho8 hb8
      refine Go.Sx.V rfl wu rfl rfl (asg rfl) ?_
      refine wr_nil (post_blockN ?_)
      exact post_loopN (u, out', L ++ [[p, e]]) ⟨rfl, rfl, trivial⟩ ⟨u0, by show u ≤ n; omega, hX8 _ (Nat.le_refl _) hE, ho8, by show ((L ++ [[p, e]]).length : Int) + u ≤ 257; simp; omega, by show heads (L ++ [[p, e]]) ++ prs u = _; rw [heads_snoc, List.append_assoc]; exact hp⟩ (by show u.toNat < m.toNat; omega)
  · intro hm
    simp at hm
    refine wc_exit (post_thenE (post_loopE (post_blockX (post_thenN (wc_seq ?_)))))
    refine wc_region [0,1,2] rfl ?_
    refine Go.Sx.V rfl wu rfl rfl (mv rfl) ?_
    refine Go.Sx.V rfl wu rfl rfl (asg rfl) ?_
    refine Go.Sx.V rfl wu rfl rfl (asg rfl) ?_
    refine wr_nil (post_thenN (wc_ret ?_))
    refine post_ret2 rfl rfl rfl ?_
    have : m = 1 := by omega
    subst this
    rw [prs_one, List.append_nil] at hp
    exact ⟨hE, out, L, rfl, ho.read, hp⟩

theorem heads_length (L : List (List Int)) : (heads L).length = L.length := by simp [heads]
theorem heads_get (L : List (List Int)) (i : Nat) (hi : i < L.length) : (heads L).getD i 0 = (L.getD i []).getD 0 0 := by simp [heads, hi]
theorem pair_of {L : List (List Int)} (h : ∀ r ∈ L, r.length = 2) {i : Nat} (hi : i < L.length) : ∃ a b, L.getD i [] = [a, b] := by
  have h1 := h _ (List.getElem_mem hi)
  have e : L.getD i [] = L[i] := by simp [hi]
  rw [e]
  match L[i], h1 with
  | [a, b], _ => exact ⟨a, b, rfl⟩
theorem prs_length (n : Int) (h : n ≤ 256) : (prs n).length ≤ 257 := by
  rw [prs, List.length_map, prsN]
  have := List.length_filter_le (divs n.toNat) (List.range (n.toNat + 1))
  rw [List.length_range] at this
  omega

set_option maxRecDepth 10000 in
theorem dPrimes (n : Int) (w : World) (hn : 1 ≤ n ∧ n ≤ 256) : Calls Try.prog 43 #[.int .i64 n] w (RetX w fun v w' => OwnI w.heap.size w' v 3 (prs n)) := by
  refine calls1 Try.func43 rfl rfl ?_
  refine wc_seq ?_
  refine wc_region [0] rfl ?_
  refine Go.Sx.V rfl wu rfl rfl (asg rfl) ?_
  refine wr_nil (post_thenN (wc_seq ?_))
  refine wc_region [0,1,2,3,4,5,6] rfl ?_
  refine Go.Sx.V rfl wu rfl rfl (mv rfl) ?_
  refine C rfl wu rfl rfl Try.call62 (nFactor n _ hn) ?_
  rintro _ w1 hE ⟨s, L, rfl, hs, hL⟩
  refine Go.Sx.V rfl wu rfl rfl (mv rfl) ?_
  refine Go.Sx.V rfl wu rfl rfl (ext rfl rfl) ?_
  refine Go.Sx.V rfl wu rfl rfl (ext rfl rfl) ?_
  refine Go.Sx.V rfl wu rfl rfl (asg rfl) ?_
  refine Go.Sx.V rfl wu rfl rfl (asg rfl) ?_
  refine wr_nil (post_thenN (wc_seq ?_))
  have hll : L.length ≤ 257 := by rw [← heads_length, hL]; exact prs_length n hn.2
  have hsz := hE.size
  refine wc_region [0,1,2,3] rfl ?_
  refine Go.Sx.V rfl wu rfl rfl (mv rfl) ?_
  refine Go.Sx.V rfl wu rfl rfl (lenR rfl ty83) ?_
  refine MKI (n := L.length) rfl wu rfl rfl ty22 ?_
  intro out w2 hE2 ho hi hob
  refine Go.Sx.V rfl wu rfl rfl (asg rfl) ?_
  refine wr_nil (post_thenN (wc_seq (wc_seq ?_)))
  rw [← upd_zero' L.length (fun t => (L.getD t []).getD 0 0) (fun _ => 0)] at ho
  refine wc_region [0,1,2] rfl ?_
  refine Go.Sx.V rfl wu rfl rfl (mv rfl) ?_
  refine Go.Sx.V rfl wu rfl rfl (lenR rfl ty83) ?_
  refine Go.Sx.V rfl wu rfl rfl (mv rfl) ?_
  refine wr_nil (post_thenN (wc_block ?_))
  refine wc_loop (fun i : Int => [(5, out), (16, s), (17, .int .i64 L.length), (18, .int .i64 i)])
    (fun i w' => 0 ≤ i ∧ i ≤ L.length ∧ Ext w w' ∧ Ext w1 w' ∧ OwnI w1.heap.size w' out 3 (upd L.length (fun t => (L.getD t []).getD 0 0) (fun _ => 0) i)) (fun i => (L.length - i).toNat) 0 ⟨rfl, rfl, rfl, rfl, trivial⟩ ⟨by omega, by omega, hE.trans hE2, hE2, ho⟩ ?_
  clear hE hE2 ho hi
  rintro i w3 ⟨i0, i1, hE, hE1, ho⟩
  have hsi := hs.ext hE1
  have hul := upd_length L.length (fun t => (L.getD t []).getD 0 0) (fun _ => 0) i
  try dsimp only
  refine wc_seq ?_
  refine wc_region [0] rfl ?_
  refine Go.Sx.V rfl wu rfl rfl (lssI rfl rfl) ?_
  refine wr_nil (post_thenN (wc_seq ?_))
  refine wc_cond rfl ?_ ?_
  · intro hc
    simp at hc
    obtain ⟨a, e, hae⟩ := pair_of hs.rows (i := i.toNat) (by omega)
    have hlt := Own.lt ho
    have hE3' := hE1
    refine wc_skip (post_thenN (wc_seq (wc_block (wc_seq ?_))))
    refine wc_region [0,1,2,3,4,5] rfl ?_
    refine Go.Sx.V rfl wu rfl rfl (mv rfl) ?_
    refine Go.Sx.V rfl wu rfl rfl (iadR rfl rfl ty83) ?_
    refine Go.Sx.V rfl wu rfl rfl (ldR rfl ag87) ?_
    rw [hae]
    refine AL rfl wu rfl zv87 ?_
    intro b w4 hE4 hB hb
    replace ho := Own.ext ho hE4
    replace hE := hE.trans hE4
    replace hE1 := hE1.trans hE4
    refine Go.Sx.V rfl wu rfl rfl (asg rfl) ?_
    refine STB (vs := [.int .i64 a, .int .i64 e]) (cs' := [.int .i64 a, .int .i64 e]) rfl wu rfl rfl rfl sv87 (by intro h; cases h) (by assumption) (by first | (simp [Value.oneCell']; done) | (intro v hv; simp only [List.mem_cons, List.not_mem_nil, or_false] at hv; rcases hv with rfl | rfl | rfl <;> first | rfl | assumption) | (intro v hv; simp only [List.mem_cons, List.not_mem_nil, or_false] at hv; rcases hv with rfl | rfl <;> first | rfl | assumption)) rfl rfl rfl ?_
    intro w5 hg hX hB2
    refine wr_nil (post_thenN ?_)
    have hnb : out.ownBlock ≠ some b := fun h => by have h1 := (hlt b h).2; omega
    have hsb : w1.heap.size ≤ b := by have := (hs.ext (Ext.refl _)); have := hE1.size; have := hB.lt; have h5 := hE4.size; have h6 := (Ext.size hE3'); omega
    replace ho : OwnI w1.heap.size w5 out 3 _ := Own.keptR ho hg hnb
    replace hE1 := hX _ hsb hE1
    replace hE := hX _ (by omega) hE
    have hoi := OwnI.ints ho
    refine wc_region [0,1,2,3,4,5] rfl ?_
    refine Go.Sx.V rfl wu rfl rfl (mv rfl) ?_
    refine Go.Sx.V rfl wu rfl rfl (mv rfl) ?_
    refine Go.Sx.V rfl wu rfl rfl (fad rfl fa87_0) ?_
    refine Go.Sx.V rfl wu rfl rfl (ldB rfl na3) ?_
    refine Go.Sx.V rfl wu rfl rfl (iadI rfl rfl ty22) ?_
    refine STI rfl wu rfl rfl sz3 (by intro h; cases h) ?_
    intro w6 hg6 hX6 ho6 hi6
    refine wr_nil (post_blockN (post_thenN ?_))
    have hst := upd_step (m := L.length) (f := fun t => (L.getD t []).getD 0 0) (g := fun _ => 0) (i := i) i0
    rw [hae] at hst
    replace ho6 : OwnI w1.heap.size w6 out 3 (upd L.length (fun t => (L.getD t []).getD 0 0) (fun _ => 0) (i + 1)) := by rw [← hst]; exact ho6
    refine wc_region [0,1] rfl ?_
    refine Go.Sx.V rfl wu rfl rfl (addI rfl rfl) ?_
    refine Go.Sx.V rfl wu rfl rfl (mv rfl) ?_
    refine wr_nil ?_
    exact post_loopN (i + 1) ⟨rfl, rfl, rfl, rfl, trivial⟩ ⟨by omega, by omega, hX6 _ hsz hE, hX6 _ (Nat.le_refl _) hE1, ho6⟩ (by omega)
  · intro hc
    simp at hc
    refine wc_exit (post_thenE (post_loopE (post_blockX (post_thenN (wc_seq ?_)))))
    refine wc_region [0,1] rfl ?_
    refine Go.Sx.V rfl wu rfl rfl (mv rfl) ?_
    refine Go.Sx.V rfl wu rfl rfl (asg rfl) ?_
    refine wr_nil (post_thenN (wc_ret ?_))
    refine post_ret1 rfl rfl ?_
    rw [upd_last _ _ _ (by omega)] at ho
    have e : tab L.length (fun t => (L.getD t []).getD 0 0) = prs n := by
      rw [← hL]
      conv => rhs; rw [list_tab (heads L), heads_length]
      exact tab_congr fun t ht => (heads_get L t ht).symm
    rw [e] at ho
    exact ⟨hE, Own.mono ho hsz⟩

theorem prime_flag {p : Int} (hp : 2 ≤ p) {b : Bool} (h : b = true ↔ ∀ e : Int, 2 ≤ e → e < p → p % e ≠ 0) : b = primeN p.toNat := by
  have h2 : primeN p.toNat = true ↔ ∀ e : Int, 2 ≤ e → e < p → p % e ≠ 0 := by
    simp only [primeN, Bool.and_eq_true, decide_eq_true_eq, List.all_eq_true, List.mem_range, Bool.not_eq_true', Bool.and_eq_false_iff, decide_eq_false_iff_not]
    constructor
    · rintro ⟨_, h1⟩ e e0 e1 e2
      have hm := nat_mod (m := p) (p := e) (by omega) (by omega)
      rcases h1 e.toNat (by omega) with h3 | h3
      · omega
      · exact h3 (by omega)
    · intro h1
      refine ⟨by omega, fun d hd => ?_⟩
      by_cases h4 : 2 ≤ d
      · right
        intro h5
        have hm := nat_mod (m := p) (p := (d : Int)) (by omega) (by omega)
        rw [Int.toNat_natCast] at hm
        exact h1 d (by omega) (by omega) (by omega)
      · exact .inl h4
  cases hb : b <;> cases hq : primeN p.toNat
  · rfl
  · rw [hb] at h; rw [hq] at h2; exact absurd (h.2 (h2.1 rfl)) (by simp)
  · rw [hb] at h; rw [hq] at h2; exact absurd (h2.2 (h.1 rfl)) (by simp)
  · rfl

set_option maxRecDepth 10000 in
theorem rPrimes (n : Int) (w : World) (hn : 1 ≤ n ∧ n ≤ 256) : Calls Try.prog 47 #[.int .i64 n] w (RetX w fun v w' => OwnI w.heap.size w' v 3 (prs n)) := by
  have hnn : ((n.toNat : Nat) : Int) = n := by omega
  refine calls1 Try.func47 rfl rfl ?_
  refine wc_seq ?_
  refine wc_region [0] rfl ?_
  refine Go.Sx.V rfl wu rfl rfl (asg rfl) ?_
  refine wr_nil (post_thenN (wc_seq ?_))
  refine wc_region [0,1] rfl ?_
  refine BSI (zs := []) rfl wu rfl rfl rfl rfl ty22 ?_
  intro v0 w1 hE ho hi hob
  refine Go.Sx.V rfl wu rfl rfl (asg rfl) ?_
  refine wr_nil (post_thenN (wc_seq (wc_seq ?_)))
  refine wc_region [0] rfl ?_
  refine Go.Sx.V rfl wu rfl rfl (asg rfl) ?_
  refine wr_nil (post_thenN (wc_block ?_))
  refine wc_loop (fun q : Int × Value => [(0, .int .i64 n), (3, q.2), (4, .int .i64 q.1)])
    (fun q w' => 2 ≤ q.1 ∧ (q.1 ≤ n + 1 ∨ q.1 = 2) ∧ Ext w w' ∧ OwnI w.heap.size w' q.2 3 (prsU n.toNat q.1.toNat)) (fun q => (n + 1 - q.1).toNat) (2, v0) ⟨rfl, rfl, rfl, trivial⟩ ⟨Int.le_refl _, .inr rfl, hE, by show OwnI _ _ _ _ (prsU n.toNat 2); rw [prsU_first _ (by omega)]; exact ho⟩ ?_
  clear hE ho hi
  rintro ⟨p, out⟩ w2 ⟨p0, p1, hE, ho⟩
  dsimp only at p0 p1 hE ho
  have hnx := prsU_next n.toNat p.toNat
  rw [show ((p.toNat : Nat) : Int) = p by omega] at hnx
  have hlen := prsU_length n.toNat p.toNat
  have hmod := nat_mod (m := n) (p := p) (by omega) (by omega)
  try dsimp only
  refine wc_seq (wc_seq ?_)
  refine wc_region [0,1,2] rfl ?_
  refine Go.Sx.V rfl wu rfl rfl (mv rfl) ?_
  refine Go.Sx.V rfl wu rfl rfl (mv rfl) ?_
  refine Go.Sx.V rfl wu rfl rfl (leqI rfl rfl) ?_
  refine wr_nil (post_thenN ?_)
  refine wc_cond rfl ?_ ?_
  · intro hc
    simp at hc
    refine wc_skip (post_thenN (wc_seq (wc_block (wc_seq (wc_seq ?_)))))
    refine wc_region [0,1,2,3] rfl ?_
    refine Go.Sx.V rfl wu rfl rfl (mv rfl) ?_
    refine Go.Sx.V rfl wu rfl rfl (mv rfl) ?_
    refine Go.Sx.V rfl wu rfl rfl (remI rfl rfl) ?_
    refine Go.Sx.V rfl wu rfl rfl (neqI rfl rfl) ?_
    refine wr_nil (post_thenN ?_)
    refine wc_cond rfl ?_ ?_
    · intro hm
      simp at hm
      have hd : divs n.toNat p.toNat = false := by
        have : ¬ n.toNat % p.toNat = 0 := by omega
        simp [divs, this]
      rw [hd] at hnx
      refine wc_exit (post_thenE (post_blockX (post_thenN ?_)))
      refine wc_region [0,1,2] rfl ?_
      refine Go.Sx.V rfl wu rfl rfl (mv rfl) ?_
      refine Go.Sx.V rfl wu rfl rfl (addI rfl rfl) ?_
      refine Go.Sx.V rfl wu rfl rfl (asg rfl) ?_
      refine wr_nil ?_
      exact post_loopN (p + 1, out) ⟨rfl, rfl, rfl, trivial⟩ ⟨by show 2 ≤ p + 1; omega, by show p + 1 ≤ n + 1 ∨ _; omega, hE, by show OwnI _ _ _ _ (prsU n.toNat (p + 1).toNat); rw [show (p + 1).toNat = p.toNat + 1 by omega, hnx]; exact ho⟩ (by show (n + 1 - (p + 1)).toNat < (n + 1 - p).toNat; omega)
    · intro hm
      simp at hm
      refine wc_skip (post_thenN (wc_seq ?_))
      refine wc_region [0] rfl ?_
      refine Go.Sx.V rfl wu rfl rfl (asg rfl) ?_
      refine wr_nil (post_thenN (wc_seq (wc_seq ?_)))
      refine wc_region [0] rfl ?_
      refine Go.Sx.V rfl wu rfl rfl (asg rfl) ?_
      refine wr_nil (post_thenN (wc_block ?_))
      refine wc_loop (fun q : Int × Bool => [(0, .int .i64 n), (3, out), (4, .int .i64 p), (5, .bool q.2), (6, .int .i64 q.1)])
        (fun q w' => 2 ≤ q.1 ∧ q.1 ≤ p ∧ w' = w2 ∧ (q.2 = true ↔ ∀ e : Int, 2 ≤ e → e < q.1 → p % e ≠ 0)) (fun q => (p - q.1).toNat) (2, true) ⟨rfl, rfl, rfl, rfl, rfl, trivial⟩ ⟨Int.le_refl _, p0, rfl, by simp; intro e h1 h2; omega⟩ ?_
      rintro ⟨d, b⟩ w3 ⟨d0, d1, rfl, hb⟩
      dsimp only at d0 d1 hb
      try dsimp only
      refine wc_seq (wc_seq ?_)
      refine wc_region [0,1,2] rfl ?_
      refine Go.Sx.V rfl wu rfl rfl (mv rfl) ?_
      refine Go.Sx.V rfl wu rfl rfl (mv rfl) ?_
      refine Go.Sx.V rfl wu rfl rfl (lssI rfl rfl) ?_
      refine wr_nil (post_thenN ?_)
      refine wc_cond rfl ?_ ?_
      · intro hdp
        simp at hdp
        refine wc_skip (post_thenN (wc_seq (wc_block (wc_seq ?_))))
        refine wc_region [0,1,2,3] rfl ?_
        refine Go.Sx.V rfl wu rfl rfl (mv rfl) ?_
        refine Go.Sx.V rfl wu rfl rfl (mv rfl) ?_
        refine Go.Sx.V rfl wu rfl rfl (remI rfl rfl) ?_
        refine Go.Sx.V rfl wu rfl rfl (eqlI rfl rfl) ?_
        refine wr_nil (post_thenN ?_)
        refine wc_cond rfl ?_ ?_
        · intro hz
          simp at hz
          refine wc_region [0] rfl ?_
          refine Go.Sx.V rfl wu rfl rfl (asg rfl) ?_
          refine wr_nil (post_blockN (post_thenN ?_))
          refine wc_region [0,1,2] rfl ?_
          refine Go.Sx.V rfl wu rfl rfl (mv rfl) ?_
          refine Go.Sx.V rfl wu rfl rfl (addI rfl rfl) ?_
          refine Go.Sx.V rfl wu rfl rfl (asg rfl) ?_
          refine wr_nil ?_
          refine post_loopN (d + 1, false) ⟨rfl, rfl, rfl, rfl, rfl, trivial⟩ ⟨by show 2 ≤ d + 1; omega, by show d + 1 ≤ p; omega, rfl, ?_⟩ (by show (p - (d + 1)).toNat < (p - d).toNat; omega)
          simp only [Bool.false_eq_true, false_iff]
          exact fun h => h d d0 (by omega) hz
        · intro hz
          simp at hz
          refine wc_skip (post_blockN (post_thenN ?_))
          refine wc_region [0,1,2] rfl ?_
          refine Go.Sx.V rfl wu rfl rfl (mv rfl) ?_
          refine Go.Sx.V rfl wu rfl rfl (addI rfl rfl) ?_
          refine Go.Sx.V rfl wu rfl rfl (asg rfl) ?_
          refine wr_nil ?_
          refine post_loopN (d + 1, b) ⟨rfl, rfl, rfl, rfl, rfl, trivial⟩ ⟨by show 2 ≤ d + 1; omega, by show d + 1 ≤ p; omega, rfl, ?_⟩ (by show (p - (d + 1)).toNat < (p - d).toNat; omega)
          show b = true ↔ ∀ e : Int, 2 ≤ e → e < d + 1 → p % e ≠ 0
          rw [hb]
          refine ⟨fun h e e0 e1 => ?_, fun h e e0 e1 => h e e0 (by omega)⟩
          by_cases he : e = d
          · rw [he]; exact hz
          · exact h e e0 (by omega)
      · intro hdp
        simp at hdp
        have hdd : d = p := by omega
        subst hdd
        have hpf := prime_flag p0 hb
        have hd : divs n.toNat d.toNat = b := by
          have : n.toNat % d.toNat = 0 := by omega
          simp [divs, this, hpf]
        rw [hd] at hnx
        refine wc_exit (post_thenE (post_loopE (post_blockX (post_thenN (wc_seq ?_)))))
        refine wc_region [0] rfl ?_
        refine Go.Sx.V rfl wu rfl rfl (mv rfl) ?_
        refine wr_nil (post_thenN ?_)
        refine wc_cond rfl ?_ ?_
        · intro hbt
          rw [if_pos hbt] at hnx
          refine wc_region [0,1,2,3,4] rfl ?_
          refine Go.Sx.V rfl wu rfl rfl (mv rfl) ?_
          refine Go.Sx.V rfl wu rfl rfl (mv rfl) ?_
          refine BSI (zs := [d]) rfl wu rfl rfl rfl rfl ty22 ?_
          intro v1 w4 hE4 ho4 hi4 hb4
          replace ho := Own.ext ho hE4
          replace hE := hE.trans hE4
          clear ho4
          refine API rfl wu rfl rfl rfl ty22 (by intro h h2; cases h) ?_ (ho := ho)
          intro out' w5 hg5 hX5 ho5 hi5 hb5
          refine Go.Sx.V rfl wu rfl rfl (asg rfl) ?_
          refine wr_nil (post_blockN (post_thenN ?_))
          refine wc_region [0,1,2] rfl ?_
          refine Go.Sx.V rfl wu rfl rfl (mv rfl) ?_
          refine Go.Sx.V rfl wu rfl rfl (addI rfl rfl) ?_
          refine Go.Sx.V rfl wu rfl rfl (asg rfl) ?_
          refine wr_nil ?_
          exact post_loopN (d + 1, out') ⟨rfl, rfl, rfl, trivial⟩ ⟨by show 2 ≤ d + 1; omega, by show d + 1 ≤ n + 1 ∨ _; omega, hX5 _ (Nat.le_refl _) hE, by show OwnI _ _ _ _ (prsU n.toNat (d + 1).toNat); rw [show (d + 1).toNat = d.toNat + 1 by omega, hnx]; exact ho5⟩ (by show (n + 1 - (d + 1)).toNat < (n + 1 - d).toNat; omega)
        · intro hbf
          rw [if_neg (by rw [hbf]; simp)] at hnx
          refine wc_skip (post_blockN (post_thenN ?_))
          refine wc_region [0,1,2] rfl ?_
          refine Go.Sx.V rfl wu rfl rfl (mv rfl) ?_
          refine Go.Sx.V rfl wu rfl rfl (addI rfl rfl) ?_
          refine Go.Sx.V rfl wu rfl rfl (asg rfl) ?_
          refine wr_nil ?_
          exact post_loopN (d + 1, out) ⟨rfl, rfl, rfl, trivial⟩ ⟨by show 2 ≤ d + 1; omega, by show d + 1 ≤ n + 1 ∨ _; omega, hE, by show OwnI _ _ _ _ (prsU n.toNat (d + 1).toNat); rw [show (d + 1).toNat = d.toNat + 1 by omega, hnx]; exact ho⟩ (by show (n + 1 - (d + 1)).toNat < (n + 1 - d).toNat; omega)
  · intro hc
    simp at hc
    refine wc_exit (post_thenE (post_loopE (post_blockX (post_thenN (wc_seq ?_)))))
    refine wc_region [0,1] rfl ?_
    refine Go.Sx.V rfl wu rfl rfl (mv rfl) ?_
    refine Go.Sx.V rfl wu rfl rfl (asg rfl) ?_
    refine wr_nil (post_thenN (wc_ret ?_))
    refine post_ret1 rfl rfl ?_
    refine ⟨hE, ?_⟩
    have hl := prsU_last n.toNat
    rw [hnn] at hl
    by_cases h1 : n = 1
    · subst h1
      have : p = 2 := by omega
      subst this
      rw [← hl]
      exact ho
    · rw [show p.toNat = n.toNat + 1 by omega, hl] at ho
      exact ho
end Go.Proofs.Ytmookiiehfdloaa
