/-
  Field.Elements as an iterator: it gives 0, 1, .. in order, until it is stopped. The least primitive element, the program's (a range over the elements) and the reference's.
-/
import Derived.Test.YtmookiiehfdloaaSxRound
import Derived.Test.YtmookiiehfdloaaGF2
import Derived.Test.YtmookiiehfdloaaOpen08
namespace Go.Proofs.Ytmookiiehfdloaa
open Go Go.Sx Go.Pl Go.RowKit Go.Fd Go.Alg Go.Fr Go.Nm
theorem naE29 : NA Try.prog 29 := fun w => Try.isAgg29 w
/-- The first n elements. -/
def els (n : Nat) : List Int := (List.range n).map fun k : Nat => (k : Int)
theorem els_succ (n : Nat) : els (n + 1) = els n ++ [(n : Int)] := by simp [els, List.range_succ]
theorem els_length (n : Nat) : (els n).length = n := by simp [els]

theorem gElems (P : FP) (g : Value) (w : World) (hG : GFV w P g) :
    Calls Try.prog 45 #[g] w (RetX w fun v w' => ∃ b, v = .func (.func 63) #[] #[.pointer (some ⟨b, 0, none⟩)] ∧ Blk w' b 29 #[g]) := by
  have hg1 : g.oneCell' = true := by
    obtain ⟨gb, _, _, _, _, _, _, rfl, _⟩ := hG.ex
    rfl
  refine calls1 Try.func45 rfl rfl ?_
  refine wc_seq ?_
  refine wc_region [0,1] rfl ?_
  refine BXV rfl wu rfl rfl (by first | rfl | assumption) ?_
  intro b w1 hE hB hb
  refine Go.Sx.V rfl wu rfl rfl (asg rfl) ?_
  refine wr_nil (post_thenN (wc_seq ?_))
  refine wc_region [0,1] rfl ?_
  refine Go.Sx.V rfl wu rfl rfl (mkf rfl rfl) ?_
  refine Go.Sx.V rfl wu rfl rfl (asg rfl) ?_
  refine wr_nil (post_thenN (wc_ret ?_))
  refine post_ret1 rfl rfl ?_
  exact ⟨hE, b, rfl, hB⟩

theorem gElemsSeq (P : FP) (g : Value) (b : Nat) (w : World) (hG : GFV w P g) (hB : Blk w b 29 #[g]) :
    SeqStopsK (ro none) 1 Try.prog 63 #[.pointer (some ⟨b, 0, none⟩)] (fun x : Int => #[.int .i64 x]) (fun _ _ => True) (fun xs => xs = els P.q.toNat) (fun pre => ∃ n : Nat, (n : Int) < P.q ∧ pre = els (n + 1)) P.q.toNat w := by
  intro rl J Jx W hW hJ hJx hY h0
  replace hB := hB.ext hW
  replace hG := hG.ext hW
  have hq2 := P.q_two
  have hq := hG.q
  obtain ⟨gb, mc, exp, log, md, lg, x0, rfl, hBg, hF, hx, hei, hli, hL⟩ := hG.ex
  refine iter_of2 Try.func63 rfl rfl ?_
  refine wi_seq ?_
  refine wi_region [0,1,2,3,4] rfl ?_
  refine Go.Sx.V rfl wu rfl rfl (ldB rfl naE29 hB) ?_
  refine Go.Sx.V rfl wu rfl rfl (nchk rfl) ?_
  refine Go.Sx.V rfl wu rfl rfl (fad rfl fa68_1) ?_
  refine Go.Sx.V rfl wu rfl rfl (ldB rfl na3) ?_
  refine Go.Sx.V rfl wu rfl rfl (mv rfl) ?_
  refine wir_nil (posti_thenN (wi_block ?_))
  refine wi_loop (fun i : Nat => [(0, .func (.yield rl) #[] #[]), (1, .pointer (some ⟨b, 0, none⟩)), (7, .int .i64 P.q), (8, .int .i64 i)]) (fun i w' => (i : Int) ≤ P.q ∧ J (els i) w') (fun i => P.q.toNat - i) 0 ⟨rfl, rfl, rfl, rfl, trivial⟩ ⟨by show (0 : Int) ≤ P.q; omega, h0⟩ ?_
  rintro i w1 ⟨i1, hJ1⟩
  try dsimp only
  refine wi_seq ?_
  refine wi_region [0] rfl ?_
  refine Go.Sx.V rfl wu rfl rfl (lssI rfl rfl) ?_
  refine wir_nil (posti_thenN (wi_seq ?_))
  refine wi_cond rfl ?_ ?_
  · intro hl
    simp at hl
    refine wi_skip (posti_thenN (wi_seq (wi_block (wi_seq ?_))))
    refine wi_region [0,1] rfl ?_
    refine Go.Sx.V rfl wu rfl rfl (mv rfl) ?_
    refine Go.Sx.V rfl wu rfl rfl (asg rfl) ?_
    refine wir_nil (posti_thenN (wi_seq ?_))
    refine wi_regionY [0,1] [2,3] rfl ?_
    refine Go.Sx.V rfl wu rfl rfl (mv rfl) ?_
    refine Go.Sx.V rfl wu rfl rfl (mv rfl) ?_
    refine wir_yield rfl (by kernel_rfl) rfl rfl rfl (hY (els i) i _ hJ1 (by rw [els_length]; omega)) ?_
    rintro e w2 (⟨rfl, hJ2, _⟩ | ⟨rfl, hJ2⟩)
    · refine ⟨_, rfl, ?_⟩
      refine Go.Sx.V rfl wu rfl rfl (notB rfl) ?_
      refine wir_nil (posti_thenN ?_)
      refine wi_condF rfl (by simp) ?_
      refine wi_skip (posti_blockN (posti_thenN ?_))
      refine wi_region [0,1] rfl ?_
      refine Go.Sx.V rfl wu rfl rfl (addI rfl rfl) ?_
      refine Go.Sx.V rfl wu rfl rfl (mv rfl) ?_
      refine wir_nil ?_
      exact posti_loopN (i + 1) ⟨rfl, rfl, rfl, rfl, trivial⟩ ⟨by show ((i + 1 : Nat) : Int) ≤ P.q; omega, by rw [els_succ]; exact hJ2⟩ (by show P.q.toNat - (i + 1) < P.q.toNat - i; omega)
    · refine ⟨_, rfl, ?_⟩
      refine Go.Sx.V rfl wu rfl rfl (notB rfl) ?_
      refine wir_nil (posti_thenN ?_)
      refine wi_condT rfl (by simp) ?_
      refine wi_ret (posti_blockR (posti_thenR (posti_loopR (posti_blockR ?_))))
      exact posti_of (post_ret0 rfl ⟨⟨_, rfl⟩, .inr ⟨_, ⟨i, hl, (els_succ i).symm⟩, hJ2⟩⟩)
  · intro hl
    simp at hl
    refine wi_exit (posti_thenE (posti_loopE (posti_blockX ?_)))
    obtain rfl : i = P.q.toNat := by omega
    exact posti_of (post_end0 rfl ⟨⟨_, rfl⟩, .inl ⟨_, rfl, hJ1⟩⟩)

theorem infoI5 : Try.prog.info? 3 = some Try.t3 := by kernel_rfl
theorem zv3 : ZV Try.prog 3 [.int .i64 0] := fun w => ⟨_, by simp [zeroValue, typeInfo, infoI5]; rfl, rfl⟩

/-- x is the least primitive element. -/
def Prim (P : FP) (x : Int) : Prop := 1 ≤ x ∧ x < P.q ∧ HasOrder (inK P x) (n1 P) ∧ ∀ y, 0 ≤ y → y < x → ¬ HasOrder (inK P y) (n1 P)
theorem Prim.uniq {P : FP} {x y : Int} (h : Prim P x) (k : Prim P y) : x = y := by
  obtain ⟨h1, h2, h3, h4⟩ := h
  obtain ⟨k1, k2, k3, k4⟩ := k
  rcases Int.lt_trichotomy x y with e | e | e
  · exact absurd h3 (k4 x (by omega) e)
  · exact e
  · exact absurd k3 (h4 y (by omega) e)
theorem not_order_zero {P : FP} {n : Nat} : ¬ HasOrder (0 : K P) n := fun h => by
  have h1 := h.2.1
  rw [zero_npow h.1] at h1
  have := congrArg Subtype.val h1
  exact absurd this (by show ¬ ((0 : Int) = 1); omega)
theorem prim_pos {P : FP} {x : Int} (h : HasOrder (inK P x) (n1 P)) : 1 ≤ x ∧ x < P.q := by
  have h1 : 0 ≤ x ∧ x < P.q := Classical.byContradiction fun hc => not_order_zero (by rwa [inK_out hc] at h)
  refine ⟨?_, h1.2⟩
  rcases Int.lt_or_le 0 x with h0 | h0
  · omega
  · obtain rfl : x = 0 := by omega
    rw [show inK P 0 = 0 from inK_in (by omega)] at h
    exact absurd h not_order_zero
theorem mem_els {n : Nat} {y : Int} : y ∈ els n ↔ 0 ≤ y ∧ y < n := by
  simp only [els, List.mem_map, List.mem_range]
  constructor
  · rintro ⟨k, h, rfl⟩; omega
  · intro h; exact ⟨y.toNat, by omega, by omega⟩

set_option maxRecDepth 10000 in
theorem dPrimitive (P : FP) (g : Value) (w : World) (hG : GFV w P g) :
    Calls Try.prog 17 #[g] w (RetX w fun v _ => ∃ x, v = .int .i64 x ∧ Prim P x) := by
  have hq2 := P.q_two
  have hq := hG.q
  obtain ⟨x0, hx0⟩ := hG.gen
  have hg1 : g.oneCell' = true := by
    obtain ⟨gb, _, _, _, _, _, _, rfl, _⟩ := hG.ex
    rfl
  refine callsM1 Try.func17 rfl rfl ?_
  refine wi_seq ?_
  refine wi_region [0,1] rfl ?_
  refine BXV rfl wu rfl rfl (by first | rfl | assumption) ?_
  intro gb w1 hE1 hB hgb
  refine AL rfl wu rfl zv3 ?_
  intro rb w2 hE2 hr hrb
  refine wir_nil (posti_thenN (wi_seq (wi_seq ?_)))
  have hE := hE1.trans hE2
  replace hB := hB.ext hE2
  replace hrb := Nat.le_trans hE1.size hrb
  clear hE1 hE2
  refine wi_region [0,1] rfl ?_
  refine Go.Sx.V rfl wu rfl rfl (ldB rfl naE29 hB) ?_
  refine C rfl wu rfl rfl Try.call45 (gElems P g _ (hG.ext hE)) ?_
  rintro _ w3 hE3 ⟨eb, rfl, heb⟩
  replace hr := hr.ext hE3
  replace hB := hB.ext hE3
  replace hE := hE.trans hE3
  refine wir_nil (posti_thenN (wi_block ?_))
  have hrl : rb < w3.heap.size := (Array.getElem?_eq_some_iff.1 hr).1
  refine wi_rangeFunc (fun pre W => (∀ y ∈ pre, ¬ HasOrder (inK P y) (n1 P)) ∧ Ext w3 W)
    (fun c pre W => (c = .ret ∧ ∃ init x, pre = init ++ [x] ∧ (∀ y ∈ init, ¬ HasOrder (inK P y) (n1 P)) ∧ HasOrder (inK P x) (n1 P)) ∧ Ext w W ∧ Blk W rb 3 #[.int .i64 ((pre.getLast?).getD 0)])
    rfl (fun _ _ => by rfl) rfl rfl (gElemsSeq P g eb w3 (hG.ext hE) heb) (own_and (ownFrom_below (Nat.le_refl _) (Nat.le_refl _))) (fun c => own_and (OwnFrom.and (ownFrom_below (Nat.le_refl _) hE.size) (own_blk hrl))) ⟨fun y h => (by cases h), Ext.refl _⟩ ?_ ?_ ?_
  · rintro rl pre x W ⟨hpre, hEW⟩ _
    replace hr := hr.ext hEW
    replace hB := hB.ext hEW
    refine wi_block (wi_seq ?_)
    refine wi_region [0,1,2] rfl ?_
    refine Go.Sx.V rfl wu rfl rfl (ldB rfl naE29 hB) ?_
    refine Go.Sx.V rfl wu rfl rfl (mv rfl) ?_
    refine C rfl wu rfl rfl Try.call19 (dIsPrim P g x _ (hG.ext (hE.trans hEW))) ?_
    rintro _ w5 hE5 ⟨bp, rfl, hbp⟩
    replace hr := hr.ext hE5
    refine wir_nil (posti_thenN ?_)
    refine wi_cond rfl ?_ ?_
    · intro hb
      refine wi_seq ?_
      refine wi_region [0,1] rfl ?_
      refine Go.Sx.V rfl wu rfl rfl (mv rfl) ?_
      refine STB (vs := [.int .i64 x]) (cs' := [.int .i64 x]) rfl wu rfl rfl rfl sv3 (by intro h; cases h) (by assumption) (by first | (simp [Value.oneCell']; done) | (intro v hv; simp only [List.mem_cons, List.not_mem_nil, or_false] at hv; rcases hv with rfl | rfl | rfl <;> first | rfl | assumption) | (intro v hv; simp only [List.mem_cons, List.not_mem_nil, or_false] at hv; rcases hv with rfl | rfl <;> first | rfl | assumption)) rfl rfl rfl ?_
      intro w6 hg6 hX6 hB6
      refine wir_nil (posti_thenN (wi_ret (posti_blockR ?_)))
      exact fun _ _ => ⟨(keeps_ext hE5).trans (KeepsFrom.of_grownBy hg6 (fun j e => by cases e; exact hrl)), ⟨⟨rfl, pre, x, rfl, hpre, hbp.1 hb⟩, hX6 _ hrb (hE.trans (hEW.trans hE5)), by simpa using hB6⟩⟩
    · intro hb
      refine wi_skip (posti_blockN ?_)
      refine fun _ _ => ⟨keeps_ext hE5, trivial, ⟨fun y hy => ?_, hEW.trans hE5⟩⟩
      rcases List.mem_append.1 hy with h | h
      · exact hpre y h
      · obtain rfl : y = x := by simpa using h
        exact fun hc => by rw [hbp.2 hc] at hb; cases hb
  · rintro D xs W hD rfl ⟨hall, _⟩ hk
    exfalso
    have hx1 := inK_val x0
    refine hall x0.1 (mem_els.2 ?_) (by rw [hx1]; exact hx0)
    have := x0.2
    omega
  · rintro D c pre W hD ⟨n, hn, rfl⟩ ⟨⟨rfl, init, x, he, hi, hx⟩, hEW, hrW⟩ hk
    rw [els_succ] at he hrW
    obtain ⟨rfl, hxn⟩ := List.append_inj' he rfl
    obtain rfl : (n : Int) = x := by simpa using hxn
    refine wi_ret (posti_blockR (posti_thenR ?_))
    have hDr : rb ≠ D := by omega
    refine posti_retM hk (post_retC rfl rfl na3 (b := rb) (tb := 3) (v := .int .i64 n) ?_ ⟨hEW.putObj (by have := hE.size; omega) _, n, rfl, (prim_pos hx).1, (prim_pos hx).2, hx, fun y h0 h1 => hi y (mem_els.2 ⟨h0, h1⟩)⟩)
    show (W.putObj D _).heap[rb]? = _
    rw [putObj_other hDr]
    have h5 : Blk W rb 3 #[.int .i64 n] := by simpa using hrW
    exact h5

set_option maxRecDepth 10000 in
theorem rPrimitive (P : FP) (mo : Value) (md : List Int) (w : World) (hF : FV w P mo md) (hgen : ∃ g : K P, HasOrder g (n1 P)) :
    Calls Try.prog 18 #[fv P mo] w (RetX w fun v _ => ∃ x, v = .int .i64 x ∧ Prim P x) := by
  have hq2 := P.q_two
  have hq := hF.q
  have hord := hF.ord
  obtain ⟨x0, hx0⟩ := hgen
  have hp0 := prim_pos (x := x0.1) (by rw [inK_val]; exact hx0)
  refine calls1 Try.func18 rfl rfl ?_
  refine wc_seq ?_
  refine wc_region [0,1] rfl ?_
  refine BXA rfl wu rfl rfl ?_
  intro fb w1 hE hB hgb
  refine Go.Sx.V rfl wu rfl rfl (asg rfl) ?_
  refine wr_nil (post_thenN (wc_seq ?_))
  refine wc_region [0] rfl ?_
  refine Go.Sx.V rfl wu rfl rfl (asg rfl) ?_
  refine wr_nil (post_thenN (wc_seq (wc_block ?_)))
  refine wc_loop (fun x : Int => [(1, .pointer (some ⟨fb, 0, none⟩)), (3, .int .i64 x)]) (fun x w' => 1 ≤ x ∧ x ≤ P.q - 1 ∧ Ext w w' ∧ Ext w1 w' ∧ ∀ y, 0 ≤ y → y < x → ¬ HasOrder (inK P y) (n1 P)) (fun x => (P.q - x).toNat) 1
    ⟨rfl, rfl, trivial⟩ ⟨by omega, by omega, hE, Ext.refl _, fun y h0 h1 hc => by have := prim_pos hc; omega⟩ ?_
  clear hE
  rintro x w2 ⟨h1, h2, hE, hX, hno⟩
  replace hB := hB.ext hX
  have hlast : x = P.q - 1 → HasOrder (inK P x) (n1 P) := fun e => by
    have h3 : x0.1 = x := Classical.byContradiction fun hne => hno x0.1 (by omega) (by omega) (by rw [inK_val]; exact hx0)
    rw [← h3, inK_val]; exact hx0
  try dsimp only
  refine wc_seq (wc_seq ?_)
  by_cases hlt : x < P.q - 1
  · skip
    refine wc_region [0,1,2,3,4,5,6,7,8,9,10] rfl ?_
    refine Go.Sx.V rfl wu rfl rfl (mv rfl) ?_
    refine Go.Sx.V rfl wu rfl rfl (ldA rfl ag24 hB) ?_
    refine C rfl wu rfl rfl Try.call33 (rOrder P.p P.M mo _) ?_
    rintro _ w3 hE3 rfl
    rw [hord]
    replace hE := hE.trans hE3
    replace hX := hX.trans hE3
    replace hB := hB.ext hE3
    refine Go.Sx.V rfl wu rfl rfl (subI rfl rfl) ?_
    refine Go.Sx.V rfl wu rfl rfl (lssI rfl rfl) ?_
    refine Go.Sx.V rfl wu rfl rfl (mv rfl) ?_
    refine KB 9 true rfl (by simp <;> omega) ?_
    refine Go.Sx.V rfl (wg rfl rfl) rfl rfl (ldA rfl ag24 hB) ?_
    refine Go.Sx.V rfl (wg rfl rfl) rfl rfl (mv rfl) ?_
    refine C rfl (wg rfl rfl) rfl rfl Try.call20 (rIsPrim P mo md x _ (hF.ext hE) ⟨_, hx0⟩) ?_
    rintro _ w4 hE4 ⟨bp, rfl, hbp⟩
    replace hE := hE.trans hE4
    replace hX := hX.trans hE4
    refine Go.Sx.V rfl (wg rfl rfl) rfl rfl (notB rfl) ?_
    refine Go.Sx.V rfl wu rfl rfl (pk rfl rfl) ?_
    refine wr_nil (post_thenN ?_)
    refine wc_cond rfl ?_ ?_
    · intro hb
      refine wc_skip (post_thenN (wc_block ?_))
      refine wc_region [0,1,2] rfl ?_
      refine Go.Sx.V rfl wu rfl rfl (mv rfl) ?_
      refine Go.Sx.V rfl wu rfl rfl (addI rfl rfl) ?_
      refine Go.Sx.V rfl wu rfl rfl (asg rfl) ?_
      refine wr_nil (post_blockN ?_)
      refine post_loopN (x + 1) ⟨rfl, rfl, trivial⟩ ⟨by omega, by omega, hE, hX, fun y h0 h3 => ?_⟩ (by omega)
      by_cases e : y = x
      · subst e
        exact fun hc => by rw [hbp.2 hc] at hb; simp at hb
      · exact hno y h0 (by omega)
    · intro hb
      refine wc_exit (post_thenE (post_loopE (post_blockX (post_thenN (wc_seq ?_)))))
      refine wc_region [0,1] rfl ?_
      refine Go.Sx.V rfl wu rfl rfl (mv rfl) ?_
      refine Go.Sx.V rfl wu rfl rfl (asg rfl) ?_
      refine wr_nil (post_thenN (wc_ret ?_))
      refine post_ret1 rfl rfl ?_
      have hbt : bp = true := by simpa using hb
      exact ⟨hE, x, rfl, by omega, by omega, hbp.1 hbt, hno⟩
  · skip
    refine wc_region [0,1,2,3,4,5,6,7,8,9,10] rfl ?_
    refine Go.Sx.V rfl wu rfl rfl (mv rfl) ?_
    refine Go.Sx.V rfl wu rfl rfl (ldA rfl ag24 hB) ?_
    refine C rfl wu rfl rfl Try.call33 (rOrder P.p P.M mo _) ?_
    rintro _ w3 hE3 rfl
    rw [hord]
    replace hE := hE.trans hE3
    replace hX := hX.trans hE3
    replace hB := hB.ext hE3
    refine Go.Sx.V rfl wu rfl rfl (subI rfl rfl) ?_
    refine Go.Sx.V rfl wu rfl rfl (lssI rfl rfl) ?_
    refine Go.Sx.V rfl wu rfl rfl (mv rfl) ?_
    refine KB 9 false rfl (by simp <;> omega) ?_
    refine SK rfl rfl rfl rfl rfl ?_
    refine SK rfl rfl rfl rfl rfl ?_
    refine SK rfl rfl rfl rfl rfl ?_
    refine SK rfl rfl rfl rfl rfl ?_
    refine Go.Sx.V rfl wu rfl rfl (pk rfl rfl) ?_
    refine wr_nil (post_thenN ?_)
    refine wc_condF rfl (by simp) ?_
    refine wc_exit (post_thenE (post_loopE (post_blockX (post_thenN (wc_seq ?_)))))
    refine wc_region [0,1] rfl ?_
    refine Go.Sx.V rfl wu rfl rfl (mv rfl) ?_
    refine Go.Sx.V rfl wu rfl rfl (asg rfl) ?_
    refine wr_nil (post_thenN (wc_ret ?_))
    refine post_ret1 rfl rfl ?_
    exact ⟨hE, x, rfl, by omega, by omega, hlast (by omega), hno⟩
end Go.Proofs.Ytmookiiehfdloaa
