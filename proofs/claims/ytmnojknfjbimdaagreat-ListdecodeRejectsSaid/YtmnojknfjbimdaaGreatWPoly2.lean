/-
  The package poly, by contract: Roots, by a range over the elements.
-/
import Derived.Test.YtmnojknfjbimdaaGreatWPoly1
import Derived.Test.YtmnojknfjbimdaaGreatWElems
namespace Go.Proofs.YtmnojknfjbimdaaGreat
open Go Go.Sx Go.Pl Go.RowKit Go.Fd Go.Alg
theorem infoS2 : Tryz.prog.info? 22 = some Tryz.t22 := by kernel_rfl
theorem zv22 : ZV Tryz.prog 22 [.slice none 0 0] := fun w => ⟨_, by simp [zeroValue, typeInfo, infoS2]; rfl, rfl⟩
theorem sv22 : ∀ w, (sizeOf 22).run Tryz.prog w = .ok 1 w := szSl
set_option maxRecDepth 10000 in
theorem pRoots (P : FP) (g u : Value) (z : List Int) (w : World) (hG : GFV w P g) (hu : Ints w u z) (hn : z.length ≤ 17592186044416) :
    Calls Tryz.prog 129 #[g, u] w (RetX w fun r w' => ∃ s, OwnI w.heap.size w' s 3 (if cl (pz P z) = [] then [] else rootsIn P (fun x => val1 (pz P z) x) (els P.q.toNat)) ∧ r = .tuple #[s, .int .i64 (if cl (pz P z) = [] then 7 else 0)]) := by
  have hq2 := P.q_two
  have hq := hG.q
  have hg1 : g.oneCell' = true := by
    obtain ⟨gb, _, _, _, _, _, _, rfl, _⟩ := hG.ex
    rfl
  have hcl := cl_pz_len (P := P) z
  refine callsM2 Tryz.func129 rfl rfl ?_
  refine wi_seq ?_
  refine wi_region [0,1,2] rfl ?_
  refine BXV rfl wu rfl rfl (by first | rfl | assumption) ?_
  intro gb w1 hE hB hgb
  refine Go.Sx.V rfl wu rfl rfl (asg rfl) ?_
  refine Go.Sx.V rfl wu rfl rfl (asg rfl) ?_
  refine wir_nil (posti_thenN (wi_seq ?_))
  refine wi_region [0,1,2,3,4] rfl ?_
  refine Go.Sx.V rfl wu rfl rfl (ldB rfl naE84 hB) ?_
  refine Go.Sx.V rfl wu rfl rfl (mv rfl) ?_
  refine C rfl wu rfl rfl Tryz.call88 (pCanon P g u z _ (hG.ext hE) (hu.ext hE) hn) ?_
  intro c w2 hE2 hc
  replace hB := hB.ext hE2
  replace hc := hc.mono hE.size
  replace hE := hE.trans hE2
  refine AL rfl wu rfl zv22 ?_
  intro cb w3 hE3 hC hcb
  have lB := Nat.lt_of_lt_of_le hB.lt hcb
  have lC : ∀ k, c.ownBlock = some k → k < cb := fun k hk => Nat.lt_of_lt_of_le (Own.lt hc k hk).2 hcb
  replace hB := hB.ext hE3
  replace hc := Own.ext hc hE3
  have hcb0 := Nat.le_trans hE.size hcb
  replace hE := hE.trans hE3
  refine STV rfl wu rfl rfl sv22 (by intro h; cases h) (hC) ((OwnI.ints hc).one) ?_
  intro w4 hg4 hX4 hC4
  refine wir_nil (posti_thenN (wi_seq (wi_seq ?_)))
  have hE4 := hX4 _ hcb0 hE
  have hB4 := hB.grown hg4 (by intro e; cases e; omega)
  have hc4 := Own.kept hc (v2 := .slice (some ⟨cb, 0, none⟩) 0 0) hg4 (.inl (fun e => by have := lC cb e; omega))
  clear hE hB hc hg4 hX4 hC
  replace hci := OwnI.ints hc4
  obtain ⟨c0, hc0⟩ : ∃ c0, c0 = cl (pz P z) := ⟨_, rfl⟩
  rw [← hc0] at hci hcl ⊢
  refine wi_region [0,1,2] rfl ?_
  refine Go.Sx.V rfl wu rfl rfl (ldB rfl na22 hC4) ?_
  refine Go.Sx.V rfl wu rfl rfl (lenI rfl ty22) ?_
  refine Go.Sx.V rfl wu rfl rfl (eqlI rfl rfl) ?_
  refine wir_nil (posti_thenN ?_)
  refine wi_cond rfl ?_ ?_
  · intro h
    simp at h
    refine wi_seq ?_
    refine wi_region [0,1] rfl ?_
    refine Go.Sx.V rfl wu rfl rfl (asg rfl) ?_
    refine Go.Sx.V rfl wu rfl rfl (asg rfl) ?_
    refine wir_nil (posti_thenN (wi_ret (posti_thenR ?_)))
    refine posti_retM0 (post_ret2 rfl rfl rfl ⟨hE4, _, ?_, by rw [if_pos h]⟩)
    rw [if_pos h]
    exact OwnI.nil _ _ _
  · intro h
    simp at h
    refine wi_skip (posti_thenN (wi_seq ?_))
    refine wi_region [0] rfl ?_
    refine AL rfl wu rfl zv22 ?_
    intro ob w5 hE5 hO hob
    refine wir_nil (posti_thenN (wi_seq (wi_seq ?_)))
    have hE := hE4.trans hE5
    have lO := hO.lt
    have lcb : cb < ob := Nat.lt_of_lt_of_le hC4.lt hob
    replace hob := Nat.le_trans hE4.size hob
    refine wi_region [0,1] rfl ?_
    refine Go.Sx.V rfl wu rfl rfl (ldB rfl naE84 (hB4.ext hE5)) ?_
    refine C rfl wu rfl rfl Tryz.call162 (gElems P g _ (hG.ext hE)) ?_
    rintro _ w6 hE6 ⟨eb, rfl, heb⟩
    replace hO := hO.ext hE6
    refine wir_nil (posti_thenN (wi_block ?_))
    replace hE := hE.trans hE6
    have hB6 := (hB4.ext hE5).ext hE6
    have hC6 := (hC4.ext hE5).ext hE6
    have hc6 := (hci.ext hE5).ext hE6
    have lO6 := hO.lt
    refine wi_rangeFunc (fun pre W => Gr [ob] w6 W ∧ ∃ v, Blk W ob 22 #[v] ∧ OwnI w6.heap.size W v 3 (rootsIn P (fun x => val1 (pz P z) x) pre)) (fun _ _ _ => False)
      rfl (fun _ _ => by rfl) rfl rfl (gElemsSeq P g eb w6 (hG.ext hE) heb) ?_ (fun c => fun s W W' row h => h.elim) ⟨Gr.refl _ _, _, hO, OwnI.nil _ _ _⟩ ?_ ?_ ?_
    · rintro pre W W' row ⟨h1, v, h2, h3⟩ hg hr
      exact ⟨h1.nocells (Nat.le_refl _) hg hr, v, h2.nocells hg hr, Own.nocells h3 hg hr⟩
    · rintro rl pre x W ⟨hGr, v, hV, ho⟩ hlen
      have hEW : Ext w W := hGr.ext hE (by intro k hk; obtain rfl : k = ob := (by simpa using hk); exact hob)
      have hBW := hB6.gr hGr (by simp; omega)
      have hCW := hC6.gr hGr (by simp; omega)
      have hcW := hc6.gr hGr (by intro k hk; have := lC k hk; simp; omega)
      refine wi_block (wi_seq ?_)
      refine wi_region [0,1,2,3,4] rfl ?_
      refine Go.Sx.V rfl wu rfl rfl (ldB rfl naE84 hBW) ?_
      refine Go.Sx.V rfl wu rfl rfl (ldB rfl na22 hCW) ?_
      refine Go.Sx.V rfl wu rfl rfl (mv rfl) ?_
      refine C rfl wu rfl rfl Tryz.call123 (pEval P g c _ x _ (hG.ext hEW) hcW (by omega)) ?_
      rintro _ w7 hE7 rfl
      replace hV := hV.ext hE7
      replace ho := Own.ext ho hE7
      refine Go.Sx.V rfl wu rfl rfl (eqlI rfl rfl) ?_
      refine wir_nil (posti_thenN ?_)
      rw [hc0, pz_cl]
      refine wi_cond rfl ?_ ?_
      · intro hx
        simp at hx
        have hvl : v.oneCell' = true := Sl.one (OwnI.ints ho)
        have hrl := rootsIn_len P (fun x => val1 (pz P z) x) pre
        refine wi_region [0,1,2,3,4] rfl ?_
        refine Go.Sx.V rfl wu rfl rfl (ldB rfl na22 hV) ?_
        refine Go.Sx.V rfl wu rfl rfl (mv rfl) ?_
        refine BSI (zs := [x]) rfl wu rfl rfl rfl rfl ty22 ?_
        intro v1 w8 hE8 ho8 hi8 hb8
        replace ho := Own.ext ho hE8
        replace hV := hV.ext hE8
        clear ho8
        refine API rfl wu rfl rfl rfl ty22 (by intro h h2; cases h) ?_ (ho := ho) (hB := by have := hGr.size; have := hE7.size; have := hE8.size; omega)
        intro out' w9 hg9 hX9 ho9 hi9 hb9
        refine STV rfl wu rfl rfl sv22 (by intro h; cases h) ((hV.grown hg9 (by intro e; have := (Own.lt ho _ e).1; omega))) (hi9.one) ?_
        intro w10 hg10 hX10 hV10
        refine wir_nil (posti_blockN ?_)
        have hlt10 := (Own.lt ho9)
        have hsz9 : w6.heap.size ≤ w9.heap.size := by have := hGr.size; have := hE7.size; have := hE8.size; have := hg9.size; omega
        have hvlt := Own.lt ho
        have h69 : Gr [ob] w6 w9 := (hGr.trans ((Gr.of_ext hE7).trans (Gr.of_ext hE8))).new hg9 (fun k e => (hvlt k e).1)
        refine fun _ _ => ⟨((keeps_ext (hE7.trans hE8)).trans (keeps_own ho hg9)).trans (KeepsFrom.of_grownBy hg10 (fun j e => by cases e; exact lO6)), trivial, h69.trans (Gr.of_grown hg10 (by intro k e; cases e; simp)), out', hV10, ?_⟩
        rw [rootsIn_snoc, if_pos hx]
        exact Own.kept ho9 (v2 := .slice (some ⟨ob, 0, none⟩) 0 0) hg10 (.inl (fun e => by have := (hlt10 ob e).1; omega))
      · intro hx
        simp at hx
        refine wi_skip (posti_blockN ?_)
        refine fun _ _ => ⟨keeps_ext hE7, trivial, hGr.trans (Gr.of_ext hE7), v, hV, ?_⟩
        rw [rootsIn_snoc, if_neg hx]
        exact ho
    · rintro D xs W hD rfl ⟨hGr, v, hV, ho⟩ hk
      have hEW : Ext w W := hGr.ext hE (by intro k hk; obtain rfl : k = ob := (by simpa using hk); exact hob)
      refine posti_blockN (posti_thenN (wi_seq ?_))
      refine wi_region [0,1,2] rfl ?_
      refine Go.Sx.V rfl wu rfl rfl (ldB rfl na22 hV) ?_
      refine Go.Sx.V rfl wu rfl rfl (asg rfl) ?_
      refine Go.Sx.V rfl wu rfl rfl (asg rfl) ?_
      refine wir_nil (posti_thenN (wi_ret ?_))
      refine posti_retM hk (post_ret2 rfl rfl rfl ⟨hEW.putObj (by have := hE.size; omega) _, v, ?_, by rw [if_neg h]; rfl⟩)
      rw [if_neg h]
      exact Own.mono (Own.nocells (B := 0) ho (grownBy_putObj' W D _) (by intro r e; cases e; exact ⟨Nat.zero_le _, _, hk, rfl⟩)) hE.size
    · rintro D c pre W hD hS h hk
      exact h.elim
end Go.Proofs.YtmnojknfjbimdaaGreat

