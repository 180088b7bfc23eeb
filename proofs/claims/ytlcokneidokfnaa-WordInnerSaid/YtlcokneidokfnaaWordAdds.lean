/-
  Statements WordAdds and WordInner: for every field and all lists the laws return true. No condition.
-/
import Derived.Test.YtlcokneidokfnaaOpen11
import Derived.Test.YtlcokneidokfnaaWord1
import Derived.Test.YtlcokneidokfnaaRWord1
import Derived.Test.YtlcokneidokfnaaRank
import Derived.Test.YtlcokneidokfnaaRows
namespace Go.Proofs.Ytlcokneidokfnaa
open Go Go.Sx Go.Pl Go.RowKit Go.Fd Go.Alg Go.Fr

theorem open_split {w : World} {p M : Int} {mo : Value} {md : List Int} {v : Value} (h : OpenA w ⟨p, M, mo, md⟩ v) :
    ∃ g d, v = .tuple #[g, .bool d, .bool true] ∧ (d = true ∨ (d = false ∧ ∃ P : FP, P.p = p ∧ (P.M : Int) = M ∧ (∀ w' mo', Ints w' mo' md → FV w' P mo' md) ∧ GFV w P g)) := by
  rcases h with h | ⟨P, h1, _, h3, h4, g, h5, h6⟩
  · exact ⟨_, _, h, .inl rfl⟩
  · exact ⟨_, _, h5, .inr ⟨rfl, P, h3, h4, h1, h6⟩⟩
theorem ex_add {P : FP} (h : 2 ≤ P.q) : (pwA P (fun x y => x + y) [1, 0] [0, 1]).1 = [1, 1] ∧ (pwA P (fun x y => x + y) [1, 0] [0, 1]).2 = 0 := by
  have e1 : inK P 1 = 1 := inK_in (by omega)
  have e0 : inK P 0 = 0 := inK_in (by omega)
  refine ⟨?_, rfl⟩
  show pw P (fun x y => x + y) [1, 0] [0, 1] = _
  rw [pw_cons, pw_cons, e1, e0, zero_add, add_zero]
  rfl
theorem sum_pw {P : FP} : ∀ a b : List Int, a.length = b.length → sumK P (pw P (fun x y => x * y) a b) = dotK P a b
  | [], [], _ => rfl
  | x :: a, y :: b, h => by
    simp only [List.length_cons, Nat.add_right_cancel_iff] at h
    rw [pw_cons, sumK, dotK, inK_val, sum_pw a b h]
theorem inn {P : FP} (a b : List Int) : (sumK P (pwA P (fun x y => x * y) a b).1).1 = (innA P a b).1 ∧ (pwA P (fun x y => x * y) a b).2 = (innA P a b).2 := by
  by_cases h : a.length = b.length
  · rw [pwA, if_pos h, innA, if_pos h]
    exact ⟨by rw [sum_pw a b h], rfl⟩
  · rw [pwA, if_neg h, innA, if_neg h]
    exact ⟨rfl, rfl⟩
theorem innA_comm {P : FP} (a b : List Int) : innA P b a = innA P a b := by
  by_cases h : a.length = b.length
  · rw [innA, if_pos h.symm, innA, if_pos h, dotK_comm]
  · rw [innA, if_neg (fun e => h e.symm), innA, if_neg h]
theorem ex_inn {P : FP} (h : 2 ≤ P.q) : (innA P [1, 0, 1] [1, 1, 0]).1 = 1 ∧ (innA P [1, 0, 1] [1, 1, 0]).2 = 0 := by
  have e1 : inK P 1 = 1 := inK_in (by omega)
  have e0 : inK P 0 = 0 := inK_in (by omega)
  refine ⟨?_, rfl⟩
  show (dotK P [1, 0, 1] [1, 1, 0]).1 = 1
  rw [dotK, dotK, dotK, dotK, e1, e0, zero_mul, mul_zero, mul_one, add_zero, add_zero, add_zero]
  · rfl
  all_goals (intros; simp_all)

set_option maxRecDepth 10000 in
theorem law_WordAdds {w : World} (v0 : Value) (r : FRec) (s0 : v0 = r.v ∧ FOf w r) (u : Value) (a : List Int) (hu : Ints w u a) (ba : LFit a) (v : Value) (b : List Int) (hv : Ints w v b) (bb : LFit b) :
    Calls Try.prog 9 #[v0, u, v] w (RetX w fun v _ => v = .bool true) := by
  obtain ⟨p, M, mo, md⟩ := r
  obtain ⟨rfl, hr⟩ := s0
  refine calls3 Try.func9 rfl rfl ?_
  refine wc_seq ?_
  refine wc_region [0,1] rfl ?_
  refine BXA rfl wu rfl rfl ?_
  intro fb w1 hE hB hg
  refine Go.Sx.V rfl wu rfl rfl (asg rfl) ?_
  refine wr_nil (post_thenN (wc_seq ?_))
  refine wc_region [0,1,2,3,4,5,6,7,8] rfl ?_
  refine Go.Sx.V rfl wu rfl rfl (ldA rfl ag40) ?_
  refine C rfl wu rfl rfl Try.call29 (lOpen ⟨p, M, mo, md⟩ _ (hr.ints.ext hE)) ?_
  rintro ov w2 hE2 hop
  replace hB := hB.ext hE2
  replace hE := hE.trans hE2
  obtain ⟨gv, dn, rfl, hcase⟩ := open_split hop
  refine Go.Sx.V rfl wu rfl rfl (mv rfl) ?_
  refine Go.Sx.V rfl wu rfl rfl (ext rfl rfl) ?_
  refine Go.Sx.V rfl wu rfl rfl (ext rfl rfl) ?_
  refine Go.Sx.V rfl wu rfl rfl (ext rfl rfl) ?_
  refine Go.Sx.V rfl wu rfl rfl (asg rfl) ?_
  refine Go.Sx.V rfl wu rfl rfl (asg rfl) ?_
  refine Go.Sx.V rfl wu rfl rfl (asg rfl) ?_
  refine wr_nil (post_thenN (wc_seq (wc_seq ?_)))
  have hmi := hr.ints.ext hE
  replace hu := hu.ext hE
  replace hv := hv.ext hE
  refine wc_region [0] rfl ?_
  refine Go.Sx.V rfl wu rfl rfl (mv rfl) ?_
  refine wr_nil (post_thenN ?_)
  refine wc_cond rfl ?_ ?_
  · intro _
    refine wc_seq ?_
    refine wc_region [0,1] rfl ?_
    refine Go.Sx.V rfl wu rfl rfl (mv rfl) ?_
    refine Go.Sx.V rfl wu rfl rfl (asg rfl) ?_
    refine wr_nil (post_thenN (wc_ret (post_thenR ?_)))
    refine post_ret1 rfl rfl ?_
    exact ⟨hE, rfl⟩
  · intro h
    rcases hcase with hd | ⟨_, P, hp, hM, hFV, hG⟩
    · rw [hd] at h; cases h
    dsimp only at hB
    subst hp hM
    have hF := hFV _ _ hmi
    have hX := Ext.refl w2
    refine wc_skip (post_thenN (wc_seq ?_))
    refine wc_region [0,1,2,3,4,5,6,7,8] rfl ?_
    refine Go.Sx.V rfl wu rfl rfl (mv rfl) ?_
    refine Go.Sx.V rfl wu rfl rfl (mv rfl) ?_
    refine Go.Sx.V rfl wu rfl rfl (mv rfl) ?_
    refine C rfl wu rfl rfl Try.call35 (wAdd P gv u v a b _ (hG.ext hX) (hu.ext hX) (hv.ext hX) ba.2) ?_
    rintro _ w3 hE3 ⟨s, rfl, hs⟩
    replace hX := hX.trans hE3
    refine Go.Sx.V rfl wu rfl rfl (mv rfl) ?_
    refine Go.Sx.V rfl wu rfl rfl (ext rfl rfl) ?_
    refine Go.Sx.V rfl wu rfl rfl (ext rfl rfl) ?_
    refine Go.Sx.V rfl wu rfl rfl (asg rfl) ?_
    refine Go.Sx.V rfl wu rfl rfl (asg rfl) ?_
    refine wr_nil (post_thenN (wc_seq ?_))
    refine wc_region [0,1,2,3,4,5,6,7,8] rfl ?_
    refine Go.Sx.V rfl wu rfl rfl (ldA rfl ag40) ?_
    refine Go.Sx.V rfl wu rfl rfl (mv rfl) ?_
    refine Go.Sx.V rfl wu rfl rfl (mv rfl) ?_
    refine C rfl wu rfl rfl Try.call36 (r11Add P mo md u v a b _ (hF.ext hX) (hu.ext hX) (hv.ext hX) ba.2) ?_
    rintro _ w4 hE4 ⟨t, rfl, ht⟩
    replace hX := hX.trans hE4
    replace hs := hs.ext hE4
    refine Go.Sx.V rfl wu rfl rfl (mv rfl) ?_
    refine Go.Sx.V rfl wu rfl rfl (ext rfl rfl) ?_
    refine Go.Sx.V rfl wu rfl rfl (ext rfl rfl) ?_
    refine Go.Sx.V rfl wu rfl rfl (asg rfl) ?_
    refine Go.Sx.V rfl wu rfl rfl (asg rfl) ?_
    refine wr_nil (post_thenN (wc_seq (wc_seq ?_)))
    refine wc_region [0,1,2,3,4,5,6,7,8] rfl ?_
    refine Go.Sx.V rfl wu rfl rfl (mv rfl) ?_
    refine Go.Sx.V rfl wu rfl rfl (mv rfl) ?_
    refine Go.Sx.V rfl wu rfl rfl (neqI rfl rfl) ?_
    refine Go.Sx.V rfl wu rfl rfl (mv rfl) ?_
    refine KB 47 false rfl (by simp) ?_
    refine Go.Sx.V rfl (wg rfl rfl) rfl rfl (mv rfl) ?_
    refine Go.Sx.V rfl (wg rfl rfl) rfl rfl (mv rfl) ?_
    refine C rfl (wg rfl rfl) rfl rfl Try.call24 (rSame s t _ _ _ hs ht) ?_
    rintro _ w5 hE5 rfl
    replace hX := hX.trans hE5
    replace hs := hs.ext hE5
    refine Go.Sx.V rfl (wg rfl rfl) rfl rfl (notB rfl) ?_
    refine Go.Sx.V rfl wu rfl rfl (pk rfl rfl) ?_
    refine wr_nil (post_thenN ?_)
    clear ht
    refine wc_condF rfl (by simp) ?_
    refine wc_skip (post_thenN (wc_seq ?_))
    refine wc_region [0,1,2,3,4,5,6,7,8] rfl ?_
    refine Go.Sx.V rfl wu rfl rfl (mv rfl) ?_
    refine Go.Sx.V rfl wu rfl rfl (mv rfl) ?_
    refine Go.Sx.V rfl wu rfl rfl (mv rfl) ?_
    refine C rfl wu rfl rfl Try.call37 (wSub P gv u v a b _ (hG.ext hX) (hu.ext hX) (hv.ext hX) ba.2) ?_
    rintro _ w6 hE6 ⟨d, rfl, hd⟩
    replace hX := hX.trans hE6
    replace hs := hs.ext hE6
    refine Go.Sx.V rfl wu rfl rfl (mv rfl) ?_
    refine Go.Sx.V rfl wu rfl rfl (ext rfl rfl) ?_
    refine Go.Sx.V rfl wu rfl rfl (ext rfl rfl) ?_
    refine Go.Sx.V rfl wu rfl rfl (asg rfl) ?_
    refine Go.Sx.V rfl wu rfl rfl (asg rfl) ?_
    refine wr_nil (post_thenN (wc_seq ?_))
    refine wc_region [0,1,2,3,4,5,6,7,8] rfl ?_
    refine Go.Sx.V rfl wu rfl rfl (ldA rfl ag40) ?_
    refine Go.Sx.V rfl wu rfl rfl (mv rfl) ?_
    refine Go.Sx.V rfl wu rfl rfl (mv rfl) ?_
    refine C rfl wu rfl rfl Try.call38 (r11Sub P mo md u v a b _ (hF.ext hX) (hu.ext hX) (hv.ext hX) ba.2) ?_
    rintro _ w7 hE7 ⟨t2, rfl, ht2⟩
    replace hX := hX.trans hE7
    replace hs := hs.ext hE7
    replace hd := hd.ext hE7
    refine Go.Sx.V rfl wu rfl rfl (mv rfl) ?_
    refine Go.Sx.V rfl wu rfl rfl (ext rfl rfl) ?_
    refine Go.Sx.V rfl wu rfl rfl (ext rfl rfl) ?_
    refine Go.Sx.V rfl wu rfl rfl (asg rfl) ?_
    refine Go.Sx.V rfl wu rfl rfl (asg rfl) ?_
    refine wr_nil (post_thenN (wc_seq (wc_seq ?_)))
    refine wc_region [0,1,2,3,4,5,6,7,8] rfl ?_
    refine Go.Sx.V rfl wu rfl rfl (mv rfl) ?_
    refine Go.Sx.V rfl wu rfl rfl (mv rfl) ?_
    refine Go.Sx.V rfl wu rfl rfl (neqI rfl rfl) ?_
    refine Go.Sx.V rfl wu rfl rfl (mv rfl) ?_
    refine KB 70 false rfl (by simp) ?_
    refine Go.Sx.V rfl (wg rfl rfl) rfl rfl (mv rfl) ?_
    refine Go.Sx.V rfl (wg rfl rfl) rfl rfl (mv rfl) ?_
    refine C rfl (wg rfl rfl) rfl rfl Try.call24 (rSame d t2 _ _ _ hd ht2) ?_
    rintro _ w8 hE8 rfl
    replace hX := hX.trans hE8
    replace hs := hs.ext hE8
    refine Go.Sx.V rfl (wg rfl rfl) rfl rfl (notB rfl) ?_
    refine Go.Sx.V rfl wu rfl rfl (pk rfl rfl) ?_
    refine wr_nil (post_thenN ?_)
    clear ht2 hd
    refine wc_condF rfl (by simp) ?_
    refine wc_skip (post_thenN (wc_seq (wc_seq ?_)))
    refine wc_region [0,1] rfl ?_
    refine Go.Sx.V rfl wu rfl rfl (mv rfl) ?_
    refine Go.Sx.V rfl wu rfl rfl (eqlI rfl rfl) ?_
    refine wr_nil (post_thenN ?_)
    refine wc_cut (σ := Unit) (fun _ => [(7, gv)]) (fun _ w' => Ext w2 w') ?_ ?_
    · skip
      refine wc_cond rfl ?_ ?_
      · intro hx
        simp at hx
        have hab : a.length = b.length := by
          apply Classical.byContradiction
          intro hc
          rw [pwA, if_neg hc] at hx
          simp at hx
        rw [pwA, if_pos hab] at hs
        have hp2 := pw_back (P := P) hab
        have hpl := pw_length (P := P) (fun x y => x + y) a b
        have hps : pwA P (fun x y => x + -y) (pw P (fun x y => x + y) a b) b = (clean P a, 0) := by
          rw [pwA, if_pos (by omega), hp2]
        refine wc_seq ?_
        refine wc_region [0,1,2,3,4,5,6,7,8] rfl ?_
        refine Go.Sx.V rfl wu rfl rfl (mv rfl) ?_
        refine Go.Sx.V rfl wu rfl rfl (mv rfl) ?_
        refine Go.Sx.V rfl wu rfl rfl (mv rfl) ?_
        refine C rfl wu rfl rfl Try.call37 (wSub P gv s v _ b _ (hG.ext hX) hs (hv.ext hX) (by have := ba.2; dsimp only; omega)) ?_
        rintro _ w9 hE9 ⟨bk, rfl, hbk⟩
        replace hX := hX.trans hE9
        rw [hps] at hbk ⊢
        refine Go.Sx.V rfl wu rfl rfl (mv rfl) ?_
        refine Go.Sx.V rfl wu rfl rfl (ext rfl rfl) ?_
        refine Go.Sx.V rfl wu rfl rfl (ext rfl rfl) ?_
        refine Go.Sx.V rfl wu rfl rfl (asg rfl) ?_
        refine Go.Sx.V rfl wu rfl rfl (asg rfl) ?_
        refine wr_nil (post_thenN (wc_seq ?_))
        refine wc_region [0,1,2,3,4,5,6,7,8,9] rfl ?_
        refine Go.Sx.V rfl wu rfl rfl (mv rfl) ?_
        refine Go.Sx.V rfl wu rfl rfl (neqI rfl rfl) ?_
        refine Go.Sx.V rfl wu rfl rfl (mv rfl) ?_
        refine KB 87 false rfl (by simp) ?_
        refine Go.Sx.V rfl (wg rfl rfl) rfl rfl (mv rfl) ?_
        refine Go.Sx.V rfl (wg rfl rfl) rfl rfl (ldA rfl ag40) ?_
        refine Go.Sx.V rfl (wg rfl rfl) rfl rfl (mv rfl) ?_
        refine C rfl (wg rfl rfl) rfl rfl Try.call31 (rClean P mo md u a _ (hF.ext hX) (hu.ext hX) ba.2) ?_
        rintro cA w11 hE11 hcA
        replace hX := hX.trans hE11
        refine C rfl (wg rfl rfl) rfl rfl Try.call24 (rSame bk cA _ _ _ (hbk.ext hE11) hcA) ?_
        rintro _ w13 hE13 rfl
        replace hX := hX.trans hE13
        refine Go.Sx.V rfl (wg rfl rfl) rfl rfl (notB rfl) ?_
        refine Go.Sx.V rfl wu rfl rfl (pk rfl rfl) ?_
        refine wr_nil (post_thenN ?_)
        refine wc_condF rfl (by simp) ?_
        exact wc_skip (post_cutN () ⟨rfl, trivial⟩ hX)
      · intro _
        exact wc_skip (post_cutN () ⟨rfl, trivial⟩ hX)
    · rintro _ w14 hX
      refine wc_seq ?_
      have he := ex_add P.q_two
      refine wc_region [0,1,2,3,4,5,6,7,8] rfl ?_
      refine Go.Sx.V rfl wu rfl rfl (mv rfl) ?_
      refine BSI (zs := [1, 0]) rfl wu rfl rfl rfl rfl ty26 ?_
      intro e w17 hE7 _ he1 _
      replace hX := hX.trans hE7
      refine BSI (zs := [0, 1]) rfl wu rfl rfl rfl rfl ty26 ?_
      intro d w18 hE8 _ he2 _
      replace hX := hX.trans hE8
      refine C rfl wu rfl rfl Try.call35 (wAdd P gv e d _ _ _ (hG.ext hX) (he1.ext hE8) he2 (by decide)) ?_
      rintro _ w19 hE9 ⟨s, rfl, hs⟩
      replace hX := hX.trans hE9
      rw [he.1] at hs
      rw [he.2]
      refine Go.Sx.V rfl wu rfl rfl (mv rfl) ?_
      refine Go.Sx.V rfl wu rfl rfl (ext rfl rfl) ?_
      refine Go.Sx.V rfl wu rfl rfl (ext rfl rfl) ?_
      refine Go.Sx.V rfl wu rfl rfl (asg rfl) ?_
      refine Go.Sx.V rfl wu rfl rfl (asg rfl) ?_
      refine wr_nil (post_thenN (wc_seq ?_))
      refine wc_region [0,1,2,3,4,5,6,7] rfl ?_
      refine Go.Sx.V rfl wu rfl rfl (mv rfl) ?_
      refine Go.Sx.V rfl wu rfl rfl (eqlI rfl rfl) ?_
      refine Go.Sx.V rfl wu rfl rfl (mv rfl) ?_
      refine KB 104 true rfl (by simp) ?_
      refine Go.Sx.V rfl (wg rfl rfl) rfl rfl (mv rfl) ?_
      refine BSI (zs := [1, 1]) rfl (wg rfl rfl) rfl rfl rfl rfl ty26 ?_
      intro f w20 hE10 _ hf _
      replace hX := hX.trans hE10
      refine C rfl (wg rfl rfl) rfl rfl Try.call24 (rSame s f _ _ _ (hs.ext hE10) hf) ?_
      rintro _ w21 hE11 rfl
      replace hX := hX.trans hE11
      refine Go.Sx.V rfl wu rfl rfl (pk rfl rfl) ?_
      refine Go.Sx.V rfl wu rfl rfl (asg rfl) ?_
      refine wr_nil (post_thenN (wc_ret ?_))
      refine post_ret1 rfl rfl ?_
      exact ⟨hE.trans hX, rfl⟩
namespace FWordAdds
open Go.ChangeShapes Go.WideShapes Go.ChangeAt Go.RowKit Go.Fr
theorem own : ownKnob Try.prog.godebug = none := by kernel_rfl
theorem laidOut : laidOutB Try.prog = true := by kernel_rfl
set_option maxRecDepth 100000 in
theorem lifted (os : Os) (started : os.Started) (H : Type) (enc : TypeId × Value → H) :
    ReturnsInHanded {} Try.checked os 9 .any (Rows.wordAddsSpec.pre6 enc Try.prog Try.f9 Rows.wordAddsRow.domain false) (Rows.wordAddsSpec.post enc Try.prog Try.f9 false true false false) := by
  refine returnsInHanded_of_change_sized (C := Try.checked) own started (by kernel_rfl) Try.func9
    (ChangeSpec.witness6 (enc := enc) (C := Try.checked) false ⟨#[], #[.agg #[.int .i64 0, .int .i64 0, .slice none 0 0], .slice none 0 0, .slice none 0 0], []⟩ 8 (by kernel_rfl) (by kernel_rfl) (by kernel_rfl) (by kernel_rfl)) ?_
  intro W base args ds gs before hval0 hW _ hsz0 _
  have hval : ∀ (j : Nat) t v, Try.f9.params[j]? = some t → args[j]? = some v → Value.okWide Try.prog W .any base t v := hval0
  have hW' := hW
  obtain ⟨p, q, hA0, hV, rfl, hfz, hnd⟩ := hW
  have hA : DataW.TrodAll enc Try.prog W 0 (fun _ => true) true Try.f9.params.toList args.toList ds p := hA0
  have hsz : (DataW.weightsEach Try.prog (Try.f9.params.toList ++ Rows.wordAddsSpec.plain.varTypes Try.prog) (ds ++ gs)).all (· ≤ reachBytes) = true := hsz0
  rw [Try.params9] at hA hval hsz
  obtain ⟨v0, vs0, d0, ds0, p0, q0, hargs, rfl, rfl, h0, r0⟩ := trodAll_cons hA
  obtain ⟨v1, vs1, d1, ds1, p1, q1, rfl, rfl, rfl, h1, r1⟩ := trodAll_cons r0
  obtain ⟨v2, vs2, d2, ds2, p2, q2, rfl, rfl, rfl, h2, r2⟩ := trodAll_cons r1
  obtain ⟨rfl, rfl, rfl⟩ := trodAll_nil r2
  obtain rfl : args = #[v0, v1, v2] := by cases args; simp_all
  obtain ⟨rfl, rfl⟩ := trodVars_none hV
  have k0 := h0
  have lt0 : ∀ x ∈ p0, x.block < W.heap.size := by obtain ⟨m, hm⟩ := k0; exact DataW.trod_lt m _ _ _ hm
  have w0 : WOK Try.prog 40 d0 := wok_arg hsz (j := 0) rfl rfl
  obtain ⟨x0, s0⟩ := op_field (hval 0 40 v0 rfl rfl) h0 w0
  have k1 := h1
  have lt1 : ∀ x ∈ p1, x.block < W.heap.size := by obtain ⟨m, hm⟩ := k1; exact DataW.trod_lt m _ _ _ hm
  have w1 : WOK Try.prog 26 d1 := wok_arg hsz (j := 1) rfl rfl
  obtain ⟨z1, s1, b1⟩ := op_intsL Try.underlying26 Try.underlying3 (by kernel_rfl) (by kernel_rfl) (hval 1 26 v1 rfl rfl) h1 w1
  have k2 := h2
  have lt2 : ∀ x ∈ p2, x.block < W.heap.size := by obtain ⟨m, hm⟩ := k2; exact DataW.trod_lt m _ _ _ hm
  have w2 : WOK Try.prog 26 d2 := wok_arg hsz (j := 2) rfl rfl
  obtain ⟨z2, s2, b2⟩ := op_intsL Try.underlying26 Try.underlying3 (by kernel_rfl) (by kernel_rfl) (hval 2 26 v2 rfl rfl) h2 w2
  refine (law_WordAdds (w := W) v0 x0 s0 v1 z1 s1 b1 v2 z2 s2 b2).mono fun e W' he => ?_
  cases e with
  | panicked c => exact he.elim
  | outgrown => exact he.elim
  | returned v =>
    obtain ⟨bel, rfl⟩ := he
    exact ⟨_, rfl, _, _, _, [], _, [], hW', trodAll_mk1 (shut_bool Try.underlying4 _), (trodAll_cons_mk (Below.trod laidOut (by kernel_rfl) (of_decide_eq_true (by kernel_rfl)) k0 bel lt0) (trodAll_cons_mk (Below.trod laidOut (by kernel_rfl) (of_decide_eq_true (by kernel_rfl)) k1 bel lt1) (trodAll_cons_mk (Below.trod laidOut (by kernel_rfl) (of_decide_eq_true (by kernel_rfl)) k2 bel lt2) trodAll_mk0))), rfl, bel.frame _, fun h => by cases h⟩
theorem over : Rows.wordAddsRow.holds Try.pinned (OpenSpec.ofChange Rows.wordAddsSpec) :=
  OpenClaim.holds_of_wide 9 Try.f9 rfl rfl rfl rfl rfl rfl rfl ⟨rfl, rfl, rfl, rfl, rfl⟩ rfl rfl rfl rfl rfl (by kernel_rfl) Try.func9 (by kernel_rfl)
    (of_decide_eq_true (by kernel_rfl)) (by unfold Func.isWrapper; first | (rw [if_pos (by decide +kernel)]; kernel_rfl) | (rw [if_neg (by decide +kernel)]; exact ⟨rfl, rfl⟩))
    (fun os started H enc _ => lifted os started H enc)
end FWordAdds
/-- The statement. -/
theorem wordAdds_holds : Rows.WordAddsSaid := FWordAdds.over

theorem fa61_0 : FA Try.prog 61 0 0 := fun a w => by
  simp [Instr.fieldAt, run_underlying Try.underlying61, Instr.sureAddr, fieldPlace]
theorem fa61_1 : FA Try.prog 61 1 3 := fun a w => by
  simp [Instr.fieldAt, run_underlying Try.underlying61, Instr.sureAddr, fieldPlace]
theorem fa61_2 : FA Try.prog 61 2 4 := fun a w => by
  simp [Instr.fieldAt, run_underlying Try.underlying61, Instr.sureAddr, fieldPlace]
theorem fa61_3 : FA Try.prog 61 3 5 := fun a w => by
  simp [Instr.fieldAt, run_underlying Try.underlying61, Instr.sureAddr, fieldPlace]

set_option maxRecDepth 10000 in
theorem law_WordInner {w : World} (v0 : Value) (r : LRec) (s0 : v0 = r.v ∧ LOf w r) :
    Calls Try.prog 11 #[v0] w (RetX w fun v _ => v = .bool true) := by
  obtain ⟨⟨p, M, mo, md⟩, uA, uB, uC, a, b, c⟩ := r
  obtain ⟨rfl, hr, hu, hv, hz, ba, bb, bc⟩ := s0
  dsimp only at hr hu hv hz ba bb bc
  refine calls1 Try.func11 rfl rfl ?_
  refine wc_seq ?_
  refine wc_region [0,1] rfl ?_
  refine BXA rfl wu rfl rfl ?_
  intro fb w1 hE hB hg
  refine Go.Sx.V rfl wu rfl rfl (asg rfl) ?_
  refine wr_nil (post_thenN (wc_seq ?_))
  refine wc_region [0,1,2,3,4,5,6,7,8,9] rfl ?_
  refine Go.Sx.V rfl wu rfl rfl (fad rfl fa61_0) ?_
  refine Go.Sx.V rfl wu rfl rfl (ldA rfl ag40) ?_
  refine C rfl wu rfl rfl Try.call29 (lOpen ⟨p, M, mo, md⟩ _ (hr.ints.ext hE)) ?_
  rintro ov w2 hE2 hop
  replace hB := hB.ext hE2
  replace hE := hE.trans hE2
  obtain ⟨gv, dn, rfl, hcase⟩ := open_split hop
  refine Go.Sx.V rfl wu rfl rfl (mv rfl) ?_
  refine Go.Sx.V rfl wu rfl rfl (ext rfl rfl) ?_
  refine Go.Sx.V rfl wu rfl rfl (ext rfl rfl) ?_
  refine Go.Sx.V rfl wu rfl rfl (ext rfl rfl) ?_
  refine Go.Sx.V rfl wu rfl rfl (asg rfl) ?_
  refine Go.Sx.V rfl wu rfl rfl (asg rfl) ?_
  refine Go.Sx.V rfl wu rfl rfl (asg rfl) ?_
  refine wr_nil (post_thenN (wc_seq (wc_seq ?_)))
  have hmi := hr.ints.ext hE
  replace hu := hu.ext hE
  replace hv := hv.ext hE
  replace hz := hz.ext hE
  have hla := ba.2
  have hlb := bb.2
  have hlc := bc.2
  refine wc_region [0] rfl ?_
  refine Go.Sx.V rfl wu rfl rfl (mv rfl) ?_
  refine wr_nil (post_thenN ?_)
  refine wc_cond rfl ?_ ?_
  · intro _
    refine wc_seq ?_
    refine wc_region [0,1] rfl ?_
    refine Go.Sx.V rfl wu rfl rfl (mv rfl) ?_
    refine Go.Sx.V rfl wu rfl rfl (asg rfl) ?_
    refine wr_nil (post_thenN (wc_ret (post_thenR ?_)))
    refine post_ret1 rfl rfl ?_
    exact ⟨hE, rfl⟩
  · intro h
    rcases hcase with hd | ⟨_, P, hp, hM, hFV, hG⟩
    · rw [hd] at h; cases h
    dsimp only at hB
    subst hp hM
    have hF := hFV _ _ hmi
    have hX := Ext.refl w2
    have i1 := inn (P := P) a b
    have i2 := inn (P := P) b a
    rw [innA_comm] at i2
    refine wc_skip (post_thenN (wc_seq ?_))
    refine wc_region [0,1,2,3,4,5,6,7,8,9,10] rfl ?_
    refine Go.Sx.V rfl wu rfl rfl (mv rfl) ?_
    refine Go.Sx.V rfl wu rfl rfl (fad rfl fa61_1) ?_
    refine Go.Sx.V rfl wu rfl rfl (ldB rfl na26) ?_
    refine Go.Sx.V rfl wu rfl rfl (fad rfl fa61_2) ?_
    refine Go.Sx.V rfl wu rfl rfl (ldB rfl na26) ?_
    refine C rfl wu rfl rfl Try.call43 (wInner P gv uA uB a b _ (hG.ext hX) (hu.ext hX) (hv.ext hX) ba.2) ?_
    rintro _ w3 hE3 rfl
    replace hX := hX.trans hE3
    rw [i1.1, i1.2]
    refine Go.Sx.V rfl wu rfl rfl (mv rfl) ?_
    refine Go.Sx.V rfl wu rfl rfl (ext rfl rfl) ?_
    refine Go.Sx.V rfl wu rfl rfl (ext rfl rfl) ?_
    refine Go.Sx.V rfl wu rfl rfl (asg rfl) ?_
    refine Go.Sx.V rfl wu rfl rfl (asg rfl) ?_
    refine wr_nil (post_thenN (wc_seq ?_))
    refine wc_region [0,1,2,3,4,5,6,7,8,9,10,11] rfl ?_
    refine Go.Sx.V rfl wu rfl rfl (fad rfl fa61_0) ?_
    refine Go.Sx.V rfl wu rfl rfl (ldA rfl ag40) ?_
    refine Go.Sx.V rfl wu rfl rfl (fad rfl fa61_1) ?_
    refine Go.Sx.V rfl wu rfl rfl (ldB rfl na26) ?_
    refine Go.Sx.V rfl wu rfl rfl (fad rfl fa61_2) ?_
    refine Go.Sx.V rfl wu rfl rfl (ldB rfl na26) ?_
    refine C rfl wu rfl rfl Try.call44 (r11Inner P mo md uA uB a b _ (hF.ext hX) (hu.ext hX) (hv.ext hX)) ?_
    rintro _ w4 hE4 rfl
    replace hX := hX.trans hE4
    refine Go.Sx.V rfl wu rfl rfl (mv rfl) ?_
    refine Go.Sx.V rfl wu rfl rfl (ext rfl rfl) ?_
    refine Go.Sx.V rfl wu rfl rfl (ext rfl rfl) ?_
    refine Go.Sx.V rfl wu rfl rfl (asg rfl) ?_
    refine Go.Sx.V rfl wu rfl rfl (asg rfl) ?_
    refine wr_nil (post_thenN (wc_seq (wc_seq ?_)))
    refine wc_region [0,1,2,3,4,5,6,7] rfl ?_
    refine Go.Sx.V rfl wu rfl rfl (mv rfl) ?_
    refine Go.Sx.V rfl wu rfl rfl (mv rfl) ?_
    refine Go.Sx.V rfl wu rfl rfl (neqI rfl rfl) ?_
    refine Go.Sx.V rfl wu rfl rfl (mv rfl) ?_
    refine OR (π1 := [4,5,6,7]) (π2 := []) (tc := 53) (tp := 57) rfl rfl rfl (by
        intro _
        refine SK rfl rfl rfl rfl rfl ?_
        refine SK rfl rfl rfl rfl rfl ?_
        refine SK rfl rfl rfl rfl rfl ?_
        refine Go.Sx.V rfl wu rfl rfl (pk rfl rfl) ?_
        exact join rfl) (by
        intro hg
        simp at hg
        refine Go.Sx.V rfl (wg rfl rfl) rfl rfl (mv rfl) ?_
        refine Go.Sx.V rfl (wg rfl rfl) rfl rfl (mv rfl) ?_
        refine Go.Sx.V rfl (wg rfl rfl) rfl rfl (neqI rfl rfl) ?_
        refine Go.Sx.V rfl wu rfl rfl (pk rfl rfl) ?_
        exact join rfl) ?_
    refine wr_nil (post_thenN ?_)
    refine wc_condF rfl (by simp) ?_
    refine wc_skip (post_thenN (wc_seq ?_))
    refine wc_region [0,1,2,3,4,5,6,7,8,9,10] rfl ?_
    refine Go.Sx.V rfl wu rfl rfl (mv rfl) ?_
    refine Go.Sx.V rfl wu rfl rfl (fad rfl fa61_2) ?_
    refine Go.Sx.V rfl wu rfl rfl (ldB rfl na26) ?_
    refine Go.Sx.V rfl wu rfl rfl (fad rfl fa61_1) ?_
    refine Go.Sx.V rfl wu rfl rfl (ldB rfl na26) ?_
    refine C rfl wu rfl rfl Try.call43 (wInner P gv uB uA b a _ (hG.ext hX) (hv.ext hX) (hu.ext hX) bb.2) ?_
    rintro _ w5 hE5 rfl
    replace hX := hX.trans hE5
    rw [i2.1, i2.2]
    refine Go.Sx.V rfl wu rfl rfl (mv rfl) ?_
    refine Go.Sx.V rfl wu rfl rfl (ext rfl rfl) ?_
    refine Go.Sx.V rfl wu rfl rfl (ext rfl rfl) ?_
    refine Go.Sx.V rfl wu rfl rfl (asg rfl) ?_
    refine Go.Sx.V rfl wu rfl rfl (asg rfl) ?_
    refine wr_nil (post_thenN (wc_seq (wc_seq ?_)))
    refine wc_region [0,1,2,3,4,5,6,7] rfl ?_
    refine Go.Sx.V rfl wu rfl rfl (mv rfl) ?_
    refine Go.Sx.V rfl wu rfl rfl (mv rfl) ?_
    refine Go.Sx.V rfl wu rfl rfl (neqI rfl rfl) ?_
    refine Go.Sx.V rfl wu rfl rfl (mv rfl) ?_
    refine OR (π1 := [4,5,6,7]) (π2 := []) (tc := 70) (tp := 74) rfl rfl rfl (by
        intro _
        refine SK rfl rfl rfl rfl rfl ?_
        refine SK rfl rfl rfl rfl rfl ?_
        refine SK rfl rfl rfl rfl rfl ?_
        refine Go.Sx.V rfl wu rfl rfl (pk rfl rfl) ?_
        exact join rfl) (by
        intro hg
        simp at hg
        refine Go.Sx.V rfl (wg rfl rfl) rfl rfl (mv rfl) ?_
        refine Go.Sx.V rfl (wg rfl rfl) rfl rfl (mv rfl) ?_
        refine Go.Sx.V rfl (wg rfl rfl) rfl rfl (neqI rfl rfl) ?_
        refine Go.Sx.V rfl wu rfl rfl (pk rfl rfl) ?_
        exact join rfl) ?_
    refine wr_nil (post_thenN ?_)
    refine wc_condF rfl (by simp) ?_
    refine wc_skip (post_thenN (wc_seq (wc_seq ?_)))
    refine wc_region [0,1,2,3,4,5,6,7,8,9,10,11,12,13,14,15] rfl ?_
    refine Go.Sx.V rfl wu rfl rfl (fad rfl fa61_1) ?_
    refine Go.Sx.V rfl wu rfl rfl (ldB rfl na26) ?_
    refine Go.Sx.V rfl wu rfl rfl (lenI rfl ty26) ?_
    refine Go.Sx.V rfl wu rfl rfl (fad rfl fa61_2) ?_
    refine Go.Sx.V rfl wu rfl rfl (ldB rfl na26) ?_
    refine Go.Sx.V rfl wu rfl rfl (lenI rfl ty26) ?_
    refine Go.Sx.V rfl wu rfl rfl (eqlI rfl rfl) ?_
    refine Go.Sx.V rfl wu rfl rfl (mv rfl) ?_
    refine AND (π1 := [8,9,10,11,12,13,14,15]) (π2 := []) (tc := 82) (tp := 90) rfl rfl rfl (by
        intro hg
        simp at hg
        refine Go.Sx.V rfl (wg rfl rfl) rfl rfl (fad rfl fa61_2) ?_
        refine Go.Sx.V rfl (wg rfl rfl) rfl rfl (ldB rfl na26) ?_
        refine Go.Sx.V rfl (wg rfl rfl) rfl rfl (lenI rfl ty26) ?_
        refine Go.Sx.V rfl (wg rfl rfl) rfl rfl (fad rfl fa61_3) ?_
        refine Go.Sx.V rfl (wg rfl rfl) rfl rfl (ldB rfl na26) ?_
        refine Go.Sx.V rfl (wg rfl rfl) rfl rfl (lenI rfl ty26) ?_
        refine Go.Sx.V rfl (wg rfl rfl) rfl rfl (eqlI rfl rfl) ?_
        refine Go.Sx.V rfl wu rfl rfl (pk rfl rfl) ?_
        exact join rfl) (by
        intro _
        refine SK rfl rfl rfl rfl rfl ?_
        refine SK rfl rfl rfl rfl rfl ?_
        refine SK rfl rfl rfl rfl rfl ?_
        refine SK rfl rfl rfl rfl rfl ?_
        refine SK rfl rfl rfl rfl rfl ?_
        refine SK rfl rfl rfl rfl rfl ?_
        refine SK rfl rfl rfl rfl rfl ?_
        refine Go.Sx.V rfl wu rfl rfl (pk rfl rfl) ?_
        exact join rfl) ?_
    refine wr_nil (post_thenN ?_)
    refine wc_cut (σ := Unit) (fun _ => [(3, gv)]) (fun _ w' => Ext w2 w') ?_ ?_
    · skip
      refine wc_cond rfl ?_ ?_
      · intro hl
        simp at hl
        have l1 : a.length = b.length := by omega
        have l2 : b.length = c.length := by omega
        have hpl := pw_length (P := P) (fun x y => x + y) a b
        have i3 := inn (P := P) (pw P (fun x y => x + y) a b) c
        have i4 := inn (P := P) a c
        have i5 := inn (P := P) b c
        rw [innA, if_pos (by omega)] at i3 i4 i5
        dsimp only at i3 i4 i5
        rw [dotK_add a b c l1] at i3
        have hps : pwA P (fun x y => x + y) a b = (pw P (fun x y => x + y) a b, 0) := by rw [pwA, if_pos l1]
        refine wc_seq ?_
        refine wc_region [0,1,2,3,4,5,6,7,8,9,10] rfl ?_
        refine Go.Sx.V rfl wu rfl rfl (mv rfl) ?_
        refine Go.Sx.V rfl wu rfl rfl (fad rfl fa61_1) ?_
        refine Go.Sx.V rfl wu rfl rfl (ldB rfl na26) ?_
        refine Go.Sx.V rfl wu rfl rfl (fad rfl fa61_2) ?_
        refine Go.Sx.V rfl wu rfl rfl (ldB rfl na26) ?_
        refine C rfl wu rfl rfl Try.call35 (wAdd P gv uA uB a b _ (hG.ext hX) (hu.ext hX) (hv.ext hX) ba.2) ?_
        rintro _ w6 hE6 ⟨s, rfl, hs⟩
        replace hX := hX.trans hE6
        rw [hps] at hs ⊢
        refine Go.Sx.V rfl wu rfl rfl (mv rfl) ?_
        refine Go.Sx.V rfl wu rfl rfl (ext rfl rfl) ?_
        refine Go.Sx.V rfl wu rfl rfl (ext rfl rfl) ?_
        refine Go.Sx.V rfl wu rfl rfl (asg rfl) ?_
        refine Go.Sx.V rfl wu rfl rfl (asg rfl) ?_
        refine wr_nil (post_thenN (wc_seq ?_))
        refine wc_region [0,1,2,3,4,5,6,7,8,9] rfl ?_
        refine Go.Sx.V rfl wu rfl rfl (mv rfl) ?_
        refine Go.Sx.V rfl wu rfl rfl (mv rfl) ?_
        refine Go.Sx.V rfl wu rfl rfl (fad rfl fa61_3) ?_
        refine Go.Sx.V rfl wu rfl rfl (ldB rfl na26) ?_
        refine C rfl wu rfl rfl Try.call43 (wInner P gv s uC _ c _ (hG.ext hX) hs (hz.ext hX) (by dsimp only; omega)) ?_
        rintro _ w7 hE7 rfl
        replace hX := hX.trans hE7
        dsimp only
        rw [i3.1, i3.2]
        refine Go.Sx.V rfl wu rfl rfl (mv rfl) ?_
        refine Go.Sx.V rfl wu rfl rfl (ext rfl rfl) ?_
        refine Go.Sx.V rfl wu rfl rfl (ext rfl rfl) ?_
        refine Go.Sx.V rfl wu rfl rfl (asg rfl) ?_
        refine Go.Sx.V rfl wu rfl rfl (asg rfl) ?_
        refine wr_nil (post_thenN (wc_seq ?_))
        refine wc_region [0,1,2,3,4,5,6,7,8,9,10] rfl ?_
        refine Go.Sx.V rfl wu rfl rfl (mv rfl) ?_
        refine Go.Sx.V rfl wu rfl rfl (fad rfl fa61_1) ?_
        refine Go.Sx.V rfl wu rfl rfl (ldB rfl na26) ?_
        refine Go.Sx.V rfl wu rfl rfl (fad rfl fa61_3) ?_
        refine Go.Sx.V rfl wu rfl rfl (ldB rfl na26) ?_
        refine C rfl wu rfl rfl Try.call43 (wInner P gv uA uC a c _ (hG.ext hX) (hu.ext hX) (hz.ext hX) ba.2) ?_
        rintro _ w8 hE8 rfl
        replace hX := hX.trans hE8
        rw [i4.1, i4.2]
        refine Go.Sx.V rfl wu rfl rfl (mv rfl) ?_
        refine Go.Sx.V rfl wu rfl rfl (ext rfl rfl) ?_
        refine Go.Sx.V rfl wu rfl rfl (ext rfl rfl) ?_
        refine Go.Sx.V rfl wu rfl rfl (asg rfl) ?_
        refine Go.Sx.V rfl wu rfl rfl (asg rfl) ?_
        refine wr_nil (post_thenN (wc_seq ?_))
        refine wc_region [0,1,2,3,4,5,6,7,8,9,10] rfl ?_
        refine Go.Sx.V rfl wu rfl rfl (mv rfl) ?_
        refine Go.Sx.V rfl wu rfl rfl (fad rfl fa61_2) ?_
        refine Go.Sx.V rfl wu rfl rfl (ldB rfl na26) ?_
        refine Go.Sx.V rfl wu rfl rfl (fad rfl fa61_3) ?_
        refine Go.Sx.V rfl wu rfl rfl (ldB rfl na26) ?_
        refine C rfl wu rfl rfl Try.call43 (wInner P gv uB uC b c _ (hG.ext hX) (hv.ext hX) (hz.ext hX) bb.2) ?_
        rintro _ w9 hE9 rfl
        replace hX := hX.trans hE9
        rw [i5.1, i5.2]
        refine Go.Sx.V rfl wu rfl rfl (mv rfl) ?_
        refine Go.Sx.V rfl wu rfl rfl (ext rfl rfl) ?_
        refine Go.Sx.V rfl wu rfl rfl (ext rfl rfl) ?_
        refine Go.Sx.V rfl wu rfl rfl (asg rfl) ?_
        refine Go.Sx.V rfl wu rfl rfl (asg rfl) ?_
        refine wr_nil (post_thenN (wc_seq ?_))
        refine wc_region [0,1,2,3,4,5,6,7,8,9,10,11,12,13,14,15,16,17,18,19,20,21,22] rfl ?_
        refine Go.Sx.V rfl wu rfl rfl (mv rfl) ?_
        refine Go.Sx.V rfl wu rfl rfl (neqI rfl rfl) ?_
        refine Go.Sx.V rfl wu rfl rfl (mv rfl) ?_
        refine KB 128 false rfl (by simp) ?_
        refine Go.Sx.V rfl (wg rfl rfl) rfl rfl (mv rfl) ?_
        refine Go.Sx.V rfl (wg rfl rfl) rfl rfl (neqI rfl rfl) ?_
        refine Go.Sx.V rfl wu rfl rfl (pk rfl rfl) ?_
        refine Go.Sx.V rfl wu rfl rfl (mv rfl) ?_
        refine KB 132 false rfl (by simp) ?_
        refine Go.Sx.V rfl (wg rfl rfl) rfl rfl (mv rfl) ?_
        refine Go.Sx.V rfl (wg rfl rfl) rfl rfl (neqI rfl rfl) ?_
        refine Go.Sx.V rfl wu rfl rfl (pk rfl rfl) ?_
        refine Go.Sx.V rfl wu rfl rfl (mv rfl) ?_
        refine KB 136 false rfl (by simp) ?_
        refine Go.Sx.V rfl (wg rfl rfl) rfl rfl (mv rfl) ?_
        refine Go.Sx.V rfl (wg rfl rfl) rfl rfl (neqI rfl rfl) ?_
        refine Go.Sx.V rfl wu rfl rfl (pk rfl rfl) ?_
        refine Go.Sx.V rfl wu rfl rfl (mv rfl) ?_
        refine KB 140 false rfl (by simp) ?_
        refine Go.Sx.V rfl (wg rfl rfl) rfl rfl (mv rfl) ?_
        refine Go.Sx.V rfl (wg rfl rfl) rfl rfl (fad rfl fa61_0) ?_
        refine Go.Sx.V rfl (wg rfl rfl) rfl rfl (ldA rfl ag40) ?_
        refine Go.Sx.V rfl (wg rfl rfl) rfl rfl (mv rfl) ?_
        refine Go.Sx.V rfl (wg rfl rfl) rfl rfl (mv rfl) ?_
        refine C rfl (wg rfl rfl) rfl rfl Try.call45 (rAdd P mo md (dotK P a c).1 (dotK P b c).1 _ (hF.ext hX)) ?_
        rintro _ w10 hE10 rfl
        replace hX := hX.trans hE10
        rw [inK_val, inK_val]
        refine Go.Sx.V rfl (wg rfl rfl) rfl rfl (neqI rfl rfl) ?_
        refine Go.Sx.V rfl wu rfl rfl (pk rfl rfl) ?_
        refine wr_nil (post_thenN ?_)
        refine wc_condF rfl (by simp) ?_
        exact wc_skip (post_cutN () ⟨rfl, trivial⟩ hX)
      · intro _
        exact wc_skip (post_cutN () ⟨rfl, trivial⟩ hX)
    · rintro _ w14 hX
      refine wc_seq ?_
      have he := ex_inn P.q_two
      have i6 := inn (P := P) [1, 0, 1] [1, 1, 0]
      rw [he.1, he.2] at i6
      refine wc_region [0,1,2,3,4,5,6,7,8] rfl ?_
      refine Go.Sx.V rfl wu rfl rfl (mv rfl) ?_
      refine BSI (zs := [1, 0, 1]) rfl wu rfl rfl rfl rfl ty26 ?_
      intro e w17 hE7 _ he1 _
      replace hX := hX.trans hE7
      refine BSI (zs := [1, 1, 0]) rfl wu rfl rfl rfl rfl ty26 ?_
      intro d w18 hE8 _ he2 _
      replace hX := hX.trans hE8
      refine C rfl wu rfl rfl Try.call43 (wInner P gv e d _ _ _ (hG.ext hX) (he1.ext hE8) he2 (by decide)) ?_
      rintro _ w19 hE9 rfl
      replace hX := hX.trans hE9
      rw [i6.1, i6.2]
      refine Go.Sx.V rfl wu rfl rfl (mv rfl) ?_
      refine Go.Sx.V rfl wu rfl rfl (ext rfl rfl) ?_
      refine Go.Sx.V rfl wu rfl rfl (ext rfl rfl) ?_
      refine Go.Sx.V rfl wu rfl rfl (asg rfl) ?_
      refine Go.Sx.V rfl wu rfl rfl (asg rfl) ?_
      refine wr_nil (post_thenN (wc_seq ?_))
      refine wc_region [0,1,2,3,4,5,6] rfl ?_
      refine Go.Sx.V rfl wu rfl rfl (mv rfl) ?_
      refine Go.Sx.V rfl wu rfl rfl (eqlI rfl rfl) ?_
      refine Go.Sx.V rfl wu rfl rfl (mv rfl) ?_
      refine AND (π1 := [3,4,5]) (π2 := [6]) (tc := 158) (tp := 161) rfl rfl rfl (by
          intro hg
          simp at hg
          refine Go.Sx.V rfl (wg rfl rfl) rfl rfl (mv rfl) ?_
          refine Go.Sx.V rfl (wg rfl rfl) rfl rfl (eqlI rfl rfl) ?_
          refine Go.Sx.V rfl wu rfl rfl (pk rfl rfl) ?_
          exact join rfl) (by
          intro _
          refine SK rfl rfl rfl rfl rfl ?_
          refine SK rfl rfl rfl rfl rfl ?_
          refine Go.Sx.V rfl wu rfl rfl (pk rfl rfl) ?_
          exact join rfl) ?_
      refine Go.Sx.V rfl wu rfl rfl (asg rfl) ?_
      refine wr_nil (post_thenN (wc_ret ?_))
      refine post_ret1 rfl rfl ?_
      exact ⟨hE.trans hX, rfl⟩
namespace FWordInner
open Go.ChangeShapes Go.WideShapes Go.ChangeAt Go.RowKit Go.Fr
theorem own : ownKnob Try.prog.godebug = none := by kernel_rfl
theorem laidOut : laidOutB Try.prog = true := by kernel_rfl
set_option maxRecDepth 100000 in
theorem lifted (os : Os) (started : os.Started) (H : Type) (enc : TypeId × Value → H) :
    ReturnsInHanded {} Try.checked os 11 .any (Rows.wordInnerSpec.pre6 enc Try.prog Try.f11 Rows.wordInnerRow.domain false) (Rows.wordInnerSpec.post enc Try.prog Try.f11 false true false false) := by
  refine returnsInHanded_of_change_sized (C := Try.checked) own started (by kernel_rfl) Try.func11
    (ChangeSpec.witness6 (enc := enc) (C := Try.checked) false ⟨#[], #[.agg #[.int .i64 0, .int .i64 0, .slice none 0 0, .slice none 0 0, .slice none 0 0, .slice none 0 0]], []⟩ 8 (by kernel_rfl) (by kernel_rfl) (by kernel_rfl) (by kernel_rfl)) ?_
  intro W base args ds gs before hval0 hW _ hsz0 _
  have hval : ∀ (j : Nat) t v, Try.f11.params[j]? = some t → args[j]? = some v → Value.okWide Try.prog W .any base t v := hval0
  have hW' := hW
  obtain ⟨p, q, hA0, hV, rfl, hfz, hnd⟩ := hW
  have hA : DataW.TrodAll enc Try.prog W 0 (fun _ => true) true Try.f11.params.toList args.toList ds p := hA0
  have hsz : (DataW.weightsEach Try.prog (Try.f11.params.toList ++ Rows.wordInnerSpec.plain.varTypes Try.prog) (ds ++ gs)).all (· ≤ reachBytes) = true := hsz0
  rw [Try.params11] at hA hval hsz
  obtain ⟨v0, vs0, d0, ds0, p0, q0, hargs, rfl, rfl, h0, r0⟩ := trodAll_cons hA
  obtain ⟨rfl, rfl, rfl⟩ := trodAll_nil r0
  obtain rfl : args = #[v0] := by cases args; simp_all
  obtain ⟨rfl, rfl⟩ := trodVars_none hV
  have k0 := h0
  have lt0 : ∀ x ∈ p0, x.block < W.heap.size := by obtain ⟨m, hm⟩ := k0; exact DataW.trod_lt m _ _ _ hm
  have w0 : WOK Try.prog 61 d0 := wok_arg hsz (j := 0) rfl rfl
  obtain ⟨x0, s0⟩ := op_lists (hval 0 61 v0 rfl rfl) h0 w0
  refine (law_WordInner (w := W) v0 x0 s0).mono fun e W' he => ?_
  cases e with
  | panicked c => exact he.elim
  | outgrown => exact he.elim
  | returned v =>
    obtain ⟨bel, rfl⟩ := he
    exact ⟨_, rfl, _, _, _, [], _, [], hW', trodAll_mk1 (shut_bool Try.underlying4 _), (trodAll_cons_mk (Below.trod laidOut (by kernel_rfl) (of_decide_eq_true (by kernel_rfl)) k0 bel lt0) trodAll_mk0), rfl, bel.frame _, fun h => by cases h⟩
theorem over : Rows.wordInnerRow.holds Try.pinned (OpenSpec.ofChange Rows.wordInnerSpec) :=
  OpenClaim.holds_of_wide 11 Try.f11 rfl rfl rfl rfl rfl rfl rfl ⟨rfl, rfl, rfl, rfl, rfl⟩ rfl rfl rfl rfl rfl (by kernel_rfl) Try.func11 (by kernel_rfl)
    (of_decide_eq_true (by kernel_rfl)) (by unfold Func.isWrapper; first | (rw [if_pos (by decide +kernel)]; kernel_rfl) | (rw [if_neg (by decide +kernel)]; exact ⟨rfl, rfl⟩))
    (fun os started H enc _ => lifted os started H enc)
end FWordInner
/-- The statement. -/
theorem wordInner_holds : Rows.WordInnerSaid := FWordInner.over
end Go.Proofs.Ytlcokneidokfnaa
