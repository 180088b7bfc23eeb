/-
  Chapter 11's way into its laws: the arguments' types, and 'open', by contract.
-/
import Derived.Test.YtlcokneidokfnaaFrame2
import Derived.Test.YtlcokneidokfnaaRef4
import Derived.Test.YtlcokneidokfnaaGF1
namespace Go.Proofs.Ytlcokneidokfnaa
open Go Go.Sx Go.Pl Go.RowKit Go.Fd Go.Alg Go.Fr
theorem ft : FT Try.prog 40 := ⟨⟨_, _, _, 3, Try.underlying40, by kernel_rfl, rfl, rfl, rfl, by kernel_rfl, by kernel_rfl, by kernel_rfl, Try.underlying3, Try.underlying3, Try.underlying26, Try.underlying3, by kernel_rfl, by kernel_rfl⟩⟩
theorem op_field {H : Type} {enc : TypeId × Value → H} {w : World} {base : Nat} {spare : Nat → Bool} {held : Bool} {d : DataW H} {ps : List MemPlace} {r : Reach} {b0 : Nat} {v : Value} (hval : Value.okWide Try.prog w r b0 40 v)
    (hd : DataW.Trod enc Try.prog w base spare held 40 v d ps) (hw : WOK Try.prog 40 d) : ∃ r : FRec, v = r.v ∧ FOf w r := op_fieldT ft hval hd hw
theorem lt11 : LT Try.prog 61 := ⟨⟨_, _, _, _, 3, Try.underlying61, by kernel_rfl, rfl, rfl, rfl, rfl, by kernel_rfl, by kernel_rfl, by kernel_rfl, by kernel_rfl, ft, Try.underlying26, Try.underlying26, Try.underlying26, Try.underlying3, by kernel_rfl, by kernel_rfl⟩⟩
theorem op_lists {H : Type} {enc : TypeId × Value → H} {w : World} {base : Nat} {spare : Nat → Bool} {held : Bool} {d : DataW H} {ps : List MemPlace} {r : Reach} {b0 : Nat} {v : Value} (hval : Value.okWide Try.prog w r b0 61 v)
    (hd : DataW.Trod enc Try.prog w base spare held 61 v d ps) (hw : WOK Try.prog 61 d) : ∃ r : LRec, v = r.v ∧ LOf w r := op_listsT lt11 hval hd hw
theorem okf_fv {p M : Int} {md : List Int} (h : OkF p M md) {w : World} {mo : Value} (hi : Ints w mo md) : FV w (fpOf p M md h.1.1 h.1.2.1) mo md := by
  have hS := h.1
  obtain ⟨eo, eo0, hp⟩ := ordZ_eq hS.1 hS.2.1 hS.2.2.1 hS.2.2.2.1
  refine ⟨hi, hp, by have := hS.2.2.1; show M.toNat ≤ 8; omega, hS.2.2.2.1, rfl, fun h1 => hS.2.2.2.2.2.1 (by have : M.toNat = 1 := h1; omega), fun h1 => ?_, ?_⟩
  · have h1' : ¬ M.toNat = 1 := h1
    have := (hS.2.2.2.2.2.2 (by omega)).1
    show md.length = M.toNat
    omega
  · show Lo p md
    by_cases h1 : M = 1
    · rw [hS.2.2.2.2.2.1 h1]; intro z hz; cases hz
    · exact (hS.2.2.2.2.2.2 h1).2
theorem new_split {p M : Int} {md : List Int} {w' : World} {v : Value} (h : (v = .tuple #[.pointer none, .int .i64 1] ∧ ¬ OkF p M md) ∨ (∃ h : OkF p M md, ∃ g, v = .tuple #[g, .int .i64 0] ∧ GFV w' (fpOf p M md h.1.1 h.1.2.1) g)) :
    ∃ gv ec, v = .tuple #[gv, .int .i64 ec] ∧ ((ec = 1 ∧ ¬ OkF p M md) ∨ (ec = 0 ∧ ∃ h : OkF p M md, GFV w' (fpOf p M md h.1.1 h.1.2.1) gv)) := by
  rcases h with ⟨h1, h2⟩ | ⟨h, g, h1, h2⟩
  · exact ⟨_, _, h1, .inl ⟨rfl, h2⟩⟩
  · exact ⟨_, _, h1, .inr ⟨rfl, h, h2⟩⟩
theorem chk_split {v : Value} {A : Prop} (h : (v = .int .i64 0 ∧ A) ∨ (v = .int .i64 1 ∧ ¬ A)) : ∃ c, v = .int .i64 c ∧ ((c = 0 ∧ A) ∨ (c = 1 ∧ ¬ A)) := by
  rcases h with ⟨h1, h2⟩ | ⟨h1, h2⟩
  · exact ⟨_, h1, .inl ⟨rfl, h2⟩⟩
  · exact ⟨_, h1, .inr ⟨rfl, h2⟩⟩
/-- What open answers, for a description of a field. -/
def OpenA (w : World) (r : FRec) (v : Value) : Prop :=
  (v = .tuple #[.pointer none, .bool true, .bool true]) ∨ ∃ P : FP, (∀ w' mo', Ints w' mo' r.md → FV w' P mo' r.md) ∧ r.v = fv P r.mo ∧ P.p = r.p ∧ (P.M : Int) = r.M ∧ ∃ g, v = .tuple #[g, .bool false, .bool true] ∧ GFV w P g

set_option maxRecDepth 10000 in
theorem lOpen (r : FRec) (w : World) (hr : Ints w r.mo r.md) :
    Calls Try.prog 29 #[r.v] w (RetX w fun v w' => OpenA w' r v) := by
  obtain ⟨p, M, mo, md⟩ := r
  dsimp only at hr
  refine calls1 Try.func29 rfl rfl ?_
  refine wc_seq ?_
  refine wc_region [0,1,2,3] rfl ?_
  refine BXA rfl wu rfl rfl ?_
  intro fb w1 hE hB hg
  refine Go.Sx.V rfl wu rfl rfl (asg rfl) ?_
  refine Go.Sx.V rfl wu rfl rfl (asg rfl) ?_
  refine Go.Sx.V rfl wu rfl rfl (asg rfl) ?_
  refine wr_nil (post_thenN (wc_seq ?_))
  have hi := hr.ext hE
  refine wc_region [0,1,2,3,4,5,6] rfl ?_
  refine Go.Sx.V rfl wu rfl rfl (ldA rfl ag40) ?_
  refine C rfl wu rfl rfl Try.call58 (fNew p M mo md _ hi) ?_
  rintro e w2 hE2 hnew
  replace hB := hB.ext hE2
  replace hE := hE.trans hE2
  replace hi := hi.ext hE2
  obtain ⟨gv, ec, rfl, hres⟩ : ∃ gv ec, e = .tuple #[gv, .int .i64 ec] ∧ ((ec = 1 ∧ ¬ OkF p M md) ∨ (ec = 0 ∧ ∃ h : OkF p M md, GFV w2 (fpOf p M md h.1.1 h.1.2.1) gv)) := new_split hnew
  refine Go.Sx.V rfl wu rfl rfl (mv rfl) ?_
  refine Go.Sx.V rfl wu rfl rfl (ext rfl rfl) ?_
  refine Go.Sx.V rfl wu rfl rfl (ext rfl rfl) ?_
  refine Go.Sx.V rfl wu rfl rfl (asg rfl) ?_
  refine Go.Sx.V rfl wu rfl rfl (asg rfl) ?_
  refine wr_nil (post_thenN (wc_seq (wc_seq ?_)))
  clear hnew
  refine wc_region [0,1,2] rfl ?_
  refine Go.Sx.V rfl wu rfl rfl (ldA rfl ag40) ?_
  refine C rfl wu rfl rfl Try.call59 (rCheck p M mo md _ hi) ?_
  rintro cv w3 hE3 hck
  replace hE := hE.trans hE3
  obtain ⟨cc, rfl, hc2⟩ : ∃ cc, cv = .int .i64 cc ∧ ((cc = 0 ∧ OkF p M md) ∨ (cc = 1 ∧ ¬ OkF p M md)) := chk_split hck
  refine Go.Sx.V rfl wu rfl rfl (neqI rfl rfl) ?_
  refine wr_nil (post_thenN ?_)
  refine wc_cond rfl ?_ ?_
  · intro h
    simp at h
    refine wc_seq ?_
    refine wc_region [0,1,2,3,4] rfl ?_
    refine Go.Sx.V rfl wu rfl rfl (mv rfl) ?_
    refine Go.Sx.V rfl wu rfl rfl (neqI rfl rfl) ?_
    refine Go.Sx.V rfl wu rfl rfl (asg rfl) ?_
    refine Go.Sx.V rfl wu rfl rfl (asg rfl) ?_
    refine Go.Sx.V rfl wu rfl rfl (asg rfl) ?_
    refine wr_nil (post_thenN (wc_ret (post_thenR ?_)))
    refine post_ret3 rfl rfl rfl rfl ?_
    refine ⟨hE, .inl ?_⟩
    have hno : ¬ OkF p M md := by
      rcases hc2 with h1 | h1
      · exact absurd h1.1 h
      · exact h1.2
    rcases hres with h1 | ⟨_, h1, _⟩
    · rw [h1.1]; rfl
    · exact absurd h1 hno
  · intro h
    simp at h
    have hok : OkF p M md := by
      rcases hc2 with h1 | h1
      · exact h1.2
      · omega
    rcases hres with h1 | ⟨rfl, _, hG⟩
    · exact absurd hok h1.2
    · have hpt := hG.ex
      obtain ⟨b, _, _, _, _, _, _, rfl, _⟩ := hpt
      refine wc_skip (post_thenN (wc_seq (wc_seq ?_)))
      refine wc_region [0,1,2,3,4,5] rfl ?_
      refine Go.Sx.V rfl wu rfl rfl (mv rfl) ?_
      refine Go.Sx.V rfl wu rfl rfl (neqI rfl rfl) ?_
      refine Go.Sx.V rfl wu rfl rfl (mv rfl) ?_
      refine OR (π1 := [3,4,5]) (π2 := []) (tc := 18) (tp := 21) rfl rfl rfl (by
          intro _
          refine SK rfl rfl rfl rfl rfl ?_
          refine SK rfl rfl rfl rfl rfl ?_
          refine Go.Sx.V rfl wu rfl rfl (pk rfl rfl) ?_
          exact join rfl) (by
          intro hg
          simp at hg
          refine Go.Sx.V rfl (wg rfl rfl) rfl rfl (mv rfl) ?_
          refine Go.Sx.V rfl (wg rfl rfl) rfl rfl (eqlP rfl rfl Try.underlying41) ?_
          refine Go.Sx.V rfl wu rfl rfl (pk rfl rfl) ?_
          exact join rfl) ?_
      refine wr_nil (post_thenN ?_)
      refine wc_condF rfl (by simp) ?_
      refine wc_skip (post_thenN (wc_seq ?_))
      refine wc_region [0,1,2,3] rfl ?_
      refine Go.Sx.V rfl wu rfl rfl (mv rfl) ?_
      refine Go.Sx.V rfl wu rfl rfl (asg rfl) ?_
      refine Go.Sx.V rfl wu rfl rfl (asg rfl) ?_
      refine Go.Sx.V rfl wu rfl rfl (asg rfl) ?_
      refine wr_nil (post_thenN (wc_ret ?_))
      refine post_ret3 rfl rfl rfl rfl ?_
      refine ⟨hE, .inr ⟨fpOf p M md hok.1.1 hok.1.2.1, fun w' mo' hi' => okf_fv hok hi', ?_, rfl, by show (M.toNat : Int) = M; have := hok.1.2.1; omega, _, rfl, hG.ext hE3⟩⟩
      have := hok.1.2.1
      rw [FRec.v, fv, show ((fpOf p M md hok.1.1 hok.1.2.1).M : Int) = M from by show (M.toNat : Int) = M; omega]
      rfl
end Go.Proofs.Ytlcokneidokfnaa
