/-
  Ld3
-/
import Derived.Test.YtmnojknfjbimdaaZLd2
import Derived.Test.YtmnojknfjbimdaaZRHas
namespace Go.Fd
open Go.Pl Go.Alg
variable {P : FP}
end Go.Fd
namespace Go.Proofs.Ytmnojknfjbimdaa
open Go Go.Sx Go.Pl Go.RowKit Go.Fd Go.Alg Go.Ld
structure PrvOk (P : FP) (x : CRec) (m : Int) (A : List (List Int)) : Prop where
  ne : bz P A ≠ 0
  can : A = bcl (bz P A)
  deg : wdg (bz P A) (wt x.s.k) < m * (x.s.xs.length - x.t)
  van : ∀ i, i < x.s.xs.length → Van (inK P (gi x.s.xs i)) (inK P (gi (vals P x.ws x.s.ms) i)) (bz P A) m.toNat
set_option maxRecDepth 10000 in
theorem lInterpolation (x : CRec) (w : World) (hi : CInts w x) :
    Calls Try.prog 11 #[x.s.val, x.wu, .int .i64 x.t] w (RetX w fun r w' => (errC x ≠ 0 ∧ r = .tuple #[.slice none 0 0, .int .i64 (errC x)]) ∨
      (errC x = 0 ∧ ∃ P m D L q Q, TkP P x m D L ∧ par x.s.xs.length x.s.k x.t = ([m, D, L], 0) ∧ r = .tuple #[q, .int .i64 0] ∧ LL w' q (bcl Q) ∧ (∃ gv, GFV w' P gv) ∧
        IntP (fun i : Nat => inK P (gi x.s.xs i)) (fun i : Nat => inK P (gi (vals P x.ws x.s.ms) i)) x.s.xs.length m.toNat (wt x.s.k).toNat (L.toNat + 1) Q)) := by
  refine calls3 Try.func11 rfl rfl ?_
  refine wc_seq ?_
  refine wc_region [0,1,2] rfl ?_
  refine BXA rfl wu rfl rfl ?_
  intro sb w1 hE hB hsb
  refine Go.Sx.V rfl wu rfl rfl (asg rfl) ?_
  refine Go.Sx.V rfl wu rfl rfl (asg rfl) ?_
  refine wr_nil (post_thenN (wc_seq ?_))
  have hi1 := hi.ext hE
  refine wc_region [0,1,2,3,4,5,6,7,8] rfl ?_
  refine Go.Sx.V rfl wu rfl rfl (ldA rfl ag35 hB) ?_
  refine Go.Sx.V rfl wu rfl rfl (mv rfl) ?_
  refine Go.Sx.V rfl wu rfl rfl (mv rfl) ?_
  refine C rfl wu rfl rfl Try.call20 (lOpen x _ hi1) ?_
  rintro _ w2 hE2 ⟨kv, rfl, hkv⟩
  replace hE := hE.trans hE2
  refine Go.Sx.V rfl wu rfl rfl (mv rfl) ?_
  refine Go.Sx.V rfl wu rfl rfl (ext rfl rfl) ?_
  refine Go.Sx.V rfl wu rfl rfl (ext rfl rfl) ?_
  refine Go.Sx.V rfl wu rfl rfl (asg rfl) ?_
  refine Go.Sx.V rfl wu rfl rfl (asg rfl) ?_
  refine wr_nil (post_thenN (wc_seq (wc_seq ?_)))
  refine wc_region [0,1] rfl ?_
  refine Go.Sx.V rfl wu rfl rfl (mv rfl) ?_
  refine Go.Sx.V rfl wu rfl rfl (neqI rfl rfl) ?_
  refine wr_nil (post_thenN ?_)
  refine wc_cond rfl ?_ ?_
  · intro h
    simp at h
    refine wc_seq ?_
    refine wc_region [0,1,2] rfl ?_
    refine Go.Sx.V rfl wu rfl rfl (mv rfl) ?_
    refine Go.Sx.V rfl wu rfl rfl (asg rfl) ?_
    refine Go.Sx.V rfl wu rfl rfl (asg rfl) ?_
    refine wr_nil (post_thenN (wc_ret (post_thenR ?_)))
    refine post_ret2 rfl rfl rfl ?_
    exact ⟨hE, .inl ⟨h, rfl⟩⟩
  · intro h
    simp at h
    obtain ⟨P, m, D, L, hT, hp, hV⟩ := hkv h
    refine wc_skip (post_thenN (wc_seq ?_))
    refine wc_region [0,1,2,3,4,5] rfl ?_
    refine Go.Sx.V rfl wu rfl rfl (mv rfl) ?_
    refine C rfl wu rfl rfl Try.call21 (lInterpolate P x m D L kv _ hT hV) ?_
    rintro _ w3 hE3 ⟨q, Q, rfl, hq, hip⟩
    replace hE := hE.trans hE3
    refine Go.Sx.V rfl wu rfl rfl (ext rfl rfl) ?_
    refine Go.Sx.V rfl wu rfl rfl (ext rfl rfl) ?_
    refine Go.Sx.V rfl wu rfl rfl (asg rfl) ?_
    refine Go.Sx.V rfl wu rfl rfl (asg rfl) ?_
    refine wr_nil (post_thenN (wc_ret ?_))
    refine post_ret2 rfl rfl rfl ?_
    obtain ⟨⟨b, g, vu, _, _, hG, _⟩, _⟩ := hV.ext hE3
    exact ⟨hE, .inr ⟨h, P, m, D, L, q, Q, hT, hp, rfl, hq.ll, ⟨g, hG⟩, hip⟩⟩
end Go.Proofs.Ytmnojknfjbimdaa

