/-
  The package listdecode, by contract, part 3: proves, Interpolation, List, Check.
-/
import Derived.Test.YtmnojknfjbimdaaGreatULd2
import Derived.Test.YtmnojknfjbimdaaGreatURHas
namespace Go.Fd
open Go.Pl Go.Alg
variable {P : FP}
end Go.Fd
namespace Go.Proofs.YtmnojknfjbimdaaGreat
open Go Go.Sx Go.Pl Go.RowKit Go.Fd Go.Alg Go.Ld
structure PrvOk (P : FP) (x : CRec) (m : Int) (A : List (List Int)) : Prop where
  ne : bz P A ≠ 0
  can : A = bcl (bz P A)
  deg : wdg (bz P A) (wt x.s.k) < m * (x.s.xs.length - x.t)
  van : ∀ i, i < x.s.xs.length → Van (inK P (gi x.s.xs i)) (inK P (gi (vals P x.ws x.s.ms) i)) (bz P A) m.toNat
theorem small_deg : ∀ n : Fin 13, ∀ k : Fin 13, ∀ m : Fin 4, deg (cost ((n.val : Nat) : Int) ((m.val : Nat) : Int)) (wt ((k.val : Nat) : Int)) / wt ((k.val : Nat) : Int) ≤ 12 := by decide +kernel
theorem small_L {P : FP} {x : CRec} {m D L : Int} (hT : TkP P x m D L) (hp : par x.s.xs.length x.s.k x.t = ([m, D, L], 0)) (h12 : x.s.xs.length ≤ 12) (hm3 : m ≤ 3) : L ≤ 12 := by
  have hk := hT.pok.hk
  have hm := hT.pok.hm
  have hL : L = deg (cost x.s.xs.length m) (wt x.s.k) / wt x.s.k := by
    rw [par] at hp
    split at hp
    · cases hp
    · obtain ⟨q, _, _, _, h4⟩ := parF_ok 16 1 (show (parF x.s.xs.length x.s.k x.t 16 1).2 = 0 by rw [hp])
      rw [h4] at hp
      cases hp
      rfl
  have h := small_deg ⟨x.s.xs.length, by omega⟩ ⟨x.s.k.toNat, by omega⟩ ⟨m.toNat, by omega⟩
  dsimp only at h
  rw [show ((x.s.k.toNat : Nat) : Int) = x.s.k by omega, show ((m.toNat : Nat) : Int) = m by omega] at h
  rw [hL]
  exact h
set_option maxRecDepth 10000 in
theorem lList (x : CRec) (w : World) (hi : CInts w x) (h12 : x.s.xs.length ≤ 12) (hm3 : ∀ m D L, par x.s.xs.length x.s.k x.t = ([m, D, L], 0) → m ≤ 3) :
    Calls Tryz.prog 25 #[x.s.val, x.wu, .int .i64 x.t] w (RetX w fun r w' => (errC x ≠ 0 ∧ r = .tuple #[.slice none 0 0, .int .i64 (errC x)]) ∨
      (errC x = 0 ∧ ∃ P m D L s Q R, TkP P x m D L ∧ par x.s.xs.length x.s.k x.t = ([m, D, L], 0) ∧ r = .tuple #[s, .int .i64 0] ∧ LL w' s R ∧ (∃ gv, GFV w' P gv) ∧ IsNear P x.s.xs x.s.ms x.ws x.s.k x.t Q R ∧ R.length ≤ L.toNat ∧
        IntP (fun i : Nat => inK P (gi x.s.xs i)) (fun i : Nat => inK P (gi (vals P x.ws x.s.ms) i)) x.s.xs.length m.toNat (wt x.s.k).toNat (L.toNat + 1) Q)) := by
  refine calls3 Tryz.func25 rfl rfl ?_
  refine wc_seq ?_
  refine wc_region [0,1,2] rfl ?_
  refine BXA rfl wu rfl rfl ?_
  intro sb w1 hE hB hsb
  refine Go.Sx.V rfl wu rfl rfl (asg rfl) ?_
  refine Go.Sx.V rfl wu rfl rfl (asg rfl) ?_
  refine wr_nil (post_thenN (wc_seq ?_))
  have hi1 := hi.ext hE
  refine wc_region [0,1,2,3,4,5,6,7,8] rfl ?_
  refine Go.Sx.V rfl wu rfl rfl (ldA rfl ag26 hB) ?_
  refine Go.Sx.V rfl wu rfl rfl (mv rfl) ?_
  refine Go.Sx.V rfl wu rfl rfl (mv rfl) ?_
  refine C rfl wu rfl rfl Tryz.call30 (lOpen x _ hi1) ?_
  rintro _ w2 hE2 ⟨kv, rfl, hkv⟩
  replace hE := hE.trans hE2
  refine Go.Sx.V rfl wu rfl rfl (mv rfl) ?_
  refine Go.Sx.V rfl wu rfl rfl (ext rfl rfl) ?_
  refine Go.Sx.V rfl wu rfl rfl (ext rfl rfl) ?_
  refine Go.Sx.V rfl wu rfl rfl (asg rfl) ?_
  refine Go.Sx.V rfl wu rfl rfl (asg rfl) ?_
  refine wr_nil (post_thenN (wc_seq (wc_seq ?_)))
  refine wc_region [0,1] rfl ?_
  refine Go.Sx.V rfl wu rfl rfl (mv rfl) ?_
  refine Go.Sx.V rfl wu rfl rfl (neqI rfl rfl) ?_
  refine wr_nil (post_thenN ?_)
  refine wc_cond rfl ?_ ?_
  · intro h
    simp at h
    refine wc_seq ?_
    refine wc_region [0,1,2] rfl ?_
    refine Go.Sx.V rfl wu rfl rfl (mv rfl) ?_
    refine Go.Sx.V rfl wu rfl rfl (asg rfl) ?_
    refine Go.Sx.V rfl wu rfl rfl (asg rfl) ?_
    refine wr_nil (post_thenN (wc_ret (post_thenR ?_)))
    refine post_ret2 rfl rfl rfl ?_
    exact ⟨hE, .inl ⟨h, rfl⟩⟩
  · intro h
    simp at h
    obtain ⟨P, m, D, L, hT, hp, hV⟩ := hkv h
    have hL12 := small_L hT hp h12 (hm3 m D L hp)
    have hmc := hT.pok.hm
    have hnr : x.s.xs.length * rs m.toNat m.toNat ≤ 4096 := by
      have h1 := num_conds x.s.xs.length m.toNat
      have h2 := hT.pok.hcost
      rw [cost] at h2
      rw [show ((m.toNat : Nat) : Int) = m by omega] at h1
      omega
    refine wc_skip (post_thenN (wc_seq ?_))
    refine wc_region [0,1,2,3,4,5,6] rfl ?_
    refine Go.Sx.V rfl wu rfl rfl (mv rfl) ?_
    refine C rfl wu rfl rfl Tryz.call46 (lInterpolate P x m D L kv _ hT hV) ?_
    rintro _ w3 hE3 ⟨q, Q, rfl, hq, hip⟩
    replace hE := hE.trans hE3
    refine Go.Sx.V rfl wu rfl rfl (mv rfl) ?_
    refine Go.Sx.V rfl wu rfl rfl (ext rfl rfl) ?_
    refine Go.Sx.V rfl wu rfl rfl (ext rfl rfl) ?_
    refine Go.Sx.V rfl wu rfl rfl (asg rfl) ?_
    refine Go.Sx.V rfl wu rfl rfl (asg rfl) ?_
    refine wr_nil (post_thenN (wc_seq (wc_seq ?_)))
    refine wc_region [0,1] rfl ?_
    refine Go.Sx.V rfl wu rfl rfl (mv rfl) ?_
    refine Go.Sx.V rfl wu rfl rfl (neqI rfl rfl) ?_
    refine wr_nil (post_thenN ?_)
    refine wc_condF rfl (by simp) ?_
    refine wc_skip (post_thenN (wc_seq ?_))
    have hrb : RB 4097 (bcl Q) := XB.rb (hip.xb.mono (by omega))
    have hql := bcl_len hip.yb
    refine wc_region [0,1,2,3,4,5,6] rfl ?_
    refine Go.Sx.V rfl wu rfl rfl (mv rfl) ?_
    refine Go.Sx.V rfl wu rfl rfl (mv rfl) ?_
    refine C rfl wu rfl rfl Tryz.call32 (lNear P x m D L kv q (bcl Q) 4097 _ hT (hV.ext hE3) hq.ll hrb (by omega) (by omega)) ?_
    rintro nv w4 hE4 hnear
    replace hE := hE.trans hE4
    rw [bz_bcl] at hnear
    obtain ⟨s, R, rfl, hR, hN, hRl⟩ := (hnear.resolve_left fun h => hip.ne h.1).2
    refine Go.Sx.V rfl wu rfl rfl (ext rfl rfl) ?_
    refine Go.Sx.V rfl wu rfl rfl (ext rfl rfl) ?_
    refine Go.Sx.V rfl wu rfl rfl (asg rfl) ?_
    refine Go.Sx.V rfl wu rfl rfl (asg rfl) ?_
    refine wr_nil (post_thenN (wc_ret ?_))
    refine post_ret2 rfl rfl rfl ?_
    obtain ⟨⟨b, g, vu, _, _, hG, _⟩, _⟩ := (hV.ext hE3).ext hE4
    exact ⟨hE, .inr ⟨h, P, m, D, L, s, Q, R, hT, hp, rfl, hR, ⟨g, hG⟩, hN, hRl _ hip.yb, hip⟩⟩
end Go.Proofs.YtmnojknfjbimdaaGreat

