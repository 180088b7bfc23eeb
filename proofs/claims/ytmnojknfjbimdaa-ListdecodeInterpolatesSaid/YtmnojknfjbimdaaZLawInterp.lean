/-
  Statement ListdecodeInterpolates: for every case the law returns true. No condition.
-/
import Derived.Test.YtmnojknfjbimdaaZLaw41p
import Derived.Test.YtmnojknfjbimdaaZListdLaws
import Derived.Test.YtmnojknfjbimdaaZRBiv2
namespace Go.Proofs.Ytmnojknfjbimdaa
open Go Go.Sx Go.Pl Go.RowKit Go.Fd Go.Alg Go.Ld Go.Fr
set_option maxRecDepth 10000 in
theorem law_ListdecodeInterpolates {w : World} (v0 : Value) (x : CRec) (s0 : v0 = x.val ∧ COf w x) :
    Calls Try.prog 5 #[v0] w (RetX w fun v _ => v = .bool true) := by
  obtain ⟨rfl, hco⟩ := s0
  have hci := hco.cints
  clear hco
  refine calls1 Try.func5 rfl rfl ?_
  refine wc_seq ?_
  refine wc_region [0,1] rfl ?_
  refine BXA rfl wu rfl rfl ?_
  intro cb w1 hE hB hsb
  refine Go.Sx.V rfl wu rfl rfl (asg rfl) ?_
  refine wr_nil (post_thenN (wc_seq (wc_seq ?_)))
  refine wc_region [0,1] rfl ?_
  refine C rfl wu rfl rfl Try.call6 (alive41 _) ?_
  rintro _ w2 hE2 rfl
  replace hE := hE.trans hE2
  replace hB := hB.ext hE2
  refine Go.Sx.V rfl wu rfl rfl (notB rfl) ?_
  refine wr_nil (post_thenN ?_)
  refine wc_condF rfl (by rfl) ?_
  refine wc_skip (post_thenN (wc_seq (wc_seq ?_)))
  have hci2 := hci.ext hE
  refine wc_region [0,1,2] rfl ?_
  refine Go.Sx.V rfl wu rfl rfl (ldA rfl ag37 hB) ?_
  refine C rfl wu rfl rfl Try.call10 (lSmall41 x _ hci2) ?_
  rintro _ w3 hE3 rfl
  replace hE := hE.trans hE3
  replace hB := hB.ext hE3
  refine Go.Sx.V rfl wu rfl rfl (notB rfl) ?_
  refine wr_nil (post_thenN ?_)
  refine wc_cond rfl ?_ ?_
  · intro hsm
    refine wc_seq ?_
    refine wc_region [0] rfl ?_
    refine Go.Sx.V rfl wu rfl rfl (asg rfl) ?_
    refine wr_nil (post_thenN (wc_ret (post_thenR ?_)))
    refine post_ret1 rfl rfl ?_
    exact ⟨hE, rfl⟩
  · intro hsm
    replace hsm : smB x = true := by simpa using hsm
    obtain ⟨h12, hm3⟩ := smB_true hsm
    refine wc_skip (post_thenN (wc_seq ?_))
    refine wc_region [0,1,2,3,4,5,6,7,8,9,10,11] rfl ?_
    refine Go.Sx.V rfl wu rfl rfl (fad rfl fa37_0) ?_
    refine Go.Sx.V rfl wu rfl rfl (ldA rfl ag35 hB) ?_
    refine Go.Sx.V rfl wu rfl rfl (fad rfl fa37_1) ?_
    refine Go.Sx.V rfl wu rfl rfl (ldB rfl na31 hB) ?_
    refine Go.Sx.V rfl wu rfl rfl (fad rfl fa37_2) ?_
    refine Go.Sx.V rfl wu rfl rfl (ldB rfl na3 hB) ?_
    refine C rfl wu rfl rfl Try.call11 (lInterpolation x _ (hci.ext hE)) ?_
    rintro iv w5 hE5 hint
    replace hE := hE.trans hE5
    replace hB := hB.ext hE5
    obtain ⟨q, e, rfl, hcase⟩ : ∃ q e, iv = .tuple #[q, .int .i64 e] ∧ ((errC x ≠ 0 ∧ e = errC x ∧ q = .slice none 0 0) ∨ (errC x = 0 ∧ e = 0 ∧ ∃ P m D L Q, TkP P x m D L ∧ par x.s.xs.length x.s.k x.t = ([m, D, L], 0) ∧ LL w5 q (bcl Q) ∧ (∃ gv, GFV w5 P gv) ∧ IntP (fun i : Nat => inK P (gi x.s.xs i)) (fun i : Nat => inK P (gi (vals P x.ws x.s.ms) i)) x.s.xs.length m.toNat (wt x.s.k).toNat (L.toNat + 1) Q)) := by rcases hint with ⟨h1, rfl⟩ | ⟨h1, P, m, D, L, q, Q, a1, a2, rfl, a3, a4, a5⟩; exact ⟨_, _, rfl, .inl ⟨h1, rfl, rfl⟩⟩; exact ⟨_, _, rfl, .inr ⟨h1, rfl, P, m, D, L, Q, a1, a2, a3, a4, a5⟩⟩
    refine Go.Sx.V rfl wu rfl rfl (mv rfl) ?_
    refine Go.Sx.V rfl wu rfl rfl (ext rfl rfl) ?_
    refine Go.Sx.V rfl wu rfl rfl (ext rfl rfl) ?_
    refine Go.Sx.V rfl wu rfl rfl (asg rfl) ?_
    refine Go.Sx.V rfl wu rfl rfl (asg rfl) ?_
    refine wr_nil (post_thenN (wc_seq (wc_seq ?_)))
    clear hint
    refine wc_region [0,1,2,3,4,5,6,7] rfl ?_
    refine Go.Sx.V rfl wu rfl rfl (fad rfl fa37_0) ?_
    refine Go.Sx.V rfl wu rfl rfl (ldA rfl ag35 hB) ?_
    refine Go.Sx.V rfl wu rfl rfl (fad rfl fa37_1) ?_
    refine Go.Sx.V rfl wu rfl rfl (ldB rfl na31 hB) ?_
    refine Go.Sx.V rfl wu rfl rfl (fad rfl fa37_2) ?_
    refine Go.Sx.V rfl wu rfl rfl (ldB rfl na3 hB) ?_
    refine C rfl wu rfl rfl Try.call12 (rLdCheck x _ (hci.ext hE)) ?_
    rintro _ w6 hE6 rfl
    replace hE := hE.trans hE6
    replace hB := hB.ext hE6
    refine Go.Sx.V rfl wu rfl rfl (asg rfl) ?_
    refine wr_nil (post_thenN (wc_seq ?_))
    refine wc_region [0,1] rfl ?_
    refine Go.Sx.V rfl wu rfl rfl (mv rfl) ?_
    refine Go.Sx.V rfl wu rfl rfl (neqI rfl rfl) ?_
    refine wr_nil (post_thenN ?_)
    rcases hcase with ⟨he, rfl, rfl⟩ | ⟨he, rfl, P, m, D, L, Q, hT, hp, hq, ⟨gv, hG⟩, hip⟩
    · skip
      refine wc_condT rfl (by simp [he]) ?_
      refine wc_seq ?_
      refine wc_region [0,1,2,3,4,5,6,7,8] rfl ?_
      refine Go.Sx.V rfl wu rfl rfl (mv rfl) ?_
      refine Go.Sx.V rfl wu rfl rfl (mv rfl) ?_
      refine Go.Sx.V rfl wu rfl rfl (eqlI rfl rfl) ?_
      refine Go.Sx.V rfl wu rfl rfl (mv rfl) ?_
      refine KB 35 true rfl (by simp) ?_
      refine Go.Sx.V rfl (wg rfl rfl) rfl rfl (mv rfl) ?_
      refine Go.Sx.V rfl (wg rfl rfl) rfl rfl (lenS rfl ty39 (Sl.nil w6)) ?_
      refine Go.Sx.V rfl (wg rfl rfl) rfl rfl (eqlI rfl rfl) ?_
      refine Go.Sx.V rfl wu rfl rfl (pk rfl rfl) ?_
      refine Go.Sx.V rfl wu rfl rfl (asg rfl) ?_
      refine wr_nil (post_thenN (wc_ret (post_thenR ?_)))
      refine post_ret1 rfl rfl ?_
      exact ⟨hE, rfl⟩
    · rw [he]
      refine wc_condF rfl (by simp) ?_
      refine wc_skip (post_thenN (wc_seq ?_))
      replace hq := hq.ext hE6
      obtain ⟨qrs, hqs, hqsl, _⟩ := hq.row
      obtain ⟨hok, hPe⟩ := hT.ok
      have hFv := fv_of hok x.s.f.mo
      have hFF : ∀ w', Ext w w' → FV w' P x.s.f.mo x.s.f.md := fun w' h => by rw [hPe]; exact okf_fv41 hok (hci.mo.ext h)
      rw [← hPe] at hFv
      have hpok := hT.pok
      have hmc := hpok.hm
      have hk := hpok.hk
      have hn := hpok.hn
      have hL0 : 0 ≤ L := by rw [hpok.hL]; exact Int.ediv_nonneg hpok.hD (by unfold wt; omega)
      have hL64 := hpok.h64
      have hwt : 0 ≤ wt x.s.k ∧ wt x.s.k ≤ 256 := by unfold wt; omega
      have hnr : x.s.xs.length * rs m.toNat m.toNat ≤ 4096 := by
        have h1 := num_conds x.s.xs.length m.toNat
        have h2 := hpok.hcost
        rw [cost] at h2
        rw [show ((m.toNat : Nat) : Int) = m by omega] at h1
        omega
      have hrb : RB 4097 (bcl Q) := XB.rb (hip.xb.mono (by omega))
      have hql := bcl_len hip.yb
      have hqn : (bcl Q).length ≠ 0 := fun e => hip.ne (bcl_nil.1 (List.eq_nil_of_length_eq_zero e))
      have hdeg := intP_deg hpok hip
      have hpv : PV (par x.s.xs.length x.s.k x.t) = .tuple #[.agg [Value.int .i64 m, .int .i64 D, .int .i64 L].toArray, .int .i64 0] := by rw [hp]; rfl
      have hxi := hci.xs.ext hE
      refine wc_region [0,1,2,3,4,5,6,7,8,9,10,11,12,13,14,15] rfl ?_
      refine Go.Sx.V rfl wu rfl rfl (fad rfl fa37_0) ?_
      refine Go.Sx.V rfl wu rfl rfl (fad rfl fa35_2) ?_
      refine Go.Sx.V rfl wu rfl rfl (ldB rfl na31 hB) ?_
      refine Go.Sx.V rfl wu rfl rfl (lenI rfl ty31 hxi) ?_
      refine Go.Sx.V rfl wu rfl rfl (fad rfl fa37_0) ?_
      refine Go.Sx.V rfl wu rfl rfl (fad rfl fa35_1) ?_
      refine Go.Sx.V rfl wu rfl rfl (ldB rfl na3 hB) ?_
      refine Go.Sx.V rfl wu rfl rfl (fad rfl fa37_2) ?_
      refine Go.Sx.V rfl wu rfl rfl (ldB rfl na3 hB) ?_
      refine C rfl wu rfl rfl Try.call8 (rParams x.s.xs.length x.s.k x.t _) ?_
      rintro _ w7 hE7 rfl
      have hsz7 := hB.lt
      replace hE := hE.trans hE7
      replace hB := hB.ext hE7
      rw [hpv]
      refine Go.Sx.V rfl wu rfl rfl (mv rfl) ?_
      refine Go.Sx.V rfl wu rfl rfl (ext rfl rfl) ?_
      refine Go.Sx.V rfl wu rfl rfl (ext rfl rfl) ?_
      refine AL rfl wu rfl zv24 ?_
      intro pb w8 hE8 hPB hpb
      have hsz8 := hE.size
      have hB8 := hB.ext hE8
      have hE8' := hE.trans hE8
      have hX8 := hE7.trans hE8
      refine STB (vs := [.int .i64 m, .int .i64 D, .int .i64 L]) (cs' := [.int .i64 m, .int .i64 D, .int .i64 L]) rfl wu rfl rfl rfl sv24 (by intro h; cases h) (by assumption) (by first | (simp [Value.oneCell']; done) | (intro v hv; simp only [List.mem_cons, List.not_mem_nil, or_false] at hv; rcases hv with rfl | rfl | rfl | rfl | rfl <;> first | rfl | assumption) | (intro v hv; simp only [List.mem_cons, List.not_mem_nil, or_false] at hv; rcases hv with rfl | rfl | rfl <;> first | rfl | assumption) | (intro v hv; simp only [List.mem_cons, List.not_mem_nil, or_false] at hv; rcases hv with rfl | rfl <;> first | rfl | assumption)) rfl rfl rfl ?_
      intro w9 hg9 hX9 hPB9
      refine Go.Sx.V rfl wu rfl rfl (asg rfl) ?_
      refine wr_nil (post_thenN (wc_seq (wc_seq ?_)))
      have hz7 := hE7.size
      have hB9 := hB8.grown hg9 (by intro hh; cases hh; omega)
      have hE9 := hX9 w (by omega) hE8'
      have hX69 := hX9 w6 (by omega) hX8
      replace hq := hq.ext hX69
      clear hE hE8' hX8 hB hB8 hPB
      refine wc_region [0,1,2,3,4,5,6,7,8,9,10,11,12,13,14,15,16,17,18,19,20,21,22,23,24] rfl ?_
      refine Go.Sx.V rfl wu rfl rfl (mv rfl) ?_
      refine Go.Sx.V rfl wu rfl rfl (neqI rfl rfl) ?_
      refine Go.Sx.V rfl wu rfl rfl (mv rfl) ?_
      refine KB 55 false rfl (by simp) ?_
      refine Go.Sx.V rfl (wg rfl rfl) rfl rfl (mv rfl) ?_
      refine Go.Sx.V rfl (wg rfl rfl) rfl rfl (lenS rfl ty39 hqs) ?_
      refine Go.Sx.V rfl (wg rfl rfl) rfl rfl (eqlI rfl rfl) ?_
      refine Go.Sx.V rfl wu rfl rfl (pk rfl rfl) ?_
      refine Go.Sx.V rfl wu rfl rfl (mv rfl) ?_
      refine KB 60 false rfl (by rw [hqsl]; simp; exact fun e => hqn (by rw [e]; rfl)) ?_
      refine Go.Sx.V rfl (wg rfl rfl) rfl rfl (mv rfl) ?_
      refine Go.Sx.V rfl (wg rfl rfl) rfl rfl (lenS rfl ty39 hqs) ?_
      refine Go.Sx.V rfl (wg rfl rfl) rfl rfl (fad rfl fa24_2) ?_
      refine Go.Sx.V rfl (wg rfl rfl) rfl rfl (ldB rfl na3 hPB9) ?_
      refine Go.Sx.V rfl (wg rfl rfl) rfl rfl (addI rfl rfl) ?_
      refine Go.Sx.V rfl (wg rfl rfl) rfl rfl (gtrI rfl rfl) ?_
      refine Go.Sx.V rfl wu rfl rfl (pk rfl rfl) ?_
      refine Go.Sx.V rfl wu rfl rfl (mv rfl) ?_
      refine KB 68 false rfl (by rw [hqsl]; simp; omega) ?_
      refine Go.Sx.V rfl (wg rfl rfl) rfl rfl (mv rfl) ?_
      refine Go.Sx.V rfl (wg rfl rfl) rfl rfl (fad rfl fa37_0) ?_
      refine Go.Sx.V rfl (wg rfl rfl) rfl rfl (fad rfl fa35_0) ?_
      refine Go.Sx.V rfl (wg rfl rfl) rfl rfl (ldA rfl ag33 hB9) ?_
      refine Go.Sx.V rfl (wg rfl rfl) rfl rfl (mv rfl) ?_
      have hcall := rBCanon P x.s.f.mo x.s.f.md q (bcl Q) _ (hFF _ hE9) hq (hrb.mono (by omega)) (by omega)
      rw [hFv] at hcall
      refine C rfl (wg rfl rfl) rfl rfl Try.call14 hcall ?_
      clear hcall
      intro c w10 hE10 hc
      have hE10' := hE9.trans hE10
      have hB10 := hB9.ext hE10
      have hPB10 := hPB9.ext hE10
      replace hq := hq.ext hE10
      refine C rfl (wg rfl rfl) rfl rfl Try.call13 (rBSame q c (bcl Q) _ _ hq hc.ll) ?_
      rintro _ w11 hE11 rfl
      have hE11' := hE10'.trans hE11
      have hB11 := hB10.ext hE11
      have hPB11 := hPB10.ext hE11
      replace hq := hq.ext hE11
      refine Go.Sx.V rfl (wg rfl rfl) rfl rfl (notB rfl) ?_
      refine Go.Sx.V rfl wu rfl rfl (pk rfl rfl) ?_
      refine wr_nil (post_thenN ?_)
      refine wc_condF rfl (by rw [bz_bcl]; simp) ?_
      refine wc_skip (post_thenN (wc_seq ?_))
      have hw11 := hci.ext hE11'
      refine wc_draw mixed [0,1,2,3,4,5,6,9,10,7,8,11,12,13,14,15,16,17,18,19,20,21,22] (by kernel_rfl) ?_
      intro w12 hd12 _
      replace hE11' := hE11'.trans hd12
      replace hB11 := hB11.ext hd12
      replace hPB11 := hPB11.ext hd12
      replace hq := hq.ext hd12
      refine Go.Sx.V rfl wu rfl rfl (fad rfl fa37_0) ?_
      refine Go.Sx.V rfl wu rfl rfl (fad rfl fa35_0) ?_
      refine Go.Sx.V rfl wu rfl rfl (ldA rfl ag33 hB11) ?_
      refine Go.Sx.V rfl wu rfl rfl (mv rfl) ?_
      refine Go.Sx.V rfl wu rfl rfl (fad rfl fa37_0) ?_
      refine Go.Sx.V rfl wu rfl rfl (fad rfl fa35_1) ?_
      refine Go.Sx.V rfl wu rfl rfl (ldB rfl na3 hB11) ?_
      refine Go.Sx.V rfl wu rfl rfl (fad rfl fa24_1) ?_
      refine Go.Sx.V rfl wu rfl rfl (ldB rfl na3 hPB11) ?_
      refine C rfl wu rfl rfl Try.call16 (rWeight x.s.k _ ⟨hk.1, by omega⟩) ?_
      rintro _ w13 hE13 rfl
      have hE13' := hE11'.trans hE13
      have hB13 := hB11.ext hE13
      have hPB13 := hPB11.ext hE13
      replace hq := hq.ext hE13
      have hcall := rBDegree P x.s.f.mo x.s.f.md q (bcl Q) (wt x.s.k) 4097 _ (hFF _ hE13') hq hwt hrb (by omega) (by omega)
      rw [hFv] at hcall
      refine C rfl wu rfl rfl Try.call15 hcall ?_
      clear hcall
      rintro _ w14 hE14 rfl
      have hE14' := hE13'.trans hE14
      have hB14 := hB13.ext hE14
      have hPB14 := hPB13.ext hE14
      replace hq := hq.ext hE14
      rw [bz_bcl]
      refine Go.Sx.V rfl wu rfl rfl (leqI rfl rfl) ?_
      refine Go.Sx.V rfl wu rfl rfl (mv rfl) ?_
      refine KB 90 true rfl (by simp; exact hdeg) ?_
      refine Go.Sx.V rfl (wg rfl rfl) rfl rfl (fad rfl fa37_0) ?_
      refine Go.Sx.V rfl (wg rfl rfl) rfl rfl (ldA rfl ag35 hB14) ?_
      refine Go.Sx.V rfl (wg rfl rfl) rfl rfl (fad rfl fa37_1) ?_
      refine Go.Sx.V rfl (wg rfl rfl) rfl rfl (ldB rfl na31 hB14) ?_
      refine Go.Sx.V rfl (wg rfl rfl) rfl rfl (mv rfl) ?_
      refine Go.Sx.V rfl (wg rfl rfl) rfl rfl (fad rfl fa24_0) ?_
      refine Go.Sx.V rfl (wg rfl rfl) rfl rfl (ldB rfl na3 hPB14) ?_
      have em : Value.int .i64 m = Value.int .i64 ((m.toNat : Nat) : Int) := by rw [show ((m.toNat : Nat) : Int) = m by omega]
      refine C rfl (wg rfl rfl) rfl rfl Try.call17 (by have h0 := rThrough P x.s.f.p x.s.f.M x.s.k x.s.f.mo x.s.pu x.s.mu x.wu q x.s.f.md x.s.xs x.s.ms x.ws (bcl Q) m.toNat 4097 _ (hFF _ hE14') hFv hG.gen hT.grs hT.wl (hci.ext hE14').xs (hci.ext hE14').ms (hci.ext hE14').ws hq hrb (by omega) (by omega) (by omega); rw [← em] at h0; exact h0) ?_
      rintro _ w15 hE15 ⟨t, rfl, ht⟩
      have hE15' := hE14'.trans hE15
      rw [bz_bcl] at ht
      obtain rfl := ht.2 (fun i hi => hip.van i hi)
      refine Go.Sx.V rfl wu rfl rfl (pk rfl rfl) ?_
      refine Go.Sx.V rfl wu rfl rfl (asg rfl) ?_
      refine wr_nil (post_thenN (wc_ret ?_))
      refine post_ret1 rfl rfl ?_
      exact ⟨hE15', rfl⟩
namespace FListdecodeInterpolates
open Go.ChangeShapes Go.WideShapes Go.ChangeAt Go.RowKit Go.Fr
theorem own : ownKnob Try.prog.godebug = none := by kernel_rfl
theorem laidOut : laidOutB Try.prog = true := by kernel_rfl
set_option maxRecDepth 100000 in
theorem lifted (os : Os) (started : os.Started) (H : Type) (enc : TypeId × Value → H) :
    ReturnsInHanded {} Try.checked os 5 .any (Rows.listdecodeInterpolatesSpec.pre6 enc Try.prog Try.f5 Rows.listdecodeInterpolatesRow.domain false) (Rows.listdecodeInterpolatesSpec.post enc Try.prog Try.f5 false true false false) := by
  refine returnsInHanded_of_change_sized (C := Try.checked) own started (by kernel_rfl) Try.func5
    (ChangeSpec.witness6 (enc := enc) (C := Try.checked) false ⟨#[], #[.agg #[.int .i64 0, .int .i64 0, .slice none 0 0, .int .i64 0, .slice none 0 0, .slice none 0 0, .slice none 0 0, .int .i64 0]], []⟩ 8 (by kernel_rfl) (by kernel_rfl) (by kernel_rfl) (by kernel_rfl)) ?_
  intro W base args ds gs before hval0 hW _ hsz0 _
  have hval : ∀ (j : Nat) t v, Try.f5.params[j]? = some t → args[j]? = some v → Value.okWide Try.prog W .any base t v := hval0
  have hW' := hW
  obtain ⟨p, q, hA0, hV, rfl, hfz, hnd⟩ := hW
  have hA : DataW.TrodAll enc Try.prog W 0 (fun _ => true) true Try.f5.params.toList args.toList ds p := hA0
  have hsz : (DataW.weightsEach Try.prog (Try.f5.params.toList ++ Rows.listdecodeInterpolatesSpec.plain.varTypes Try.prog) (ds ++ gs)).all (· ≤ reachBytes) = true := hsz0
  rw [Try.params5] at hA hval hsz
  obtain ⟨v0, vs0, d0, ds0, p0, q0, hargs, rfl, rfl, h0, r0⟩ := trodAll_cons hA
  obtain ⟨rfl, rfl, rfl⟩ := trodAll_nil r0
  obtain rfl : args = #[v0] := by cases args; simp_all
  obtain ⟨rfl, rfl⟩ := trodVars_none hV
  have k0 := h0
  have lt0 : ∀ x ∈ p0, x.block < W.heap.size := by obtain ⟨m, hm⟩ := k0; exact DataW.trod_lt m _ _ _ hm
  have w0 : WOK Try.prog 37 d0 := wok_arg hsz (j := 0) rfl rfl
  obtain ⟨x0, s0⟩ := op_case (hval 0 37 v0 rfl rfl) h0 w0
  refine (law_ListdecodeInterpolates (w := W) v0 x0 s0).mono fun e W' he => ?_
  cases e with
  | panicked c => exact he.elim
  | outgrown => exact he.elim
  | returned v =>
    obtain ⟨bel, rfl⟩ := he
    exact ⟨_, rfl, _, _, _, [], _, [], hW', trodAll_mk1 (shut_bool Try.underlying4 _), (trodAll_cons_mk (Below.trod laidOut (by kernel_rfl) (of_decide_eq_true (by kernel_rfl)) k0 bel lt0) trodAll_mk0), rfl, bel.frame _, fun h => by cases h⟩
theorem over : Rows.listdecodeInterpolatesRow.holds Try.pinned (OpenSpec.ofChange Rows.listdecodeInterpolatesSpec) :=
  OpenClaim.holds_of_wide 5 Try.f5 rfl rfl rfl rfl rfl rfl rfl ⟨rfl, rfl, rfl, rfl, rfl⟩ rfl rfl rfl rfl rfl (by kernel_rfl) Try.func5 (by kernel_rfl)
    (of_decide_eq_true (by kernel_rfl)) (by unfold Func.isWrapper; first | (rw [if_pos (by decide +kernel)]; kernel_rfl) | (rw [if_neg (by decide +kernel)]; exact ⟨rfl, rfl⟩))
    (fun os started H enc _ => lifted os started H enc)
end FListdecodeInterpolates
/-- The statement. -/
theorem listdecodeInterpolates_holds : Rows.ListdecodeInterpolatesSaid := FListdecodeInterpolates.over
end Go.Proofs.Ytmnojknfjbimdaa

