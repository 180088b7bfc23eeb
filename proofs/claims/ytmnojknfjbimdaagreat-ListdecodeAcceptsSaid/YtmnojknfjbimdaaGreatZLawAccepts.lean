/-
  Statement ListdecodeAccepts: for every case the law returns true. No condition.
-/
import Derived.Test.YtmnojknfjbimdaaGreatZLaw41p
import Derived.Test.YtmnojknfjbimdaaGreatZListdLaws
namespace Go.Proofs.YtmnojknfjbimdaaGreat
open Go Go.Sx Go.Pl Go.RowKit Go.Fd Go.Alg Go.Ld Go.Fr
set_option maxRecDepth 10000 in
theorem law_ListdecodeAccepts {w : World} (v0 : Value) (x : CRec) (s0 : v0 = x.val ∧ COf w x) :
    Calls Tryz.prog 7 #[v0] w (RetX w fun v _ => v = .bool true) := by
  obtain ⟨rfl, hco⟩ := s0
  have hci := hco.cints
  clear hco
  refine calls1 Tryz.func7 rfl rfl ?_
  refine wc_seq ?_
  refine wc_region [0,1] rfl ?_
  refine BXA rfl wu rfl rfl ?_
  intro cb w1 hE hB hsb
  refine Go.Sx.V rfl wu rfl rfl (asg rfl) ?_
  refine wr_nil (post_thenN (wc_seq (wc_seq ?_)))
  refine wc_region [0,1] rfl ?_
  refine C rfl wu rfl rfl Tryz.call9 (alive41 _) ?_
  rintro _ w2 hE2 rfl
  replace hE := hE.trans hE2
  replace hB := hB.ext hE2
  refine Go.Sx.V rfl wu rfl rfl (notB rfl) ?_
  refine wr_nil (post_thenN ?_)
  refine wc_condF rfl (by rfl) ?_
  refine wc_skip (post_thenN (wc_seq (wc_seq ?_)))
  have hci2 := hci.ext hE
  by_cases hsm : smB x = true
  · obtain ⟨h12, hm3⟩ := smB_true hsm
    by_cases he : errC x = 0
    · obtain ⟨P, m, D, L, hT, hp⟩ := errC_ok he
      refine wc_region [0,1,2,3,4,5,6,7,8,9,10,11,12] rfl ?_
      refine Go.Sx.V rfl wu rfl rfl (ldA rfl ag28 hB) ?_
      refine C rfl wu rfl rfl Tryz.call10 (lSmall41 x _ hci2) ?_
      rintro _ w3 hE3 rfl
      replace hE := hE.trans hE3
      replace hB := hB.ext hE3
      rw [hsm]
      refine Go.Sx.V rfl wu rfl rfl (notB rfl) ?_
      refine Go.Sx.V rfl wu rfl rfl (mv rfl) ?_
      refine KB 12 false rfl (by rfl) ?_
      refine Go.Sx.V rfl (wg rfl rfl) rfl rfl (fad rfl fa28_0) ?_
      refine Go.Sx.V rfl (wg rfl rfl) rfl rfl (ldA rfl ag26 hB) ?_
      refine Go.Sx.V rfl (wg rfl rfl) rfl rfl (fad rfl fa28_1) ?_
      refine Go.Sx.V rfl (wg rfl rfl) rfl rfl (ldB rfl na22 hB) ?_
      refine Go.Sx.V rfl (wg rfl rfl) rfl rfl (fad rfl fa28_2) ?_
      refine Go.Sx.V rfl (wg rfl rfl) rfl rfl (ldB rfl na3 hB) ?_
      refine C rfl (wg rfl rfl) rfl rfl Tryz.call12 (rLdCheck x _ (hci.ext hE)) ?_
      rintro _ w4 hE4 rfl
      replace hE := hE.trans hE4
      replace hB := hB.ext hE4
      rw [he]
      refine Go.Sx.V rfl (wg rfl rfl) rfl rfl (neqI rfl rfl) ?_
      refine Go.Sx.V rfl wu rfl rfl (pk rfl rfl) ?_
      refine wr_nil (post_thenN ?_)
      refine wc_condF rfl (by rfl) ?_
      refine wc_skip (post_thenN (wc_seq ?_))
      have uni : ∀ {P' m' D' L'}, TkP P' x m' D' L' → par x.s.xs.length x.s.k x.t = ([m', D', L'], 0) → P = P' ∧ m = m' ∧ D = D' ∧ L = L' := fun hT' hp' => by
        rw [hp] at hp'
        have := (Prod.mk.inj hp').1
        refine ⟨hT.uniq hT', ?_⟩
        simpa using this
      refine wc_region [0,1,2,3,4,5,6,7,8,9,10,11] rfl ?_
      refine Go.Sx.V rfl wu rfl rfl (fad rfl fa28_0) ?_
      refine Go.Sx.V rfl wu rfl rfl (ldA rfl ag26 hB) ?_
      refine Go.Sx.V rfl wu rfl rfl (fad rfl fa28_1) ?_
      refine Go.Sx.V rfl wu rfl rfl (ldB rfl na22 hB) ?_
      refine Go.Sx.V rfl wu rfl rfl (fad rfl fa28_2) ?_
      refine Go.Sx.V rfl wu rfl rfl (ldB rfl na3 hB) ?_
      refine C rfl wu rfl rfl Tryz.call26 (lInterpolation x _ (hci.ext hE)) ?_
      rintro iv w5 hE5 hint
      replace hE := hE.trans hE5
      replace hB := hB.ext hE5
      obtain ⟨P', m', D', L', q, Q, hT', hp', rfl, hq, ⟨gv, hG⟩, hip⟩ := (hint.resolve_left fun h => h.1 he).2
      refine Go.Sx.V rfl wu rfl rfl (mv rfl) ?_
      refine Go.Sx.V rfl wu rfl rfl (ext rfl rfl) ?_
      refine Go.Sx.V rfl wu rfl rfl (ext rfl rfl) ?_
      refine Go.Sx.V rfl wu rfl rfl (asg rfl) ?_
      refine Go.Sx.V rfl wu rfl rfl (asg rfl) ?_
      refine wr_nil (post_thenN (wc_seq ?_))
      clear hint
      obtain ⟨rfl, rfl, rfl, rfl⟩ := uni hT' hp'
      clear hT' hp'
      refine wc_region [0,1,2,3,4,5,6,7,8,9,10,11] rfl ?_
      refine Go.Sx.V rfl wu rfl rfl (fad rfl fa28_0) ?_
      refine Go.Sx.V rfl wu rfl rfl (ldA rfl ag26 hB) ?_
      refine Go.Sx.V rfl wu rfl rfl (fad rfl fa28_1) ?_
      refine Go.Sx.V rfl wu rfl rfl (ldB rfl na22 hB) ?_
      refine Go.Sx.V rfl wu rfl rfl (fad rfl fa28_2) ?_
      refine Go.Sx.V rfl wu rfl rfl (ldB rfl na3 hB) ?_
      refine C rfl wu rfl rfl Tryz.call25 (lList x _ (hci.ext hE) h12 hm3) ?_
      rintro lv w6 hE6 hlist
      replace hE := hE.trans hE6
      replace hB := hB.ext hE6
      replace hq := hq.ext hE6
      replace hG := hG.ext hE6
      obtain ⟨P', m', D', L', s, Q2, R, hT', hp', rfl, hR, _, hN, _, hip2⟩ := (hlist.resolve_left fun h => h.1 he).2
      refine Go.Sx.V rfl wu rfl rfl (mv rfl) ?_
      refine Go.Sx.V rfl wu rfl rfl (ext rfl rfl) ?_
      refine Go.Sx.V rfl wu rfl rfl (ext rfl rfl) ?_
      refine Go.Sx.V rfl wu rfl rfl (asg rfl) ?_
      refine Go.Sx.V rfl wu rfl rfl (asg rfl) ?_
      refine wr_nil (post_thenN (wc_seq ?_))
      clear hlist
      obtain ⟨rfl, rfl, rfl, rfl⟩ := uni hT' hp'
      have hL12 := small_L hT hp h12 (hm3 m D L hp)
      have hmc := hT.pok.hm
      have hnr : x.s.xs.length * rs m.toNat m.toNat ≤ 4096 := by
        have h1 := num_conds x.s.xs.length m.toNat
        have h2 := hT.pok.hcost
        rw [cost] at h2
        rw [show ((m.toNat : Nat) : Int) = m by omega] at h1
        omega
      have hrb : RB 4097 (bcl Q) := XB.rb (hip.xb.mono (by omega))
      have hql := bcl_len hip.yb
      have hd := hT.deg hip
      have hd2 := hT.deg hip2
      have hprv : PrvOk P x m (bcl Q) := ⟨by rw [bz_bcl]; exact hip.ne, by rw [bz_bcl], by rw [bz_bcl]; rw [show ((m.toNat : Nat) : Int) = m by omega] at hd; exact hd, by rw [bz_bcl]; exact hip.van⟩
      obtain ⟨gg, hgg⟩ := hG.gen
      have hnear : IsNear P x.s.xs x.s.ms x.ws x.s.k x.t (bz P (bcl Q)) R := by
        rw [bz_bcl]
        exact hN.swap hG.nzd hgg hT.grs hT.win hT.wl hip2.van hd2 hip.van hd
      refine wc_region [0,1,2,3,4,5,6,7,8,9,10,11,12,13,14,15,16,17,18] rfl ?_
      refine Go.Sx.V rfl wu rfl rfl (mv rfl) ?_
      refine Go.Sx.V rfl wu rfl rfl (eqlI rfl rfl) ?_
      refine Go.Sx.V rfl wu rfl rfl (mv rfl) ?_
      refine KB 44 true rfl (by rfl) ?_
      refine Go.Sx.V rfl (wg rfl rfl) rfl rfl (mv rfl) ?_
      refine Go.Sx.V rfl (wg rfl rfl) rfl rfl (eqlI rfl rfl) ?_
      refine Go.Sx.V rfl wu rfl rfl (pk rfl rfl) ?_
      refine Go.Sx.V rfl wu rfl rfl (mv rfl) ?_
      refine KB 48 true rfl (by rfl) ?_
      refine Go.Sx.V rfl (wg rfl rfl) rfl rfl (fad rfl fa28_0) ?_
      refine Go.Sx.V rfl (wg rfl rfl) rfl rfl (ldA rfl ag26 hB) ?_
      refine Go.Sx.V rfl (wg rfl rfl) rfl rfl (fad rfl fa28_1) ?_
      refine Go.Sx.V rfl (wg rfl rfl) rfl rfl (ldB rfl na22 hB) ?_
      refine Go.Sx.V rfl (wg rfl rfl) rfl rfl (fad rfl fa28_2) ?_
      refine Go.Sx.V rfl (wg rfl rfl) rfl rfl (ldB rfl na3 hB) ?_
      refine Go.Sx.V rfl (wg rfl rfl) rfl rfl (mv rfl) ?_
      refine Go.Sx.V rfl (wg rfl rfl) rfl rfl (mv rfl) ?_
      refine C rfl (wg rfl rfl) rfl rfl Tryz.call11 (lCheck x q s (bcl Q) R 4097 _ (hci.ext hE) hq hR hrb (by omega) (by omega)) ?_
      rintro rv w7 hE7 hch
      replace hE := hE.trans hE7
      obtain rfl : rv = .int .i64 0 := by obtain ⟨P', m', D', L', hT', hp', _, hh⟩ := (hch.resolve_left fun h => h.1 he).2; obtain ⟨rfl, rfl, rfl, rfl⟩ := uni hT' hp'; rcases hh with hh | hh; exact hh.1; exact absurd ⟨hprv, hnear⟩ hh.2
      refine Go.Sx.V rfl (wg rfl rfl) rfl rfl (eqlI rfl rfl) ?_
      refine Go.Sx.V rfl wu rfl rfl (pk rfl rfl) ?_
      refine Go.Sx.V rfl wu rfl rfl (asg rfl) ?_
      refine wr_nil (post_thenN (wc_ret ?_))
      refine post_ret1 rfl rfl ?_
      exact ⟨hE, rfl⟩
    · skip
      refine wc_region [0,1,2,3,4,5,6,7,8,9,10,11,12] rfl ?_
      refine Go.Sx.V rfl wu rfl rfl (ldA rfl ag28 hB) ?_
      refine C rfl wu rfl rfl Tryz.call10 (lSmall41 x _ hci2) ?_
      rintro _ w3 hE3 rfl
      replace hE := hE.trans hE3
      replace hB := hB.ext hE3
      rw [hsm]
      refine Go.Sx.V rfl wu rfl rfl (notB rfl) ?_
      refine Go.Sx.V rfl wu rfl rfl (mv rfl) ?_
      refine KB 12 false rfl (by rfl) ?_
      refine Go.Sx.V rfl (wg rfl rfl) rfl rfl (fad rfl fa28_0) ?_
      refine Go.Sx.V rfl (wg rfl rfl) rfl rfl (ldA rfl ag26 hB) ?_
      refine Go.Sx.V rfl (wg rfl rfl) rfl rfl (fad rfl fa28_1) ?_
      refine Go.Sx.V rfl (wg rfl rfl) rfl rfl (ldB rfl na22 hB) ?_
      refine Go.Sx.V rfl (wg rfl rfl) rfl rfl (fad rfl fa28_2) ?_
      refine Go.Sx.V rfl (wg rfl rfl) rfl rfl (ldB rfl na3 hB) ?_
      refine C rfl (wg rfl rfl) rfl rfl Tryz.call12 (rLdCheck x _ (hci.ext hE)) ?_
      rintro _ w4 hE4 rfl
      replace hE := hE.trans hE4
      refine Go.Sx.V rfl (wg rfl rfl) rfl rfl (neqI rfl rfl) ?_
      refine Go.Sx.V rfl wu rfl rfl (pk rfl rfl) ?_
      refine wr_nil (post_thenN ?_)
      refine wc_condT rfl (by simp [he]) ?_
      refine wc_seq ?_
      refine wc_region [0] rfl ?_
      refine Go.Sx.V rfl wu rfl rfl (asg rfl) ?_
      refine wr_nil (post_thenN (wc_ret (post_thenR ?_)))
      refine post_ret1 rfl rfl ?_
      exact ⟨hE, rfl⟩
  · replace hsm : smB x = false := by simpa using hsm
    refine wc_region [0,1,2,3,4,5,6,7,8,9,10,11,12] rfl ?_
    refine Go.Sx.V rfl wu rfl rfl (ldA rfl ag28 hB) ?_
    refine C rfl wu rfl rfl Tryz.call10 (lSmall41 x _ hci2) ?_
    rintro _ w3 hE3 rfl
    replace hE := hE.trans hE3
    replace hB := hB.ext hE3
    rw [hsm]
    refine Go.Sx.V rfl wu rfl rfl (notB rfl) ?_
    refine Go.Sx.V rfl wu rfl rfl (mv rfl) ?_
    refine KB 12 true rfl (by rfl) ?_
    refine SK rfl rfl rfl rfl rfl ?_
    refine SK rfl rfl rfl rfl rfl ?_
    refine SK rfl rfl rfl rfl rfl ?_
    refine SK rfl rfl rfl rfl rfl ?_
    refine SK rfl rfl rfl rfl rfl ?_
    refine SK rfl rfl rfl rfl rfl ?_
    refine SK rfl rfl rfl rfl rfl ?_
    refine SK rfl rfl rfl rfl rfl ?_
    refine Go.Sx.V rfl wu rfl rfl (pk rfl rfl) ?_
    refine wr_nil (post_thenN ?_)
    refine wc_condT rfl (by rfl) ?_
    refine wc_seq ?_
    refine wc_region [0] rfl ?_
    refine Go.Sx.V rfl wu rfl rfl (asg rfl) ?_
    refine wr_nil (post_thenN (wc_ret (post_thenR ?_)))
    refine post_ret1 rfl rfl ?_
    exact ⟨hE, rfl⟩
namespace FListdecodeAccepts
open Go.ChangeShapes Go.WideShapes Go.ChangeAt Go.RowKit Go.Fr
theorem own : ownKnob Tryz.prog.godebug = none := by kernel_rfl
theorem laidOut : laidOutB Tryz.prog = true := by kernel_rfl
set_option maxRecDepth 100000 in
theorem lifted (os : Os) (started : os.Started) (H : Type) (enc : TypeId × Value → H) :
    ReturnsInHanded {} Tryz.checked os 7 .any (Rows.listdecodeAcceptsSpec.pre6 enc Tryz.prog Tryz.f7 Rows.listdecodeAcceptsRow.domain false) (Rows.listdecodeAcceptsSpec.post enc Tryz.prog Tryz.f7 false true false false) := by
  refine returnsInHanded_of_change_sized (C := Tryz.checked) own started (by kernel_rfl) Tryz.func7
    (ChangeSpec.witness6 (enc := enc) (C := Tryz.checked) false ⟨#[], #[.agg #[.int .i64 0, .int .i64 0, .slice none 0 0, .int .i64 0, .slice none 0 0, .slice none 0 0, .slice none 0 0, .int .i64 0]], []⟩ 8 (by kernel_rfl) (by kernel_rfl) (by kernel_rfl) (by kernel_rfl)) ?_
  intro W base args ds gs before hval0 hW _ hsz0 _
  have hval : ∀ (j : Nat) t v, Tryz.f7.params[j]? = some t → args[j]? = some v → Value.okWide Tryz.prog W .any base t v := hval0
  have hW' := hW
  obtain ⟨p, q, hA0, hV, rfl, hfz, hnd⟩ := hW
  have hA : DataW.TrodAll enc Tryz.prog W 0 (fun _ => true) true Tryz.f7.params.toList args.toList ds p := hA0
  have hsz : (DataW.weightsEach Tryz.prog (Tryz.f7.params.toList ++ Rows.listdecodeAcceptsSpec.plain.varTypes Tryz.prog) (ds ++ gs)).all (· ≤ reachBytes) = true := hsz0
  rw [Tryz.params7] at hA hval hsz
  obtain ⟨v0, vs0, d0, ds0, p0, q0, hargs, rfl, rfl, h0, r0⟩ := trodAll_cons hA
  obtain ⟨rfl, rfl, rfl⟩ := trodAll_nil r0
  obtain rfl : args = #[v0] := by cases args; simp_all
  obtain ⟨rfl, rfl⟩ := trodVars_none hV
  have k0 := h0
  have lt0 : ∀ x ∈ p0, x.block < W.heap.size := by obtain ⟨m, hm⟩ := k0; exact DataW.trod_lt m _ _ _ hm
  have w0 : WOK Tryz.prog 28 d0 := wok_arg hsz (j := 0) rfl rfl
  obtain ⟨x0, s0⟩ := op_case (hval 0 28 v0 rfl rfl) h0 w0
  refine (law_ListdecodeAccepts (w := W) v0 x0 s0).mono fun e W' he => ?_
  cases e with
  | panicked c => exact he.elim
  | outgrown => exact he.elim
  | returned v =>
    obtain ⟨bel, rfl⟩ := he
    exact ⟨_, rfl, _, _, _, [], _, [], hW', trodAll_mk1 (shut_bool Tryz.underlying4 _), (trodAll_cons_mk (Below.trod laidOut (by kernel_rfl) (of_decide_eq_true (by kernel_rfl)) k0 bel lt0) trodAll_mk0), rfl, bel.frame _, fun h => by cases h⟩
theorem over : Rows.listdecodeAcceptsRow.holds Tryz.pinned (OpenSpec.ofChange Rows.listdecodeAcceptsSpec) :=
  OpenClaim.holds_of_wide 7 Tryz.f7 rfl rfl rfl rfl rfl rfl rfl ⟨rfl, rfl, rfl, rfl, rfl⟩ rfl rfl rfl rfl rfl (by kernel_rfl) Tryz.func7 (by kernel_rfl)
    (of_decide_eq_true (by kernel_rfl)) (by unfold Func.isWrapper; first | (rw [if_pos (by decide +kernel)]; kernel_rfl) | (rw [if_neg (by decide +kernel)]; exact ⟨rfl, rfl⟩))
    (fun os started H enc _ => lifted os started H enc)
end FListdecodeAccepts
/-- The statement. -/
theorem listdecodeAccepts_holds : Rows.ListdecodeAcceptsSaid := FListdecodeAccepts.over
end Go.Proofs.YtmnojknfjbimdaaGreat
