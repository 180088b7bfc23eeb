/-
  Statement ListdecodeSound: for every case the law returns true. No condition.
-/
import Derived.Test.YtmnojknfjbimdaaGreatYLaw41p
import Derived.Test.YtmnojknfjbimdaaGreatYListdLaws
import Derived.Test.YtmnojknfjbimdaaGreatYRLin4
import Derived.Test.YtmnojknfjbimdaaGreatYCompare
namespace Go.Proofs.YtmnojknfjbimdaaGreat
open Go Go.Sx Go.Pl Go.RowKit Go.Fd Go.Alg Go.Ld Go.Fr
theorem okF_fp {P : FP} {p M : Int} {md : List Int} (h : OkF p M md) (e : P = fpOf p M md h.1.1 h.1.2.1) : OkF P.p P.M md := by
  have h1 := h.1.2.1
  rw [e]
  show OkF p ((M.toNat : Nat) : Int) md
  rw [show ((M.toNat : Nat) : Int) = M by omega]
  exact h
theorem asc_at {R : List (List Int)} (h : Asc R) {i j : Nat} (hij : i < j) (hj : j < R.length) : cmpL (R.getD i []) (R.getD j []) < 0 := by
  have := List.pairwise_iff_getElem.1 h i j (by omega) hj hij
  rw [List.getD_eq_getElem?_getD, List.getD_eq_getElem?_getD, List.getElem?_eq_getElem hj, List.getElem?_eq_getElem (show i < R.length by omega)]
  exact this
theorem mem_at {R : List (List Int)} {i : Nat} (hi : i < R.length) : R.getD i [] ∈ R := by
  rw [List.getD_eq_getElem?_getD, List.getElem?_eq_getElem hi]
  exact List.getElem_mem hi
def LdCase (x : CRec) (w : World) (lv : Value) : Prop := (errC x ≠ 0 ∧ lv = .slice none 0 0) ∨ (errC x = 0 ∧ ∃ P m D L R Q, TkP P x m D L ∧ par x.s.xs.length x.s.k x.t = ([m, D, L], 0) ∧ LL w lv R ∧ (∃ gv, GFV w P gv) ∧ IsNear P x.s.xs x.s.ms x.ws x.s.k x.t Q R ∧ R.length ≤ L.toNat)
theorem list_split {x : CRec} {w' : World} {r : Value} (h : (errC x ≠ 0 ∧ r = .tuple #[.slice none 0 0, .int .i64 (errC x)]) ∨
      (errC x = 0 ∧ ∃ P m D L s Q R, TkP P x m D L ∧ par x.s.xs.length x.s.k x.t = ([m, D, L], 0) ∧ r = .tuple #[s, .int .i64 0] ∧ LL w' s R ∧ (∃ gv, GFV w' P gv) ∧ IsNear P x.s.xs x.s.ms x.ws x.s.k x.t Q R ∧ R.length ≤ L.toNat ∧
        IntP (fun i : Nat => inK P (gi x.s.xs i)) (fun i : Nat => inK P (gi (vals P x.ws x.s.ms) i)) x.s.xs.length m.toNat (wt x.s.k).toNat (L.toNat + 1) Q)) : ∃ lv, r = .tuple #[lv, .int .i64 (errC x)] ∧ LdCase x w' lv := by
  rcases h with ⟨h1, h2⟩ | ⟨h1, P, m, D, L, s, Q, R, hT, hp, hr, hL, hG, hN, hl, _⟩
  · exact ⟨_, h2, .inl ⟨h1, rfl⟩⟩
  · exact ⟨s, by rw [hr, h1], .inr ⟨h1, P, m, D, L, R, Q, hT, hp, hL, hG, hN, hl⟩⟩
set_option maxRecDepth 10000 in
theorem law_ListdecodeSound {w : World} (v0 : Value) (x : CRec) (s0 : v0 = x.val ∧ COf w x) :
    Calls Tryz.prog 5 #[v0] w (RetX w fun v _ => v = .bool true) := by
  obtain ⟨rfl, hco⟩ := s0
  have hci := hco.cints
  clear hco
  refine calls1 Tryz.func5 rfl rfl ?_
  refine wc_seq ?_
  refine wc_region [0,1] rfl ?_
  refine BXA rfl wu rfl rfl ?_
  intro cb w1 hE hB hsb
  refine Go.Sx.V rfl wu rfl rfl (asg rfl) ?_
  refine wr_nil (post_thenN (wc_seq (wc_seq ?_)))
  refine wc_region [0,1] rfl ?_
  refine C rfl wu rfl rfl Tryz.call9 (alive41 _) ?_
  rintro _ w2 hE2 rfl
  replace hE := hE.trans hE2
  replace hB := hB.ext hE2
  refine Go.Sx.V rfl wu rfl rfl (notB rfl) ?_
  refine wr_nil (post_thenN ?_)
  refine wc_condF rfl (by rfl) ?_
  refine wc_skip (post_thenN (wc_seq (wc_seq ?_)))
  have hci2 := hci.ext hE
  refine wc_region [0,1,2] rfl ?_
  refine Go.Sx.V rfl wu rfl rfl (ldA rfl ag28 hB) ?_
  refine C rfl wu rfl rfl Tryz.call10 (lSmall41 x _ hci2) ?_
  rintro _ w3 hE3 rfl
  replace hE := hE.trans hE3
  replace hB := hB.ext hE3
  refine Go.Sx.V rfl wu rfl rfl (notB rfl) ?_
  refine wr_nil (post_thenN ?_)
  refine wc_cond rfl ?_ ?_
  · intro hsm
    refine wc_seq ?_
    refine wc_region [0] rfl ?_
    refine Go.Sx.V rfl wu rfl rfl (asg rfl) ?_
    refine wr_nil (post_thenN (wc_ret (post_thenR ?_)))
    refine post_ret1 rfl rfl ?_
    exact ⟨hE, rfl⟩
  · intro hsm
    replace hsm : smB x = true := by simpa using hsm
    obtain ⟨h12, hm3⟩ := smB_true hsm
    refine wc_skip (post_thenN (wc_seq ?_))
    refine wc_region [0,1,2,3,4,5,6,7,8,9,10,11] rfl ?_
    refine Go.Sx.V rfl wu rfl rfl (fad rfl fa28_0) ?_
    refine Go.Sx.V rfl wu rfl rfl (ldA rfl ag26 hB) ?_
    refine Go.Sx.V rfl wu rfl rfl (fad rfl fa28_1) ?_
    refine Go.Sx.V rfl wu rfl rfl (ldB rfl na22 hB) ?_
    refine Go.Sx.V rfl wu rfl rfl (fad rfl fa28_2) ?_
    refine Go.Sx.V rfl wu rfl rfl (ldB rfl na3 hB) ?_
    refine C rfl wu rfl rfl Tryz.call25 (lList x _ (hci.ext hE) h12 hm3) ?_
    intro rv w5 hE5 hch
    replace hE := hE.trans hE5
    replace hB := hB.ext hE5
    obtain ⟨lv, rfl, hcase⟩ := list_split hch
    clear hch
    refine Go.Sx.V rfl wu rfl rfl (mv rfl) ?_
    refine Go.Sx.V rfl wu rfl rfl (ext rfl rfl) ?_
    refine Go.Sx.V rfl wu rfl rfl (ext rfl rfl) ?_
    refine Go.Sx.V rfl wu rfl rfl (asg rfl) ?_
    refine Go.Sx.V rfl wu rfl rfl (asg rfl) ?_
    refine wr_nil (post_thenN (wc_seq (wc_seq ?_)))
    refine wc_region [0,1,2,3,4,5,6,7] rfl ?_
    refine Go.Sx.V rfl wu rfl rfl (fad rfl fa28_0) ?_
    refine Go.Sx.V rfl wu rfl rfl (ldA rfl ag26 hB) ?_
    refine Go.Sx.V rfl wu rfl rfl (fad rfl fa28_1) ?_
    refine Go.Sx.V rfl wu rfl rfl (ldB rfl na22 hB) ?_
    refine Go.Sx.V rfl wu rfl rfl (fad rfl fa28_2) ?_
    refine Go.Sx.V rfl wu rfl rfl (ldB rfl na3 hB) ?_
    refine C rfl wu rfl rfl Tryz.call12 (rLdCheck x _ (hci.ext hE)) ?_
    rintro _ w6 hE6 rfl
    replace hE := hE.trans hE6
    replace hB := hB.ext hE6
    refine Go.Sx.V rfl wu rfl rfl (asg rfl) ?_
    refine wr_nil (post_thenN (wc_seq ?_))
    refine wc_region [0,1] rfl ?_
    refine Go.Sx.V rfl wu rfl rfl (mv rfl) ?_
    refine Go.Sx.V rfl wu rfl rfl (neqI rfl rfl) ?_
    refine wr_nil (post_thenN ?_)
    rcases hcase with ⟨he, rfl⟩ | ⟨he, P, m, D, L, R, Q, hT, hp, hL, ⟨gv, hG⟩, hN, hRl⟩
    · skip
      refine wc_condT rfl (by simp [he]) ?_
      refine wc_seq ?_
      refine wc_region [0,1,2,3,4,5,6,7,8] rfl ?_
      refine Go.Sx.V rfl wu rfl rfl (mv rfl) ?_
      refine Go.Sx.V rfl wu rfl rfl (mv rfl) ?_
      refine Go.Sx.V rfl wu rfl rfl (eqlI rfl rfl) ?_
      refine Go.Sx.V rfl wu rfl rfl (mv rfl) ?_
      refine KB 37 true rfl (by simp) ?_
      refine Go.Sx.V rfl (wg rfl rfl) rfl rfl (mv rfl) ?_
      refine Go.Sx.V rfl (wg rfl rfl) rfl rfl (lenS rfl ty29 (Sl.nil w6)) ?_
      refine Go.Sx.V rfl (wg rfl rfl) rfl rfl (eqlI rfl rfl) ?_
      refine Go.Sx.V rfl wu rfl rfl (pk rfl rfl) ?_
      refine Go.Sx.V rfl wu rfl rfl (asg rfl) ?_
      refine wr_nil (post_thenN (wc_ret (post_thenR ?_)))
      refine post_ret1 rfl rfl ?_
      exact ⟨hE, rfl⟩
    · rw [he]
      refine wc_condF rfl (by simp) ?_
      refine wc_skip (post_thenN (wc_seq ?_))
      replace hL := hL.ext hE6
      obtain ⟨rows, hs, hrl, hrr⟩ := hL.row
      obtain ⟨hok, hPe⟩ := hT.ok
      have hFv := fv_of hok x.s.f.mo
      have hFF : ∀ w', Ext w w' → FV w' P x.s.f.mo x.s.f.md := fun w' h => by rw [hPe]; exact okf_fv41 hok (hci.mo.ext h)
      rw [← hPe] at hFv
      have hokP := okF_fp hok hPe
      have hgen := hG.gen
      have hpok := hT.pok
      have hL0 : 0 ≤ L := by rw [hpok.hL]; exact Int.ediv_nonneg hpok.hD (by unfold wt; omega)
      have hpv : PV (par x.s.xs.length x.s.k x.t) = .tuple #[.agg [Value.int .i64 m, .int .i64 D, .int .i64 L].toArray, .int .i64 0] := by rw [hp]; rfl
      have hxi := hci.xs.ext hE
      refine wc_region [0,1,2,3,4,5,6,7,8,9,10,11,12,13,14,15] rfl ?_
      refine Go.Sx.V rfl wu rfl rfl (fad rfl fa28_0) ?_
      refine Go.Sx.V rfl wu rfl rfl (fad rfl fa26_2) ?_
      refine Go.Sx.V rfl wu rfl rfl (ldB rfl na22 hB) ?_
      refine Go.Sx.V rfl wu rfl rfl (lenI rfl ty22 hxi) ?_
      refine Go.Sx.V rfl wu rfl rfl (fad rfl fa28_0) ?_
      refine Go.Sx.V rfl wu rfl rfl (fad rfl fa26_1) ?_
      refine Go.Sx.V rfl wu rfl rfl (ldB rfl na3 hB) ?_
      refine Go.Sx.V rfl wu rfl rfl (fad rfl fa28_2) ?_
      refine Go.Sx.V rfl wu rfl rfl (ldB rfl na3 hB) ?_
      refine C rfl wu rfl rfl Tryz.call17 (rParams x.s.xs.length x.s.k x.t _) ?_
      rintro _ w7 hE7 rfl
      have hsz7 := hB.lt
      replace hE := hE.trans hE7
      replace hB := hB.ext hE7
      rw [hpv]
      refine Go.Sx.V rfl wu rfl rfl (mv rfl) ?_
      refine Go.Sx.V rfl wu rfl rfl (ext rfl rfl) ?_
      refine Go.Sx.V rfl wu rfl rfl (ext rfl rfl) ?_
      refine AL rfl wu rfl zv43 ?_
      intro pb w8 hE8 hPB hpb
      have hsz8 := hE.size
      have hB8 := hB.ext hE8
      have hE8' := hE.trans hE8
      have hX8 := hE7.trans hE8
      refine STB (vs := [.int .i64 m, .int .i64 D, .int .i64 L]) (cs' := [.int .i64 m, .int .i64 D, .int .i64 L]) rfl wu rfl rfl rfl sv43 (by intro h; cases h) (by assumption) (by first | (simp [Value.oneCell']; done) | (intro v hv; simp only [List.mem_cons, List.not_mem_nil, or_false] at hv; rcases hv with rfl | rfl | rfl | rfl | rfl <;> first | rfl | assumption) | (intro v hv; simp only [List.mem_cons, List.not_mem_nil, or_false] at hv; rcases hv with rfl | rfl | rfl <;> first | rfl | assumption) | (intro v hv; simp only [List.mem_cons, List.not_mem_nil, or_false] at hv; rcases hv with rfl | rfl <;> first | rfl | assumption)) rfl rfl rfl ?_
      intro w9 hg9 hX9 hPB9
      refine Go.Sx.V rfl wu rfl rfl (asg rfl) ?_
      refine wr_nil (post_thenN (wc_seq (wc_seq ?_)))
      have hz7 := hE7.size
      have hB9 := hB8.grown hg9 (by intro hh; cases hh; omega)
      have hE9 := hX9 w (by omega) hE8'
      have hX69 := hX9 w6 (by omega) hX8
      replace hs := hs.ext hX69
      clear hE hE8' hX8 hB hB8 hPB
      refine wc_region [0,1,2,3,4,5,6,7,8] rfl ?_
      refine Go.Sx.V rfl wu rfl rfl (mv rfl) ?_
      refine Go.Sx.V rfl wu rfl rfl (neqI rfl rfl) ?_
      refine Go.Sx.V rfl wu rfl rfl (mv rfl) ?_
      refine KB 57 false rfl (by simp) ?_
      refine Go.Sx.V rfl (wg rfl rfl) rfl rfl (mv rfl) ?_
      refine Go.Sx.V rfl (wg rfl rfl) rfl rfl (lenS rfl ty29 hs) ?_
      refine Go.Sx.V rfl (wg rfl rfl) rfl rfl (fad rfl fa43_2) ?_
      refine Go.Sx.V rfl (wg rfl rfl) rfl rfl (ldB rfl na3 hPB9) ?_
      refine Go.Sx.V rfl (wg rfl rfl) rfl rfl (gtrI rfl rfl) ?_
      refine Go.Sx.V rfl wu rfl rfl (pk rfl rfl) ?_
      refine wr_nil (post_thenN ?_)
      refine wc_condF rfl (by rw [hrl]; simp; omega) ?_
      refine wc_skip (post_thenN (wc_seq (wc_seq ?_)))
      refine wc_region [0,1,2] rfl ?_
      refine Go.Sx.V rfl wu rfl rfl (mv rfl) ?_
      refine Go.Sx.V rfl wu rfl rfl (lenS rfl ty29 hs) ?_
      refine Go.Sx.V rfl wu rfl rfl (mv rfl) ?_
      refine wr_nil (post_thenN (wc_block ?_))
      rw [hrl]
      have hX := Ext.refl w9
      refine wc_loop (fun i : Nat => [(1, .pointer (some ⟨cb, 0, none⟩)), (3, lv), (64, lv), (65, .int .i64 R.length), (66, .int .i64 i)])
        (fun i w' => i ≤ R.length ∧ Ext w w' ∧ Ext w9 w') (fun i => R.length - i) 0 ⟨rfl, rfl, rfl, rfl, rfl, trivial⟩ ⟨by omega, hE9, hX⟩ ?_
      clear hX
      rintro i w10 ⟨i1, hE, hX⟩
      have hsi := hs.ext hX
      have hB := hB9.ext hX
      try dsimp only
      refine wc_seq ?_
      refine wc_region [0] rfl ?_
      refine Go.Sx.V rfl wu rfl rfl (lssI rfl rfl) ?_
      refine wr_nil (post_thenN (wc_seq ?_))
      refine wc_cond rfl ?_ ?_
      · intro hc
        simp at hc
        obtain ⟨r, hr, hri0⟩ := hrr i hc
        have hri := (hri0.ext hX69).ext hX
        obtain ⟨f, hf, _, hfe, hfd⟩ := (hN.mem _).1 (mem_at hc)
        have hrn : (R.getD i []).length = x.s.xs.length := by rw [hfe, encW_length]
        have hrall : AllIn P.q (R.getD i []) := by rw [hfe]; exact encW_in _ _ _
        have hwi := hci.ws.ext hE
        have hwl := hT.wl
        refine wc_skip (post_thenN (wc_seq (wc_block (wc_seq ?_))))
        refine wc_region [0,1,2,3,4] rfl ?_
        refine Go.Sx.V rfl wu rfl rfl (mv rfl) ?_
        refine Go.Sx.V rfl wu rfl rfl (iad rfl rfl ty29 hsi (by omega) (by omega)) ?_
        refine Go.Sx.V rfl wu rfl rfl (ldE rfl na22 hsi (by rw [Int.toNat_natCast]; exact hr)) ?_
        refine Go.Sx.V rfl wu rfl rfl (asg rfl) ?_
        refine Go.Sx.V rfl wu rfl rfl (asg rfl) ?_
        refine wr_nil (post_thenN (wc_seq (wc_seq ?_)))
        obtain ⟨cw, hcw⟩ : ∃ cw, cw = R.getD i [] := ⟨_, rfl⟩
        rw [← hcw] at hri hfe hfd hrn hrall
        have hX11 := Ext.refl w10
        refine wc_draw mixed [0,1,2,3,4,5,6,7,8,9,10,11,12,14,15,13,16,17,18,19,20,21,22,23,24] (by kernel_rfl) ?_
        intro w11 hd11 _
        replace hE := hE.trans hd11
        replace hX := hX.trans hd11
        replace hX11 := hX11.trans hd11
        replace hB := hB.ext hd11
        replace hsi := hsi.ext hd11
        replace hwi := hwi.ext hd11
        refine Go.Sx.V rfl wu rfl rfl (fad rfl fa28_0) ?_
        refine Go.Sx.V rfl wu rfl rfl (fad rfl fa26_0) ?_
        refine Go.Sx.V rfl wu rfl rfl (ldA rfl ag24 hB) ?_
        refine Go.Sx.V rfl wu rfl rfl (mv rfl) ?_
        refine Go.Sx.V rfl wu rfl rfl (fad rfl fa28_1) ?_
        refine Go.Sx.V rfl wu rfl rfl (ldB rfl na22 hB) ?_
        refine Go.Sx.V rfl wu rfl rfl (lenI rfl ty22 hwi) ?_
        have hcall := rElements P x.s.f.mo x.s.f.md r cw x.ws.length 4 _ (hFF _ hE) (hri.ext hX11)
        rw [hFv] at hcall
        refine C rfl wu rfl rfl Tryz.call13 hcall ?_
        clear hcall
        rintro _ w12 hE12 rfl
        replace hE := hE.trans hE12
        replace hX := hX.trans hE12
        replace hX11 := hX11.trans hE12
        replace hB := hB.ext hE12
        refine Go.Sx.V rfl wu rfl rfl (neqI rfl rfl) ?_
        refine Go.Sx.V rfl wu rfl rfl (mv rfl) ?_
        refine KB 80 false rfl (by rw [(elE_ok (by decide)).2 ⟨by omega, hrall⟩]; rfl) ?_
        refine Go.Sx.V rfl (wg rfl rfl) rfl rfl (mv rfl) ?_
        refine Go.Sx.V rfl (wg rfl rfl) rfl rfl (fad rfl fa28_1) ?_
        refine Go.Sx.V rfl (wg rfl rfl) rfl rfl (ldB rfl na22 hB) ?_
        refine Go.Sx.V rfl (wg rfl rfl) rfl rfl (fad rfl fa28_2) ?_
        refine Go.Sx.V rfl (wg rfl rfl) rfl rfl (ldB rfl na3 hB) ?_
        refine C rfl (wg rfl rfl) rfl rfl Tryz.call15 (rDistance r x.wu cw x.ws _ (hri.ext hX11) (hci.ws.ext hE) (by omega)) ?_
        rintro _ w13 hE13 rfl
        replace hE := hE.trans hE13
        replace hX := hX.trans hE13
        replace hX11 := hX11.trans hE13
        replace hB := hB.ext hE13
        refine Go.Sx.V rfl (wg rfl rfl) rfl rfl (gtrI rfl rfl) ?_
        refine Go.Sx.V rfl wu rfl rfl (pk rfl rfl) ?_
        refine Go.Sx.V rfl wu rfl rfl (mv rfl) ?_
        refine KB 89 false rfl (by rw [hrn]; simp; omega) ?_
        refine Go.Sx.V rfl (wg rfl rfl) rfl rfl (fad rfl fa28_0) ?_
        refine Go.Sx.V rfl (wg rfl rfl) rfl rfl (ldA rfl ag26 hB) ?_
        refine Go.Sx.V rfl (wg rfl rfl) rfl rfl (mv rfl) ?_
        refine C rfl (wg rfl rfl) rfl rfl Tryz.call23 (r18Has P x.s.f.p x.s.f.M x.s.k x.s.f.mo x.s.pu x.s.mu r x.s.f.md x.s.xs x.s.ms cw _ (hFF _ hE) hFv hokP hgen (hci.ext hE).xs (hci.ext hE).ms hT.grs (hri.ext hX11) hrall hrn) ?_
        rintro _ w14 hE14 ⟨b, rfl, hb⟩
        obtain rfl := hb f hf hfe
        replace hE := hE.trans hE14
        replace hX := hX.trans hE14
        replace hX11 := hX11.trans hE14
        refine Go.Sx.V rfl (wg rfl rfl) rfl rfl (notB rfl) ?_
        refine Go.Sx.V rfl wu rfl rfl (pk rfl rfl) ?_
        refine wr_nil (post_thenN ?_)
        refine wc_condF rfl (by rfl) ?_
        refine wc_skip (post_thenN (wc_seq ?_))
        have hs14 := hs.ext hX
        have hri14 := hri.ext hX11
        rcases Nat.eq_zero_or_pos i with rfl | hi0
        · skip
          refine wc_region [0,1,2,3,4,5,6,7,8,9,10,11] rfl ?_
          refine Go.Sx.V rfl wu rfl rfl (mv rfl) ?_
          refine Go.Sx.V rfl wu rfl rfl (gtrI rfl rfl) ?_
          refine Go.Sx.V rfl wu rfl rfl (mv rfl) ?_
          refine KB 98 false rfl (by simp) ?_
          refine SK rfl rfl rfl rfl rfl ?_
          refine SK rfl rfl rfl rfl rfl ?_
          refine SK rfl rfl rfl rfl rfl ?_
          refine SK rfl rfl rfl rfl rfl ?_
          refine SK rfl rfl rfl rfl rfl ?_
          refine SK rfl rfl rfl rfl rfl ?_
          refine SK rfl rfl rfl rfl rfl ?_
          refine SK rfl rfl rfl rfl rfl ?_
          refine Go.Sx.V rfl wu rfl rfl (pk rfl rfl) ?_
          refine wr_nil (post_thenN ?_)
          refine wc_condF rfl (by rfl) ?_
          refine wc_skip (post_blockN (post_thenN ?_))
          refine wc_region [0,1] rfl ?_
          refine Go.Sx.V rfl wu rfl rfl (addI rfl rfl) ?_
          refine Go.Sx.V rfl wu rfl rfl (mv rfl) ?_
          refine wr_nil ?_
          exact post_loopN 1 ⟨rfl, rfl, rfl, rfl, rfl, trivial⟩ ⟨by omega, hE, hX⟩ (by omega)
        · obtain ⟨j, rfl⟩ : ∃ j, i = j + 1 := ⟨i - 1, by omega⟩
          obtain ⟨r2, hr2, hri2⟩ := hrr j (by omega)
          have e2 : (((j + 1 : Nat) : Int) - 1).toNat = j := by omega
          have hlt := asc_at hN.asc (show j < j + 1 by omega) hc
          rw [← hcw] at hlt
          have hsle := hs.le
          refine wc_region [0,1,2,3,4,5,6,7,8,9,10,11] rfl ?_
          refine Go.Sx.V rfl wu rfl rfl (mv rfl) ?_
          refine Go.Sx.V rfl wu rfl rfl (gtrI rfl rfl) ?_
          refine Go.Sx.V rfl wu rfl rfl (mv rfl) ?_
          refine KB 98 true rfl (by simp) ?_
          refine Go.Sx.V rfl (wg rfl rfl) rfl rfl (mv rfl) ?_
          refine Go.Sx.V rfl (wg rfl rfl) rfl rfl (mv rfl) ?_
          refine Go.Sx.V rfl (wg rfl rfl) rfl rfl (subI rfl rfl) ?_
          refine Go.Sx.V rfl (wg rfl rfl) rfl rfl (iad rfl rfl ty29 hs14 (by omega) (by omega)) ?_
          refine Go.Sx.V rfl (wg rfl rfl) rfl rfl (ldE rfl na22 hs14 (by rw [e2]; exact hr2)) ?_
          refine Go.Sx.V rfl (wg rfl rfl) rfl rfl (mv rfl) ?_
          refine C rfl (wg rfl rfl) rfl rfl Tryz.call24 (rCompare r2 r _ _ _ ((hri2.ext hX69).ext hX) hri14) ?_
          rintro _ w15 hE15 rfl
          replace hE := hE.trans hE15
          replace hX := hX.trans hE15
          refine Go.Sx.V rfl (wg rfl rfl) rfl rfl (geqI rfl rfl) ?_
          refine Go.Sx.V rfl wu rfl rfl (pk rfl rfl) ?_
          refine wr_nil (post_thenN ?_)
          refine wc_condF rfl (decide_eq_false (by omega)) ?_
          refine wc_skip (post_blockN (post_thenN ?_))
          refine wc_region [0,1] rfl ?_
          refine Go.Sx.V rfl wu rfl rfl (addI rfl rfl) ?_
          refine Go.Sx.V rfl wu rfl rfl (mv rfl) ?_
          refine wr_nil ?_
          exact post_loopN (j + 1 + 1) ⟨rfl, rfl, rfl, rfl, rfl, trivial⟩ ⟨by omega, hE, hX⟩ (by omega)
      · intro hc
        refine wc_exit (post_thenE (post_loopE (post_blockX (post_thenN (wc_seq ?_)))))
        refine wc_region [0] rfl ?_
        refine Go.Sx.V rfl wu rfl rfl (asg rfl) ?_
        refine wr_nil (post_thenN (wc_ret ?_))
        refine post_ret1 rfl rfl ?_
        exact ⟨hE, rfl⟩
namespace FListdecodeSound
open Go.ChangeShapes Go.WideShapes Go.ChangeAt Go.RowKit Go.Fr
theorem own : ownKnob Tryz.prog.godebug = none := by kernel_rfl
theorem laidOut : laidOutB Tryz.prog = true := by kernel_rfl
set_option maxRecDepth 100000 in
theorem lifted (os : Os) (started : os.Started) (H : Type) (enc : TypeId × Value → H) :
    ReturnsInHanded {} Tryz.checked os 5 .any (Rows.listdecodeSoundSpec.pre6 enc Tryz.prog Tryz.f5 Rows.listdecodeSoundRow.domain false) (Rows.listdecodeSoundSpec.post enc Tryz.prog Tryz.f5 false true false false) := by
  refine returnsInHanded_of_change_sized (C := Tryz.checked) own started (by kernel_rfl) Tryz.func5
    (ChangeSpec.witness6 (enc := enc) (C := Tryz.checked) false ⟨#[], #[.agg #[.int .i64 0, .int .i64 0, .slice none 0 0, .int .i64 0, .slice none 0 0, .slice none 0 0, .slice none 0 0, .int .i64 0]], []⟩ 8 (by kernel_rfl) (by kernel_rfl) (by kernel_rfl) (by kernel_rfl)) ?_
  intro W base args ds gs before hval0 hW _ hsz0 _
  have hval : ∀ (j : Nat) t v, Tryz.f5.params[j]? = some t → args[j]? = some v → Value.okWide Tryz.prog W .any base t v := hval0
  have hW' := hW
  obtain ⟨p, q, hA0, hV, rfl, hfz, hnd⟩ := hW
  have hA : DataW.TrodAll enc Tryz.prog W 0 (fun _ => true) true Tryz.f5.params.toList args.toList ds p := hA0
  have hsz : (DataW.weightsEach Tryz.prog (Tryz.f5.params.toList ++ Rows.listdecodeSoundSpec.plain.varTypes Tryz.prog) (ds ++ gs)).all (· ≤ reachBytes) = true := hsz0
  rw [Tryz.params5] at hA hval hsz
  obtain ⟨v0, vs0, d0, ds0, p0, q0, hargs, rfl, rfl, h0, r0⟩ := trodAll_cons hA
  obtain ⟨rfl, rfl, rfl⟩ := trodAll_nil r0
  obtain rfl : args = #[v0] := by cases args; simp_all
  obtain ⟨rfl, rfl⟩ := trodVars_none hV
  have k0 := h0
  have lt0 : ∀ x ∈ p0, x.block < W.heap.size := by obtain ⟨m, hm⟩ := k0; exact DataW.trod_lt m _ _ _ hm
  have w0 : WOK Tryz.prog 28 d0 := wok_arg hsz (j := 0) rfl rfl
  obtain ⟨x0, s0⟩ := op_case (hval 0 28 v0 rfl rfl) h0 w0
  refine (law_ListdecodeSound (w := W) v0 x0 s0).mono fun e W' he => ?_
  cases e with
  | panicked c => exact he.elim
  | outgrown => exact he.elim
  | returned v =>
    obtain ⟨bel, rfl⟩ := he
    exact ⟨_, rfl, _, _, _, [], _, [], hW', trodAll_mk1 (shut_bool Tryz.underlying4 _), (trodAll_cons_mk (Below.trod laidOut (by kernel_rfl) (of_decide_eq_true (by kernel_rfl)) k0 bel lt0) trodAll_mk0), rfl, bel.frame _, fun h => by cases h⟩
theorem over : Rows.listdecodeSoundRow.holds Tryz.pinned (OpenSpec.ofChange Rows.listdecodeSoundSpec) :=
  OpenClaim.holds_of_wide 5 Tryz.f5 rfl rfl rfl rfl rfl rfl rfl ⟨rfl, rfl, rfl, rfl, rfl⟩ rfl rfl rfl rfl rfl (by kernel_rfl) Tryz.func5 (by kernel_rfl)
    (of_decide_eq_true (by kernel_rfl)) (by unfold Func.isWrapper; first | (rw [if_pos (by decide +kernel)]; kernel_rfl) | (rw [if_neg (by decide +kernel)]; exact ⟨rfl, rfl⟩))
    (fun os started H enc _ => lifted os started H enc)
end FListdecodeSound
theorem listdecodeSound_holds : Rows.ListdecodeSoundSaid := FListdecodeSound.over
end Go.Proofs.YtmnojknfjbimdaaGreat

