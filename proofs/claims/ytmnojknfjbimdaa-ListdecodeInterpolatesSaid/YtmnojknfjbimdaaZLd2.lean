/-
  Ld2
-/
import Derived.Test.YtmnojknfjbimdaaZLd1
import Derived.Test.YtmnojknfjbimdaaZMSya
import Derived.Test.YtmnojknfjbimdaaZLib2
import Derived.Test.YtmnojknfjbimdaaZBiv4
import Derived.Test.YtmnojknfjbimdaaZBiv3
namespace Go.Sx
open Go Go.RowKit Go.Pl
end Go.Sx
namespace Go.Fd
open Go.Pl Go.Alg
variable {P : FP}
end Go.Fd
namespace Go.Proofs.Ytmnojknfjbimdaa
open Go Go.Sx Go.Pl Go.RowKit Go.Fd Go.Alg Go.Ld
theorem dif_of {P : FP} {xs : List Int} (h : AllIn P.q xs) (hd : DifI xs) : ∀ n, n ≤ xs.length → dif P xs n = true
  | 0, _ => rfl
  | n + 1, hn => by
    rw [dif, dif_of h hd n (by omega), Bool.true_and, sn_false (by omega) fun j hj e => ?_]
    · rfl
    · rw [inK_in (h j (by omega)), inK_in (h n (by omega))] at e
      exact hd n (by omega) j hj e.symm
theorem TkP.args {P : FP} {x : CRec} {m D L : Int} (h : TkP P x m D L) : argsA P x.s.xs (vals P x.ws x.s.ms).length m (wt x.s.k) L = 0 := by
  have hp := h.pok
  have hk := hp.hk
  have hn := hp.hn
  have hL0 : 0 ≤ L := by rw [hp.hL]; exact Int.ediv_nonneg hp.hD (by unfold wt; omega)
  refine args_zero.2 ⟨by rw [vals_length, h.wl], dif_of h.grs.xin h.grs.dif _ (Nat.le_refl _), hp.hm.1, hp.hm.2, by unfold wt; omega, by unfold wt; omega, hL0, hp.h64, ?_⟩
  have := hp.hcost
  rwa [cost] at this
set_option maxRecDepth 10000 in
theorem lInterpolate (P : FP) (x : CRec) (m D L : Int) (kv : Value) (w : World) (hT : TkP P x m D L) (hV : TkV w P x m D L kv) :
    Calls Try.prog 21 #[kv] w (RetX w fun r w' => ∃ q Q, r = .tuple #[q, .int .i64 0] ∧ LO w.heap.size w' q 31 (bcl Q) ∧
      IntP (fun i : Nat => inK P (gi x.s.xs i)) (fun i : Nat => inK P (gi (vals P x.ws x.s.ms) i)) x.s.xs.length m.toNat (wt x.s.k).toNat (L.toNat + 1) Q) := by
  obtain ⟨⟨b, g, vu, rfl, hB, hG, hvi⟩, ⟨hmo, hxs, hms, hws⟩⟩ := hV
  have hargs := hT.args
  have hk := hT.pok.hk
  have hn := hT.pok.hn
  have hE := Ext.refl w
  dsimp only [tkCells] at hB
  refine calls1 Try.func21 rfl rfl ?_
  refine wc_seq ?_
  refine wc_region [0,1] rfl ?_
  refine Go.Sx.V rfl wu rfl rfl (asg rfl) ?_
  refine Go.Sx.V rfl wu rfl rfl (asg rfl) ?_
  refine wr_nil (post_thenN (wc_seq ?_))
  refine wc_draw mixed [0,1,2,3,4,5,6,7,8,9,10,11,12,13,14,15,16,17,18,19,20,21,22,24,25,26,27,28,23,29,30,31,32,33] (by kernel_rfl) ?_
  intro w1 hd _
  replace hE := hE.trans hd
  replace hB := hB.ext hd
  replace hG := hG.ext hd
  refine Go.Sx.V rfl wu rfl rfl (mv rfl) ?_
  refine Go.Sx.V rfl wu rfl rfl (nchk rfl) ?_
  refine Go.Sx.V rfl wu rfl rfl (fad rfl fa68_1) ?_
  refine Go.Sx.V rfl wu rfl rfl (ldB rfl naE63 hB) ?_
  refine Go.Sx.V rfl wu rfl rfl (mv rfl) ?_
  refine Go.Sx.V rfl wu rfl rfl (nchk rfl) ?_
  refine Go.Sx.V rfl wu rfl rfl (fad rfl fa68_0) ?_
  refine Go.Sx.V rfl wu rfl rfl (fad rfl fa35_2) ?_
  refine Go.Sx.V rfl wu rfl rfl (ldB rfl na31 hB) ?_
  refine Go.Sx.V rfl wu rfl rfl (mv rfl) ?_
  refine Go.Sx.V rfl wu rfl rfl (nchk rfl) ?_
  refine Go.Sx.V rfl wu rfl rfl (fad rfl fa68_3) ?_
  refine Go.Sx.V rfl wu rfl rfl (ldB rfl na31 hB) ?_
  refine Go.Sx.V rfl wu rfl rfl (mv rfl) ?_
  refine Go.Sx.V rfl wu rfl rfl (nchk rfl) ?_
  refine Go.Sx.V rfl wu rfl rfl (fad rfl fa68_5) ?_
  refine Go.Sx.V rfl wu rfl rfl (fad rfl fa24_0) ?_
  refine Go.Sx.V rfl wu rfl rfl (ldB rfl na3 hB) ?_
  refine Go.Sx.V rfl wu rfl rfl (mv rfl) ?_
  refine Go.Sx.V rfl wu rfl rfl (nchk rfl) ?_
  refine Go.Sx.V rfl wu rfl rfl (fad rfl fa68_0) ?_
  refine Go.Sx.V rfl wu rfl rfl (fad rfl fa35_1) ?_
  refine Go.Sx.V rfl wu rfl rfl (ldB rfl na3 hB) ?_
  refine Go.Sx.V rfl wu rfl rfl (mv rfl) ?_
  refine Go.Sx.V rfl wu rfl rfl (nchk rfl) ?_
  refine Go.Sx.V rfl wu rfl rfl (fad rfl fa68_5) ?_
  refine Go.Sx.V rfl wu rfl rfl (fad rfl fa24_2) ?_
  refine Go.Sx.V rfl wu rfl rfl (ldB rfl na3 hB) ?_
  refine C rfl wu rfl rfl Try.call28 (lWeight x.s.k _ ⟨hk.1, by omega⟩) ?_
  rintro _ w2 hE2 rfl
  replace hE := hE.trans hE2
  replace hG := hG.ext hE2
  replace hB := hB.ext hE2
  refine C rfl wu rfl rfl Try.call34 (bInterp P g x.s.pu vu x.s.xs (vals P x.ws x.s.ms) m (wt x.s.k) L _ hG (hxs.ext hE) (hvi.ext hE)) ?_
  rintro dv w3 hE3 hint
  have hsz := hE.size
  replace hE := hE.trans hE3
  obtain ⟨q, Q, rfl, hq, hip⟩ := (hint.resolve_left fun h => absurd hargs h.1).2
  refine Go.Sx.V rfl wu rfl rfl (ext rfl rfl) ?_
  refine Go.Sx.V rfl wu rfl rfl (ext rfl rfl) ?_
  refine Go.Sx.V rfl wu rfl rfl (asg rfl) ?_
  refine Go.Sx.V rfl wu rfl rfl (asg rfl) ?_
  refine wr_nil (post_thenN (wc_ret ?_))
  refine post_ret2 rfl rfl rfl ?_
  exact ⟨hE, q, Q, rfl, hq.mono (by omega), hip⟩
end Go.Proofs.Ytmnojknfjbimdaa

