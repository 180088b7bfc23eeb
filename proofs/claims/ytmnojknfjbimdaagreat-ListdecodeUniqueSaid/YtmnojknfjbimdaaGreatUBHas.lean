/-
  The package bivariate, by contract, part 4: inverse, choose, Hasse; the description of a field.
-/
import Derived.Test.YtmnojknfjbimdaaGreatUBiv1
import Derived.Test.YtmnojknfjbimdaaGreatUMPa
import Derived.Test.YtmnojknfjbimdaaGreatURPoly
import Derived.Test.YtmnojknfjbimdaaGreatUMSxa
namespace Go.Sx
open Go Go.Pl Go.RowKit
section
variable {P : Program} {N : Nat} {T : TypeId} {w : World} {l : List (Tmp × Value)}
theorem fld {x : Operand} {v u : Value} {k : Nat} {ty : TypeId} (hx : ev l x = some v) (hf : ∀ w, (Instr.field T v k).run P w = .ok u w) : Yl P N (.field T x k) ty l w u := fun a ha w' _ o ho _ => by
  simp [execOp, ho, ha.eval hx, hf]
end
end Go.Sx
namespace Go.Proofs.YtmnojknfjbimdaaGreat
open Go Go.Sx Go.Pl Go.RowKit Go.Fd Go.Alg
theorem zv24 : ZV Tryz.prog 24 [.int .i64 0, .int .i64 0, .slice none 0 0] := zeroF
theorem sv24 : ∀ w, (sizeOf 24).run Tryz.prog w = .ok 3 w := szF
theorem fvF (p : Int) (a b : Value) : ∀ w, (Instr.field 24 (.agg #[.int .i64 p, a, b]) 0).run Tryz.prog w = .ok (.int .i64 p) w := fun w => by
  simp [Instr.field, run_underlying Tryz.underlying24, asAgg, part, isAgg]
set_option maxRecDepth 10000 in
theorem gField (P : FP) (g : Value) (w : World) (hG : GFV w P g) :
    Calls Tryz.prog 113 #[g] w (RetX w fun v w' => ∃ mo md, v = fv P mo ∧ FV w' P mo md) := by
  obtain ⟨b, mc, exp, log, md, lg, x0, rfl, hB, hF, hx, hei, hli, hL⟩ := hG.ex
  have hmd : md.length ≤ 8 := by
    by_cases e : P.M = 1
    · rw [hF.one e]; simp
    · rw [hF.len e]; exact hF.m
  have hmi := hF.ints
  refine calls1 Tryz.func113 rfl rfl ?_
  refine wc_seq ?_
  refine wc_region [0] rfl ?_
  refine AL rfl wu rfl zv24 ?_
  intro rb w1 hE hR hrb
  have hrl := hR.lt
  replace hB := hB.ext hE
  replace hmi := hmi.ext hE
  refine wr_nil (post_thenN (wc_seq ?_))
  refine wc_draw mixed [0,1,2,3,4,5,6,7,8,9,11,12,13,14,15,10,16,17,18] (by kernel_rfl) ?_
  intro w2 hd _
  replace hE := hE.trans hd
  replace hR := hR.ext hd
  replace hB := hB.ext hd
  replace hmi := hmi.ext hd
  refine Go.Sx.V rfl wu rfl rfl (mv rfl) ?_
  refine Go.Sx.V rfl wu rfl rfl (nchk rfl) ?_
  refine Go.Sx.V rfl wu rfl rfl (fad rfl fa120_0) ?_
  refine Go.Sx.V rfl wu rfl rfl (fad rfl fa24_0) ?_
  refine Go.Sx.V rfl wu rfl rfl (ldB rfl na3) ?_
  refine Go.Sx.V rfl wu rfl rfl (mv rfl) ?_
  refine Go.Sx.V rfl wu rfl rfl (nchk rfl) ?_
  refine Go.Sx.V rfl wu rfl rfl (fad rfl fa120_0) ?_
  refine Go.Sx.V rfl wu rfl rfl (fad rfl fa24_1) ?_
  refine Go.Sx.V rfl wu rfl rfl (ldB rfl na3) ?_
  refine Go.Sx.V rfl wu rfl rfl (mv rfl) ?_
  refine Go.Sx.V rfl wu rfl rfl (nchk rfl) ?_
  refine Go.Sx.V rfl wu rfl rfl (fad rfl fa120_0) ?_
  refine Go.Sx.V rfl wu rfl rfl (fad rfl fa24_2) ?_
  refine Go.Sx.V rfl wu rfl rfl (ldB rfl na22) ?_
  have hzd := hd.size
  refine BS0 rfl wu rfl ty22 ?_
  intro gl w6 hE6 hgl hgl2
  have hz6 := hE6.size
  replace hE := hE.trans hE6
  replace hR := hR.ext hE6
  refine AP0 rfl wu rfl rfl rfl ty22 hmi hE6 (by omega) ?_
  intro s w8 hE8 hs hsb
  have hso : s.oneCell' = true := hs.one
  replace hE := hE.trans hE8
  replace hR := hR.ext hE8
  refine Go.Sx.V rfl wu rfl rfl (bld (us := [.int .i64 P.p, .int .i64 P.M, s]) (r := [.int .i64 P.p, .int .i64 P.M, s]) rfl (bdF _ _ s (cells_ints hs))) ?_
  refine STB (vs := [.int .i64 P.p, .int .i64 P.M, s]) (cs' := [.int .i64 P.p, .int .i64 P.M, s]) rfl wu rfl rfl rfl sv24 (by intro h; kernel_rfl) (by assumption) (by first | (simp [Value.oneCell']; done) | (intro v hv; simp only [List.mem_cons, List.not_mem_nil, or_false] at hv; rcases hv with rfl | rfl | rfl | rfl | rfl <;> first | rfl | assumption) | (intro v hv; simp only [List.mem_cons, List.not_mem_nil, or_false] at hv; rcases hv with rfl | rfl | rfl <;> first | rfl | assumption) | (intro v hv; simp only [List.mem_cons, List.not_mem_nil, or_false] at hv; rcases hv with rfl | rfl <;> first | rfl | assumption)) rfl rfl rfl ?_
  intro w5 hg5 hX5 hR5
  refine wr_nil (post_thenN (wc_ret ?_))
  have hsn : s.ownBlock ≠ some rb := fun e => by
    have := hR.lt
    rcases hsb with h | h
    · rw [h] at e; cases e; omega
    · rw [h.1] at e; cases e; omega
  refine post_retC1 rfl rfl ag24 hR5 rfl ?_
  have hs5 := hs.kept hg5 hsn
  exact ⟨hX5 _ hrb hE, s, md, rfl, ⟨hs5, hF.p, hF.m, hF.q, hF.mdf, hF.one, hF.len, hF.lo⟩⟩
end Go.Proofs.YtmnojknfjbimdaaGreat

