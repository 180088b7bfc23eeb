/-
  The package bivariate, by contract, part 4: inverse, choose, Hasse; the description of a field.
-/
import Derived.Test.YtjpcgjllmpdmhaaZBiv1
import Derived.Test.YtjpcgjllmpdmhaaZMPa
import Derived.Test.YtjpcgjllmpdmhaaZRPoly
import Derived.Test.YtjpcgjllmpdmhaaZMSxa
namespace Go.Sx
open Go Go.Pl Go.RowKit
section
variable {P : Program} {N : Nat} {T : TypeId} {w : World} {l : List (Tmp × Value)}
theorem fld {x : Operand} {v u : Value} {k : Nat} {ty : TypeId} (hx : ev l x = some v) (hf : ∀ w, (Instr.field T v k).run P w = .ok u w) : Yl P N (.field T x k) ty l w u := fun a ha w' _ o ho _ => by
  simp [execOp, ho, ha.eval hx, hf]
end
end Go.Sx
namespace Go.Proofs.Ytjpcgjllmpdmhaa
open Go Go.Sx Go.Pl Go.RowKit Go.Fd Go.Alg

theorem zv24 : ZV Try.prog 24 [.int .i64 0, .int .i64 0, .slice none 0 0] := zeroF
theorem sv24 : ∀ w, (sizeOf 24).run Try.prog w = .ok 3 w := szF
theorem fvF (p : Int) (a b : Value) : ∀ w, (Instr.field 24 (.agg #[.int .i64 p, a, b]) 0).run Try.prog w = .ok (.int .i64 p) w := fun w => by
  simp [Instr.field, run_underlying Try.underlying24, asAgg, part, szInt, isAgg, infoI, typeInfo]
set_option maxRecDepth 10000 in
theorem gField (P : FP) (g : Value) (w : World) (hG : GFV w P g) :
    Calls Try.prog 74 #[g] w (RetX w fun v w' => ∃ mo md, v = fv P mo ∧ FV w' P mo md) := by
  obtain ⟨b, mc, exp, log, md, lg, x0, rfl, hB, hF, hx, hei, hli, hL⟩ := hG.ex
  have hmd : md.length ≤ 8 := by
    by_cases e : P.M = 1
    · rw [hF.one e]; simp
    · rw [hF.len e]; exact hF.m
  have hmi := hF.ints
  refine calls1 Try.func74 rfl rfl ?_
  refine wc_seq ?_
  refine wc_region [0] rfl ?_
  refine AL rfl wu rfl zv24 ?_
  intro rb w1 hE hR hrb
  have hrl := hR.lt
  replace hB := hB.ext hE
  replace hmi := hmi.ext hE
  refine wr_nil (post_thenN (wc_seq ?_))
  refine wc_draw mixed [0,1,2,3,4,5,6,7,8,9,11,12,13,14,15,10,16,17,18] (by kernel_rfl) ?_
  intro w2 hd _
  replace hE := hE.trans hd
  replace hR := hR.ext hd
  replace hB := hB.ext hd
  replace hmi := hmi.ext hd
  refine Go.Sx.V rfl wu rfl rfl (mv rfl) ?_
  refine Go.Sx.V rfl wu rfl rfl (nchk rfl) ?_
  refine Go.Sx.V rfl wu rfl rfl (fad rfl fa108_0) ?_
  refine Go.Sx.V rfl wu rfl rfl (fad rfl fa24_0) ?_
  refine Go.Sx.V rfl wu rfl rfl (ldB rfl na3) ?_
  refine Go.Sx.V rfl wu rfl rfl (mv rfl) ?_
  refine Go.Sx.V rfl wu rfl rfl (nchk rfl) ?_
  refine Go.Sx.V rfl wu rfl rfl (fad rfl fa108_0) ?_
  refine Go.Sx.V rfl wu rfl rfl (fad rfl fa24_1) ?_
  refine Go.Sx.V rfl wu rfl rfl (ldB rfl na3) ?_
  refine Go.Sx.V rfl wu rfl rfl (mv rfl) ?_
  refine Go.Sx.V rfl wu rfl rfl (nchk rfl) ?_
  refine Go.Sx.V rfl wu rfl rfl (fad rfl fa108_0) ?_
  refine Go.Sx.V rfl wu rfl rfl (fad rfl fa24_2) ?_
  refine Go.Sx.V rfl wu rfl rfl (ldB rfl na22) ?_
  have hzd := hd.size
  refine BS0 rfl wu rfl ty22 ?_
  intro gl w6 hE6 hgl hgl2
  have hz6 := hE6.size
  replace hE := hE.trans hE6
  replace hR := hR.ext hE6
  refine AP0 rfl wu rfl rfl rfl ty22 hmi hE6 (by omega) ?_
  intro s w8 hE8 hs hsb
  have hso : s.oneCell' = true := hs.one
  replace hE := hE.trans hE8
  replace hR := hR.ext hE8
  refine Go.Sx.V rfl wu rfl rfl (bld (us := [.int .i64 P.p, .int .i64 P.M, s]) (r := [.int .i64 P.p, .int .i64 P.M, s]) rfl (bdF _ _ s (cells_ints hs))) ?_
  refine STB (vs := [.int .i64 P.p, .int .i64 P.M, s]) (cs' := [.int .i64 P.p, .int .i64 P.M, s]) rfl wu rfl rfl rfl sv24 (by intro h; kernel_rfl) (by assumption) (by first | (simp [Value.oneCell']; done) | (intro v hv; simp only [List.mem_cons, List.not_mem_nil, or_false] at hv; rcases hv with rfl | rfl | rfl <;> first | rfl | assumption) | (intro v hv; simp only [List.mem_cons, List.not_mem_nil, or_false] at hv; rcases hv with rfl | rfl <;> first | rfl | assumption)) rfl rfl rfl ?_
  intro w5 hg5 hX5 hR5
  refine wr_nil (post_thenN (wc_ret ?_))
  have hsn : s.ownBlock ≠ some rb := fun e => by
    have := hR.lt
    rcases hsb with h | h
    · rw [h] at e; cases e; omega
    · rw [h.1] at e; cases e; omega
  refine post_retC1 rfl rfl ag24 hR5 rfl ?_
  have hs5 := hs.kept hg5 hsn
  exact ⟨hX5 _ hrb hE, s, md, rfl, ⟨hs5, hF.p, hF.m, hF.q, hF.mdf, hF.one, hF.len, hF.lo⟩⟩

theorem bInverse (p a : Int) (w : World) (hp : 2 ≤ p ∧ p ≤ 256) (ha : 0 ≤ a ∧ a ≤ 256) :
    Calls Try.prog 97 #[.int .i64 a, .int .i64 p] w (RetX w fun r _ => r = .int .i64 (inv p a)) := by
  refine calls2 Try.func97 rfl rfl ?_
  refine wc_seq ?_
  refine wc_region [0] rfl ?_
  refine Go.Sx.V rfl wu rfl rfl (asg rfl) ?_
  refine wr_nil (post_thenN (wc_seq ?_))
  refine wc_region [0] rfl ?_
  refine Go.Sx.V rfl wu rfl rfl (asg rfl) ?_
  refine wr_nil (post_thenN (wc_seq (wc_seq ?_)))
  refine wc_region [0,1,2] rfl ?_
  refine Go.Sx.V rfl wu rfl rfl (mv rfl) ?_
  refine Go.Sx.V rfl wu rfl rfl (subI rfl rfl) ?_
  refine Go.Sx.V rfl wu rfl rfl (mv rfl) ?_
  refine wr_nil (post_thenN (wc_block ?_))
  refine wc_loop (fun i : Nat => [(0, .int .i64 a), (1, .int .i64 p), (5, .int .i64 (ivl p a i)), (7, .int .i64 (p - 2)), (8, .int .i64 i)])
    (fun i w' => (i : Int) ≤ p - 2 ∧ Ext w w') (fun i => (p - 2).toNat - i) 0 ⟨rfl, rfl, rfl, rfl, rfl, trivial⟩ ⟨by omega, Ext.refl _⟩ ?_
  rintro i w4 ⟨i1, hE⟩
  have hr := ivl_range (p := p) (a := a) (by omega) i
  have hm := mul_le' (a := ivl p a i) (b := a) (c := 256) (d := 256) hr.1 (by omega) ha.1 ha.2
  have hm0 := Int.mul_nonneg hr.1 ha.1
  try dsimp only
  refine wc_seq ?_
  refine wc_region [0] rfl ?_
  refine Go.Sx.V rfl wu rfl rfl (lssI rfl rfl) ?_
  refine wr_nil (post_thenN (wc_seq ?_))
  refine wc_cond rfl ?_ ?_
  · intro hc
    simp at hc
    refine wc_skip (post_thenN (wc_seq (wc_block ?_)))
    refine wc_region [0,1,2,3,4,5] rfl ?_
    refine Go.Sx.V rfl wu rfl rfl (mv rfl) ?_
    refine Go.Sx.V rfl wu rfl rfl (mv rfl) ?_
    refine Go.Sx.V rfl wu rfl rfl (mulI rfl rfl) ?_
    refine Go.Sx.V rfl wu rfl rfl (mv rfl) ?_
    refine Go.Sx.V rfl wu rfl rfl (remI rfl rfl) ?_
    refine Go.Sx.V rfl wu rfl rfl (asg rfl) ?_
    refine wr_nil (post_blockN (post_thenN ?_))
    refine wc_region [0,1] rfl ?_
    refine Go.Sx.V rfl wu rfl rfl (addI rfl rfl) ?_
    refine Go.Sx.V rfl wu rfl rfl (mv rfl) ?_
    refine wr_nil ?_
    exact post_loopN (i + 1) ⟨rfl, rfl, rfl, rfl, rfl, trivial⟩ ⟨by omega, hE⟩ (by omega)
  · intro hc
    simp at hc
    refine wc_exit (post_thenE (post_loopE (post_blockX (post_thenN (wc_seq ?_)))))
    refine wc_region [0,1] rfl ?_
    refine Go.Sx.V rfl wu rfl rfl (mv rfl) ?_
    refine Go.Sx.V rfl wu rfl rfl (asg rfl) ?_
    refine wr_nil (post_thenN (wc_ret ?_))
    refine post_ret1 rfl rfl ?_
    exact ⟨hE, by rw [inv, show (p - 2).toNat = i by omega]⟩

set_option maxRecDepth 10000 in
theorem bChoose (p : Int) (n k : Nat) (w : World) (hp : 2 ≤ p ∧ p ≤ 256) (hpr : ∀ a b : Nat, p.toNat ∣ a * b → p.toNat ∣ a ∨ p.toNat ∣ b) (hn : n ≤ 1099511627776) (hk : k ≤ 1099511627776) :
    Calls Try.prog 75 #[.int .i64 n, .int .i64 k, .int .i64 p] w (RetX w fun r _ => r = .int .i64 ((bc n k : Int) % p)) := by
  have ep : ((p.toNat : Nat) : Int) = p := by omega
  refine calls3 Try.func75 rfl rfl ?_
  refine wc_seq ?_
  refine wc_region [0] rfl ?_
  refine Go.Sx.V rfl wu rfl rfl (asg rfl) ?_
  refine wr_nil (post_thenN (wc_seq ?_))
  refine wc_region [0] rfl ?_
  refine Go.Sx.V rfl wu rfl rfl (asg rfl) ?_
  refine wr_nil (post_thenN (wc_seq (wc_block ?_)))
  refine wc_loop (fun s : Nat × Nat × Int => [(0, .int .i64 s.1), (1, .int .i64 s.2.1), (2, .int .i64 p), (7, .int .i64 s.2.2)])
    (fun s w' => s.1 ≤ n ∧ s.2.1 ≤ k ∧ Ext w w' ∧ (0 ≤ s.2.2 ∧ s.2.2 < p) ∧ (s.2.2 * (bc s.1 s.2.1 : Nat)) % p = (bc n k : Int) % p) (fun s => s.2.1) (n, k, 1) ⟨rfl, rfl, rfl, rfl, trivial⟩ ⟨Nat.le_refl _, Nat.le_refl _, Ext.refl _, by show (0 : Int) ≤ 1 ∧ (1 : Int) < p; omega, by rw [Int.one_mul]⟩ ?_
  rintro ⟨n', k', o⟩ w1 ⟨n1, k1, hE, ho, hv⟩
  dsimp only at n1 k1 ho hv
  try dsimp only
  refine wc_seq (wc_seq ?_)
  refine wc_region [0,1] rfl ?_
  refine Go.Sx.V rfl wu rfl rfl (mv rfl) ?_
  refine Go.Sx.V rfl wu rfl rfl (gtrI rfl rfl) ?_
  refine wr_nil (post_thenN ?_)
  refine wc_cond rfl ?_ ?_
  · intro hc
    simp at hc
    obtain ⟨a, ha⟩ : ∃ a : Nat, a = n' % p.toNat := ⟨_, rfl⟩
    obtain ⟨b, hb⟩ : ∃ b : Nat, b = k' % p.toNat := ⟨_, rfl⟩
    have ha2 : a < p.toNat := by rw [ha]; exact Nat.mod_lt _ (by omega)
    have hb2 : b < p.toNat := by rw [hb]; exact Nat.mod_lt _ (by omega)
    have ea : (n' : Int) % p = a := by rw [ha, Int.natCast_emod, ep]
    have eb : (k' : Int) % p = b := by rw [hb, Int.natCast_emod, ep]
    have ea2 : (n' : Int) / p = ((n' / p.toNat : Nat) : Int) := by rw [Int.natCast_ediv, ep]
    have eb2 : (k' : Int) / p = ((k' / p.toNat : Nat) : Int) := by rw [Int.natCast_ediv, ep]
    have hluc : (bc n' k' : Int) % p = ((bc (n' / p.toNat) (k' / p.toNat) * bc a b : Nat) : Int) % p := by
      have h := lucas (p := p.toNat) (by omega) hpr n' k'
      rw [← ha, ← hb] at h
      have h2 := congrArg (fun x : Nat => (x : Int)) h
      simp only [Int.natCast_emod, ep] at h2
      exact h2
    refine wc_skip (post_thenN (wc_block (wc_seq ?_)))
    refine wc_draw mixed [0,1,2,3,4,5,6,7] (by kernel_rfl) ?_
    intro w2 hd _
    replace hE := hE.trans hd
    refine Go.Sx.V rfl wu rfl rfl (mv rfl) ?_
    refine Go.Sx.V rfl wu rfl rfl (mv rfl) ?_
    refine Go.Sx.V rfl wu rfl rfl (remI rfl rfl) ?_
    refine Go.Sx.V rfl wu rfl rfl (mv rfl) ?_
    refine Go.Sx.V rfl wu rfl rfl (mv rfl) ?_
    refine Go.Sx.V rfl wu rfl rfl (remI rfl rfl) ?_
    refine Go.Sx.V rfl wu rfl rfl (asg rfl) ?_
    refine Go.Sx.V rfl wu rfl rfl (asg rfl) ?_
    refine wr_nil (post_thenN (wc_seq (wc_seq ?_)))
    rw [ea, eb]
    refine wc_region [0,1,2] rfl ?_
    refine Go.Sx.V rfl wu rfl rfl (mv rfl) ?_
    refine Go.Sx.V rfl wu rfl rfl (mv rfl) ?_
    refine Go.Sx.V rfl wu rfl rfl (gtrI rfl rfl) ?_
    refine wr_nil (post_thenN ?_)
    refine wc_cond rfl ?_ ?_
    · intro hc2
      simp at hc2
      refine wc_seq ?_
      refine wc_region [0] rfl ?_
      refine Go.Sx.V rfl wu rfl rfl (asg rfl) ?_
      refine wr_nil (post_thenN (wc_ret (post_thenR (post_blockR (post_loopR (post_blockR (post_thenR ?_)))))))
      refine post_ret1 rfl rfl ?_
      refine ⟨hE, ?_⟩
      rw [← hv, Int.mul_emod, hluc, bc_over (show a < b by omega), Nat.mul_zero]
      simp
    · intro hc2
      simp at hc2
      refine wc_skip (post_thenN (wc_seq (wc_seq ?_)))
      refine wc_region [0,1] rfl ?_
      refine Go.Sx.V rfl wu rfl rfl (mv rfl) ?_
      refine Go.Sx.V rfl wu rfl rfl (mv rfl) ?_
      refine wr_nil (post_thenN (wc_block ?_))
      refine wc_loop (fun i : Nat => [(0, .int .i64 n'), (1, .int .i64 k'), (2, .int .i64 p), (7, .int .i64 (lp1 p a o i)), (8, .int .i64 a), (9, .int .i64 b), (23, .int .i64 b), (24, .int .i64 i)])
        (fun i w' => i ≤ b ∧ Ext w w') (fun i => b - i) 0 ⟨rfl, rfl, rfl, rfl, rfl, rfl, rfl, rfl, trivial⟩ ⟨by omega, hE⟩ ?_
      clear hE
      rintro i w3 ⟨i1, hE⟩
      have hr := lp1_range (p := p) (o := o) (a := a) (by omega) ho i
      try dsimp only
      refine wc_seq ?_
      refine wc_region [0] rfl ?_
      refine Go.Sx.V rfl wu rfl rfl (lssI rfl rfl) ?_
      refine wr_nil (post_thenN (wc_seq ?_))
      refine wc_cond rfl ?_ ?_
      · intro hc3
        simp at hc3
        have hm := mul_le' (a := lp1 p a o i) (b := (a : Int) - i) (c := 256) (d := 256) hr.1 (by omega) (by omega) (by omega)
        have hm0 := Int.mul_nonneg hr.1 (show (0 : Int) ≤ (a : Int) - i by omega)
        refine wc_skip (post_thenN (wc_seq (wc_block (wc_seq ?_))))
        refine wc_region [0,1] rfl ?_
        refine Go.Sx.V rfl wu rfl rfl (mv rfl) ?_
        refine Go.Sx.V rfl wu rfl rfl (asg rfl) ?_
        refine wr_nil (post_thenN ?_)
        refine wc_region [0,1,2,3,4,5,6,7] rfl ?_
        refine Go.Sx.V rfl wu rfl rfl (mv rfl) ?_
        refine Go.Sx.V rfl wu rfl rfl (mv rfl) ?_
        refine Go.Sx.V rfl wu rfl rfl (mv rfl) ?_
        refine Go.Sx.V rfl wu rfl rfl (subI rfl rfl) ?_
        refine Go.Sx.V rfl wu rfl rfl (mulI rfl rfl) ?_
        refine Go.Sx.V rfl wu rfl rfl (mv rfl) ?_
        refine Go.Sx.V rfl wu rfl rfl (remI rfl rfl) ?_
        refine Go.Sx.V rfl wu rfl rfl (asg rfl) ?_
        refine wr_nil (post_blockN (post_thenN ?_))
        refine wc_region [0,1] rfl ?_
        refine Go.Sx.V rfl wu rfl rfl (addI rfl rfl) ?_
        refine Go.Sx.V rfl wu rfl rfl (mv rfl) ?_
        refine wr_nil ?_
        exact post_loopN (i + 1) ⟨rfl, rfl, rfl, rfl, rfl, rfl, rfl, rfl, trivial⟩ ⟨by omega, hE⟩ (by omega)
      · intro hc3
        simp at hc3
        obtain rfl : i = b := by omega
        refine wc_exit (post_thenE (post_loopE (post_blockX (post_thenN (wc_seq (wc_seq ?_))))))
        refine wc_region [0,1] rfl ?_
        refine Go.Sx.V rfl wu rfl rfl (mv rfl) ?_
        refine Go.Sx.V rfl wu rfl rfl (mv rfl) ?_
        refine wr_nil (post_thenN (wc_block ?_))
        have ho1 := hr
        obtain ⟨o1, e1⟩ : ∃ o1, o1 = lp1 p a o i := ⟨_, rfl⟩
        rw [← e1] at ho1 ⊢
        refine wc_loop (fun t : Nat => [(0, .int .i64 n'), (1, .int .i64 k'), (2, .int .i64 p), (7, .int .i64 (lp2 p o1 t)), (35, .int .i64 i), (36, .int .i64 t)])
          (fun t w' => t ≤ i ∧ Ext w w') (fun t => i - t) 0 ⟨rfl, rfl, rfl, rfl, rfl, rfl, trivial⟩ ⟨by omega, hE⟩ ?_
        clear hE
        rintro t w4 ⟨t1, hE⟩
        have hr2 := lp2_range (p := p) (o := o1) (by omega) ho1 t
        try dsimp only
        refine wc_seq ?_
        refine wc_region [0] rfl ?_
        refine Go.Sx.V rfl wu rfl rfl (lssI rfl rfl) ?_
        refine wr_nil (post_thenN (wc_seq ?_))
        refine wc_cond rfl ?_ ?_
        · intro hc4
          simp at hc4
          have hr3 : 0 ≤ inv p ((t : Int) + 1) ∧ inv p ((t : Int) + 1) < p := ivl_range (by omega) _
          have hm := mul_le' (a := lp2 p o1 t) (b := inv p ((t : Int) + 1)) (c := 256) (d := 256) hr2.1 (by omega) hr3.1 (by omega)
          have hm0 := Int.mul_nonneg hr2.1 hr3.1
          refine wc_skip (post_thenN (wc_seq (wc_block (wc_seq ?_))))
          refine wc_region [0,1] rfl ?_
          refine Go.Sx.V rfl wu rfl rfl (mv rfl) ?_
          refine Go.Sx.V rfl wu rfl rfl (asg rfl) ?_
          refine wr_nil (post_thenN ?_)
          refine wc_region [0,1,2,3,4,5,6,7,8] rfl ?_
          refine Go.Sx.V rfl wu rfl rfl (mv rfl) ?_
          refine Go.Sx.V rfl wu rfl rfl (mv rfl) ?_
          refine Go.Sx.V rfl wu rfl rfl (addI rfl rfl) ?_
          refine Go.Sx.V rfl wu rfl rfl (mv rfl) ?_
          refine C rfl wu rfl rfl Try.call97 (bInverse p ((t : Int) + 1) _ hp ⟨by omega, by omega⟩) ?_
          rintro _ w5 hE5 rfl
          replace hE := hE.trans hE5
          refine Go.Sx.V rfl wu rfl rfl (mulI rfl rfl) ?_
          refine Go.Sx.V rfl wu rfl rfl (mv rfl) ?_
          refine Go.Sx.V rfl wu rfl rfl (remI rfl rfl) ?_
          refine Go.Sx.V rfl wu rfl rfl (asg rfl) ?_
          refine wr_nil (post_blockN (post_thenN ?_))
          refine wc_region [0,1] rfl ?_
          refine Go.Sx.V rfl wu rfl rfl (addI rfl rfl) ?_
          refine Go.Sx.V rfl wu rfl rfl (mv rfl) ?_
          refine wr_nil ?_
          exact post_loopN (t + 1) ⟨rfl, rfl, rfl, rfl, rfl, rfl, trivial⟩ ⟨by omega, hE⟩ (by omega)
        · intro hc4
          simp at hc4
          obtain rfl : t = i := by omega
          have hdk : k' / p.toNat < k' := Nat.div_lt_self (by omega) (by omega)
          have hdk2 : k' / p.toNat ≤ k' := by omega
          have hdn : n' / p.toNat ≤ n' := Nat.div_le_self _ _
          refine wc_exit (post_thenE (post_loopE (post_blockX (post_thenN ?_))))
          refine wc_draw mixed [0,1,2,3,4,5,6,7] (by kernel_rfl) ?_
          intro w6 hd6 _
          replace hE := hE.trans hd6
          refine Go.Sx.V rfl wu rfl rfl (mv rfl) ?_
          refine Go.Sx.V rfl wu rfl rfl (mv rfl) ?_
          refine Go.Sx.V rfl wu rfl rfl (quoI rfl rfl) ?_
          refine Go.Sx.V rfl wu rfl rfl (mv rfl) ?_
          refine Go.Sx.V rfl wu rfl rfl (mv rfl) ?_
          refine Go.Sx.V rfl wu rfl rfl (quoI rfl rfl) ?_
          refine Go.Sx.V rfl wu rfl rfl (asg rfl) ?_
          refine Go.Sx.V rfl wu rfl rfl (asg rfl) ?_
          refine wr_nil (post_blockN ?_)
          rw [ea2, eb2]
          refine post_loopN (n' / p.toNat, k' / p.toNat, lp2 p o1 t) ⟨rfl, rfl, rfl, rfl, trivial⟩ ⟨by show n' / p.toNat ≤ n; omega, by show k' / p.toNat ≤ k; omega, hE, hr2, ?_⟩ hdk
          show (lp2 p o1 t * ((bc (n' / p.toNat) (k' / p.toNat) : Nat) : Int)) % p = _
          have hl := loops (p := p) hp.1 hp.2 hpr o a t hc2 (by omega)
          rw [← e1] at hl
          rw [← hv, Int.mul_emod, hl, ← Int.mul_emod, Int.mul_emod o, hluc, ← Int.mul_emod, Int.mul_assoc, ← Int.natCast_mul, Nat.mul_comm]
  · intro hc
    simp at hc
    refine wc_exit (post_thenE (post_loopE (post_blockX (post_thenN (wc_seq ?_)))))
    refine wc_region [0,1] rfl ?_
    refine Go.Sx.V rfl wu rfl rfl (mv rfl) ?_
    refine Go.Sx.V rfl wu rfl rfl (asg rfl) ?_
    refine wr_nil (post_thenN (wc_ret ?_))
    refine post_ret1 rfl rfl ?_
    subst hc
    rw [bc_zero, Int.natCast_one, Int.mul_one, Int.emod_eq_of_lt ho.1 ho.2] at hv
    exact ⟨hE, by rw [hv]⟩

/-- The coefficient, as the program counts it. -/
theorem hs2_mul {P : FP} (a b t s : Nat) (F : Pol (Pol (K P))) : (inK P (((bc (t + b) b : Int) % P.p * ((bc (s + a) a : Int) % P.p)) % P.p) * (F.co (t + b)).co (s + a)).1 = (((hs2 a b F).co t).co s).1 := by
  have hp := P.hp
  rw [mod_mul2, inK_small (Int.emod_nonneg _ (by omega)) (Int.emod_lt_of_pos _ (by omega)), zK_mod, ← nm_zK, hs2_co, Nat.mul_comm]
set_option maxRecDepth 10000 in
theorem bHasse (P : FP) (g u : Value) (A : List (List Int)) (a b : Int) (na : Nat) (w : World) (hG : GFV w P g) (hu : LL w u A) (hA : RB na A) (hna : na ≤ 1048576) (hl : A.length ≤ 1048576) :
    Calls Try.prog 44 #[g, u, .int .i64 a, .int .i64 b] w (RetX w fun r w' => (¬ ((0 ≤ a ∧ a ≤ 256) ∧ 0 ≤ b ∧ b ≤ 256) ∧ r = .tuple #[.slice none 0 0, .int .i64 6]) ∨
      (((0 ≤ a ∧ a ≤ 256) ∧ 0 ≤ b ∧ b ≤ 256) ∧ ∃ d, r = .tuple #[d, .int .i64 0] ∧ LO w.heap.size w' d 22 (bcl (hs2 a.toNat b.toNat (bz P A))))) := by
  obtain ⟨rows, hs, hrl, hrr⟩ := hu.row
  refine calls4 Try.func44 rfl rfl ?_
  refine wc_seq ?_
  refine wc_region [0,1] rfl ?_
  refine Go.Sx.V rfl wu rfl rfl (asg rfl) ?_
  refine Go.Sx.V rfl wu rfl rfl (asg rfl) ?_
  refine wr_nil (post_thenN (wc_seq (wc_seq ?_)))
  refine wc_region [0,1,2,3,4,5,6,7,8,9,10,11,12,13] rfl ?_
  refine Go.Sx.V rfl wu rfl rfl (mv rfl) ?_
  refine Go.Sx.V rfl wu rfl rfl (lssI rfl rfl) ?_
  refine Go.Sx.V rfl wu rfl rfl (mv rfl) ?_
  refine OR (π1 := [3,4,5]) (π2 := [6,7,8,9,10,11,12,13]) (tc := 18) (tp := 21) rfl rfl rfl (by
      intro _
      refine SK rfl rfl rfl rfl rfl ?_
      refine SK rfl rfl rfl rfl rfl ?_
      refine Go.Sx.V rfl wu rfl rfl (pk rfl rfl) ?_
      exact join rfl) (by
      intro hg
      simp at hg
      refine Go.Sx.V rfl (wg rfl rfl) rfl rfl (mv rfl) ?_
      refine Go.Sx.V rfl (wg rfl rfl) rfl rfl (gtrI rfl rfl) ?_
      refine Go.Sx.V rfl wu rfl rfl (pk rfl rfl) ?_
      exact join rfl) ?_
  refine Go.Sx.V rfl wu rfl rfl (mv rfl) ?_
  refine OR (π1 := [7,8,9]) (π2 := [10,11,12,13]) (tc := 22) (tp := 25) rfl rfl rfl (by
      intro _
      refine SK rfl rfl rfl rfl rfl ?_
      refine SK rfl rfl rfl rfl rfl ?_
      refine Go.Sx.V rfl wu rfl rfl (pk rfl rfl) ?_
      exact join rfl) (by
      intro hg
      simp at hg
      refine Go.Sx.V rfl (wg rfl rfl) rfl rfl (mv rfl) ?_
      refine Go.Sx.V rfl (wg rfl rfl) rfl rfl (lssI rfl rfl) ?_
      refine Go.Sx.V rfl wu rfl rfl (pk rfl rfl) ?_
      exact join rfl) ?_
  refine Go.Sx.V rfl wu rfl rfl (mv rfl) ?_
  refine OR (π1 := [11,12,13]) (π2 := []) (tc := 26) (tp := 29) rfl rfl rfl (by
      intro _
      refine SK rfl rfl rfl rfl rfl ?_
      refine SK rfl rfl rfl rfl rfl ?_
      refine Go.Sx.V rfl wu rfl rfl (pk rfl rfl) ?_
      exact join rfl) (by
      intro hg
      simp at hg
      refine Go.Sx.V rfl (wg rfl rfl) rfl rfl (mv rfl) ?_
      refine Go.Sx.V rfl (wg rfl rfl) rfl rfl (gtrI rfl rfl) ?_
      refine Go.Sx.V rfl wu rfl rfl (pk rfl rfl) ?_
      exact join rfl) ?_
  refine wr_nil (post_thenN ?_)
  refine wc_cond rfl ?_ ?_
  · intro h
    simp at h
    refine wc_seq ?_
    refine wc_region [0,1] rfl ?_
    refine Go.Sx.V rfl wu rfl rfl (asg rfl) ?_
    refine Go.Sx.V rfl wu rfl rfl (asg rfl) ?_
    refine wr_nil (post_thenN (wc_ret (post_thenR ?_)))
    refine post_ret2 rfl rfl rfl ?_
    exact ⟨Ext.refl _, .inl ⟨by omega, rfl⟩⟩
  · intro h
    simp at h
    have hab : (0 ≤ a ∧ a ≤ 256) ∧ 0 ≤ b ∧ b ≤ 256 := by omega
    obtain ⟨a, rfl⟩ : ∃ n : Nat, a = n := ⟨a.toNat, by omega⟩
    obtain ⟨b, rfl⟩ : ∃ n : Nat, b = n := ⟨b.toNat, by omega⟩
    clear h
    rw [Int.toNat_natCast, Int.toNat_natCast]
    obtain ⟨n, hn⟩ : ∃ n, n = A.length - b := ⟨_, rfl⟩
    obtain ⟨F, hF⟩ : ∃ F, F = hs2 a b (bz P A) := ⟨_, rfl⟩
    have hyb : YB n F := by rw [hF, hn]; exact (hs2_bounds a b (YB.bz (P := P) A) (hA.xb (P := P))).1
    rw [← hF]
    refine wc_skip (post_thenN (wc_seq ?_))
    refine wc_region [0,1,2,3] rfl ?_
    refine Go.Sx.V rfl wu rfl rfl (mv rfl) ?_
    refine C rfl wu rfl rfl Try.call74 (gField P g _ hG) ?_
    rintro _ w1 hE1 ⟨mo, md, rfl, hfv⟩
    refine Go.Sx.V rfl wu rfl rfl (fld rfl (fvF _ _ _)) ?_
    refine Go.Sx.V rfl wu rfl rfl (asg rfl) ?_
    refine wr_nil (post_thenN (wc_seq ?_))
    have hp2 := P.hp
    have hp := hfv.p
    have hpr := prime_of hG.nzd
    refine wc_region [0,1,2,3,4,5,6] rfl ?_
    refine Go.Sx.V rfl wu rfl rfl (mv rfl) ?_
    refine Go.Sx.V rfl wu rfl rfl (lenS rfl ty26 (hs.ext hE1)) ?_
    refine Go.Sx.V rfl wu rfl rfl (mv rfl) ?_
    refine Go.Sx.V rfl wu rfl rfl (subI rfl rfl) ?_
    refine Go.Sx.V rfl wu rfl rfl (maxI rfl rfl) ?_
    rw [hrl, show max 0 ((A.length : Int) - b) = ((n : Nat) : Int) by omega]
    refine MKL (n := n) rfl wu rfl rfl ty26 ?_
    intro out w2 hE ho
    refine Go.Sx.V rfl wu rfl rfl (asg rfl) ?_
    refine wr_nil (post_thenN (wc_seq (wc_seq ?_)))
    replace hE := hE1.trans hE
    obtain ⟨orows, hos, hol, hx⟩ := ho.ll.row
    clear hx
    rw [tab_length] at hol
    refine wc_region [0,1,2] rfl ?_
    refine Go.Sx.V rfl wu rfl rfl (mv rfl) ?_
    refine Go.Sx.V rfl wu rfl rfl (lenS rfl ty26 hos) ?_
    refine Go.Sx.V rfl wu rfl rfl (mv rfl) ?_
    refine wr_nil (post_thenN (wc_block ?_))
    rw [hol]
    rw [← updB_zero n (fun t => cl (F.co t)) (fun _ => [])] at ho
    replace ho := LO.mono ho hE1.size
    refine wc_loop (fun j : Nat => [(0, g), (1, u), (2, .int .i64 a), (3, .int .i64 b), (10, .int .i64 P.p), (11, out), (40, .int .i64 n), (41, .int .i64 j)])
      (fun j w' => j ≤ n ∧ Ext w w' ∧ LO w.heap.size w' out 22 (updB n (fun t => cl (F.co t)) (fun _ => []) j)) (fun j => n - j) 0 ⟨rfl, rfl, rfl, rfl, rfl, rfl, rfl, rfl, trivial⟩ ⟨by omega, hE, ho⟩ ?_
    clear hE ho hos hol hE1 hfv
    clear orows
    rintro j w4 ⟨j1, hE, ho⟩
    try dsimp only
    refine wc_seq ?_
    refine wc_region [0] rfl ?_
    refine Go.Sx.V rfl wu rfl rfl (lssI rfl rfl) ?_
    refine wr_nil (post_thenN (wc_seq ?_))
    refine wc_cond rfl ?_ ?_
    · intro hc
      simp at hc
      obtain ⟨r, hr, hri⟩ := hrr (j + b) (by omega)
      have hr' : rows[((j : Int) + b).toNat]? = some r := by rw [show ((j : Int) + b).toNat = j + b by omega]; exact hr
      obtain ⟨z, hz⟩ : ∃ z, z = A.getD (j + b) [] := ⟨_, rfl⟩
      have hzl : z.length ≤ na := by rw [hz]; exact hA _
      rw [← hz] at hri
      have hzc : ∀ s, inK P (z.getD s 0) = ((bz P A).co (j + b)).co s := fun s => by rw [co_bz, ← hz]; rfl
      obtain ⟨m, hm⟩ : ∃ m, m = z.length - a := ⟨_, rfl⟩
      have q1 := Int.emod_nonneg ((bc (j + b) b : Nat) : Int) (b := P.p) (by omega)
      have q2 := Int.emod_lt_of_pos ((bc (j + b) b : Nat) : Int) (b := P.p) (by omega)
      refine wc_skip (post_thenN (wc_seq (wc_block (wc_seq ?_))))
      refine wc_region [0,1] rfl ?_
      refine Go.Sx.V rfl wu rfl rfl (mv rfl) ?_
      refine Go.Sx.V rfl wu rfl rfl (asg rfl) ?_
      refine wr_nil (post_thenN (wc_seq ?_))
      refine wc_region [0,1,2,3,4,5,6] rfl ?_
      refine Go.Sx.V rfl wu rfl rfl (mv rfl) ?_
      refine Go.Sx.V rfl wu rfl rfl (mv rfl) ?_
      refine Go.Sx.V rfl wu rfl rfl (addI rfl rfl) ?_
      refine Go.Sx.V rfl wu rfl rfl (mv rfl) ?_
      refine Go.Sx.V rfl wu rfl rfl (mv rfl) ?_
      rw [show ((j : Int) + b) = ((j + b : Nat) : Int) by omega]
      refine C rfl wu rfl rfl Try.call75 (bChoose P.p (j + b) b _ ⟨hp2, hp⟩ hpr (by omega) (by omega)) ?_
      rintro _ w5 hE5 rfl
      replace ho := ho.ext hE5
      replace hE := hE.trans hE5
      refine Go.Sx.V rfl wu rfl rfl (asg rfl) ?_
      refine wr_nil (post_thenN (wc_seq ?_))
      have hsi := hs.ext hE
      replace hri := hri.ext hE
      refine wc_region [0,1,2,3,4,5,6,7,8,9,10,11] rfl ?_
      refine Go.Sx.V rfl wu rfl rfl (mv rfl) ?_
      refine Go.Sx.V rfl wu rfl rfl (mv rfl) ?_
      refine Go.Sx.V rfl wu rfl rfl (mv rfl) ?_
      refine Go.Sx.V rfl wu rfl rfl (addI rfl rfl) ?_
      refine Go.Sx.V rfl wu rfl rfl (iad rfl rfl ty26 hsi (by omega) (by omega)) ?_
      refine Go.Sx.V rfl wu rfl rfl (ldE rfl na22 hsi hr') ?_
      refine Go.Sx.V rfl wu rfl rfl (lenI rfl ty22 hri) ?_
      refine Go.Sx.V rfl wu rfl rfl (mv rfl) ?_
      refine Go.Sx.V rfl wu rfl rfl (subI rfl rfl) ?_
      refine Go.Sx.V rfl wu rfl rfl (maxI rfl rfl) ?_
      rw [show max 0 ((z.length : Int) - a) = ((m : Nat) : Int) by omega]
      refine MKI (n := m) rfl wu rfl rfl ty22 ?_
      intro c w6 hE6 hc6 hci6 hcb6
      refine Go.Sx.V rfl wu rfl rfl (asg rfl) ?_
      refine wr_nil (post_thenN (wc_seq (wc_seq ?_)))
      refine wc_region [0,1,2] rfl ?_
      refine Go.Sx.V rfl wu rfl rfl (mv rfl) ?_
      refine Go.Sx.V rfl wu rfl rfl (lenI rfl ty22 hci6) ?_
      refine Go.Sx.V rfl wu rfl rfl (mv rfl) ?_
      refine wr_nil (post_thenN (wc_block ?_))
      rw [tab_length]
      rw [← upd_zero' m (fun t => ((F.co j).co t).1) (fun _ => 0)] at hc6
      clear hci6
      have hE4 := Ext.refl w6
      refine wc_loop (fun s : Nat => [(0, g), (1, u), (2, .int .i64 a), (3, .int .i64 b), (10, .int .i64 P.p), (11, out), (12, .int .i64 j), (13, .int .i64 ((bc (j + b) b : Int) % P.p)), (14, c), (40, .int .i64 n), (41, .int .i64 j), (62, .int .i64 m), (63, .int .i64 s)])
        (fun s w' => s ≤ m ∧ Ext w w' ∧ Ext w5 w' ∧ OwnI w5.heap.size w' c 3 (upd m (fun t => ((F.co j).co t).1) (fun _ => 0) s)) (fun s => m - s) 0 ⟨rfl, rfl, rfl, rfl, rfl, rfl, rfl, rfl, rfl, rfl, rfl, rfl, rfl, trivial⟩ ⟨by omega, hE.trans hE6, hE6, hc6⟩ ?_
      have hB5 := hE5.size
      have hBw := hE.size
      have hri0 := hri
      clear hE4 hE6 hc6 hsi
      rintro s w7 ⟨s1, hE, hE5', hco⟩
      have hsi := hs.ext hE
      have hri := hri0.ext hE5'
      have hupl := upd_length m (fun t => ((F.co j).co t).1) (fun _ => 0) s
      try dsimp only
      refine wc_seq ?_
      refine wc_region [0] rfl ?_
      refine Go.Sx.V rfl wu rfl rfl (lssI rfl rfl) ?_
      refine wr_nil (post_thenN (wc_seq ?_))
      refine wc_cond rfl ?_ ?_
      · intro hc2
        simp at hc2
        have q3 := Int.emod_nonneg ((bc (s + a) a : Nat) : Int) (b := P.p) (by omega)
        have q4 := Int.emod_lt_of_pos ((bc (s + a) a : Nat) : Int) (b := P.p) (by omega)
        have mm := mul_le' (a := ((bc (j + b) b : Nat) : Int) % P.p) (b := ((bc (s + a) a : Nat) : Int) % P.p) (c := 256) (d := 256) q1 (by omega) q3 (by omega)
        have mm0 := Int.mul_nonneg q1 q3
        have hval := hs2_mul (P := P) a b j s (bz P A)
        rw [← hF, ← hzc (s + a)] at hval
        have hgz : gi z ((s : Int) + a) = z.getD (s + a) 0 := by rw [gi, show ((s : Int) + a).toNat = s + a by omega]
        refine wc_skip (post_thenN (wc_seq (wc_block (wc_seq ?_))))
        refine wc_region [0,1] rfl ?_
        refine Go.Sx.V rfl wu rfl rfl (mv rfl) ?_
        refine Go.Sx.V rfl wu rfl rfl (asg rfl) ?_
        refine wr_nil (post_thenN ?_)
        refine wc_draw mixed [0,1,2,3,4,5,6,7,8,11,13,14,15,16,17,18,19,20,21,22,23,9,10,12,24,25,26] (by kernel_rfl) ?_
        intro w8 hd _
        replace hE := hE.trans hd
        replace hE5' := hE5'.trans hd
        replace hsi := hsi.ext hd
        replace hri := hri.ext hd
        replace hco := hco.ext hd
        refine Go.Sx.V rfl wu rfl rfl (mv rfl) ?_
        refine Go.Sx.V rfl wu rfl rfl (mv rfl) ?_
        refine Go.Sx.V rfl wu rfl rfl (mv rfl) ?_
        refine Go.Sx.V rfl wu rfl rfl (mv rfl) ?_
        refine Go.Sx.V rfl wu rfl rfl (mv rfl) ?_
        refine Go.Sx.V rfl wu rfl rfl (mv rfl) ?_
        refine Go.Sx.V rfl wu rfl rfl (addI rfl rfl) ?_
        refine Go.Sx.V rfl wu rfl rfl (mv rfl) ?_
        refine Go.Sx.V rfl wu rfl rfl (mv rfl) ?_
        refine Go.Sx.V rfl wu rfl rfl (mv rfl) ?_
        refine Go.Sx.V rfl wu rfl rfl (mv rfl) ?_
        refine Go.Sx.V rfl wu rfl rfl (mv rfl) ?_
        refine Go.Sx.V rfl wu rfl rfl (mv rfl) ?_
        refine Go.Sx.V rfl wu rfl rfl (addI rfl rfl) ?_
        refine Go.Sx.V rfl wu rfl rfl (iad rfl rfl ty26 hsi (by omega) (by omega)) ?_
        refine Go.Sx.V rfl wu rfl rfl (ldE rfl na22 hsi hr') ?_
        refine Go.Sx.V rfl wu rfl rfl (mv rfl) ?_
        refine Go.Sx.V rfl wu rfl rfl (mv rfl) ?_
        refine Go.Sx.V rfl wu rfl rfl (addI rfl rfl) ?_
        refine Go.Sx.V rfl wu rfl rfl (iadI rfl rfl ty22 hri (by omega) (by omega)) ?_
        refine Go.Sx.V rfl wu rfl rfl (ldI rfl na3 hri) ?_
        rw [show ((s : Int) + a) = ((s + a : Nat) : Int) by omega]
        refine C rfl wu rfl rfl Try.call75 (bChoose P.p (s + a) a _ ⟨hp2, hp⟩ hpr (by omega) (by omega)) ?_
        rintro _ w9 hE9 rfl
        replace hE := hE.trans hE9
        replace hE5' := hE5'.trans hE9
        replace hco := Own.ext hco hE9
        refine Go.Sx.V rfl wu rfl rfl (mulI rfl rfl) ?_
        refine Go.Sx.V rfl wu rfl rfl (remI rfl rfl) ?_
        refine C rfl wu rfl rfl Try.call72 (gMul P g _ _ _ (hG.ext hE)) ?_
        rintro _ w10 hE10 rfl
        replace hE := hE.trans hE10
        replace hE5' := hE5'.trans hE10
        replace hco := Own.ext hco hE10
        rw [show ((s + a : Nat) : Int) = (s : Int) + a by omega, hgz, hval]
        have hcoi := OwnI.ints hco
        refine Go.Sx.V rfl wu rfl rfl (iadI rfl rfl ty22 hcoi (by omega) (by omega)) ?_
        refine STI rfl wu rfl rfl sz3 (by intro h; kernel_rfl) ?_
        intro w11 hg11 hX11 ho11 hi11
        refine wr_nil (post_blockN (post_thenN ?_))
        rw [show (((F.co j).co s).1) = (fun t => ((F.co j).co t).1) ((s : Int)).toNat from rfl, upd_step (by omega)] at ho11
        refine wc_region [0,1] rfl ?_
        refine Go.Sx.V rfl wu rfl rfl (addI rfl rfl) ?_
        refine Go.Sx.V rfl wu rfl rfl (mv rfl) ?_
        refine wr_nil ?_
        exact post_loopN (s + 1) ⟨rfl, rfl, rfl, rfl, rfl, rfl, rfl, rfl, rfl, rfl, rfl, rfl, rfl, trivial⟩ ⟨by omega, hX11 _ (by omega) hE, hX11 _ (Nat.le_refl _) hE5', ho11⟩ (by omega)
      · intro hc2
        simp at hc2
        rw [upd_last m _ _ (by omega)] at hco
        have hcoi := OwnI.ints hco
        have ho7 := ho.ext hE5'
        obtain ⟨orows, hos, hol, _⟩ := ho7.ll.row
        have hul := updB_length n (fun t => cl (F.co t)) (fun _ => []) j
        have hpzc : pz P (tab m fun t => ((F.co j).co t).1) = F.co j := pz_tab fun t ht => by
          rw [hF, hs2_co, co_bz, ← hz, co_pz_over (by omega), nm_zero']
        refine wc_exit (post_thenE (post_loopE (post_blockX (post_thenN ?_))))
        refine wc_region [0,1,2,3,4,5,6] rfl ?_
        refine Go.Sx.V rfl wu rfl rfl (mv rfl) ?_
        refine Go.Sx.V rfl wu rfl rfl (mv rfl) ?_
        refine Go.Sx.V rfl wu rfl rfl (mv rfl) ?_
        refine Go.Sx.V rfl wu rfl rfl (mv rfl) ?_
        refine C rfl wu rfl rfl Try.call56 (pCanon P g c _ _ (hG.ext hE) hcoi (by rw [tab_length]; omega)) ?_
        intro z2 w8 hE8 hz2
        rw [hpzc] at hz2
        have hne := row_newI ho7 hz2 (Nat.le_refl _)
        replace ho7 := ho7.ext hE8
        replace hE := hE.trans hE8
        refine Go.Sx.V rfl wu rfl rfl (iad rfl rfl ty26 hos (by omega) (by omega)) ?_
        refine STL rfl wu rfl rfl sz22 (by intro h; cases h) (OwnI.ints hz2) (hne) ?_
        intro w9 hg9 hX9 ho9
        refine wr_nil (post_blockN (post_thenN ?_))
        rw [updB_step (f := fun t => cl (F.co t))] at ho9
        refine wc_region [0,1] rfl ?_
        refine Go.Sx.V rfl wu rfl rfl (addI rfl rfl) ?_
        refine Go.Sx.V rfl wu rfl rfl (mv rfl) ?_
        refine wr_nil ?_
        exact post_loopN (j + 1) ⟨rfl, rfl, rfl, rfl, rfl, rfl, rfl, rfl, trivial⟩ ⟨by omega, hX9 _ (Nat.le_refl _) hE, ho9⟩ (by omega)
    · intro hc
      simp at hc
      refine wc_exit (post_thenE (post_loopE (post_blockX (post_thenN (wc_seq ?_)))))
      rw [show j = n by omega, updB_last] at ho
      refine wc_region [0,1,2,3] rfl ?_
      refine Go.Sx.V rfl wu rfl rfl (mv rfl) ?_
      refine C rfl wu rfl rfl Try.call57 (bTrim out _ _ ho.ll) ?_
      rintro _ w5 hE5 rfl
      replace ho := ho.ext hE5
      refine Go.Sx.V rfl wu rfl rfl (asg rfl) ?_
      refine Go.Sx.V rfl wu rfl rfl (asg rfl) ?_
      refine wr_nil (post_thenN (wc_ret ?_))
      refine post_ret2 rfl rfl rfl ?_
      have := cutB ho
      rw [bcl_tab hyb] at this ⊢
      exact ⟨hE.trans hE5, .inr ⟨hab, _, rfl, this⟩⟩
end Go.Proofs.Ytjpcgjllmpdmhaa
