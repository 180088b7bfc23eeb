/-
  Small functions of number theory, by contract: wheel, least, in, Factor (for numbers up to 256).
-/
import Derived.Test.YtmookiiehfdloaaNumPlain
import Derived.Test.YtmookiiehfdloaaSxElem
import Derived.Test.YtmookiiehfdloaaSxScope
import Derived.Test.YtmookiiehfdloaaTypes
import Derived.Test.YtmookiiehfdloaaSxSlice
namespace Go.Proofs.Ytmookiiehfdloaa
open Go Go.Sx Go.Pl Go.RowKit Go.Nm Go.Fd
theorem infoInt : Try.prog.info? 3 = some Try.t3 := by kernel_rfl
theorem szI1 : ∀ w, (sizeOf 3).run Try.prog w = .ok 1 w := fun w => by simp [sizeOf, typeInfo, infoInt]; rfl
theorem cells_i1 (k : IntKind) (n : Int) : (Value.int k n).cells = #[.int k n] := rfl
theorem info87 : Try.prog.info? 87 = some Try.t87 := by kernel_rfl
theorem zv87 : ZV Try.prog 87 [.int .i64 0, .int .i64 0] := fun w => ⟨_, by simp [zeroValue, typeInfo, info87]; rfl, rfl⟩
theorem sv87 : ∀ w, (sizeOf 87).run Try.prog w = .ok 2 w := fun w => by simp [sizeOf, typeInfo, info87]; rfl
theorem ag87 : AG Try.prog 87 2 := ⟨fun w => by simp [isAgg, run_underlying Try.underlying87], sv87⟩
theorem fa87_0 : FA Try.prog 87 0 0 := fun a w => by
  simp [Instr.fieldAt, run_underlying Try.underlying87, Instr.sureAddr, fieldPlace]
theorem fa87_1 : FA Try.prog 87 1 1 := fun a w => by
  simp [Instr.fieldAt, run_underlying Try.underlying87, Instr.sureAddr, fieldPlace]
theorem bd87 (a : Int) : ∀ w, (Instr.build 87 #[(0, .int .i64 a)]).run Try.prog w = .ok (.agg #[.int .i64 a, .int .i64 0]) w := fun w => by
  obtain ⟨zv, h1, h2⟩ := zv87 w
  simp [Instr.build, h1, h2, run_underlying Try.underlying87, szI1, Instr.fill, cells_i1]
theorem ty83 : SlT Try.prog 83 87 (.agg #[.int .i64 0, .int .i64 0]) 2 16 := ⟨by kernel_rfl, by kernel_rfl⟩
theorem infoW : Try.prog.info? 94 = some Try.t94 := by kernel_rfl
theorem zv94 : ZV Try.prog 94 [.int .i64 0, .int .i64 0, .int .i64 0, .int .i64 0, .int .i64 0, .int .i64 0, .int .i64 0, .int .i64 0] := fun w => ⟨_, by simp [zeroValue, typeInfo, infoW]; rfl, rfl⟩
theorem sv94 : ∀ w, (sizeOf 94).run Try.prog w = .ok 8 w := fun w => by simp [sizeOf, typeInfo, infoW]; rfl
theorem ag94 : AG Try.prog 94 8 := ⟨fun w => by simp [isAgg, run_underlying Try.underlying94], sv94⟩
def whl : List Value := [.int .i64 1, .int .i64 7, .int .i64 11, .int .i64 13, .int .i64 17, .int .i64 19, .int .i64 23, .int .i64 29]
theorem bd94 : ∀ w, (Instr.build 94 #[(0, .int .i64 1), (1, .int .i64 7), (2, .int .i64 11), (3, .int .i64 13), (4, .int .i64 17), (5, .int .i64 19), (6, .int .i64 23), (7, .int .i64 29)]).run Try.prog w = .ok (.agg whl.toArray) w := fun w => by
  obtain ⟨zv, h1, h2⟩ := zv94 w
  simp [Instr.build, h1, h2, run_underlying Try.underlying94, szI1, Instr.fill, cells_i1, whl]

theorem mul_le17 {d : Int} (h0 : 0 ≤ d) (h1 : d ≤ 17) : 0 ≤ d * d ∧ d * d ≤ 17 * 17 := ⟨Int.mul_nonneg h0 h0, Int.mul_le_mul h1 h1 h0 (by omega)⟩
theorem nWheel (w : World) : Calls Try.prog 73 #[] w (RetX w fun v _ => v = .agg whl.toArray) := by
  refine calls0 Try.func73 rfl ?_
  refine wc_seq ?_
  refine wc_region [0] rfl ?_
  refine AL rfl wu rfl zv94 ?_
  intro b w1 hE1 hB hb
  refine wr_nil (post_thenN (wc_seq ?_))
  refine wc_region [0,1] rfl ?_
  refine Go.Sx.V rfl wu rfl rfl (bld (us := whl) (r := whl) rfl bd94) ?_
  refine STB (vs := [.int .i64 1, .int .i64 7, .int .i64 11, .int .i64 13, .int .i64 17, .int .i64 19, .int .i64 23, .int .i64 29]) (cs' := [.int .i64 1, .int .i64 7, .int .i64 11, .int .i64 13, .int .i64 17, .int .i64 19, .int .i64 23, .int .i64 29]) rfl wu rfl rfl rfl sv94 (by intro h; cases h) (by assumption) (by first | (simp [Value.oneCell']; done) | (intro v hv; simp only [List.mem_cons, List.not_mem_nil, or_false] at hv; rcases hv with rfl | rfl | rfl <;> first | rfl | assumption) | (intro v hv; simp only [List.mem_cons, List.not_mem_nil, or_false] at hv; rcases hv with rfl | rfl <;> first | rfl | assumption)) rfl rfl rfl ?_
  intro w2 hg hX hB2
  refine wr_nil (post_thenN (wc_ret ?_))
  refine post_retC1 rfl rfl ag94 hB2 rfl ?_
  exact ⟨hX _ hb hE1, rfl⟩

theorem nIn (n lo : Int) (w : World) : Calls Try.prog 69 #[.int .i64 n, .int .i64 lo] w (RetX w fun v _ => v = .bool (decide (lo ≤ n) && decide (n ≤ 2147483647))) := by
  refine calls2 Try.func69 rfl rfl ?_
  refine wc_seq ?_
  refine wc_region [0] rfl ?_
  refine Go.Sx.V rfl wu rfl rfl (asg rfl) ?_
  refine wr_nil (post_thenN (wc_seq ?_))
  refine wc_region [0,1,2,3,4,5,6,7] rfl ?_
  refine Go.Sx.V rfl wu rfl rfl (mv rfl) ?_
  refine Go.Sx.V rfl wu rfl rfl (mv rfl) ?_
  refine Go.Sx.V rfl wu rfl rfl (geqI rfl rfl) ?_
  refine Go.Sx.V rfl wu rfl rfl (mv rfl) ?_
  refine AND (π1 := [4,5,6]) (π2 := [7]) (tc := 8) (tp := 11) rfl rfl rfl (by
      intro hg
      simp at hg
      refine Go.Sx.V rfl (wg rfl rfl) rfl rfl (mv rfl) ?_
      refine Go.Sx.V rfl (wg rfl rfl) rfl rfl (leqI rfl rfl) ?_
      refine Go.Sx.V rfl wu rfl rfl (pk rfl rfl) ?_
      exact join rfl) (by
      intro _
      refine SK rfl rfl rfl rfl rfl ?_
      refine SK rfl rfl rfl rfl rfl ?_
      refine Go.Sx.V rfl wu rfl rfl (pk rfl rfl) ?_
      exact join rfl) ?_
  refine Go.Sx.V rfl wu rfl rfl (asg rfl) ?_
  refine wr_nil (post_thenN (wc_ret ?_))
  refine post_ret1 rfl rfl ?_
  exact ⟨Ext.refl _, rfl⟩

set_option maxRecDepth 10000 in
theorem nLeast (n : Int) (w : World) (hn : 2 ≤ n ∧ n ≤ 256) : Calls Try.prog 70 #[.int .i64 n] w (RetX w fun v _ => ∃ d, v = .int .i64 d ∧ Least n d) := by
  refine calls1 Try.func70 rfl rfl ?_
  refine wc_seq ?_
  refine wc_region [0] rfl ?_
  refine Go.Sx.V rfl wu rfl rfl (asg rfl) ?_
  refine wr_nil (post_thenN (wc_scope (wc_seq (wc_seq ?_))))
  refine wc_region [0,1,2] rfl ?_
  refine BSI (zs := [2, 3, 5]) rfl wu rfl rfl rfl rfl ty22 ?_
  intro c w1 hE _ hc _
  refine Go.Sx.V rfl wu rfl rfl (lenI rfl ty22) ?_
  refine Go.Sx.V rfl wu rfl rfl (mv rfl) ?_
  refine wr_nil (post_thenN (wc_block ?_))
  refine wc_loop (fun i : Int => [(0, .int .i64 n), (10, c), (11, .int .i64 3), (12, .int .i64 i)])
    (fun i w' => 0 ≤ i ∧ i ≤ 3 ∧ Ext w w' ∧ Ext w1 w' ∧ (1 ≤ i → n % 2 ≠ 0) ∧ (2 ≤ i → n % 3 ≠ 0) ∧ (3 ≤ i → n % 5 ≠ 0)) (fun i => (3 - i).toNat) 0 ⟨rfl, rfl, rfl, rfl, trivial⟩ ⟨by omega, by omega, hE, Ext.refl _, by omega, by omega, by omega⟩ ?_
  clear hE
  rintro i w2 ⟨i0, i1, hE, hE1, a2, a3, a5⟩
  have hci := hc.ext hE1
  have hcl : (([2, 3, 5] : List Int).length : Int) = 3 := rfl
  try dsimp only
  refine wc_seq ?_
  refine wc_region [0] rfl ?_
  refine Go.Sx.V rfl wu rfl rfl (lssI rfl rfl) ?_
  refine wr_nil (post_thenN (wc_seq ?_))
  refine wc_cond rfl ?_ ?_
  · intro hi
    simp at hi
    have hd : (i = 0 ∧ gi [2, 3, 5] i = 2) ∨ (i = 1 ∧ gi [2, 3, 5] i = 3) ∨ (i = 2 ∧ gi [2, 3, 5] i = 5) := by
      have : i = 0 ∨ i = 1 ∨ i = 2 := by omega
      rcases this with rfl | rfl | rfl
      · exact .inl ⟨rfl, rfl⟩
      · exact .inr (.inl ⟨rfl, rfl⟩)
      · exact .inr (.inr ⟨rfl, rfl⟩)
    refine wc_skip (post_thenN (wc_seq (wc_block (wc_seq ?_))))
    refine wc_region [0,1,2] rfl ?_
    refine Go.Sx.V rfl wu rfl rfl (iadI rfl rfl ty22) ?_
    refine Go.Sx.V rfl wu rfl rfl (ldI rfl na3) ?_
    refine Go.Sx.V rfl wu rfl rfl (asg rfl) ?_
    refine wr_nil (post_thenN (wc_seq ?_))
    generalize gi [2, 3, 5] i = d at hd ⊢
    refine wc_region [0,1,2,3] rfl ?_
    refine Go.Sx.V rfl wu rfl rfl (mv rfl) ?_
    refine Go.Sx.V rfl wu rfl rfl (mv rfl) ?_
    refine Go.Sx.V rfl wu rfl rfl (remI rfl rfl) ?_
    refine Go.Sx.V rfl wu rfl rfl (eqlI rfl rfl) ?_
    refine wr_nil (post_thenN ?_)
    refine wc_cond rfl ?_ ?_
    · intro hm
      simp at hm
      refine wc_seq ?_
      refine wc_region [0,1] rfl ?_
      refine Go.Sx.V rfl wu rfl rfl (mv rfl) ?_
      refine Go.Sx.V rfl wu rfl rfl (asg rfl) ?_
      refine wr_nil (post_thenN (wc_ret (post_blockR (post_thenR (post_loopR (post_blockR (post_thenR (post_scopeR ?_))))))))
      refine post_ret1 rfl rfl ?_
      refine ⟨hE, d, rfl, by omega, hm, fun e e0 e1 => ?_⟩
      rcases hd with ⟨rfl, rfl⟩ | ⟨rfl, rfl⟩ | ⟨rfl, rfl⟩
      · omega
      · have : e = 2 := by omega
        subst this
        exact a2 (by omega)
      · have h2 := a2 (by omega)
        have h3 := a3 (by omega)
        have : e = 2 ∨ e = 3 ∨ e = 4 := by omega
        rcases this with rfl | rfl | rfl <;> omega
    · intro hm
      simp at hm
      refine wc_skip (post_blockN (post_thenN ?_))
      refine wc_region [0,1] rfl ?_
      refine Go.Sx.V rfl wu rfl rfl (addI rfl rfl) ?_
      refine Go.Sx.V rfl wu rfl rfl (mv rfl) ?_
      refine wr_nil ?_
      refine post_loopN (i + 1) ⟨rfl, rfl, rfl, rfl, trivial⟩ ⟨by omega, by omega, hE, hE1, ?_⟩ (by omega)
      rcases hd with ⟨rfl, rfl⟩ | ⟨rfl, rfl⟩ | ⟨rfl, rfl⟩
      · exact ⟨fun _ => hm, by omega, by omega⟩
      · exact ⟨fun _ => a2 (by omega), fun _ => hm, by omega⟩
      · exact ⟨fun _ => a2 (by omega), fun _ => a3 (by omega), fun _ => hm⟩
  · intro hi
    simp at hi
    have b7 := nd7 (a2 (by omega)) (a3 (by omega)) (a5 (by omega))
    refine wc_exit (post_thenE (post_loopE (post_blockX (post_thenN (wc_seq ?_)))))
    refine wc_region [0,1] rfl ?_
    refine Go.Sx.V rfl wu rfl rfl (mv rfl) ?_
    refine Go.Sx.V rfl wu rfl rfl (asg rfl) ?_
    refine wr_nil (post_thenN (wc_seq (wc_label (post_thenN (wc_seq (wc_seq ?_))))))
    refine wc_region [0] rfl ?_
    refine Go.Sx.V rfl wu rfl rfl (asg rfl) ?_
    refine wr_nil (post_thenN (wc_block ?_))
    refine wc_loop (fun b : Int => [(0, .int .i64 n), (5, .int .i64 n), (6, .int .i64 0)]) (fun b w' => Ext w w') (fun _ => 0) 0 ⟨rfl, rfl, rfl, trivial⟩ hE ?_
    clear hE
    rintro _ w3 hE
    try dsimp only
    refine wc_seq (wc_block (wc_seq ?_))
    refine wc_region [0,1] rfl ?_
    refine C rfl wu rfl rfl Try.call73 (nWheel _) ?_
    rintro _ w4 hE4 rfl
    refine Go.Sx.V rfl wu rfl rfl (mv rfl) ?_
    refine wr_nil (post_thenN (wc_block ?_))
    replace hE := hE.trans hE4
    refine wc_loop (fun i : Int => [(0, .int .i64 n), (5, .int .i64 n), (6, .int .i64 0), (25, .agg whl.toArray), (26, .int .i64 i)])
      (fun i w' => 0 ≤ i ∧ i ≤ 4 ∧ Ext w w' ∧ (2 ≤ i → n % 7 ≠ 0) ∧ (3 ≤ i → n % 11 ≠ 0) ∧ (4 ≤ i → n % 13 ≠ 0)) (fun i => (5 - i).toNat) 0 ⟨rfl, rfl, rfl, rfl, rfl, trivial⟩ ⟨by omega, by omega, hE, by omega, by omega, by omega⟩ ?_
    clear hE hE4
    rintro i w5 ⟨i0, i1, hE, a7, a11, a13⟩
    try dsimp only
    refine wc_seq ?_
    refine wc_region [0] rfl ?_
    refine Go.Sx.V rfl wu rfl rfl (lssI rfl rfl) ?_
    refine wr_nil (post_thenN (wc_seq ?_))
    refine wc_cond rfl ?_ ?_
    · intro hi2
      simp at hi2
      obtain ⟨d, hwd, hd⟩ : ∃ d : Int, whl[i.toNat]? = some (.int .i64 d) ∧ ((i = 0 ∧ d = 1) ∨ (i = 1 ∧ d = 7) ∨ (i = 2 ∧ d = 11) ∨ (i = 3 ∧ d = 13) ∨ (i = 4 ∧ d = 17)) := by
        have : i = 0 ∨ i = 1 ∨ i = 2 ∨ i = 3 ∨ i = 4 := by omega
        rcases this with rfl | rfl | rfl | rfl | rfl
        · exact ⟨_, rfl, .inl ⟨rfl, rfl⟩⟩
        · exact ⟨_, rfl, .inr (.inl ⟨rfl, rfl⟩)⟩
        · exact ⟨_, rfl, .inr (.inr (.inl ⟨rfl, rfl⟩))⟩
        · exact ⟨_, rfl, .inr (.inr (.inr (.inl ⟨rfl, rfl⟩)))⟩
        · exact ⟨_, rfl, .inr (.inr (.inr (.inr ⟨rfl, rfl⟩)))⟩
      refine wc_skip (post_thenN (wc_seq (wc_block (wc_seq ?_))))
      refine wc_region [0,1] rfl ?_
      refine Go.Sx.V rfl wu rfl rfl (idx rfl rfl Try.underlying94 szI1 na3 hwd) ?_
      refine Go.Sx.V rfl wu rfl rfl (asg rfl) ?_
      refine wr_nil (post_thenN (wc_seq ?_))
      refine wc_region [0,1,2,3] rfl ?_
      refine Go.Sx.V rfl wu rfl rfl (mv rfl) ?_
      refine Go.Sx.V rfl wu rfl rfl (mv rfl) ?_
      refine Go.Sx.V rfl wu rfl rfl (addI rfl rfl) ?_
      refine Go.Sx.V rfl wu rfl rfl (asg rfl) ?_
      refine wr_nil (post_thenN (wc_seq (wc_seq ?_)))
      rw [Int.zero_add]
      refine wc_region [0,1] rfl ?_
      refine Go.Sx.V rfl wu rfl rfl (mv rfl) ?_
      refine Go.Sx.V rfl wu rfl rfl (eqlI rfl rfl) ?_
      refine wr_nil (post_thenN ?_)
      refine wc_cond rfl ?_ ?_
      · intro h1
        simp at h1
        refine wc_exit (post_thenE (post_blockX (post_thenN ?_)))
        refine wc_region [0,1] rfl ?_
        refine Go.Sx.V rfl wu rfl rfl (addI rfl rfl) ?_
        refine Go.Sx.V rfl wu rfl rfl (mv rfl) ?_
        refine wr_nil ?_
        exact post_loopN (i + 1) ⟨rfl, rfl, rfl, rfl, rfl, trivial⟩ ⟨by omega, by omega, hE, by omega, by omega, by omega⟩ (by omega)
      · intro h1
        simp at h1
        have hnd : ∀ e : Int, 2 ≤ e → e < d → n % e ≠ 0 := by
          rcases hd with ⟨rfl, rfl⟩ | ⟨rfl, rfl⟩ | ⟨rfl, rfl⟩ | ⟨rfl, rfl⟩ | ⟨rfl, rfl⟩
          · omega
          · exact b7
          · exact nd11 b7 (a7 (by omega))
          · exact nd13 (nd11 b7 (a7 (by omega))) (a11 (by omega))
          · exact nd17 (nd13 (nd11 b7 (a7 (by omega))) (a11 (by omega))) (a13 (by omega))
        have hdd := mul_le17 (d := d) (by omega) (by omega)
        refine wc_skip (post_thenN (wc_seq (wc_seq ?_)))
        refine wc_region [0,1,2,3,4] rfl ?_
        refine Go.Sx.V rfl wu rfl rfl (mv rfl) ?_
        refine Go.Sx.V rfl wu rfl rfl (mv rfl) ?_
        refine Go.Sx.V rfl wu rfl rfl (mulI rfl rfl) ?_
        refine Go.Sx.V rfl wu rfl rfl (mv rfl) ?_
        refine Go.Sx.V rfl wu rfl rfl (gtrI rfl rfl) ?_
        refine wr_nil (post_thenN ?_)
        refine wc_cond rfl ?_ ?_
        · intro hs
          simp at hs
          refine wc_exit (post_thenE (post_blockE rfl (post_thenE (post_loopE (post_blockE rfl (post_blockE rfl (post_thenE (post_loopE (post_blockX (post_thenN (wc_seq ?_)))))))))))
          refine wc_region [0,1] rfl ?_
          refine Go.Sx.V rfl wu rfl rfl (mv rfl) ?_
          refine Go.Sx.V rfl wu rfl rfl (asg rfl) ?_
          refine wr_nil (post_thenN (wc_ret (post_scopeR ?_)))
          refine post_ret1 rfl rfl ?_
          exact ⟨hE, n, rfl, least_self hn.1 (by omega) hnd hs⟩
        · intro hs
          simp at hs
          have h4 : i ≠ 4 := fun e => by
            have : d = 17 := by omega
            subst this
            omega
          refine wc_skip (post_thenN (wc_seq ?_))
          refine wc_region [0,1,2,3] rfl ?_
          refine Go.Sx.V rfl wu rfl rfl (mv rfl) ?_
          refine Go.Sx.V rfl wu rfl rfl (mv rfl) ?_
          refine Go.Sx.V rfl wu rfl rfl (remI rfl rfl) ?_
          refine Go.Sx.V rfl wu rfl rfl (eqlI rfl rfl) ?_
          refine wr_nil (post_thenN ?_)
          refine wc_cond rfl ?_ ?_
          · intro hm
            simp at hm
            refine wc_seq ?_
            refine wc_region [0,1] rfl ?_
            refine Go.Sx.V rfl wu rfl rfl (mv rfl) ?_
            refine Go.Sx.V rfl wu rfl rfl (asg rfl) ?_
            refine wr_nil (post_thenN (wc_exit (post_blockE rfl (post_thenE (post_loopE (post_blockE rfl (post_blockE rfl (post_thenE (post_loopE (post_blockX (post_thenN (wc_seq ?_))))))))))))
            refine wc_region [0,1] rfl ?_
            refine Go.Sx.V rfl wu rfl rfl (mv rfl) ?_
            refine Go.Sx.V rfl wu rfl rfl (asg rfl) ?_
            refine wr_nil (post_thenN (wc_ret (post_scopeR ?_)))
            refine post_ret1 rfl rfl ?_
            exact ⟨hE, d, rfl, by omega, hm, hnd⟩
          · intro hm
            simp at hm
            refine wc_skip (post_blockN (post_thenN ?_))
            refine wc_region [0,1] rfl ?_
            refine Go.Sx.V rfl wu rfl rfl (addI rfl rfl) ?_
            refine Go.Sx.V rfl wu rfl rfl (mv rfl) ?_
            refine wr_nil ?_
            refine post_loopN (i + 1) ⟨rfl, rfl, rfl, rfl, rfl, trivial⟩ ⟨by omega, by omega, hE, ?_⟩ (by omega)
            rcases hd with ⟨rfl, rfl⟩ | ⟨rfl, rfl⟩ | ⟨rfl, rfl⟩ | ⟨rfl, rfl⟩ | ⟨rfl, rfl⟩
            · omega
            · exact ⟨fun _ => hm, by omega, by omega⟩
            · exact ⟨fun _ => a7 (by omega), fun _ => hm, by omega⟩
            · exact ⟨fun _ => a7 (by omega), fun _ => a11 (by omega), fun _ => hm⟩
            · omega
    · intro hi2
      simp at hi2
      omega
end Go.Proofs.Ytmookiiehfdloaa
