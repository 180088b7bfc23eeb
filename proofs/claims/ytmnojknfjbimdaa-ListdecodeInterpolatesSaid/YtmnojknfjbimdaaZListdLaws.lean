/-
  ListdLaws
-/
import Derived.Test.YtmnojknfjbimdaaZListd2
import Derived.Test.YtmnojknfjbimdaaZMSxa
import Derived.Test.YtmnojknfjbimdaaRows
namespace Go.Proofs.Ytmnojknfjbimdaa
open Go Go.Sx Go.Pl Go.RowKit Go.Ld Go.Fr
def two (p : Int × Int) : Value := .tuple #[.int .i64 p.1, .int .i64 p.2]
set_option maxRecDepth 10000 in
theorem lLimit (n k : Int) (w : World) :
    Calls Try.prog 9 #[.int .i64 n, .int .i64 k] w (RetX w fun v _ => v = two (lim n k)) := by
  refine calls2 Try.func9 rfl rfl ?_
  refine wc_seq ?_
  refine wc_region [0,1] rfl ?_
  refine Go.Sx.V rfl wu rfl rfl (asg rfl) ?_
  refine Go.Sx.V rfl wu rfl rfl (asg rfl) ?_
  refine wr_nil (post_thenN (wc_seq (wc_seq ?_)))
  refine wc_region [0,1,2,3,4,5,6,7,8,9,10,11,12,13,14] rfl ?_
  refine Go.Sx.V rfl wu rfl rfl (mv rfl) ?_
  refine Go.Sx.V rfl wu rfl rfl (lssI rfl rfl) ?_
  refine Go.Sx.V rfl wu rfl rfl (mv rfl) ?_
  refine OR (π1 := [3,4,5]) (π2 := [6,7,8,9,10,11,12,13,14]) (tc := 11) (tp := 14) rfl rfl rfl (by
      intro _
      refine SK rfl rfl rfl rfl rfl ?_
      refine SK rfl rfl rfl rfl rfl ?_
      refine Go.Sx.V rfl wu rfl rfl (pk rfl rfl) ?_
      exact join rfl) (by
      intro hg
      simp at hg
      refine Go.Sx.V rfl (wg rfl rfl) rfl rfl (mv rfl) ?_
      refine Go.Sx.V rfl (wg rfl rfl) rfl rfl (gtrI rfl rfl) ?_
      refine Go.Sx.V rfl wu rfl rfl (pk rfl rfl) ?_
      exact join rfl) ?_
  refine Go.Sx.V rfl wu rfl rfl (mv rfl) ?_
  refine OR (π1 := [7,8,9]) (π2 := [10,11,12,13,14]) (tc := 15) (tp := 18) rfl rfl rfl (by
      intro _
      refine SK rfl rfl rfl rfl rfl ?_
      refine SK rfl rfl rfl rfl rfl ?_
      refine Go.Sx.V rfl wu rfl rfl (pk rfl rfl) ?_
      exact join rfl) (by
      intro hg
      simp at hg
      refine Go.Sx.V rfl (wg rfl rfl) rfl rfl (mv rfl) ?_
      refine Go.Sx.V rfl (wg rfl rfl) rfl rfl (lssI rfl rfl) ?_
      refine Go.Sx.V rfl wu rfl rfl (pk rfl rfl) ?_
      exact join rfl) ?_
  refine Go.Sx.V rfl wu rfl rfl (mv rfl) ?_
  refine OR (π1 := [11,12,13,14]) (π2 := []) (tc := 19) (tp := 23) rfl rfl rfl (by
      intro _
      refine SK rfl rfl rfl rfl rfl ?_
      refine SK rfl rfl rfl rfl rfl ?_
      refine SK rfl rfl rfl rfl rfl ?_
      refine Go.Sx.V rfl wu rfl rfl (pk rfl rfl) ?_
      exact join rfl) (by
      intro hg
      simp at hg
      refine Go.Sx.V rfl (wg rfl rfl) rfl rfl (mv rfl) ?_
      refine Go.Sx.V rfl (wg rfl rfl) rfl rfl (mv rfl) ?_
      refine Go.Sx.V rfl (wg rfl rfl) rfl rfl (gtrI rfl rfl) ?_
      refine Go.Sx.V rfl wu rfl rfl (pk rfl rfl) ?_
      exact join rfl) ?_
  refine wr_nil (post_thenN ?_)
  refine wc_cond rfl ?_ ?_
  · intro h
    simp at h
    refine wc_seq ?_
    refine wc_region [0,1] rfl ?_
    refine Go.Sx.V rfl wu rfl rfl (asg rfl) ?_
    refine Go.Sx.V rfl wu rfl rfl (asg rfl) ?_
    refine wr_nil (post_thenN (wc_ret (post_thenR ?_)))
    refine post_ret2 rfl rfl rfl ?_
    exact ⟨Ext.refl _, by rw [lim, if_pos (by omega)]; rfl⟩
  · intro h
    simp at h
    refine wc_skip (post_thenN (wc_seq (wc_seq ?_)))
    refine wc_region [0,1] rfl ?_
    refine Go.Sx.V rfl wu rfl rfl (mv rfl) ?_
    refine Go.Sx.V rfl wu rfl rfl (asg rfl) ?_
    refine wr_nil (post_thenN (wc_block ?_))
    refine wc_loop (fun t : Int => [(0, .int .i64 n), (1, .int .i64 k), (6, .int .i64 t)])
      (fun t w' => -1 ≤ t ∧ t ≤ n ∧ limF n k (n + 1).toNat = limF n k (t + 1).toNat ∧ Ext w w') (fun t => (t + 1).toNat) n ⟨rfl, rfl, rfl, trivial⟩ ⟨by omega, by omega, rfl, Ext.refl _⟩ ?_
    rintro t w1 ⟨h0, h1, hl, hE⟩
    try dsimp only
    refine wc_seq (wc_seq ?_)
    refine wc_region [0,1] rfl ?_
    refine Go.Sx.V rfl wu rfl rfl (mv rfl) ?_
    refine Go.Sx.V rfl wu rfl rfl (geqI rfl rfl) ?_
    refine wr_nil (post_thenN ?_)
    refine wc_cond rfl ?_ ?_
    · intro ht
      simp at ht
      refine wc_skip (post_thenN (wc_seq (wc_block (wc_seq ?_))))
      have hs : (t + 1).toNat = t.toNat + 1 := by omega
      have ht' : ((t.toNat : Nat) : Int) = t := by omega
      rw [hs, limF, ht'] at hl
      obtain ⟨x, y, z, hp⟩ : ∃ x y z, (par n k t).1 = [x, y, z] := by
        have := par_len n k t
        match (par n k t).1, this with
        | [x, y, z], _ => exact ⟨x, y, z, rfl⟩
      have hpv : PV (par n k t) = .tuple #[.agg [Value.int .i64 x, .int .i64 y, .int .i64 z].toArray, .int .i64 (par n k t).2] := by rw [PV, hp]; rfl
      refine wc_region [0,1,2,3,4,5,6,7,8,9] rfl ?_
      refine Go.Sx.V rfl wu rfl rfl (mv rfl) ?_
      refine Go.Sx.V rfl wu rfl rfl (mv rfl) ?_
      refine Go.Sx.V rfl wu rfl rfl (mv rfl) ?_
      refine C rfl wu rfl rfl Try.call7 (lParams n k t _) ?_
      rintro _ w2 hE2 rfl
      replace hE := hE.trans hE2
      rw [hpv]
      refine Go.Sx.V rfl wu rfl rfl (mv rfl) ?_
      refine Go.Sx.V rfl wu rfl rfl (ext rfl rfl) ?_
      refine Go.Sx.V rfl wu rfl rfl (ext rfl rfl) ?_
      refine AL rfl wu rfl zv24 ?_
      intro b w3 hE3 hB hb
      have hsz := hE.size
      replace hE := hE.trans hE3
      refine STB (vs := [.int .i64 x, .int .i64 y, .int .i64 z]) (cs' := [.int .i64 x, .int .i64 y, .int .i64 z]) rfl wu rfl rfl rfl sv24 (by intro h; cases h) (by assumption) (by first | (simp [Value.oneCell']; done) | (intro v hv; simp only [List.mem_cons, List.not_mem_nil, or_false] at hv; rcases hv with rfl | rfl | rfl | rfl | rfl <;> first | rfl | assumption) | (intro v hv; simp only [List.mem_cons, List.not_mem_nil, or_false] at hv; rcases hv with rfl | rfl | rfl <;> first | rfl | assumption) | (intro v hv; simp only [List.mem_cons, List.not_mem_nil, or_false] at hv; rcases hv with rfl | rfl <;> first | rfl | assumption)) rfl rfl rfl ?_
      intro w4 hg hX hB
      replace hE := hX _ (by omega) hE
      refine Go.Sx.V rfl wu rfl rfl (asg rfl) ?_
      refine wr_nil (post_thenN (wc_seq ?_))
      refine wc_region [0,1] rfl ?_
      refine Go.Sx.V rfl wu rfl rfl (mv rfl) ?_
      refine Go.Sx.V rfl wu rfl rfl (eqlI rfl rfl) ?_
      refine wr_nil (post_thenN ?_)
      refine wc_cond rfl ?_ ?_
      · intro he
        simp at he
        refine wc_seq ?_
        refine wc_region [0,1,2] rfl ?_
        refine Go.Sx.V rfl wu rfl rfl (mv rfl) ?_
        refine Go.Sx.V rfl wu rfl rfl (asg rfl) ?_
        refine Go.Sx.V rfl wu rfl rfl (asg rfl) ?_
        refine wr_nil (post_thenN (wc_ret (post_blockR (post_thenR (post_loopR (post_blockR (post_thenR ?_)))))))
        refine post_ret2 rfl rfl rfl ?_
        refine ⟨hE, ?_⟩
        rw [if_pos he] at hl
        rw [lim, if_neg (by omega), hl, if_neg (by omega)]
        rfl
      · intro he
        simp at he
        refine wc_skip (post_blockN (post_thenN ?_))
        rw [if_neg he] at hl
        refine wc_region [0,1,2] rfl ?_
        refine Go.Sx.V rfl wu rfl rfl (mv rfl) ?_
        refine Go.Sx.V rfl wu rfl rfl (subI rfl rfl) ?_
        refine Go.Sx.V rfl wu rfl rfl (asg rfl) ?_
        refine wr_nil ?_
        exact post_loopN (t - 1) ⟨rfl, rfl, rfl, trivial⟩ ⟨by omega, by omega, by rw [hl, show t - 1 + 1 = t by omega], hE⟩ (by omega)
    · intro ht
      simp at ht
      refine wc_exit (post_thenE (post_loopE (post_blockX (post_thenN (wc_seq ?_)))))
      refine wc_region [0,1] rfl ?_
      refine Go.Sx.V rfl wu rfl rfl (asg rfl) ?_
      refine Go.Sx.V rfl wu rfl rfl (asg rfl) ?_
      refine wr_nil (post_thenN (wc_ret ?_))
      refine post_ret2 rfl rfl rfl ?_
      refine ⟨hE, ?_⟩
      rw [show (t + 1).toNat = 0 by omega, limF] at hl
      rw [lim, if_neg (by omega), if_pos hl]
      rfl
set_option maxRecDepth 10000 in
theorem alive41 (w : World) : Calls Try.prog 6 #[] w (RetX w fun v _ => v = .bool true) := by
  have hE : Ext w w := Ext.refl w
  have hpv : PV (par 7 2 4) = .tuple #[.agg [Value.int .i64 3, .int .i64 8, .int .i64 8].toArray, .int .i64 0] := by rw [alive1]; rfl
  refine calls0 Try.func6 rfl ?_
  refine wc_seq ?_
  refine wc_region [0] rfl ?_
  refine Go.Sx.V rfl wu rfl rfl (asg rfl) ?_
  refine wr_nil (post_thenN (wc_seq ?_))
  refine wc_region [0,1,2,3,4,5,6] rfl ?_
  refine C rfl wu rfl rfl Try.call7 (lParams 7 2 4 _) ?_
  rintro _ w2 hE2 rfl
  replace hE := hE.trans hE2
  rw [hpv]
  refine Go.Sx.V rfl wu rfl rfl (mv rfl) ?_
  refine Go.Sx.V rfl wu rfl rfl (ext rfl rfl) ?_
  refine Go.Sx.V rfl wu rfl rfl (ext rfl rfl) ?_
  refine AL rfl wu rfl zv24 ?_
  intro b w3 hE3 hB hb
  refine STB (vs := [.int .i64 3, .int .i64 8, .int .i64 8]) (cs' := [.int .i64 3, .int .i64 8, .int .i64 8]) rfl wu rfl rfl rfl sv24 (by intro h; cases h) (by assumption) (by first | (simp [Value.oneCell']; done) | (intro v hv; simp only [List.mem_cons, List.not_mem_nil, or_false] at hv; rcases hv with rfl | rfl | rfl | rfl | rfl <;> first | rfl | assumption) | (intro v hv; simp only [List.mem_cons, List.not_mem_nil, or_false] at hv; rcases hv with rfl | rfl | rfl <;> first | rfl | assumption) | (intro v hv; simp only [List.mem_cons, List.not_mem_nil, or_false] at hv; rcases hv with rfl | rfl <;> first | rfl | assumption)) rfl rfl rfl ?_
  intro w4 hg hX hB
  refine Go.Sx.V rfl wu rfl rfl (asg rfl) ?_
  refine wr_nil (post_thenN (wc_seq ?_))
  replace hE := hX _ (by have := hE.size; omega) (hE.trans hE3)
  refine wc_region [0,1,2,3,4,5] rfl ?_
  refine C rfl wu rfl rfl Try.call9 (lLimit 7 2 _) ?_
  rintro _ w5 hE5 rfl
  replace hB := hB.ext hE5
  replace hE := hE.trans hE5
  rw [alive2]
  refine Go.Sx.V rfl wu rfl rfl (mv rfl) ?_
  refine Go.Sx.V rfl wu rfl rfl (ext rfl rfl) ?_
  refine Go.Sx.V rfl wu rfl rfl (ext rfl rfl) ?_
  refine Go.Sx.V rfl wu rfl rfl (asg rfl) ?_
  refine Go.Sx.V rfl wu rfl rfl (asg rfl) ?_
  refine wr_nil (post_thenN (wc_seq ?_))
  refine wc_region [0,1,2,3,4,5,6,7,8,9,10,11,12,13,14,15] rfl ?_
  refine Go.Sx.V rfl wu rfl rfl (mv rfl) ?_
  refine Go.Sx.V rfl wu rfl rfl (eqlI rfl rfl) ?_
  refine Go.Sx.V rfl wu rfl rfl (mv rfl) ?_
  refine KB 15 true rfl (by simp) ?_
  refine Go.Sx.V rfl (wg rfl rfl) rfl rfl (ldA rfl ag24) ?_
  refine Go.Sx.V rfl (wg rfl rfl) rfl rfl (bld (us := [.int .i64 3, .int .i64 8, .int .i64 8]) (r := [.int .i64 3, .int .i64 8, .int .i64 8]) rfl (bd24 _ _ _)) ?_
  refine Go.Sx.V rfl (wg rfl rfl) rfl rfl (eqlS (xs := [3, 8, 8]) (ys := [3, 8, 8]) rfl rfl rfl rfl eqs24 eqg24) ?_
  refine Go.Sx.V rfl wu rfl rfl (pk rfl rfl) ?_
  refine Go.Sx.V rfl wu rfl rfl (mv rfl) ?_
  refine AND (π1 := [8,9,10]) (π2 := [11,12,13,14,15]) (tc := 20) (tp := 23) rfl rfl rfl (by
      intro hg
      simp at hg
      refine Go.Sx.V rfl (wg rfl rfl) rfl rfl (mv rfl) ?_
      refine Go.Sx.V rfl (wg rfl rfl) rfl rfl (eqlI rfl rfl) ?_
      refine Go.Sx.V rfl wu rfl rfl (pk rfl rfl) ?_
      exact join rfl) (by
      intro _
      refine SK rfl rfl rfl rfl rfl ?_
      refine SK rfl rfl rfl rfl rfl ?_
      refine Go.Sx.V rfl wu rfl rfl (pk rfl rfl) ?_
      exact join rfl) ?_
  refine Go.Sx.V rfl wu rfl rfl (mv rfl) ?_
  refine AND (π1 := [12,13,14]) (π2 := [15]) (tc := 24) (tp := 27) rfl rfl rfl (by
      intro hg
      simp at hg
      refine Go.Sx.V rfl (wg rfl rfl) rfl rfl (mv rfl) ?_
      refine Go.Sx.V rfl (wg rfl rfl) rfl rfl (eqlI rfl rfl) ?_
      refine Go.Sx.V rfl wu rfl rfl (pk rfl rfl) ?_
      exact join rfl) (by
      intro _
      refine SK rfl rfl rfl rfl rfl ?_
      refine SK rfl rfl rfl rfl rfl ?_
      refine Go.Sx.V rfl wu rfl rfl (pk rfl rfl) ?_
      exact join rfl) ?_
  refine Go.Sx.V rfl wu rfl rfl (asg rfl) ?_
  refine wr_nil (post_thenN (wc_ret ?_))
  refine post_ret1 rfl rfl ?_
  exact ⟨hE, rfl⟩
set_option maxRecDepth 10000 in
theorem law_ListdecodeParams {w : World} (n : Int) (_ : Fits n) (k : Int) (_ : Fits k) (t : Int) (_ : Fits t) :
    Calls Try.prog 3 #[.int .i64 n, .int .i64 k, .int .i64 t] w (RetX w fun v _ => v = .bool true) := by
  obtain ⟨x, y, z, hp⟩ : ∃ x y z, (par n k t).1 = [x, y, z] := by
    have := par_len n k t
    match (par n k t).1, this with
    | [x, y, z], _ => exact ⟨x, y, z, rfl⟩
  have hpv : PV (par n k t) = .tuple #[.agg [Value.int .i64 x, .int .i64 y, .int .i64 z].toArray, .int .i64 (par n k t).2] := by rw [PV, hp]; rfl
  refine calls3 Try.func3 rfl rfl ?_
  refine wc_seq ?_
  refine wc_region [0] rfl ?_
  refine Go.Sx.V rfl wu rfl rfl (asg rfl) ?_
  refine wr_nil (post_thenN (wc_seq (wc_seq ?_)))
  refine wc_region [0,1] rfl ?_
  refine C rfl wu rfl rfl Try.call6 (alive41 _) ?_
  rintro _ w1 hE rfl
  refine Go.Sx.V rfl wu rfl rfl (notB rfl) ?_
  refine wr_nil (post_thenN ?_)
  refine wc_condF rfl (rfl) ?_
  refine wc_skip (post_thenN (wc_seq ?_))
  refine wc_region [0,1,2,3,4,5,6,7,8,9] rfl ?_
  refine Go.Sx.V rfl wu rfl rfl (mv rfl) ?_
  refine Go.Sx.V rfl wu rfl rfl (mv rfl) ?_
  refine Go.Sx.V rfl wu rfl rfl (mv rfl) ?_
  refine C rfl wu rfl rfl Try.call7 (lParams n k t _) ?_
  rintro _ w2 hE2 rfl
  replace hE := hE.trans hE2
  rw [hpv]
  refine Go.Sx.V rfl wu rfl rfl (mv rfl) ?_
  refine Go.Sx.V rfl wu rfl rfl (ext rfl rfl) ?_
  refine Go.Sx.V rfl wu rfl rfl (ext rfl rfl) ?_
  refine AL rfl wu rfl zv24 ?_
  intro b w3 hE3 hB hb
  refine STB (vs := [.int .i64 x, .int .i64 y, .int .i64 z]) (cs' := [.int .i64 x, .int .i64 y, .int .i64 z]) rfl wu rfl rfl rfl sv24 (by intro h; cases h) (by assumption) (by first | (simp [Value.oneCell']; done) | (intro v hv; simp only [List.mem_cons, List.not_mem_nil, or_false] at hv; rcases hv with rfl | rfl | rfl | rfl | rfl <;> first | rfl | assumption) | (intro v hv; simp only [List.mem_cons, List.not_mem_nil, or_false] at hv; rcases hv with rfl | rfl | rfl <;> first | rfl | assumption) | (intro v hv; simp only [List.mem_cons, List.not_mem_nil, or_false] at hv; rcases hv with rfl | rfl <;> first | rfl | assumption)) rfl rfl rfl ?_
  intro w4 hg hX hB
  refine Go.Sx.V rfl wu rfl rfl (asg rfl) ?_
  refine wr_nil (post_thenN (wc_seq ?_))
  replace hE := hX _ (by have := hE.size; omega) (hE.trans hE3)
  refine wc_region [0,1,2,3,4,5,6,7,8,9] rfl ?_
  refine Go.Sx.V rfl wu rfl rfl (mv rfl) ?_
  refine Go.Sx.V rfl wu rfl rfl (mv rfl) ?_
  refine Go.Sx.V rfl wu rfl rfl (mv rfl) ?_
  refine C rfl wu rfl rfl Try.call8 (rParams n k t _) ?_
  rintro _ w5 hE5 rfl
  have hlt := hB.lt
  replace hB := hB.ext hE5
  replace hE := hE.trans hE5
  rw [hpv]
  refine Go.Sx.V rfl wu rfl rfl (mv rfl) ?_
  refine Go.Sx.V rfl wu rfl rfl (ext rfl rfl) ?_
  refine Go.Sx.V rfl wu rfl rfl (ext rfl rfl) ?_
  refine AL rfl wu rfl zv24 ?_
  intro b2 w6 hE6 hB2 hb2
  replace hB := hB.ext hE6
  refine STB (vs := [.int .i64 x, .int .i64 y, .int .i64 z]) (cs' := [.int .i64 x, .int .i64 y, .int .i64 z]) rfl wu rfl rfl rfl sv24 (by intro h; cases h) (by assumption) (by first | (simp [Value.oneCell']; done) | (intro v hv; simp only [List.mem_cons, List.not_mem_nil, or_false] at hv; rcases hv with rfl | rfl | rfl | rfl | rfl <;> first | rfl | assumption) | (intro v hv; simp only [List.mem_cons, List.not_mem_nil, or_false] at hv; rcases hv with rfl | rfl | rfl <;> first | rfl | assumption) | (intro v hv; simp only [List.mem_cons, List.not_mem_nil, or_false] at hv; rcases hv with rfl | rfl <;> first | rfl | assumption)) rfl rfl rfl ?_
  intro w7 hg2 hX2 hB2
  refine Go.Sx.V rfl wu rfl rfl (asg rfl) ?_
  refine wr_nil (post_thenN (wc_seq ?_))
  replace hB := hB.grown hg2 (by intro hh; cases hh; have := hE5.size; omega)
  replace hE := hX2 _ (by have := hE.size; omega) (hE.trans hE6)
  refine wc_region [0,1,2,3,4,5,6,7,8] rfl ?_
  refine Go.Sx.V rfl wu rfl rfl (ldA rfl ag24) ?_
  refine Go.Sx.V rfl wu rfl rfl (ldA rfl ag24) ?_
  refine Go.Sx.V rfl wu rfl rfl (eqlS (xs := [x, y, z]) (ys := [x, y, z]) rfl rfl rfl rfl eqs24 eqg24) ?_
  refine Go.Sx.V rfl wu rfl rfl (mv rfl) ?_
  refine KB 30 true rfl (by simp) ?_
  refine Go.Sx.V rfl (wg rfl rfl) rfl rfl (mv rfl) ?_
  refine Go.Sx.V rfl (wg rfl rfl) rfl rfl (mv rfl) ?_
  refine Go.Sx.V rfl (wg rfl rfl) rfl rfl (eqlI rfl rfl) ?_
  refine Go.Sx.V rfl wu rfl rfl (pk rfl rfl) ?_
  refine Go.Sx.V rfl wu rfl rfl (asg rfl) ?_
  refine wr_nil (post_thenN (wc_ret ?_))
  refine post_ret1 rfl rfl ?_
  exact ⟨hE, by simp⟩
namespace FListdecodeParams
open Go.ChangeShapes Go.WideShapes Go.ChangeAt Go.RowKit Go.Fr
theorem own : ownKnob Try.prog.godebug = none := by kernel_rfl
theorem laidOut : laidOutB Try.prog = true := by kernel_rfl
set_option maxRecDepth 100000 in
theorem lifted (os : Os) (started : os.Started) (H : Type) (enc : TypeId × Value → H) :
    ReturnsInHanded {} Try.checked os 3 .any (Rows.listdecodeParamsSpec.pre6 enc Try.prog Try.f3 Rows.listdecodeParamsRow.domain false) (Rows.listdecodeParamsSpec.post enc Try.prog Try.f3 false true false false) := by
  refine returnsInHanded_of_change_sized (C := Try.checked) own started (by kernel_rfl) Try.func3
    (ChangeSpec.witness6 (enc := enc) (C := Try.checked) false ⟨#[], #[.int .i64 0, .int .i64 0, .int .i64 0], []⟩ 8 (by kernel_rfl) (by kernel_rfl) (by kernel_rfl) (by kernel_rfl)) ?_
  intro W base args ds gs before hval0 hW _ hsz0 _
  have hval : ∀ (j : Nat) t v, Try.f3.params[j]? = some t → args[j]? = some v → Value.okWide Try.prog W .any base t v := hval0
  have hW' := hW
  obtain ⟨p, q, hA0, hV, rfl, hfz, hnd⟩ := hW
  have hA : DataW.TrodAll enc Try.prog W 0 (fun _ => true) true Try.f3.params.toList args.toList ds p := hA0
  have hsz : (DataW.weightsEach Try.prog (Try.f3.params.toList ++ Rows.listdecodeParamsSpec.plain.varTypes Try.prog) (ds ++ gs)).all (· ≤ reachBytes) = true := hsz0
  rw [Try.params3] at hA hval hsz
  obtain ⟨v0, vs0, d0, ds0, p0, q0, hargs, rfl, rfl, h0, r0⟩ := trodAll_cons hA
  obtain ⟨v1, vs1, d1, ds1, p1, q1, rfl, rfl, rfl, h1, r1⟩ := trodAll_cons r0
  obtain ⟨v2, vs2, d2, ds2, p2, q2, rfl, rfl, rfl, h2, r2⟩ := trodAll_cons r1
  obtain ⟨rfl, rfl, rfl⟩ := trodAll_nil r2
  obtain rfl : args = #[v0, v1, v2] := by cases args; simp_all
  obtain ⟨rfl, rfl⟩ := trodVars_none hV
  have k0 := h0
  have lt0 : ∀ x ∈ p0, x.block < W.heap.size := by obtain ⟨m, hm⟩ := k0; exact DataW.trod_lt m _ _ _ hm
  have w0 : WOK Try.prog 3 d0 := wok_arg hsz (j := 0) rfl rfl
  obtain ⟨n0, rfl, b0⟩ := op_int Try.underlying3 (hval 0 3 v0 rfl rfl) h0
  have k1 := h1
  have lt1 : ∀ x ∈ p1, x.block < W.heap.size := by obtain ⟨m, hm⟩ := k1; exact DataW.trod_lt m _ _ _ hm
  have w1 : WOK Try.prog 3 d1 := wok_arg hsz (j := 1) rfl rfl
  obtain ⟨n1, rfl, b1⟩ := op_int Try.underlying3 (hval 1 3 v1 rfl rfl) h1
  have k2 := h2
  have lt2 : ∀ x ∈ p2, x.block < W.heap.size := by obtain ⟨m, hm⟩ := k2; exact DataW.trod_lt m _ _ _ hm
  have w2 : WOK Try.prog 3 d2 := wok_arg hsz (j := 2) rfl rfl
  obtain ⟨n2, rfl, b2⟩ := op_int Try.underlying3 (hval 2 3 v2 rfl rfl) h2
  refine (law_ListdecodeParams (w := W) n0 b0 n1 b1 n2 b2).mono fun e W' he => ?_
  cases e with
  | panicked c => exact he.elim
  | outgrown => exact he.elim
  | returned v =>
    obtain ⟨bel, rfl⟩ := he
    exact ⟨_, rfl, _, _, _, [], _, [], hW', trodAll_mk1 (shut_bool Try.underlying4 _), (trodAll_cons_mk (Below.trod laidOut (by kernel_rfl) (of_decide_eq_true (by kernel_rfl)) k0 bel lt0) (trodAll_cons_mk (Below.trod laidOut (by kernel_rfl) (of_decide_eq_true (by kernel_rfl)) k1 bel lt1) (trodAll_cons_mk (Below.trod laidOut (by kernel_rfl) (of_decide_eq_true (by kernel_rfl)) k2 bel lt2) trodAll_mk0))), rfl, bel.frame _, fun h => by cases h⟩
theorem over : Rows.listdecodeParamsRow.holds Try.pinned (OpenSpec.ofChange Rows.listdecodeParamsSpec) :=
  OpenClaim.holds_of_wide 3 Try.f3 rfl rfl rfl rfl rfl rfl rfl ⟨rfl, rfl, rfl, rfl, rfl⟩ rfl rfl rfl rfl rfl (by kernel_rfl) Try.func3 (by kernel_rfl)
    (of_decide_eq_true (by kernel_rfl)) (by unfold Func.isWrapper; first | (rw [if_pos (by decide +kernel)]; kernel_rfl) | (rw [if_neg (by decide +kernel)]; exact ⟨rfl, rfl⟩))
    (fun os started H enc _ => lifted os started H enc)
end FListdecodeParams
/-- The statement. -/
theorem listdecodeParams_holds : Rows.ListdecodeParamsSaid := FListdecodeParams.over
set_option maxRecDepth 10000 in
theorem law_ListdecodeLimit {w : World} (n : Int) (_ : Fits n) (k : Int) (_ : Fits k) (t : Int) (_ : Fits t) :
    Calls Try.prog 4 #[.int .i64 n, .int .i64 k, .int .i64 t] w (RetX w fun v _ => v = .bool true) := by
  obtain ⟨x, y, z, hp⟩ : ∃ x y z, (par n k t).1 = [x, y, z] := by
    have := par_len n k t
    match (par n k t).1, this with
    | [x, y, z], _ => exact ⟨x, y, z, rfl⟩
  have hpv : PV (par n k t) = .tuple #[.agg [Value.int .i64 x, .int .i64 y, .int .i64 z].toArray, .int .i64 (par n k t).2] := by rw [PV, hp]; rfl
  refine calls3 Try.func4 rfl rfl ?_
  refine wc_seq ?_
  refine wc_region [0] rfl ?_
  refine Go.Sx.V rfl wu rfl rfl (asg rfl) ?_
  refine wr_nil (post_thenN (wc_seq (wc_seq ?_)))
  refine wc_region [0,1] rfl ?_
  refine C rfl wu rfl rfl Try.call6 (alive41 _) ?_
  rintro _ w1 hE rfl
  refine Go.Sx.V rfl wu rfl rfl (notB rfl) ?_
  refine wr_nil (post_thenN ?_)
  refine wc_condF rfl (rfl) ?_
  refine wc_skip (post_thenN (wc_seq ?_))
  refine wc_region [0,1,2,3,4,5,6,7] rfl ?_
  refine Go.Sx.V rfl wu rfl rfl (mv rfl) ?_
  refine Go.Sx.V rfl wu rfl rfl (mv rfl) ?_
  refine C rfl wu rfl rfl Try.call9 (lLimit n k _) ?_
  rintro _ w2 hE2 rfl
  replace hE := hE.trans hE2
  refine Go.Sx.V rfl wu rfl rfl (mv rfl) ?_
  refine Go.Sx.V rfl wu rfl rfl (ext rfl rfl) ?_
  refine Go.Sx.V rfl wu rfl rfl (ext rfl rfl) ?_
  refine Go.Sx.V rfl wu rfl rfl (asg rfl) ?_
  refine Go.Sx.V rfl wu rfl rfl (asg rfl) ?_
  refine wr_nil (post_thenN (wc_seq (wc_seq ?_)))
  refine wc_region [0,1,2,3,4,5,6,7,8,9,10,11,12,13,14] rfl ?_
  refine Go.Sx.V rfl wu rfl rfl (mv rfl) ?_
  refine Go.Sx.V rfl wu rfl rfl (lssI rfl rfl) ?_
  refine Go.Sx.V rfl wu rfl rfl (mv rfl) ?_
  refine OR (π1 := [3,4,5]) (π2 := [6,7,8,9,10,11,12,13,14]) (tc := 21) (tp := 24) rfl rfl rfl (by
      intro _
      refine SK rfl rfl rfl rfl rfl ?_
      refine SK rfl rfl rfl rfl rfl ?_
      refine Go.Sx.V rfl wu rfl rfl (pk rfl rfl) ?_
      exact join rfl) (by
      intro hg
      simp at hg
      refine Go.Sx.V rfl (wg rfl rfl) rfl rfl (mv rfl) ?_
      refine Go.Sx.V rfl (wg rfl rfl) rfl rfl (gtrI rfl rfl) ?_
      refine Go.Sx.V rfl wu rfl rfl (pk rfl rfl) ?_
      exact join rfl) ?_
  refine Go.Sx.V rfl wu rfl rfl (mv rfl) ?_
  refine OR (π1 := [7,8,9]) (π2 := [10,11,12,13,14]) (tc := 25) (tp := 28) rfl rfl rfl (by
      intro _
      refine SK rfl rfl rfl rfl rfl ?_
      refine SK rfl rfl rfl rfl rfl ?_
      refine Go.Sx.V rfl wu rfl rfl (pk rfl rfl) ?_
      exact join rfl) (by
      intro hg
      simp at hg
      refine Go.Sx.V rfl (wg rfl rfl) rfl rfl (mv rfl) ?_
      refine Go.Sx.V rfl (wg rfl rfl) rfl rfl (lssI rfl rfl) ?_
      refine Go.Sx.V rfl wu rfl rfl (pk rfl rfl) ?_
      exact join rfl) ?_
  refine Go.Sx.V rfl wu rfl rfl (mv rfl) ?_
  refine OR (π1 := [11,12,13,14]) (π2 := []) (tc := 29) (tp := 33) rfl rfl rfl (by
      intro _
      refine SK rfl rfl rfl rfl rfl ?_
      refine SK rfl rfl rfl rfl rfl ?_
      refine SK rfl rfl rfl rfl rfl ?_
      refine Go.Sx.V rfl wu rfl rfl (pk rfl rfl) ?_
      exact join rfl) (by
      intro hg
      simp at hg
      refine Go.Sx.V rfl (wg rfl rfl) rfl rfl (mv rfl) ?_
      refine Go.Sx.V rfl (wg rfl rfl) rfl rfl (mv rfl) ?_
      refine Go.Sx.V rfl (wg rfl rfl) rfl rfl (gtrI rfl rfl) ?_
      refine Go.Sx.V rfl wu rfl rfl (pk rfl rfl) ?_
      exact join rfl) ?_
  refine wr_nil (post_thenN ?_)
  refine wc_cond rfl ?_ ?_
  · intro h
    simp at h
    have hl : lim n k = (0, 6) := by rw [lim, if_pos (by omega)]
    rw [hl]
    refine wc_seq ?_
    refine wc_region [0,1,2,3,4,5,6] rfl ?_
    refine Go.Sx.V rfl wu rfl rfl (mv rfl) ?_
    refine Go.Sx.V rfl wu rfl rfl (eqlI rfl rfl) ?_
    refine Go.Sx.V rfl wu rfl rfl (mv rfl) ?_
    refine KB 36 true rfl (by simp) ?_
    refine Go.Sx.V rfl (wg rfl rfl) rfl rfl (mv rfl) ?_
    refine Go.Sx.V rfl (wg rfl rfl) rfl rfl (eqlI rfl rfl) ?_
    refine Go.Sx.V rfl wu rfl rfl (pk rfl rfl) ?_
    refine Go.Sx.V rfl wu rfl rfl (asg rfl) ?_
    refine wr_nil (post_thenN (wc_ret (post_thenR ?_)))
    refine post_ret1 rfl rfl ?_
    exact ⟨hE, rfl⟩
  · intro h
    simp at h
    refine wc_skip (post_thenN (wc_seq (wc_seq ?_)))
    have hr : (lim n k).2 ≠ 6 := by
      rw [lim, if_neg (by omega)]
      split <;> simp
    refine wc_region [0,1,2,3,4,5,6] rfl ?_
    refine Go.Sx.V rfl wu rfl rfl (mv rfl) ?_
    refine Go.Sx.V rfl wu rfl rfl (lssI rfl rfl) ?_
    refine Go.Sx.V rfl wu rfl rfl (mv rfl) ?_
    refine OR (π1 := [3,4,5,6]) (π2 := []) (tc := 42) (tp := 46) rfl rfl rfl (by
        intro _
        refine SK rfl rfl rfl rfl rfl ?_
        refine SK rfl rfl rfl rfl rfl ?_
        refine SK rfl rfl rfl rfl rfl ?_
        refine Go.Sx.V rfl wu rfl rfl (pk rfl rfl) ?_
        exact join rfl) (by
        intro hg
        simp at hg
        refine Go.Sx.V rfl (wg rfl rfl) rfl rfl (mv rfl) ?_
        refine Go.Sx.V rfl (wg rfl rfl) rfl rfl (mv rfl) ?_
        refine Go.Sx.V rfl (wg rfl rfl) rfl rfl (gtrI rfl rfl) ?_
        refine Go.Sx.V rfl wu rfl rfl (pk rfl rfl) ?_
        exact join rfl) ?_
    refine wr_nil (post_thenN ?_)
    refine wc_cond rfl ?_ ?_
    · intro ht
      refine wc_seq ?_
      refine wc_region [0,1,2] rfl ?_
      refine Go.Sx.V rfl wu rfl rfl (mv rfl) ?_
      refine Go.Sx.V rfl wu rfl rfl (neqI rfl rfl) ?_
      refine Go.Sx.V rfl wu rfl rfl (asg rfl) ?_
      refine wr_nil (post_thenN (wc_ret (post_thenR ?_)))
      refine post_ret1 rfl rfl ?_
      exact ⟨hE, by simp [hr]⟩
    · intro ht
      simp at ht
      refine wc_skip (post_thenN (wc_seq ?_))
      have law := lim_law (n := n) (k := k) (t := t) (by omega) (by omega)
      refine wc_region [0,1,2,3,4,5,6,7,8,9] rfl ?_
      refine Go.Sx.V rfl wu rfl rfl (mv rfl) ?_
      refine Go.Sx.V rfl wu rfl rfl (mv rfl) ?_
      refine Go.Sx.V rfl wu rfl rfl (mv rfl) ?_
      refine C rfl wu rfl rfl Try.call8 (rParams n k t _) ?_
      rintro _ w5 hE5 rfl
      replace hE := hE.trans hE5
      rw [hpv]
      refine Go.Sx.V rfl wu rfl rfl (mv rfl) ?_
      refine Go.Sx.V rfl wu rfl rfl (ext rfl rfl) ?_
      refine Go.Sx.V rfl wu rfl rfl (ext rfl rfl) ?_
      refine AL rfl wu rfl zv24 ?_
      intro b w6 hE6 hB hb
      refine STB (vs := [.int .i64 x, .int .i64 y, .int .i64 z]) (cs' := [.int .i64 x, .int .i64 y, .int .i64 z]) rfl wu rfl rfl rfl sv24 (by intro h; cases h) (by assumption) (by first | (simp [Value.oneCell']; done) | (intro v hv; simp only [List.mem_cons, List.not_mem_nil, or_false] at hv; rcases hv with rfl | rfl | rfl | rfl | rfl <;> first | rfl | assumption) | (intro v hv; simp only [List.mem_cons, List.not_mem_nil, or_false] at hv; rcases hv with rfl | rfl | rfl <;> first | rfl | assumption) | (intro v hv; simp only [List.mem_cons, List.not_mem_nil, or_false] at hv; rcases hv with rfl | rfl <;> first | rfl | assumption)) rfl rfl rfl ?_
      intro w7 hg hX hB
      refine Go.Sx.V rfl wu rfl rfl (asg rfl) ?_
      refine wr_nil (post_thenN (wc_seq (wc_seq ?_)))
      replace hE := hX _ (by have := hE.size; omega) (hE.trans hE6)
      refine wc_region [0,1] rfl ?_
      refine Go.Sx.V rfl wu rfl rfl (mv rfl) ?_
      refine Go.Sx.V rfl wu rfl rfl (neqI rfl rfl) ?_
      refine wr_nil (post_thenN ?_)
      rcases law with ⟨l1, l2, l3⟩ | ⟨l1, l2, l3, l4⟩
      · skip
        refine wc_condT rfl (by simp [l1]) ?_
        refine wc_seq ?_
        refine wc_region [0,1,2,3,4,5,6,7,8,9,10] rfl ?_
        refine Go.Sx.V rfl wu rfl rfl (mv rfl) ?_
        refine Go.Sx.V rfl wu rfl rfl (eqlI rfl rfl) ?_
        refine Go.Sx.V rfl wu rfl rfl (mv rfl) ?_
        refine KB 60 true rfl (by simp [l1]) ?_
        refine Go.Sx.V rfl (wg rfl rfl) rfl rfl (mv rfl) ?_
        refine Go.Sx.V rfl (wg rfl rfl) rfl rfl (eqlI rfl rfl) ?_
        refine Go.Sx.V rfl wu rfl rfl (pk rfl rfl) ?_
        refine Go.Sx.V rfl wu rfl rfl (mv rfl) ?_
        refine KB 64 true rfl (by simp [l2]) ?_
        refine Go.Sx.V rfl (wg rfl rfl) rfl rfl (mv rfl) ?_
        refine Go.Sx.V rfl (wg rfl rfl) rfl rfl (eqlI rfl rfl) ?_
        refine Go.Sx.V rfl wu rfl rfl (pk rfl rfl) ?_
        refine Go.Sx.V rfl wu rfl rfl (asg rfl) ?_
        refine wr_nil (post_thenN (wc_ret (post_thenR ?_)))
        refine post_ret1 rfl rfl ?_
        exact ⟨hE, by simp [l3]⟩
      · skip
        refine wc_condF rfl (by simp [l1]) ?_
        refine wc_skip (post_thenN (wc_seq ?_))
        refine wc_region [0,1,2,3,4,5,6,7,8,9,10,11,12,13,14,15] rfl ?_
        refine Go.Sx.V rfl wu rfl rfl (mv rfl) ?_
        refine Go.Sx.V rfl wu rfl rfl (geqI rfl rfl) ?_
        refine Go.Sx.V rfl wu rfl rfl (mv rfl) ?_
        refine AND (π1 := [3,4,5,6]) (π2 := [7,8,9,10,11,12,13,14,15]) (tc := 70) (tp := 74) rfl rfl rfl (by
            intro hg
            simp at hg
            refine Go.Sx.V rfl (wg rfl rfl) rfl rfl (mv rfl) ?_
            refine Go.Sx.V rfl (wg rfl rfl) rfl rfl (mv rfl) ?_
            refine Go.Sx.V rfl (wg rfl rfl) rfl rfl (leqI rfl rfl) ?_
            refine Go.Sx.V rfl wu rfl rfl (pk rfl rfl) ?_
            exact join rfl) (by
            intro _
            refine SK rfl rfl rfl rfl rfl ?_
            refine SK rfl rfl rfl rfl rfl ?_
            refine SK rfl rfl rfl rfl rfl ?_
            refine Go.Sx.V rfl wu rfl rfl (pk rfl rfl) ?_
            exact join rfl) ?_
        refine Go.Sx.V rfl wu rfl rfl (mv rfl) ?_
        refine AND (π1 := [8,9,10,11,12,13,14]) (π2 := [15]) (tc := 75) (tp := 82) rfl rfl rfl (by
            intro hg
            simp at hg
            refine Go.Sx.V rfl (wg rfl rfl) rfl rfl (mv rfl) ?_
            refine Go.Sx.V rfl (wg rfl rfl) rfl rfl (eqlI rfl rfl) ?_
            refine Go.Sx.V rfl (wg rfl rfl) rfl rfl (mv rfl) ?_
            refine Go.Sx.V rfl (wg rfl rfl) rfl rfl (mv rfl) ?_
            refine Go.Sx.V rfl (wg rfl rfl) rfl rfl (leqI rfl rfl) ?_
            refine Go.Sx.V rfl (wg rfl rfl) rfl rfl (eqlB rfl rfl und4) ?_
            refine Go.Sx.V rfl wu rfl rfl (pk rfl rfl) ?_
            exact join rfl) (by
            intro _
            refine SK rfl rfl rfl rfl rfl ?_
            refine SK rfl rfl rfl rfl rfl ?_
            refine SK rfl rfl rfl rfl rfl ?_
            refine SK rfl rfl rfl rfl rfl ?_
            refine SK rfl rfl rfl rfl rfl ?_
            refine SK rfl rfl rfl rfl rfl ?_
            refine Go.Sx.V rfl wu rfl rfl (pk rfl rfl) ?_
            exact join rfl) ?_
        refine Go.Sx.V rfl wu rfl rfl (asg rfl) ?_
        refine wr_nil (post_thenN (wc_ret ?_))
        refine post_ret1 rfl rfl ?_
        refine ⟨hE, ?_⟩
        by_cases h6 : t ≤ (lim n k).1 <;> simp [l2, l3, l4, h6]
namespace FListdecodeLimit
open Go.ChangeShapes Go.WideShapes Go.ChangeAt Go.RowKit Go.Fr
theorem own : ownKnob Try.prog.godebug = none := by kernel_rfl
theorem laidOut : laidOutB Try.prog = true := by kernel_rfl
set_option maxRecDepth 100000 in
theorem lifted (os : Os) (started : os.Started) (H : Type) (enc : TypeId × Value → H) :
    ReturnsInHanded {} Try.checked os 4 .any (Rows.listdecodeLimitSpec.pre6 enc Try.prog Try.f4 Rows.listdecodeLimitRow.domain false) (Rows.listdecodeLimitSpec.post enc Try.prog Try.f4 false true false false) := by
  refine returnsInHanded_of_change_sized (C := Try.checked) own started (by kernel_rfl) Try.func4
    (ChangeSpec.witness6 (enc := enc) (C := Try.checked) false ⟨#[], #[.int .i64 0, .int .i64 0, .int .i64 0], []⟩ 8 (by kernel_rfl) (by kernel_rfl) (by kernel_rfl) (by kernel_rfl)) ?_
  intro W base args ds gs before hval0 hW _ hsz0 _
  have hval : ∀ (j : Nat) t v, Try.f4.params[j]? = some t → args[j]? = some v → Value.okWide Try.prog W .any base t v := hval0
  have hW' := hW
  obtain ⟨p, q, hA0, hV, rfl, hfz, hnd⟩ := hW
  have hA : DataW.TrodAll enc Try.prog W 0 (fun _ => true) true Try.f4.params.toList args.toList ds p := hA0
  have hsz : (DataW.weightsEach Try.prog (Try.f4.params.toList ++ Rows.listdecodeLimitSpec.plain.varTypes Try.prog) (ds ++ gs)).all (· ≤ reachBytes) = true := hsz0
  rw [Try.params4] at hA hval hsz
  obtain ⟨v0, vs0, d0, ds0, p0, q0, hargs, rfl, rfl, h0, r0⟩ := trodAll_cons hA
  obtain ⟨v1, vs1, d1, ds1, p1, q1, rfl, rfl, rfl, h1, r1⟩ := trodAll_cons r0
  obtain ⟨v2, vs2, d2, ds2, p2, q2, rfl, rfl, rfl, h2, r2⟩ := trodAll_cons r1
  obtain ⟨rfl, rfl, rfl⟩ := trodAll_nil r2
  obtain rfl : args = #[v0, v1, v2] := by cases args; simp_all
  obtain ⟨rfl, rfl⟩ := trodVars_none hV
  have k0 := h0
  have lt0 : ∀ x ∈ p0, x.block < W.heap.size := by obtain ⟨m, hm⟩ := k0; exact DataW.trod_lt m _ _ _ hm
  have w0 : WOK Try.prog 3 d0 := wok_arg hsz (j := 0) rfl rfl
  obtain ⟨n0, rfl, b0⟩ := op_int Try.underlying3 (hval 0 3 v0 rfl rfl) h0
  have k1 := h1
  have lt1 : ∀ x ∈ p1, x.block < W.heap.size := by obtain ⟨m, hm⟩ := k1; exact DataW.trod_lt m _ _ _ hm
  have w1 : WOK Try.prog 3 d1 := wok_arg hsz (j := 1) rfl rfl
  obtain ⟨n1, rfl, b1⟩ := op_int Try.underlying3 (hval 1 3 v1 rfl rfl) h1
  have k2 := h2
  have lt2 : ∀ x ∈ p2, x.block < W.heap.size := by obtain ⟨m, hm⟩ := k2; exact DataW.trod_lt m _ _ _ hm
  have w2 : WOK Try.prog 3 d2 := wok_arg hsz (j := 2) rfl rfl
  obtain ⟨n2, rfl, b2⟩ := op_int Try.underlying3 (hval 2 3 v2 rfl rfl) h2
  refine (law_ListdecodeLimit (w := W) n0 b0 n1 b1 n2 b2).mono fun e W' he => ?_
  cases e with
  | panicked c => exact he.elim
  | outgrown => exact he.elim
  | returned v =>
    obtain ⟨bel, rfl⟩ := he
    exact ⟨_, rfl, _, _, _, [], _, [], hW', trodAll_mk1 (shut_bool Try.underlying4 _), (trodAll_cons_mk (Below.trod laidOut (by kernel_rfl) (of_decide_eq_true (by kernel_rfl)) k0 bel lt0) (trodAll_cons_mk (Below.trod laidOut (by kernel_rfl) (of_decide_eq_true (by kernel_rfl)) k1 bel lt1) (trodAll_cons_mk (Below.trod laidOut (by kernel_rfl) (of_decide_eq_true (by kernel_rfl)) k2 bel lt2) trodAll_mk0))), rfl, bel.frame _, fun h => by cases h⟩
theorem over : Rows.listdecodeLimitRow.holds Try.pinned (OpenSpec.ofChange Rows.listdecodeLimitSpec) :=
  OpenClaim.holds_of_wide 4 Try.f4 rfl rfl rfl rfl rfl rfl rfl ⟨rfl, rfl, rfl, rfl, rfl⟩ rfl rfl rfl rfl rfl (by kernel_rfl) Try.func4 (by kernel_rfl)
    (of_decide_eq_true (by kernel_rfl)) (by unfold Func.isWrapper; first | (rw [if_pos (by decide +kernel)]; kernel_rfl) | (rw [if_neg (by decide +kernel)]; exact ⟨rfl, rfl⟩))
    (fun os started H enc _ => lifted os started H enc)
end FListdecodeLimit
/-- The statement. -/
theorem listdecodeLimit_holds : Rows.ListdecodeLimitSaid := FListdecodeLimit.over
end Go.Proofs.Ytmnojknfjbimdaa

