/-
  Bounded decoding, part 5: the codeword that Gao's decoder finds, the whole decoder.
-/
import Derived.Test.YtmnojknfjbimdaaGreatUBd4
namespace Go.Sx
open Go Go.RowKit Go.Pl
theorem dj_growL {B : Nat} {w : World} {u v u' : Value} {E : TypeId} {xs : List Value} (h : Dj u v) (hv : Own B w v E xs) (hb : u'.ownBlock = u.ownBlock ∨ u'.ownBlock = some w.heap.size) : Dj u' v := fun k hk e => by
  rcases hb with h1 | h1
  · exact h k (h1.symm.trans hk) e
  · have := (hv.lt k e).2
    rw [h1] at hk
    have := Option.some.inj hk
    omega
theorem dj_growR {B : Nat} {w : World} {u v v' : Value} {E : TypeId} {xs : List Value} (h : Dj u v) (hu : Own B w u E xs) (hb : v'.ownBlock = v.ownBlock ∨ v'.ownBlock = some w.heap.size) : Dj u v' := fun k hk e => by
  rcases hb with h1 | h1
  · exact h k hk (h1.symm.trans e)
  · have := (hu.lt k hk).2
    rw [h1] at e
    have := Option.some.inj e
    omega
end Go.Sx
namespace Go.Proofs.YtmnojknfjbimdaaGreat
open Go Go.Sx Go.Pl Go.RowKit Go.Fd Go.Alg Go.Ld
set_option maxRecDepth 10000 in
theorem bCodeword (P : FP) (g : Value) (p M K : Int) (mo pu mu wv ev : Value) (md xs ms ws : List Int) (w : World) (hG : GFV w P g) (hok : OkF p M md) (hP : P = fpOf p M md hok.1.1 hok.1.2.1) (hg : GrsOk P.q xs ms K) (hmo : Ints w mo md) (hx : Ints w pu xs) (hm : Ints w mu ms) (hw : Ints w wv ws) (hwl : ws.length = xs.length) (hwi : AllIn P.q ws) (he : Sl w ev (List.replicate xs.length (.bool false))) :
    Calls Tryz.prog 50 #[g, gval p M mo K pu mu, wv, ev] w (RetX w fun r w' => ∃ cv e, ∃ F : Pol (Go.Fd.K P), r = .tuple #[cv, .int .i64 e] ∧ (e = 0 → OwnI w.heap.size w' cv 3 (encW P xs ms F) ∧ YB K.toNat F) ∧
      ∀ f : Pol (Go.Fd.K P), YB K.toNat f → 2 * disN (encW P xs ms f) ws xs.length ≤ xs.length - K.toNat → e = 0 ∧ F = f) := by
  have hn64 := hg.n64
  have hml := hg.ml
  have hk0 := hg.k0
  have hkn := hg.kn
  obtain ⟨gen, hgen⟩ := hG.gen
  have hvl := vals_length (P := P) ws ms
  have hm0 : ∀ i : Nat, i < xs.length → inK P (gi ms i) ≠ 0 := fun i hi => inK_ne (hg.min i (by omega)) (hg.noz i (by omega))
  refine calls4 Tryz.func50 rfl rfl ?_
  refine wc_seq ?_
  refine wc_region [0,1,2] rfl ?_
  refine BXA rfl wu rfl rfl ?_
  intro sb w1 hE hB hsb
  refine Go.Sx.V rfl wu rfl rfl (asg rfl) ?_
  refine Go.Sx.V rfl wu rfl rfl (asg rfl) ?_
  refine wr_nil (post_thenN (wc_seq ?_))
  have hsz := hE.size
  have hlt := hB.lt
  refine wc_region [0,1] rfl ?_
  refine Go.Sx.V rfl wu rfl rfl (asg rfl) ?_
  refine Go.Sx.V rfl wu rfl rfl (asg rfl) ?_
  refine wr_nil (post_thenN (wc_seq (wc_seq ?_)))
  have hxi := hx.ext hE
  refine wc_region [0,1,2,3] rfl ?_
  refine Go.Sx.V rfl wu rfl rfl (fad rfl fa26_2) ?_
  refine Go.Sx.V rfl wu rfl rfl (ldB rfl na22 hB) ?_
  refine Go.Sx.V rfl wu rfl rfl (lenI rfl ty22 hxi) ?_
  refine Go.Sx.V rfl wu rfl rfl (mv rfl) ?_
  refine wr_nil (post_thenN (wc_block ?_))
  obtain ⟨B, hBB⟩ : ∃ B, B = w1.heap.size := ⟨_, rfl⟩
  rw [← hBB] at hsz hlt
  refine wc_loop (fun q : Nat × Value × Value => [(0, g), (2, wv), (3, ev), (5, .pointer (some ⟨sb, 0, none⟩)), (10, q.2.1), (11, q.2.2), (19, pu), (20, .int .i64 xs.length), (21, .int .i64 q.1)])
    (fun q w' => q.1 ≤ xs.length ∧ B ≤ w'.heap.size ∧ Ext w w' ∧ Blk w' sb 26 #[.int .i64 p, .int .i64 M, mo, .int .i64 K, pu, mu] ∧ OwnI B w' q.2.1 3 (xs.take q.1) ∧ OwnI B w' q.2.2 3 ((vals P ws ms).take q.1) ∧ Dj q.2.1 q.2.2) (fun q => xs.length - q.1) (0, .slice none 0 0, .slice none 0 0) ⟨rfl, rfl, rfl, rfl, rfl, rfl, rfl, rfl, rfl, trivial⟩ ⟨by simp, by omega, hE, hB, Own.nil _ _ _, Own.nil _ _ _, dj_nil _⟩ ?_
  clear hE hB hxi
  rintro ⟨i, xv, yv⟩ w2 ⟨i1, hz2, hE, hB, hX, hY, hdj⟩
  dsimp only at i1 hX hY hdj
  have hxi := hx.ext hE
  have hmi := hm.ext hE
  have hwi' := hw.ext hE
  have hei := he.ext hE
  try dsimp only
  refine wc_seq ?_
  refine wc_region [0] rfl ?_
  refine Go.Sx.V rfl wu rfl rfl (lssI rfl rfl) ?_
  refine wr_nil (post_thenN (wc_seq ?_))
  refine wc_cond rfl ?_ ?_
  · intro hc
    simp at hc
    refine wc_skip (post_thenN (wc_seq (wc_block (wc_seq ?_))))
    refine wc_region [0,1,2,3,4] rfl ?_
    refine Go.Sx.V rfl wu rfl rfl (mv rfl) ?_
    refine Go.Sx.V rfl wu rfl rfl (iadI rfl rfl ty22 hxi (by omega) (by omega)) ?_
    refine Go.Sx.V rfl wu rfl rfl (ldI rfl na3 hxi) ?_
    refine Go.Sx.V rfl wu rfl rfl (asg rfl) ?_
    refine Go.Sx.V rfl wu rfl rfl (asg rfl) ?_
    refine wr_nil (post_thenN (wc_seq ?_))
    refine wc_region [0,1,2,3,4] rfl ?_
    refine Go.Sx.V rfl wu rfl rfl (mv rfl) ?_
    refine Go.Sx.V rfl wu rfl rfl (mv rfl) ?_
    refine Go.Sx.V rfl wu rfl rfl (iad rfl rfl ty90 hei (by omega) (by simp; omega)) ?_
    refine Go.Sx.V rfl wu rfl rfl (ldE rfl na4 hei (by rw [Int.toNat_natCast, List.getElem?_replicate, if_pos hc])) ?_
    refine Go.Sx.V rfl wu rfl rfl (notB rfl) ?_
    refine wr_nil (post_thenN ?_)
    refine wc_condT rfl (by rfl) ?_
    refine wc_seq ?_
    refine wc_draw mixed [0,1,2,3,4,5,6,7,8,9,10,11,12,13,14,15] (by kernel_rfl) ?_
    intro w3 hd3 _
    replace hE := hE.trans hd3
    replace hB := hB.ext hd3
    replace hwi' := hwi'.ext hd3
    replace hmi := hmi.ext hd3
    replace hX := hX.ext hd3
    replace hY := hY.ext hd3
    refine Go.Sx.V rfl wu rfl rfl (mv rfl) ?_
    refine Go.Sx.V rfl wu rfl rfl (mv rfl) ?_
    refine Go.Sx.V rfl wu rfl rfl (mv rfl) ?_
    refine Go.Sx.V rfl wu rfl rfl (iadI rfl rfl ty22 hwi' (by omega) (by omega)) ?_
    refine Go.Sx.V rfl wu rfl rfl (ldI rfl na3 hwi') ?_
    refine Go.Sx.V rfl wu rfl rfl (fad rfl fa26_3) ?_
    refine Go.Sx.V rfl wu rfl rfl (ldB rfl na22 hB) ?_
    refine Go.Sx.V rfl wu rfl rfl (mv rfl) ?_
    refine Go.Sx.V rfl wu rfl rfl (iadI rfl rfl ty22 hmi (by omega) (by omega)) ?_
    refine Go.Sx.V rfl wu rfl rfl (ldI rfl na3 hmi) ?_
    refine C rfl wu rfl rfl Tryz.call56 (gDiv P g _ _ _ (hG.ext hE) (hm0 i hc)) ?_
    rintro _ w4 hE4 rfl
    replace hE := hE.trans hE4
    replace hB := hB.ext hE4
    replace hX := Own.ext hX hE4
    replace hY := Own.ext hY hE4
    refine Go.Sx.V rfl wu rfl rfl (mv rfl) ?_
    refine Go.Sx.V rfl wu rfl rfl (ext rfl rfl) ?_
    refine Go.Sx.V rfl wu rfl rfl (ext rfl rfl) ?_
    refine Go.Sx.V rfl wu rfl rfl (asg rfl) ?_
    refine Go.Sx.V rfl wu rfl rfl (asg rfl) ?_
    refine wr_nil (post_thenN ?_)
    have hz3 := hd3.size
    have hz4 := hE4.size
    have hvg : (inK P (gi ws i) * invK P (inK P (gi ms i))).1 = gi (vals P ws ms) i := by rw [vals, gi_tab (by omega) (by omega)]; rfl
    rw [hvg]
    have hXl : (xs.take i).length = i := by rw [List.length_take]; omega
    have hYl : ((vals P ws ms).take i).length = i := by rw [List.length_take]; omega
    have hxb : xv.ownBlock ≠ some sb := fun e => by have := (Own.lt hX sb e).1; omega
    have hyb : yv.ownBlock ≠ some sb := fun e => by have := (Own.lt hY sb e).1; omega
    refine wc_region [0,1,2,3,4,5,6,7,8,9] rfl ?_
    refine Go.Sx.V rfl wu rfl rfl (mv rfl) ?_
    refine Go.Sx.V rfl wu rfl rfl (mv rfl) ?_
    refine BSI (zs := [gi xs i]) rfl wu rfl rfl rfl rfl ty22 ?_
    intro av w5 hE5 _ hai _
    have hz5 := hE5.size
    replace hE := hE.trans hE5
    replace hB := hB.ext hE5
    replace hX := Own.ext hX hE5
    replace hY := Own.ext hY hE5
    refine API rfl wu rfl rfl rfl ty22 (by intro h; cases h) ?_ hX (by omega) hai (Ext.refl _) (by simp; omega)
    intro xv2 w6 hg6 hX6 hx6 _ hb6
    have hz6 := hg6.size
    have hdj6 := dj_growL hdj hY hb6
    replace hE := hX6 w (by omega) hE
    replace hB := hB.grown hg6 hxb
    replace hY := Own.kept hY hg6 hdj.right
    refine Go.Sx.V rfl wu rfl rfl (mv rfl) ?_
    refine Go.Sx.V rfl wu rfl rfl (mv rfl) ?_
    refine BSI (zs := [gi (vals P ws ms) i]) rfl wu rfl rfl rfl rfl ty22 ?_
    intro bv w7 hE7 _ hbi _
    have hz7 := hE7.size
    replace hE := hE.trans hE7
    replace hB := hB.ext hE7
    replace hx6 := Own.ext hx6 hE7
    replace hY := Own.ext hY hE7
    refine API rfl wu rfl rfl rfl ty22 (by intro h; cases h) ?_ hY (by omega) hbi (Ext.refl _) (by simp; omega)
    intro yv2 w8 hg8 hX8 hy8 _ hb8
    have hz8 := hg8.size
    have hdj8 := dj_growR hdj6 hx6 hb8
    replace hE := hX8 w (by omega) hE
    replace hB := hB.grown hg8 hyb
    replace hx6 := Own.kept hx6 hg8 hdj6.left
    refine Go.Sx.V rfl wu rfl rfl (asg rfl) ?_
    refine Go.Sx.V rfl wu rfl rfl (asg rfl) ?_
    refine wr_nil (post_blockN (post_thenN ?_))
    replace hx6 : OwnI B w8 xv2 3 (xs.take i ++ [gi xs i]) := hx6
    rw [take_gi hc] at hx6
    rw [take_gi (by omega)] at hy8
    refine wc_region [0,1] rfl ?_
    refine Go.Sx.V rfl wu rfl rfl (addI rfl rfl) ?_
    refine Go.Sx.V rfl wu rfl rfl (mv rfl) ?_
    refine wr_nil ?_
    exact post_loopN (i + 1, xv2, yv2) ⟨rfl, rfl, rfl, rfl, rfl, rfl, rfl, rfl, rfl, trivial⟩ ⟨by (try dsimp only); omega, by omega, hE, hB, hx6, hy8, hdj8⟩ (by (try dsimp only); omega)
  · intro hc
    simp at hc
    obtain rfl : i = xs.length := by omega
    rw [List.take_length] at hX
    rw [show xs.length = (vals P ws ms).length by omega, List.take_length] at hY
    have hXi := OwnI.ints hX
    have hYi := OwnI.ints hY
    refine wc_exit (post_thenE (post_loopE (post_blockX (post_thenN (wc_seq (wc_seq ?_))))))
    refine wc_region [0,1,2,3,4] rfl ?_
    refine Go.Sx.V rfl wu rfl rfl (mv rfl) ?_
    refine Go.Sx.V rfl wu rfl rfl (lenI rfl ty22 hXi) ?_
    refine Go.Sx.V rfl wu rfl rfl (fad rfl fa26_1) ?_
    refine Go.Sx.V rfl wu rfl rfl (ldB rfl na3 hB) ?_
    refine Go.Sx.V rfl wu rfl rfl (lssI rfl rfl) ?_
    refine wr_nil (post_thenN ?_)
    refine wc_condF rfl (by simp; omega) ?_
    refine wc_skip (post_thenN (wc_seq ?_))
    have hdif := grs_dif (P := P) hg.xin hg.dif
    have hKe : ((K.toNat : Nat) : Int) = K := by omega
    refine wc_region [0,1,2,3,4,5,6,7,8,9,10] rfl ?_
    refine Go.Sx.V rfl wu rfl rfl (mv rfl) ?_
    refine Go.Sx.V rfl wu rfl rfl (mv rfl) ?_
    refine Go.Sx.V rfl wu rfl rfl (mv rfl) ?_
    refine Go.Sx.V rfl wu rfl rfl (fad rfl fa26_1) ?_
    refine Go.Sx.V rfl wu rfl rfl (ldB rfl na3 hB) ?_
    have hcall := kGao P g xv yv xs (vals P ws ms) K.toNat _ (hG.ext hE) hXi hYi hn64 (by omega) (by omega) hdif
    rw [hKe] at hcall
    refine C rfl wu rfl rfl Tryz.call84 hcall ?_
    clear hcall
    rintro _ w3 hE3 ⟨mw, e, F, rfl, hF, hu⟩
    have hz3 := hE3.size
    replace hE := hE.trans hE3
    replace hB := hB.ext hE3
    refine Go.Sx.V rfl wu rfl rfl (mv rfl) ?_
    refine Go.Sx.V rfl wu rfl rfl (ext rfl rfl) ?_
    refine Go.Sx.V rfl wu rfl rfl (ext rfl rfl) ?_
    refine Go.Sx.V rfl wu rfl rfl (asg rfl) ?_
    refine Go.Sx.V rfl wu rfl rfl (asg rfl) ?_
    refine wr_nil (post_thenN (wc_seq (wc_seq ?_)))
    have hu' : ∀ f : Pol (Go.Fd.K P), YB K.toNat f → 2 * disN (encW P xs ms f) ws xs.length ≤ xs.length - K.toNat → e = 0 ∧ F = f := fun f hf hd => hu f hf (by rw [wrN_dis hgen hg hwi hwl xs.length (Nat.le_refl _)]; exact hd)
    clear hu
    refine wc_region [0,1] rfl ?_
    refine Go.Sx.V rfl wu rfl rfl (mv rfl) ?_
    refine Go.Sx.V rfl wu rfl rfl (neqI rfl rfl) ?_
    refine wr_nil (post_thenN ?_)
    refine wc_cond rfl ?_ ?_
    · intro h3
      simp at h3
      refine wc_seq ?_
      refine wc_region [0,1,2] rfl ?_
      refine Go.Sx.V rfl wu rfl rfl (mv rfl) ?_
      refine Go.Sx.V rfl wu rfl rfl (asg rfl) ?_
      refine Go.Sx.V rfl wu rfl rfl (asg rfl) ?_
      refine wr_nil (post_thenN (wc_ret (post_thenR ?_)))
      refine post_ret2 rfl rfl rfl ?_
      exact ⟨hE, _, e, F, rfl, fun h => absurd h h3, hu'⟩
    · intro h3
      simp at h3
      obtain ⟨hFo, hFy⟩ := hF h3
      have hFi := OwnI.ints hFo
      have hFl : (cl F).length ≤ K.toNat := cl_len hFy
      obtain ⟨n0, hn0⟩ : ∃ n0 : Nat, n0 = K.toNat - (cl F).length := ⟨_, rfl⟩
      have hzi : AllIn P.q (cl F ++ List.replicate n0 0) := allIn_zeros n0 (allIn_cl F)
      have hzl : (((cl F ++ List.replicate n0 0).length : Nat) : Int) = K := by
        rw [List.length_append, List.length_replicate]; omega
      have hkb : sb ∉ mw.ownBlock.toList := fun hx => by
        have h1 : mw.ownBlock = some sb := by simpa using hx
        have := (Own.lt hFo sb h1).1
        omega
      refine wc_skip (post_thenN (wc_seq ?_))
      refine wc_drawX mw.ownBlock.toList mixed [0,1,2,3,4,5,6,7,8,9,10,11,12] (by kernel_rfl) ?_
      intro w4 hd4 _
      replace hE := hE.trans hd4
      replace hB := hB.ext hd4
      replace hFo := hFo.ext hd4
      replace hFi := hFi.ext hd4
      have hz4 := hd4.size
      refine VX rfl wu rfl rfl (yA rfl ag26 hB hkb) ?_
      refine VX rfl wu rfl rfl (ym (mv rfl) rfl) ?_
      refine VX rfl wu rfl rfl (ym (fad rfl fa26_1) rfl) ?_
      refine VX rfl wu rfl rfl (yB rfl na3 hB hkb) ?_
      refine VX rfl wu rfl rfl (ym (mv rfl) rfl) ?_
      refine VX rfl wu rfl rfl (ym (lenI rfl ty22 hFi) rfl) ?_
      refine VX rfl wu rfl rfl (ym (subI rfl rfl) rfl) ?_
      refine APZX (k := n0) rfl wu rfl rfl rfl ty22 (by kernel_rfl) (fun q hq => by have hq : mw.ownBlock = some q := hq; simp [hq]) hFo (by omega) (by omega) (by omega) ?_
      intro f2 w5 hg5 hX5 hf2 hfb
      have hE5 := hX5 w (by omega) hE
      have hz5 := hg5.size
      refine CX rfl wu rfl rfl Tryz.call63 (gsEncode P p M K mo pu mu f2 md xs ms _ _ hok hP hg (hmo.ext hE5) (hx.ext hE5) (hm.ext hE5) (OwnI.ints hf2) hzl hzi) ?_
      rintro _ w6 hE6 ⟨cv, rfl, hcv⟩
      rw [pz_zeros, pz_cl] at hcv
      refine VX rfl wu rfl rfl (ym (ext rfl rfl) rfl) ?_
      refine VX rfl wu rfl rfl (ym (ext rfl rfl) rfl) ?_
      refine VX rfl wu rfl rfl (ym (asg rfl) rfl) ?_
      refine VX rfl wu rfl rfl (ym (asg rfl) rfl) ?_
      refine wx_nil ?_
      refine post_thenN (wc_ret ?_)
      refine post_ret2 rfl rfl rfl ?_
      exact ⟨hE5.trans hE6, cv, 0, F, rfl, fun _ => ⟨Own.mono hcv (by omega), hFy⟩, fun f hf hd => ⟨rfl, (hu' f hf hd).2⟩⟩
theorem res_split {cv : Value} {c ws : List Int} {rad : Int} {w0 w' : World} {r : Value} (hc : cv.oneCell' = true) (h : ((disN c ws c.length : Int) > rad ∧ r = .tuple #[.agg #[.slice none 0 0, .slice none 0 0], .int .i64 12]) ∨
      ((disN c ws c.length : Int) ≤ rad ∧ ∃ pv pos, r = .tuple #[.agg #[cv, pv], .int .i64 0] ∧ IntsX (List.range w0.heap.size) w' pv pos ∧ pos.length = disN c ws c.length)) :
    ∃ a b e, r = .tuple #[.agg [a, b].toArray, .int .i64 e] ∧ a.oneCell' = true ∧ b.oneCell' = true ∧ ((e = 12 ∧ (disN c ws c.length : Int) > rad) ∨ (e = 0 ∧ a = cv ∧ (disN c ws c.length : Int) ≤ rad ∧ ∃ pos, IntsX (List.range w0.heap.size) w' b pos ∧ pos.length = disN c ws c.length)) := by
  rcases h with ⟨h1, h2⟩ | ⟨h1, pv, pos, h2, h3, h4⟩
  · exact ⟨_, _, 12, h2, rfl, rfl, .inl ⟨rfl, h1⟩⟩
  · exact ⟨_, _, 0, h2, hc, h3.1.one, .inr ⟨rfl, rfl, h1, pos, h3, h4⟩⟩
set_option maxRecDepth 10000 in
theorem bGRS (P : FP) (p M K : Int) (mo pu mu wv : Value) (md xs ms ws : List Int) (w : World) (hok : OkF p M md) (hP : P = fpOf p M md hok.1.1 hok.1.2.1) (hg : GrsOk P.q xs ms K) (hmo : Ints w mo md) (hx : Ints w pu xs) (hm : Ints w mu ms) (hw : Ints w wv ws) (hwl : ws.length = xs.length) (hwi : AllIn P.q ws) :
    Calls Tryz.prog 27 #[gval p M mo K pu mu, wv, .slice none 0 0] w (RetX w fun r w' => ∃ a b e, ∃ F : Pol (Go.Fd.K P), r = .tuple #[.agg [a, b].toArray, .int .i64 e] ∧ a.oneCell' = true ∧ b.oneCell' = true ∧
      (e = 12 ∨ (e = 0 ∧ YB K.toNat F ∧ Ints w' a (encW P xs ms F) ∧ ∃ pos, Ints w' b pos ∧ pos.length = disN (encW P xs ms F) ws xs.length)) ∧
      ∀ f : Pol (Go.Fd.K P), YB K.toNat f → 2 * disN (encW P xs ms f) ws xs.length ≤ xs.length - K.toNat → e = 0 ∧ F = f) := by
  have hn64 := hg.n64
  have hk0 := hg.k0
  have hkn := hg.kn
  have hgt : gsT p M md xs ms K = 0 := by rw [gsT, dif_pos hok, ← hP]; exact grsE_ok.2 hg
  refine calls3 Tryz.func27 rfl rfl ?_
  refine wc_seq ?_
  refine wc_region [0,1,2] rfl ?_
  refine BXA rfl wu rfl rfl ?_
  intro sb w1 hE hB hsb
  refine AL rfl wu rfl zv59 ?_
  intro rb w2 hE2 hR hrb
  have hz1 := hE.size
  have hz2 := hE2.size
  replace hE := hE.trans hE2
  replace hB := hB.ext hE2
  refine Go.Sx.V rfl wu rfl rfl (asg rfl) ?_
  refine wr_nil (post_thenN (wc_seq (wc_seq ?_)))
  have hrl := hR.lt
  refine wc_region [0,1,2] rfl ?_
  refine Go.Sx.V rfl wu rfl rfl (ldA rfl ag26 hB) ?_
  refine C rfl wu rfl rfl Tryz.call47 (gsCheck p M K mo pu mu md xs ms _ (hmo.ext hE) (hx.ext hE) (hm.ext hE)) ?_
  rintro _ w3 hE3 rfl
  have hz3 := hE3.size
  replace hE := hE.trans hE3
  replace hB := hB.ext hE3
  replace hR := hR.ext hE3
  rw [hgt]
  refine Go.Sx.V rfl wu rfl rfl (asg rfl) ?_
  refine wr_nil (post_thenN (wc_seq ?_))
  refine wc_region [0,1] rfl ?_
  refine Go.Sx.V rfl wu rfl rfl (mv rfl) ?_
  refine Go.Sx.V rfl wu rfl rfl (neqI rfl rfl) ?_
  refine wr_nil (post_thenN ?_)
  refine wc_condF rfl (by simp) ?_
  refine wc_skip (post_thenN (wc_seq ?_))
  refine wc_region [0,1,2,3,4,5,6,7] rfl ?_
  refine Go.Sx.V rfl wu rfl rfl (fad rfl fa26_0) ?_
  refine Go.Sx.V rfl wu rfl rfl (ldA rfl ag24 hB) ?_
  refine C rfl wu rfl rfl Tryz.call48 (fNew p M mo md _ (hmo.ext hE)) ?_
  rintro _ w4 hE4 hnew
  have hz4 := hE4.size
  obtain ⟨gv, ec, rfl, hcase⟩ := fnew_split hnew
  clear hnew
  replace hE := hE.trans hE4
  replace hB := hB.ext hE4
  replace hR := hR.ext hE4
  refine Go.Sx.V rfl wu rfl rfl (mv rfl) ?_
  refine Go.Sx.V rfl wu rfl rfl (ext rfl rfl) ?_
  refine Go.Sx.V rfl wu rfl rfl (ext rfl rfl) ?_
  refine Go.Sx.V rfl wu rfl rfl (asg rfl) ?_
  refine Go.Sx.V rfl wu rfl rfl (asg rfl) ?_
  refine wr_nil (post_thenN (wc_seq ?_))
  obtain ⟨rfl, hG⟩ : ec = 0 ∧ GFV w4 P gv := by
    rcases hcase with ⟨_, _, hno⟩ | ⟨h0, hok', hg'⟩
    · exact absurd hok hno
    · exact ⟨h0, by rw [hP]; exact hg'⟩
  clear hcase
  have hxi := hx.ext hE
  refine wc_region [0,1,2,3] rfl ?_
  refine Go.Sx.V rfl wu rfl rfl (fad rfl fa26_2) ?_
  refine Go.Sx.V rfl wu rfl rfl (ldB rfl na22 hB) ?_
  refine Go.Sx.V rfl wu rfl rfl (lenI rfl ty22 hxi) ?_
  refine Go.Sx.V rfl wu rfl rfl (asg rfl) ?_
  refine wr_nil (post_thenN (wc_seq (wc_seq ?_)))
  refine wc_region [0,1,2,3,4,5] rfl ?_
  refine Go.Sx.V rfl wu rfl rfl (mv rfl) ?_
  refine Go.Sx.V rfl wu rfl rfl (mv rfl) ?_
  refine Go.Sx.V rfl wu rfl rfl (mv rfl) ?_
  refine Go.Sx.V rfl wu rfl rfl (mv rfl) ?_
  refine C rfl wu rfl rfl Tryz.call49 (bWord P gv wv ws xs.length _ hG (hw.ext hE) hwl hn64 hwi) ?_
  rintro _ w5 hE5 rfl
  have hz5 := hE5.size
  replace hE := hE.trans hE5
  replace hB := hB.ext hE5
  replace hR := hR.ext hE5
  replace hG := hG.ext hE5
  refine Go.Sx.V rfl wu rfl rfl (asg rfl) ?_
  refine wr_nil (post_thenN (wc_seq ?_))
  refine wc_region [0,1] rfl ?_
  refine Go.Sx.V rfl wu rfl rfl (mv rfl) ?_
  refine Go.Sx.V rfl wu rfl rfl (neqI rfl rfl) ?_
  refine wr_nil (post_thenN ?_)
  refine wc_condF rfl (by simp) ?_
  refine wc_skip (post_thenN (wc_seq ?_))
  refine wc_draw mixed [0,1,2,3,4,5,6,7,8,9,10,11] (by kernel_rfl) ?_
  intro w6 hd6 _
  replace hE := hE.trans hd6
  replace hB := hB.ext hd6
  replace hR := hR.ext hd6
  replace hG := hG.ext hd6
  refine Go.Sx.V rfl wu rfl rfl (mv rfl) ?_
  refine Go.Sx.V rfl wu rfl rfl (ldA rfl ag26 hB) ?_
  refine Go.Sx.V rfl wu rfl rfl (mv rfl) ?_
  refine Go.Sx.V rfl wu rfl rfl (mv rfl) ?_
  refine Go.Sx.V rfl wu rfl rfl (mv rfl) ?_
  refine C rfl wu rfl rfl Tryz.call51 (bMarks xs.length _ hn64) ?_
  intro ev w7 hE7 hev
  have hz7 := hE7.size
  replace hE := hE.trans hE7
  replace hB := hB.ext hE7
  replace hR := hR.ext hE7
  replace hG := hG.ext hE7
  refine C rfl wu rfl rfl Tryz.call50 (bCodeword P gv p M K mo pu mu wv ev md xs ms ws _ hG hok hP hg (hmo.ext hE) (hx.ext hE) (hm.ext hE) (hw.ext hE) hwl hwi hev) ?_
  rintro _ w8 hE8 ⟨cv, e, F, rfl, hcF, hu⟩
  have hz8 := hE8.size
  replace hE := hE.trans hE8
  replace hB := hB.ext hE8
  replace hR := hR.ext hE8
  refine Go.Sx.V rfl wu rfl rfl (mv rfl) ?_
  refine Go.Sx.V rfl wu rfl rfl (ext rfl rfl) ?_
  refine Go.Sx.V rfl wu rfl rfl (ext rfl rfl) ?_
  refine Go.Sx.V rfl wu rfl rfl (asg rfl) ?_
  refine Go.Sx.V rfl wu rfl rfl (asg rfl) ?_
  refine wr_nil (post_thenN (wc_seq (wc_seq ?_)))
  have hz6 := hd6.size
  refine wc_region [0,1] rfl ?_
  refine Go.Sx.V rfl wu rfl rfl (mv rfl) ?_
  refine Go.Sx.V rfl wu rfl rfl (neqI rfl rfl) ?_
  refine wr_nil (post_thenN ?_)
  refine wc_cond rfl ?_ ?_
  · intro h2
    simp at h2
    refine wc_seq ?_
    refine wc_region [0,1,2] rfl ?_
    refine Go.Sx.V rfl wu rfl rfl (bld (us := []) (r := [.slice none 0 0, .slice none 0 0]) rfl bdDc0) ?_
    refine STB (vs := [.slice none 0 0, .slice none 0 0]) (cs' := [.slice none 0 0, .slice none 0 0]) rfl wu rfl rfl rfl sv59 (by intro h; cases h) (by assumption) (by first | (simp [Value.oneCell']; done) | (intro v hv; simp only [List.mem_cons, List.not_mem_nil, or_false] at hv; rcases hv with rfl | rfl | rfl | rfl | rfl <;> first | rfl | assumption) | (intro v hv; simp only [List.mem_cons, List.not_mem_nil, or_false] at hv; rcases hv with rfl | rfl | rfl <;> first | rfl | assumption) | (intro v hv; simp only [List.mem_cons, List.not_mem_nil, or_false] at hv; rcases hv with rfl | rfl <;> first | rfl | assumption)) rfl rfl rfl ?_
    intro w9 hg9 hX9 hR9
    refine Go.Sx.V rfl wu rfl rfl (asg rfl) ?_
    refine wr_nil (post_thenN (wc_ret (post_thenR ?_)))
    refine post_retC2 rfl rfl rfl ag59 hR9 rfl ?_
    exact ⟨hX9 w (by omega) hE, _, _, 12, F, rfl, rfl, rfl, .inl rfl, fun f hf hd => absurd (hu f hf hd).1 h2⟩
  · intro h2
    simp at h2
    obtain ⟨hco, hFy⟩ := hcF h2
    have hcl := encW_length (P := P) xs ms F
    refine wc_skip (post_thenN (wc_seq ?_))
    refine wc_draw mixed [0,1,2,3,5,6,7,8,9,10,11,4,12,13,14,15,16,17] (by kernel_rfl) ?_
    intro w9 hd9 _
    replace hE := hE.trans hd9
    replace hB := hB.ext hd9
    replace hR := hR.ext hd9
    replace hco := hco.ext hd9
    refine Go.Sx.V rfl wu rfl rfl (mv rfl) ?_
    refine Go.Sx.V rfl wu rfl rfl (mv rfl) ?_
    refine Go.Sx.V rfl wu rfl rfl (mv rfl) ?_
    refine Go.Sx.V rfl wu rfl rfl (mv rfl) ?_
    refine Go.Sx.V rfl wu rfl rfl (mv rfl) ?_
    refine Go.Sx.V rfl wu rfl rfl (fad rfl fa26_1) ?_
    refine Go.Sx.V rfl wu rfl rfl (ldB rfl na3 hB) ?_
    refine Go.Sx.V rfl wu rfl rfl (subI rfl rfl) ?_
    refine Go.Sx.V rfl wu rfl rfl (addI rfl rfl) ?_
    refine Go.Sx.V rfl wu rfl rfl (mv rfl) ?_
    refine Go.Sx.V rfl wu rfl rfl (lenI rfl ty22 (Ints.nil w9)) ?_
    refine C rfl wu rfl rfl Tryz.call51 (bMarks xs.length _ hn64) ?_
    intro ev2 wa hEa hev2
    have hza := hEa.size
    replace hE := hE.trans hEa
    replace hB := hB.ext hEa
    replace hR := hR.ext hEa
    replace hco := hco.ext hEa
    refine C rfl wu rfl rfl Tryz.call53 (bRadius ((xs.length : Int) - K + 1) _ ⟨by omega, by omega⟩) ?_
    rintro _ wb hEb rfl
    have hzb := hEb.size
    replace hE := hE.trans hEb
    replace hB := hB.ext hEb
    replace hR := hR.ext hEb
    replace hco := hco.ext hEb
    refine C rfl wu rfl rfl Tryz.call52 (bResult cv wv ev2 (encW P xs ms F) ws _ _ _ (OwnI.ints hco) (hw.ext hE) (hev2.ext hEb) (by rw [hcl]) (by omega) (by omega)) ?_
    rintro _ wc hEc hres
    have hzc := hEc.size
    have hcone := (OwnI.ints hco).one
    replace hE := hE.trans hEc
    replace hR := hR.ext hEc
    replace hco := hco.ext hEc
    obtain ⟨av, bv, e2, rfl, hao, hbo, hres⟩ := res_split hcone hres
    refine Go.Sx.V rfl wu rfl rfl (ext rfl rfl) ?_
    refine Go.Sx.V rfl wu rfl rfl (ext rfl rfl) ?_
    refine STB (vs := [av, bv]) (cs' := [av, bv]) rfl wu rfl rfl rfl sv59 (by intro h; kernel_rfl) (by assumption) (by first | (simp [Value.oneCell']; done) | (intro v hv; simp only [List.mem_cons, List.not_mem_nil, or_false] at hv; rcases hv with rfl | rfl | rfl | rfl | rfl <;> first | rfl | assumption) | (intro v hv; simp only [List.mem_cons, List.not_mem_nil, or_false] at hv; rcases hv with rfl | rfl | rfl <;> first | rfl | assumption) | (intro v hv; simp only [List.mem_cons, List.not_mem_nil, or_false] at hv; rcases hv with rfl | rfl <;> first | rfl | assumption)) rfl rfl rfl ?_
    intro wd hgd hXd hRd
    refine Go.Sx.V rfl wu rfl rfl (asg rfl) ?_
    refine wr_nil (post_thenN (wc_ret ?_))
    have hz9 := hd9.size
    refine post_retC2 rfl rfl rfl ag59 hRd rfl ?_
    rw [hcl] at hres
    refine ⟨hXd w (by omega) hE, av, bv, e2, F, rfl, hao, hbo, ?_, fun f hf hd => ?_⟩
    · rcases hres with ⟨rfl, _⟩ | ⟨rfl, rfl, _, pos, hp, hpl⟩
      · exact .inl rfl
      · refine .inr ⟨rfl, hFy, (OwnI.ints hco).kept hgd (fun e => by have := (Own.lt hco rb e).1; omega), pos, ?_, hpl⟩
        have hGr : Gr (List.range wb.heap.size) wc wd := Gr.of_grown hgd fun k hk => by cases hk; exact List.mem_range.2 (by omega)
        exact (hp.gr hGr (Newer.refl _ _)).1
    · obtain ⟨_, rfl⟩ := hu f hf hd
      rcases hres with ⟨_, h3⟩ | ⟨rfl, _⟩
      · exfalso
        have : ((xs.length : Int) - K + 1 - 1) / 2 = (((xs.length - K.toNat) / 2 : Nat) : Int) := by omega
        omega
      · exact ⟨rfl, rfl⟩
end Go.Proofs.YtmnojknfjbimdaaGreat

