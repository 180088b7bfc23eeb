/-
  The reference's test of a codeword, by contract: every codeword is found.
-/
import Derived.Test.YtmnojknfjbimdaaGreatWRLin3
namespace Go.Proofs.YtmnojknfjbimdaaGreat
open Go Go.Sx Go.Pl Go.RowKit Go.Fd Go.Alg Go.Ld
theorem FV.with {w w' : World} {P : FP} {mo mo' : Value} {md : List Int} (h : FV w P mo md) (hi : Ints w' mo' md) : FV w' P mo' md := ⟨hi, h.p, h.m, h.q, h.mdf, h.one, h.len, h.lo⟩
set_option maxRecDepth 10000 in
theorem r12Field (P : FP) (mo : Value) (md : List Int) (w : World) (hF : FV w P mo md) :
    Calls Tryz.prog 109 #[fv P mo] w (RetX w fun r w' => ∃ mo', r = fv P mo' ∧ IntsX (List.range w.heap.size) w' mo' md) := by
  have hmd : md.length ≤ 8 := by
    by_cases e : P.M = 1
    · rw [hF.one e]; simp
    · rw [hF.len e]; exact hF.m
  have hmi := hF.ints
  refine calls1 Tryz.func109 rfl rfl ?_
  refine wc_seq ?_
  refine wc_region [0,1] rfl ?_
  refine BXA rfl wu rfl rfl ?_
  intro fb w1 hE hB hg
  refine AL rfl wu rfl zv24 ?_
  intro rb w2 hE2 hR hrb
  have hz1 := hE.size
  replace hE := hE.trans hE2
  replace hB := hB.ext hE2
  refine wr_nil (post_thenN (wc_seq ?_))
  have hrl := hR.lt
  replace hmi := hmi.ext hE
  refine wc_draw mixed [0,1,2,3,5,6,4,7,8,9] (by kernel_rfl) ?_
  intro w3 hd _
  replace hE := hE.trans hd
  replace hR := hR.ext hd
  replace hB := hB.ext hd
  replace hmi := hmi.ext hd
  refine Go.Sx.V rfl wu rfl rfl (fad rfl fa24_0) ?_
  refine Go.Sx.V rfl wu rfl rfl (ldB rfl na3 hB) ?_
  refine Go.Sx.V rfl wu rfl rfl (fad rfl fa24_1) ?_
  refine Go.Sx.V rfl wu rfl rfl (ldB rfl na3 hB) ?_
  refine Go.Sx.V rfl wu rfl rfl (fad rfl fa24_2) ?_
  refine Go.Sx.V rfl wu rfl rfl (ldB rfl na22 hB) ?_
  have hzd := hd.size
  refine BS0 rfl wu rfl ty22 ?_
  intro gl w6 hE6 hgl hgl2
  have hz6 := hE6.size
  replace hE := hE.trans hE6
  replace hR := hR.ext hE6
  refine AP0 rfl wu rfl rfl rfl ty22 hmi hE6 (by omega) ?_
  intro s w8 hE8 hs hsb
  have hso : s.oneCell' = true := hs.one
  have hz8 := hE8.size
  replace hE := hE.trans hE8
  replace hR := hR.ext hE8
  refine Go.Sx.V rfl wu rfl rfl (bld (us := [.int .i64 P.p, .int .i64 P.M, s]) (r := [.int .i64 P.p, .int .i64 P.M, s]) rfl (bdF _ _ s (cells_ints hs))) ?_
  refine STB (vs := [.int .i64 P.p, .int .i64 P.M, s]) (cs' := [.int .i64 P.p, .int .i64 P.M, s]) rfl wu rfl rfl rfl sv24 (by intro h; kernel_rfl) (by assumption) (by first | (simp [Value.oneCell']; done) | (intro v hv; simp only [List.mem_cons, List.not_mem_nil, or_false] at hv; rcases hv with rfl | rfl | rfl | rfl | rfl <;> first | rfl | assumption) | (intro v hv; simp only [List.mem_cons, List.not_mem_nil, or_false] at hv; rcases hv with rfl | rfl | rfl <;> first | rfl | assumption) | (intro v hv; simp only [List.mem_cons, List.not_mem_nil, or_false] at hv; rcases hv with rfl | rfl <;> first | rfl | assumption)) rfl rfl rfl ?_
  intro w5 hg5 hX5 hR5
  refine wr_nil (post_thenN (wc_ret ?_))
  have hblk : ∀ k, s.ownBlock = some k → k ≠ rb ∧ w.heap.size ≤ k := fun k hk => by
    rcases hsb with h | h
    · rw [h] at hk; cases hk; omega
    · rw [h.1] at hk; cases hk; omega
  have hsn : s.ownBlock ≠ some rb := fun e => (hblk rb e).1 rfl
  refine post_retC1 rfl rfl ag24 hR5 rfl ?_
  have hs5 := hs.kept hg5 hsn
  exact ⟨hX5 _ (by omega) hE, s, rfl, hs5, .inr fun k hk hx => by
    have := (hblk k hk).2
    have := List.mem_range.1 hx
    omega⟩
set_option maxRecDepth 10000 in
theorem r12Make (P : FP) (mo : Value) (md : List Int) (u : Value) (m n : Nat) (M0 : Nat → Nat → K P) (w : World) (hF : FV w P mo md) (hgen : ∃ g : K P, HasOrder g (n1 P)) (hu : LL w u (matL P m n M0)) (hm : m ≤ 65536) (hn : n ≤ 65536) :
    Calls Tryz.prog 77 #[fv P mo, u, .int .i64 n] w (RetX w fun r w' => ∃ mo' lv a G pv, r = cdv P mo' n lv ∧ IntsX (List.range w.heap.size) w' mo' md ∧ LLX (List.range w.heap.size) w' lv (matL P a n G) ∧ Red P m n M0 a G pv) := by
  refine calls3 Tryz.func77 rfl rfl ?_
  refine wc_seq ?_
  refine wc_region [0,1] rfl ?_
  refine BXA rfl wu rfl rfl ?_
  intro fb w1 hE hB hg
  refine AL rfl wu rfl zv81 ?_
  intro rb w2 hE2 hR hrb
  have hz1 := hE.size
  have hz2 := hE2.size
  replace hE := hE.trans hE2
  replace hB := hB.ext hE2
  refine wr_nil (post_thenN (wc_seq ?_))
  have hrl := hR.lt
  refine wc_region [0,1,2,3,4,5,6,7,8] rfl ?_
  refine Go.Sx.V rfl wu rfl rfl (ldA rfl ag24 hB) ?_
  refine Go.Sx.V rfl wu rfl rfl (mv rfl) ?_
  refine Go.Sx.V rfl wu rfl rfl (mv rfl) ?_
  refine C rfl wu rfl rfl Tryz.call108 (rCanon P mo md u m n M0 _ (hF.ext hE) hgen (hu.ext hE) hm hn) ?_
  rintro _ w3 hE3 ⟨lv, pvv, a, G, pv, rfl, hL, _, hRd⟩
  have hz3 := hE3.size
  replace hE := hE.trans hE3
  replace hB := hB.ext hE3
  replace hR := hR.ext hE3
  refine Go.Sx.V rfl wu rfl rfl (mv rfl) ?_
  refine Go.Sx.V rfl wu rfl rfl (ext rfl rfl) ?_
  refine Go.Sx.V rfl wu rfl rfl (ext rfl rfl) ?_
  refine Go.Sx.V rfl wu rfl rfl (asg rfl) ?_
  refine Go.Sx.V rfl wu rfl rfl (asg rfl) ?_
  refine wr_nil (post_thenN (wc_seq ?_))
  refine wc_region [0,1,2,3,4,5] rfl ?_
  refine Go.Sx.V rfl wu rfl rfl (ldA rfl ag24 hB) ?_
  refine C rfl wu rfl rfl Tryz.call109 (r12Field P mo md _ (hF.ext hE)) ?_
  rintro _ w4 hE4 ⟨mo', rfl, hmo⟩
  replace hE := hE.trans hE4
  replace hR := hR.ext hE4
  replace hL := hL.ext hE4
  have hso : mo'.oneCell' = true := hmo.1.one
  have hlo : lv.oneCell' = true := hL.ll.one
  refine Go.Sx.V rfl wu rfl rfl (mv rfl) ?_
  refine Go.Sx.V rfl wu rfl rfl (mv rfl) ?_
  refine Go.Sx.V rfl wu rfl rfl (bld (us := [.agg #[.int .i64 P.p, .int .i64 P.M, mo'], .int .i64 n, lv]) (r := [.int .i64 P.p, .int .i64 P.M, mo', .int .i64 n, lv]) rfl (bdCd _ _ _ _ _ (one_cells hlo))) ?_
  refine STB (vs := [.int .i64 P.p, .int .i64 P.M, mo', .int .i64 n, lv]) (cs' := [.int .i64 P.p, .int .i64 P.M, mo', .int .i64 n, lv]) rfl wu rfl rfl rfl sv81 (by intro h; cases h) (by assumption) (by first | (simp [Value.oneCell']; done) | (intro v hv; simp only [List.mem_cons, List.not_mem_nil, or_false] at hv; rcases hv with rfl | rfl | rfl | rfl | rfl <;> first | rfl | assumption) | (intro v hv; simp only [List.mem_cons, List.not_mem_nil, or_false] at hv; rcases hv with rfl | rfl | rfl <;> first | rfl | assumption) | (intro v hv; simp only [List.mem_cons, List.not_mem_nil, or_false] at hv; rcases hv with rfl | rfl <;> first | rfl | assumption)) rfl rfl rfl ?_
  intro w5 hg5 hX5 hR5
  refine wr_nil (post_thenN (wc_ret ?_))
  refine post_retC1 rfl rfl ag81 hR5 rfl ?_
  have hG : Gr (List.range w2.heap.size) w4 w5 := Gr.of_grown hg5 fun k hk => by cases hk; exact List.mem_range.2 hrl
  have hsub : ∀ k ∈ List.range w.heap.size, k ∈ List.range w2.heap.size := fun k hk => List.mem_range.2 (by have := List.mem_range.1 hk; omega)
  exact ⟨hX5 _ (by omega) hE, mo', lv, a, G, pv, rfl, ((hmo.less fun k hk => List.mem_range.2 (by have := List.mem_range.1 hk; omega)).gr hG (Newer.refl _ _)).less hsub, (hL.gr hG (Newer.refl _ _)).less hsub, hRd⟩
set_option maxRecDepth 10000 in
theorem r18Code (P : FP) (p M K : Int) (mo pu mu : Value) (md xs ms : List Int) (w : World) (hF : FV w P mo md) (hv : fv P mo = .agg #[.int .i64 p, .int .i64 M, mo]) (hgen : ∃ g : Go.Fd.K P, HasOrder g (n1 P)) (hx : Ints w pu xs) (hm : Ints w mu ms) (hml : ms.length = xs.length) (hx64 : xs.length ≤ 64) (hK : 0 ≤ K ∧ K ≤ 64) :
    Calls Tryz.prog 45 #[gval p M mo K pu mu] w (RetX w fun r w' => ∃ mo' lv a G pv, r = cdv P mo' xs.length lv ∧ Ints w' mo' md ∧ LL w' lv (matL P a xs.length G) ∧ Red P K.toNat xs.length (genM P xs ms) a G pv) := by
  refine calls1 Tryz.func45 rfl rfl ?_
  refine wc_seq ?_
  refine wc_region [0,1] rfl ?_
  refine BXA rfl wu rfl rfl ?_
  intro sb w1 hE hB hg
  refine AL rfl wu rfl zv81 ?_
  intro rb w2 hE2 hR hrb
  have hz1 := hE.size
  have hz2 := hE2.size
  replace hE := hE.trans hE2
  replace hB := hB.ext hE2
  refine wr_nil (post_thenN (wc_seq ?_))
  have hrl := hR.lt
  have hxi := hx.ext hE
  refine wc_draw mixed [0,1,2,4,5,6,3,7,8] (by kernel_rfl) ?_
  intro w3 hd _
  replace hE := hE.trans hd
  replace hR := hR.ext hd
  replace hB := hB.ext hd
  replace hxi := hxi.ext hd
  refine Go.Sx.V rfl wu rfl rfl (fad rfl fa26_0) ?_
  refine Go.Sx.V rfl wu rfl rfl (ldA rfl ag24 hB) ?_
  refine Go.Sx.V rfl wu rfl rfl (ldA rfl ag26 hB) ?_
  refine Go.Sx.V rfl wu rfl rfl (fad rfl fa26_2) ?_
  refine Go.Sx.V rfl wu rfl rfl (ldB rfl na22 hB) ?_
  refine Go.Sx.V rfl wu rfl rfl (lenI rfl ty22 hxi) ?_
  refine C rfl wu rfl rfl Tryz.call78 (rRows P p M K mo pu mu md xs ms _ (hF.ext hE) hv (hx.ext hE) (hm.ext hE) hml hx64 hK) ?_
  intro rv w4 hE4 hrw
  have hz3 := hd.size
  have hz4 := hE4.size
  replace hE := hE.trans hE4
  replace hR := hR.ext hE4
  have hcall := r12Make P mo md rv K.toNat xs.length (genM P xs ms) _ (hF.ext hE) hgen hrw (by omega) (by omega)
  rw [hv] at hcall
  refine C rfl wu rfl rfl Tryz.call77 hcall ?_
  clear hcall
  rintro _ w5 hE5 ⟨mo', lv, a, G, pv, rfl, hmo, hL, hRd⟩
  replace hE := hE.trans hE5
  replace hR := hR.ext hE5
  have hso : mo'.oneCell' = true := hmo.1.one
  have hlo : lv.oneCell' = true := hL.ll.one
  refine STB (vs := [.int .i64 P.p, .int .i64 P.M, mo', .int .i64 xs.length, lv]) (cs' := [.int .i64 P.p, .int .i64 P.M, mo', .int .i64 xs.length, lv]) rfl wu rfl rfl rfl sv81 (by intro h; kernel_rfl) (by assumption) (by first | (simp [Value.oneCell']; done) | (intro v hv; simp only [List.mem_cons, List.not_mem_nil, or_false] at hv; rcases hv with rfl | rfl | rfl | rfl | rfl <;> first | rfl | assumption) | (intro v hv; simp only [List.mem_cons, List.not_mem_nil, or_false] at hv; rcases hv with rfl | rfl | rfl <;> first | rfl | assumption) | (intro v hv; simp only [List.mem_cons, List.not_mem_nil, or_false] at hv; rcases hv with rfl | rfl <;> first | rfl | assumption)) rfl rfl rfl ?_
  intro w6 hg6 hX6 hR6
  refine wr_nil (post_thenN (wc_ret ?_))
  refine post_retC1 rfl rfl ag81 hR6 rfl ?_
  have hG : Gr (List.range w4.heap.size) w5 w6 := Gr.of_grown hg6 fun k hk => by cases hk; exact List.mem_range.2 (by omega)
  exact ⟨hX6 _ (by omega) hE, mo', lv, a, G, pv, rfl, (hmo.gr hG (Newer.refl _ _)).1, (hL.gr hG (Newer.refl _ _)).ll, hRd⟩
set_option maxRecDepth 10000 in
theorem r12Has (P : FP) (mo : Value) (md : List Int) (v u : Value) (l : List Int) (a n : Nat) (G : Nat → Nat → K P) (pv : Nat → Nat) (w : World) (hF : FV w P mo md) (hok : OkF P.p P.M md) (hgen : ∃ g : K P, HasOrder g (n1 P)) (hL : LL w v (matL P a n G)) (hR : Rr a n G pv) (ha : a ≤ 64) (hn1 : 1 ≤ n) (hn : n ≤ 64) (hu : Ints w u l) (hl : AllIn P.q l) (hln : l.length = n) :
    Calls Tryz.prog 44 #[cdv P mo n v, u] w (RetX w fun r _ => ∃ b, r = .tuple #[.bool b, .int .i64 0] ∧ (Sp a n G (fun j => inK P (gi l j)) → b = true)) := by
  have hrow := rowL_of hl
  rw [hln] at hrow
  refine calls2 Tryz.func44 rfl rfl ?_
  refine wc_seq ?_
  refine wc_region [0,1,2] rfl ?_
  refine BXA rfl wu rfl rfl ?_
  intro cb w1 hE hB hg
  refine Go.Sx.V rfl wu rfl rfl (asg rfl) ?_
  refine Go.Sx.V rfl wu rfl rfl (asg rfl) ?_
  refine wr_nil (post_thenN (wc_seq ?_))
  refine wc_region [0,1,2,3] rfl ?_
  refine Go.Sx.V rfl wu rfl rfl (ldA rfl ag81 hB) ?_
  refine Go.Sx.V rfl wu rfl rfl (mv rfl) ?_
  refine C rfl wu rfl rfl Tryz.call75 (r12Word P mo md v u l a n G pv _ (hF.ext hE) hok hgen (hL.ext hE) hR ha hn1 hn (hu.ext hE) hl hln) ?_
  rintro _ w2 hE2 rfl
  replace hE := hE.trans hE2
  replace hB := hB.ext hE2
  refine Go.Sx.V rfl wu rfl rfl (asg rfl) ?_
  refine wr_nil (post_thenN (wc_seq (wc_seq ?_)))
  refine wc_region [0,1] rfl ?_
  refine Go.Sx.V rfl wu rfl rfl (mv rfl) ?_
  refine Go.Sx.V rfl wu rfl rfl (neqI rfl rfl) ?_
  refine wr_nil (post_thenN ?_)
  refine wc_condF rfl (by simp) ?_
  refine wc_skip (post_thenN (wc_seq ?_))
  refine wc_region [0,1,2,3,4,5,6,7] rfl ?_
  refine Go.Sx.V rfl wu rfl rfl (fad rfl fa81_0) ?_
  refine Go.Sx.V rfl wu rfl rfl (ldA rfl ag24 hB) ?_
  refine Go.Sx.V rfl wu rfl rfl (fad rfl fa81_2) ?_
  refine Go.Sx.V rfl wu rfl rfl (ldB rfl na29 hB) ?_
  refine Go.Sx.V rfl wu rfl rfl (mv rfl) ?_
  refine C rfl wu rfl rfl Tryz.call76 (rInCode P mo md v u a n G pv _ _ (hF.ext hE) (hL.ext hE) hR ha hn (by rw [← hrow]; exact hu.ext hE)) ?_
  rintro _ w3 hE3 ⟨b, rfl, hb⟩
  replace hE := hE.trans hE3
  refine Go.Sx.V rfl wu rfl rfl (asg rfl) ?_
  refine Go.Sx.V rfl wu rfl rfl (asg rfl) ?_
  refine wr_nil (post_thenN (wc_ret ?_))
  refine post_ret2 rfl rfl rfl ?_
  exact ⟨hE, b, rfl, hb⟩
set_option maxRecDepth 10000 in
theorem r18Has (P : FP) (p M K : Int) (mo pu mu u : Value) (md xs ms l : List Int) (w : World) (hF : FV w P mo md) (hv : fv P mo = .agg #[.int .i64 p, .int .i64 M, mo]) (hok : OkF P.p P.M md) (hgen : ∃ g : Go.Fd.K P, HasOrder g (n1 P)) (hx : Ints w pu xs) (hm : Ints w mu ms) (hg : GrsOk P.q xs ms K) (hu : Ints w u l) (hl : AllIn P.q l) (hln : l.length = xs.length) :
    Calls Tryz.prog 23 #[gval p M mo K pu mu, u] w (RetX w fun r _ => ∃ b, r = .bool b ∧ ∀ f, YB K.toNat f → l = encW P xs ms f → b = true) := by
  have hn1 := hg.n1
  have hn64 := hg.n64
  have hml := hg.ml
  have hk0 := hg.k0
  have hkn := hg.kn
  refine calls2 Tryz.func23 rfl rfl ?_
  refine wc_seq ?_
  refine wc_region [0,1] rfl ?_
  refine BXA rfl wu rfl rfl ?_
  intro sb w1 hE hB hgb
  refine Go.Sx.V rfl wu rfl rfl (asg rfl) ?_
  refine wr_nil (post_thenN (wc_seq ?_))
  refine wc_region [0,1,2,3,4,5,6,7,8] rfl ?_
  refine Go.Sx.V rfl wu rfl rfl (ldA rfl ag26 hB) ?_
  refine C rfl wu rfl rfl Tryz.call45 (r18Code P p M K mo pu mu md xs ms _ (hF.ext hE) hv hgen (hx.ext hE) (hm.ext hE) hml hn64 ⟨hk0, by omega⟩) ?_
  rintro _ w2 hE2 ⟨mo', lv, a, G, pv, rfl, hmo, hL, hRd⟩
  replace hE := hE.trans hE2
  refine Go.Sx.V rfl wu rfl rfl (mv rfl) ?_
  refine C rfl wu rfl rfl Tryz.call44 (r12Has P mo' md lv u l a xs.length G pv _ (hF.with hmo) hok hgen hL hRd.2.1 (by have := hRd.1; omega) hn1 hn64 (hu.ext hE) hl hln) ?_
  rintro _ w3 hE3 ⟨b, rfl, hb⟩
  replace hE := hE.trans hE3
  refine Go.Sx.V rfl wu rfl rfl (mv rfl) ?_
  refine Go.Sx.V rfl wu rfl rfl (ext rfl rfl) ?_
  refine Go.Sx.V rfl wu rfl rfl (ext rfl rfl) ?_
  refine Go.Sx.V rfl wu rfl rfl (asg rfl) ?_
  refine Go.Sx.V rfl wu rfl rfl (asg rfl) ?_
  refine wr_nil (post_thenN (wc_seq ?_))
  refine wc_region [0,1] rfl ?_
  refine Go.Sx.V rfl wu rfl rfl (mv rfl) ?_
  refine Go.Sx.V rfl wu rfl rfl (asg rfl) ?_
  refine wr_nil (post_thenN (wc_ret ?_))
  refine post_ret1 rfl rfl ?_
  exact ⟨hE, b, rfl, fun f hf e => hb ((hRd.2.2 _).2 (by rw [e]; exact encW_span hf))⟩
end Go.Proofs.YtmnojknfjbimdaaGreat

