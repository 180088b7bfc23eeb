/-
  The package listdecode, by contract, part 1: open, interpolate, Interpolation.
-/
import Derived.Test.YtmnojknfjbimdaaGreatWGrs1
import Derived.Test.YtmnojknfjbimdaaGreatWListd2
import Derived.Test.YtmnojknfjbimdaaGreatWKoe3
import Derived.Test.YtmnojknfjbimdaaGreatWOpen41
namespace Go.Proofs.YtmnojknfjbimdaaGreat
open Go Go.Sx Go.Pl Go.RowKit Go.Fd Go.Alg Go.Ld
structure TkP (P : FP) (x : CRec) (m D L : Int) : Prop where
  ok : ∃ h : OkF x.s.f.p x.s.f.M x.s.f.md, P = fpOf x.s.f.p x.s.f.M x.s.f.md h.1.1 h.1.2.1
  grs : GrsOk P.q x.s.xs x.s.ms x.s.k
  wl : x.ws.length = x.s.xs.length
  win : AllIn P.q x.ws
  pok : ParOk x.s.xs.length x.s.k x.t m D L
structure CInts (w : World) (x : CRec) : Prop where
  mo : Ints w x.s.f.mo x.s.f.md
  xs : Ints w x.s.pu x.s.xs
  ms : Ints w x.s.mu x.s.ms
  ws : Ints w x.wu x.ws
theorem CInts.ext {w w' : World} {x : CRec} (h : CInts w x) (hE : Ext w w') : CInts w' x := ⟨h.mo.ext hE, h.xs.ext hE, h.ms.ext hE, h.ws.ext hE⟩
def tkCells (x : CRec) (g vu : Value) (m D L : Int) : List Value := [.int .i64 x.s.f.p, .int .i64 x.s.f.M, x.s.f.mo, .int .i64 x.s.k, x.s.pu, x.s.mu, g, x.wu, vu, .int .i64 x.t, .int .i64 m, .int .i64 D, .int .i64 L]
structure TkV (w : World) (P : FP) (x : CRec) (m D L : Int) (kv : Value) : Prop where
  ex : ∃ b g vu, kv = .pointer (some ⟨b, 0, none⟩) ∧ Blk w b 98 (tkCells x g vu m D L).toArray ∧ GFV w P g ∧ Ints w vu (vals P x.ws x.s.ms)
  ints : CInts w x
theorem TkV.ext {w w' : World} {P : FP} {x : CRec} {m D L : Int} {kv : Value} (h : TkV w P x m D L kv) (hE : Ext w w') : TkV w' P x m D L kv := by
  obtain ⟨⟨b, g, vu, h1, h2, h3, h4⟩, h5⟩ := h
  exact ⟨⟨b, g, vu, h1, h2.ext hE, h3.ext hE, h4.ext hE⟩, h5.ext hE⟩
open Classical in
noncomputable def errC (x : CRec) : Int := if h : OkF x.s.f.p x.s.f.M x.s.f.md then taskE (fpOf x.s.f.p x.s.f.M x.s.f.md h.1.1 h.1.2.1).q x.s.xs x.s.ms x.s.k x.ws x.t else 1
theorem errC_ok {x : CRec} (h : errC x = 0) : ∃ P m D L, TkP P x m D L ∧ par x.s.xs.length x.s.k x.t = ([m, D, L], 0) := by
  rw [errC] at h
  split at h
  · rename_i hok
    rw [taskE] at h
    split at h
    · rename_i h1; exact absurd h h1
    · rename_i h1
      split at h
      · rename_i h2; exact absurd h h2
      · rename_i h2
        obtain ⟨m, D, L, hp, hpo⟩ := par_ok h
        obtain ⟨e1, e2⟩ := (elE_ok (by decide)).1 (Classical.byContradiction h2)
        exact ⟨_, m, D, L, ⟨⟨hok, rfl⟩, grsE_ok.1 (Classical.byContradiction h1), by omega, e2, hpo⟩, hp⟩
  · omega
theorem TkP.uniq {P P' : FP} {x : CRec} {m D L m' D' L' : Int} (h : TkP P x m D L) (h' : TkP P' x m' D' L') : P = P' := by
  obtain ⟨h1, e1⟩ := h.ok
  obtain ⟨h2, e2⟩ := h'.ok
  rw [e1, e2]
set_option maxRecDepth 10000 in
theorem lOpen (x : CRec) (w : World) (hi : CInts w x) :
    Calls Tryz.prog 30 #[x.s.val, x.wu, .int .i64 x.t] w (RetX w fun v w' => ∃ kv, v = .tuple #[kv, .int .i64 (errC x)] ∧ (errC x = 0 → ∃ P m D L, TkP P x m D L ∧ par x.s.xs.length x.s.k x.t = ([m, D, L], 0) ∧ TkV w' P x m D L kv)) := by
  obtain ⟨hmo, hxs, hms, hws⟩ := hi
  obtain ⟨⟨⟨p, M, mo, md⟩, K, pu, xs, mu, ms⟩, wu', ws, t⟩ := x
  dsimp only at hmo hxs hms hws
  have hwl := hws.le
  refine calls3 Tryz.func30 rfl rfl ?_
  refine wc_seq ?_
  refine wc_region [0,1,2] rfl ?_
  refine BXA rfl wu rfl rfl ?_
  intro sb w1 hE hB hsb
  refine Go.Sx.V rfl wu rfl rfl (asg rfl) ?_
  refine Go.Sx.V rfl wu rfl rfl (asg rfl) ?_
  refine wr_nil (post_thenN (wc_seq (wc_seq ?_)))
  have hsbl := hB.lt
  refine wc_region [0,1,2] rfl ?_
  refine Go.Sx.V rfl wu rfl rfl (ldA rfl ag26 hB) ?_
  refine C rfl wu rfl rfl Tryz.call47 (gsCheck p M K mo pu mu md xs ms _ (hmo.ext hE) (hxs.ext hE) (hms.ext hE)) ?_
  rintro _ w2 hE2 rfl
  replace hB := hB.ext hE2
  replace hE := hE.trans hE2
  refine Go.Sx.V rfl wu rfl rfl (asg rfl) ?_
  refine wr_nil (post_thenN (wc_seq ?_))
  refine wc_region [0,1] rfl ?_
  refine Go.Sx.V rfl wu rfl rfl (mv rfl) ?_
  refine Go.Sx.V rfl wu rfl rfl (neqI rfl rfl) ?_
  refine wr_nil (post_thenN ?_)
  have fin : ∀ (kv : Value) (e : Int) (w' : World), Ext w w' → e ≠ 0 → e = errC ⟨⟨⟨p, M, mo, md⟩, K, pu, xs, mu, ms⟩, wu', ws, t⟩ → Ext w w' ∧ ∃ kv', Value.tuple #[kv, .int .i64 e] = .tuple #[kv', .int .i64 (errC ⟨⟨⟨p, M, mo, md⟩, K, pu, xs, mu, ms⟩, wu', ws, t⟩)] ∧ (errC ⟨⟨⟨p, M, mo, md⟩, K, pu, xs, mu, ms⟩, wu', ws, t⟩ = 0 → ∃ P m D L, TkP P ⟨⟨⟨p, M, mo, md⟩, K, pu, xs, mu, ms⟩, wu', ws, t⟩ m D L ∧ par xs.length K t = ([m, D, L], 0) ∧ TkV w' P ⟨⟨⟨p, M, mo, md⟩, K, pu, xs, mu, ms⟩, wu', ws, t⟩ m D L kv') := fun kv e w' h1 h2 h3 => ⟨h1, kv, by rw [h3], fun h => absurd (h3.trans h) h2⟩
  refine wc_cond rfl ?_ ?_
  · intro h
    simp at h
    refine wc_seq ?_
    refine wc_region [0,1,2] rfl ?_
    refine Go.Sx.V rfl wu rfl rfl (mv rfl) ?_
    refine Go.Sx.V rfl wu rfl rfl (asg rfl) ?_
    refine Go.Sx.V rfl wu rfl rfl (asg rfl) ?_
    refine wr_nil (post_thenN (wc_ret (post_thenR ?_)))
    refine post_ret2 rfl rfl rfl ?_
    refine fin _ _ _ hE h ?_
    rw [errC]
    split
    · rename_i hok
      rw [taskE, gsT, dif_pos hok]
      rw [gsT, dif_pos hok] at h
      rw [if_pos h]
    · rename_i hno
      rw [gsT, dif_neg hno]
  · intro h
    simp at h
    obtain ⟨hok, hgr⟩ : ∃ hok : OkF p M md, GrsOk (fpOf p M md hok.1.1 hok.1.2.1).q xs ms K := by
      rw [gsT] at h
      split at h
      · rename_i hok; exact ⟨hok, grsE_ok.1 h⟩
      · omega
    obtain ⟨P, hP⟩ : ∃ P, P = fpOf p M md hok.1.1 hok.1.2.1 := ⟨_, rfl⟩
    rw [← hP] at hgr
    have hldE : errC ⟨⟨⟨p, M, mo, md⟩, K, pu, xs, mu, ms⟩, wu', ws, t⟩ = if elE P.q ws xs.length 4 ≠ 0 then elE P.q ws xs.length 4 else (par xs.length K t).2 := by
      rw [errC, dif_pos hok, taskE, ← hP, if_neg (by rw [grsE_ok.2 hgr]; simp)]
    have h64 := hgr.n64
    have hml := hgr.ml
    refine wc_skip (post_thenN (wc_seq ?_))
    refine wc_region [0,1,2,3,4,5,6,7] rfl ?_
    refine Go.Sx.V rfl wu rfl rfl (fad rfl fa26_0) ?_
    refine Go.Sx.V rfl wu rfl rfl (ldA rfl ag24 hB) ?_
    refine C rfl wu rfl rfl Tryz.call48 (fNew p M mo md _ (hmo.ext hE)) ?_
    rintro _ w3 hE3 hnew
    obtain ⟨gv, ec, rfl, hcase⟩ := fnew_split hnew
    clear hnew
    replace hB := hB.ext hE3
    replace hE := hE.trans hE3
    refine Go.Sx.V rfl wu rfl rfl (mv rfl) ?_
    refine Go.Sx.V rfl wu rfl rfl (ext rfl rfl) ?_
    refine Go.Sx.V rfl wu rfl rfl (ext rfl rfl) ?_
    refine Go.Sx.V rfl wu rfl rfl (asg rfl) ?_
    refine Go.Sx.V rfl wu rfl rfl (asg rfl) ?_
    refine wr_nil (post_thenN (wc_seq (wc_seq ?_)))
    obtain ⟨rfl, hG⟩ : ec = 0 ∧ GFV w3 P gv := by
      rcases hcase with ⟨_, _, hno⟩ | ⟨h0, hok', hg⟩
      · exact absurd hok hno
      · exact ⟨h0, by rw [hP]; exact hg⟩
    clear hcase
    have hsz3 := hE.size
    have hxi := hxs.ext hE
    have hwi := hws.ext hE
    refine wc_region [0,1,2,3,4,5] rfl ?_
    refine Go.Sx.V rfl wu rfl rfl (mv rfl) ?_
    refine Go.Sx.V rfl wu rfl rfl (lenI rfl ty22 hwi) ?_
    refine Go.Sx.V rfl wu rfl rfl (fad rfl fa26_2) ?_
    refine Go.Sx.V rfl wu rfl rfl (ldB rfl na22 hB) ?_
    refine Go.Sx.V rfl wu rfl rfl (lenI rfl ty22 hxi) ?_
    refine Go.Sx.V rfl wu rfl rfl (neqI rfl rfl) ?_
    refine wr_nil (post_thenN ?_)
    refine wc_cond rfl ?_ ?_
    · intro h1
      simp at h1
      refine wc_seq ?_
      refine wc_region [0,1] rfl ?_
      refine Go.Sx.V rfl wu rfl rfl (asg rfl) ?_
      refine Go.Sx.V rfl wu rfl rfl (asg rfl) ?_
      refine wr_nil (post_thenN (wc_ret (post_thenR ?_)))
      refine post_ret2 rfl rfl rfl ?_
      refine fin _ _ _ hE (by omega) ?_
      have he : elE P.q ws xs.length 4 = 4 := by rw [elE, if_pos (by omega)]
      rw [hldE, he]; rfl
    · intro h1
      simp at h1
      have hwx : ws.length = xs.length := by omega
      refine wc_skip (post_thenN (wc_seq (wc_seq ?_)))
      refine wc_region [0,1,2] rfl ?_
      refine Go.Sx.V rfl wu rfl rfl (mv rfl) ?_
      refine Go.Sx.V rfl wu rfl rfl (lenI rfl ty22 hwi) ?_
      refine Go.Sx.V rfl wu rfl rfl (mv rfl) ?_
      refine wr_nil (post_thenN (wc_block ?_))
      have hX := Ext.refl w3
      refine wc_loop (fun i : Nat => [(1, wu'), (2, .int .i64 t), (3, .pointer (some ⟨sb, 0, none⟩)), (9, gv), (35, wu'), (36, .int .i64 ws.length), (37, .int .i64 i)])
        (fun i w' => i ≤ ws.length ∧ Ext w w' ∧ Ext w3 w' ∧ ∀ j : Nat, j < i → 0 ≤ gi ws j ∧ gi ws j < P.q) (fun i => ws.length - i) 0 ⟨rfl, rfl, rfl, rfl, rfl, rfl, rfl, trivial⟩ ⟨by omega, hE, hX, fun j hj => by omega⟩ ?_
      clear hE hX hxi hwi
      rintro i w4 ⟨i1, hE, hX, hal⟩
      have hwi := hws.ext hE
      try dsimp only
      refine wc_seq ?_
      refine wc_region [0] rfl ?_
      refine Go.Sx.V rfl wu rfl rfl (lssI rfl rfl) ?_
      refine wr_nil (post_thenN (wc_seq ?_))
      refine wc_cond rfl ?_ ?_
      · intro hc
        simp at hc
        refine wc_skip (post_thenN (wc_seq (wc_block (wc_seq ?_))))
        refine wc_region [0,1,2] rfl ?_
        refine Go.Sx.V rfl wu rfl rfl (iadI rfl rfl ty22) ?_
        refine Go.Sx.V rfl wu rfl rfl (ldI rfl na3) ?_
        refine Go.Sx.V rfl wu rfl rfl (asg rfl) ?_
        refine wr_nil (post_thenN (wc_seq ?_))
        refine wc_region [0,1,2,3] rfl ?_
        refine Go.Sx.V rfl wu rfl rfl (mv rfl) ?_
        refine Go.Sx.V rfl wu rfl rfl (mv rfl) ?_
        refine C rfl wu rfl rfl Tryz.call55 (gIs P gv _ _ (hG.ext hX)) ?_
        rintro _ w5 hE5 rfl
        replace hE := hE.trans hE5
        replace hX := hX.trans hE5
        refine Go.Sx.V rfl wu rfl rfl (notB rfl) ?_
        refine wr_nil (post_thenN ?_)
        refine wc_cond rfl ?_ ?_
        · intro h3
          simp at h3
          refine wc_seq ?_
          refine wc_region [0,1] rfl ?_
          refine Go.Sx.V rfl wu rfl rfl (asg rfl) ?_
          refine Go.Sx.V rfl wu rfl rfl (asg rfl) ?_
          refine wr_nil (post_thenN (wc_ret (post_blockR (post_thenR (post_loopR (post_blockR (post_thenR ?_)))))))
          refine post_ret2 rfl rfl rfl ?_
          refine fin _ _ _ hE (by omega) ?_
          have hno : ¬ AllIn P.q ws := fun ha => by
            have := ha i hc
            omega
          have he : elE P.q ws xs.length 4 = 2 := by rw [elE, if_neg (by omega), if_pos hno]
          rw [hldE, he]; rfl
        · intro h3
          simp at h3
          refine wc_skip (post_blockN (post_thenN ?_))
          refine wc_region [0,1] rfl ?_
          refine Go.Sx.V rfl wu rfl rfl (addI rfl rfl) ?_
          refine Go.Sx.V rfl wu rfl rfl (mv rfl) ?_
          refine wr_nil ?_
          exact post_loopN (i + 1) ⟨rfl, rfl, rfl, rfl, rfl, rfl, rfl, trivial⟩ ⟨by omega, hE, hX, allIn_step hal h3⟩ (by omega)
      · intro hc
        simp at hc
        have hwin : AllIn P.q ws := fun j hj => hal j (by omega)
        have hel : elE P.q ws xs.length 4 = 0 := (elE_ok (by decide)).2 ⟨by omega, hwin⟩
        rw [hel, if_neg (by omega)] at hldE
        replace hB := hB.ext hX
        obtain ⟨x0, y0, z0, hp3⟩ : ∃ x y z, (par xs.length K t).1 = [x, y, z] := by
          have := par_len xs.length K t
          match (par xs.length K t).1, this with
          | [x, y, z], _ => exact ⟨x, y, z, rfl⟩
        have hpv : PV (par xs.length K t) = .tuple #[.agg [Value.int .i64 x0, .int .i64 y0, .int .i64 z0].toArray, .int .i64 (par xs.length K t).2] := by rw [PV, hp3]; rfl
        refine wc_exit (post_thenE (post_loopE (post_blockX (post_thenN (wc_seq ?_)))))
        refine wc_region [0,1,2,3,4,5,6,7,8,9,10,11] rfl ?_
        refine Go.Sx.V rfl wu rfl rfl (mv rfl) ?_
        refine Go.Sx.V rfl wu rfl rfl (lenI rfl ty22 hwi) ?_
        refine Go.Sx.V rfl wu rfl rfl (fad rfl fa26_1) ?_
        refine Go.Sx.V rfl wu rfl rfl (ldB rfl na3 hB) ?_
        refine Go.Sx.V rfl wu rfl rfl (mv rfl) ?_
        rw [hwx]
        refine C rfl wu rfl rfl Tryz.call28 (lParams xs.length K t _) ?_
        rintro _ w6 hE6 rfl
        replace hB := hB.ext hE6
        replace hE := hE.trans hE6
        replace hX := hX.trans hE6
        rw [hpv]
        refine Go.Sx.V rfl wu rfl rfl (mv rfl) ?_
        refine Go.Sx.V rfl wu rfl rfl (ext rfl rfl) ?_
        refine Go.Sx.V rfl wu rfl rfl (ext rfl rfl) ?_
        refine AL rfl wu rfl zv43 ?_
        intro pb w7 hE7 hPB hpb
        have hB7 := hB.ext hE7
        have hBl := hB.lt
        have hE7' := hE.trans hE7
        have hX7 := hX.trans hE7
        refine STB (vs := [.int .i64 x0, .int .i64 y0, .int .i64 z0]) (cs' := [.int .i64 x0, .int .i64 y0, .int .i64 z0]) rfl wu rfl rfl rfl sv43 (by intro h; cases h) (by assumption) (by first | (simp [Value.oneCell']; done) | (intro v hv; simp only [List.mem_cons, List.not_mem_nil, or_false] at hv; rcases hv with rfl | rfl | rfl | rfl | rfl <;> first | rfl | assumption) | (intro v hv; simp only [List.mem_cons, List.not_mem_nil, or_false] at hv; rcases hv with rfl | rfl | rfl <;> first | rfl | assumption) | (intro v hv; simp only [List.mem_cons, List.not_mem_nil, or_false] at hv; rcases hv with rfl | rfl <;> first | rfl | assumption)) rfl rfl rfl ?_
        intro w8 hg8 hX8 hPB8
        refine Go.Sx.V rfl wu rfl rfl (asg rfl) ?_
        refine wr_nil (post_thenN (wc_seq (wc_seq ?_)))
        have hB8 := hB7.grown hg8 (by intro hh; cases hh; omega)
        have hE8 := hX8 w (by have := hE.size; omega) hE7'
        have hX38 := hX8 w3 (by have := hX.size; omega) hX7
        clear hE hE7 hE7' hX hX7 hB hB7 hPB
        refine wc_region [0,1] rfl ?_
        refine Go.Sx.V rfl wu rfl rfl (mv rfl) ?_
        refine Go.Sx.V rfl wu rfl rfl (neqI rfl rfl) ?_
        refine wr_nil (post_thenN ?_)
        refine wc_cond rfl ?_ ?_
        · intro h4
          simp at h4
          refine wc_seq ?_
          refine wc_region [0,1,2] rfl ?_
          refine Go.Sx.V rfl wu rfl rfl (mv rfl) ?_
          refine Go.Sx.V rfl wu rfl rfl (asg rfl) ?_
          refine Go.Sx.V rfl wu rfl rfl (asg rfl) ?_
          refine wr_nil (post_thenN (wc_ret (post_thenR ?_)))
          refine post_ret2 rfl rfl rfl ?_
          exact fin _ _ _ hE8 h4 hldE.symm
        · intro h4
          simp at h4
          refine wc_skip (post_thenN (wc_seq ?_))
          obtain ⟨m, D, L, hp, hpo⟩ := par_ok h4
          obtain ⟨rfl, rfl, rfl⟩ : x0 = m ∧ y0 = D ∧ z0 = L := by
            rw [hp] at hp3
            simpa using hp3.symm
          have hwi := hws.ext hE8
          have hsl1 : wu'.cells = #[wu'] := one_cells hws.one
          refine wc_draw mixed [0,1,2,3,4,6,7,5,8,9,10] (by kernel_rfl) ?_
          intro w9 hd9 _
          replace hE8 := hE8.trans hd9
          replace hX38 := hX38.trans hd9
          replace hB8 := hB8.ext hd9
          replace hPB8 := hPB8.ext hd9
          replace hwi := hwi.ext hd9
          refine Go.Sx.V rfl wu rfl rfl (ldA rfl ag26 hB8) ?_
          refine Go.Sx.V rfl wu rfl rfl (mv rfl) ?_
          refine Go.Sx.V rfl wu rfl rfl (mv rfl) ?_
          refine Go.Sx.V rfl wu rfl rfl (mv rfl) ?_
          refine Go.Sx.V rfl wu rfl rfl (lenI rfl ty22 hwi) ?_
          refine Go.Sx.V rfl wu rfl rfl (mv rfl) ?_
          refine Go.Sx.V rfl wu rfl rfl (ldA rfl ag43 hPB8) ?_
          refine MKI (n := ws.length) rfl wu rfl rfl ty22 ?_
          intro vu w10 hE10 hvo hvi hvb
          have hB10 := hB8.ext hE10
          have hPB10 := hPB8.ext hE10
          have hE10' := hE8.trans hE10
          have hX10 := hX38.trans hE10
          have hv1 : vu.cells = #[vu] := one_cells hvi.one
          have hsz9 := hd9.size
          have hg1 : gv.cells = #[gv] := by obtain ⟨gb, _, _, _, _, _, _, e, _⟩ := hG.ex; rw [e]; rfl
          refine Go.Sx.V rfl wu rfl rfl (bld (us := [.agg #[.int .i64 p, .int .i64 M, mo, .int .i64 K, pu, mu], gv, wu', vu, .int .i64 t, .agg #[.int .i64 x0, .int .i64 y0, .int .i64 z0]]) (r := tkCells ⟨⟨⟨p, M, mo, md⟩, K, pu, xs, mu, ms⟩, wu', ws, t⟩ gv vu x0 y0 z0) rfl (bdTs p M mo K pu mu gv wu' vu t x0 y0 z0 hg1 hsl1 hv1)) ?_
          refine BXA rfl wu rfl rfl ?_
          intro tb w11 hE11 hTB htb
          refine Go.Sx.V rfl wu rfl rfl (asg rfl) ?_
          refine wr_nil (post_thenN (wc_seq (wc_seq ?_)))
          have hsz8 := hE8.size
          have hsz10 := hE10.size
          have hsz11 := hE11.size
          have hvne : vu.ownBlock ≠ some sb := fun e => by
            rw [hvb] at e
            have := Option.some.inj e
            have := hB8.lt
            omega
          have hvnt : vu.ownBlock ≠ some tb := fun e => by
            rw [hvb] at e
            have := Option.some.inj e
            have := (Own.lt hvo _ hvb).2
            omega
          have hvo' : OwnI w3.heap.size w11 vu 3 (upd ws.length (fun i => (inK P (gi ws i) * invK P (inK P (gi ms i))).1) (fun _ => 0) 0) := by
            rw [upd_zero']
            exact Own.ext (Own.mono hvo (by have := hX38.size; omega)) hE11
          have hE11' := hE10'.trans hE11
          have hX11 := hX10.trans hE11
          have hB11 := hB10.ext hE11
          have hwi11 := hws.ext hE11'
          refine wc_region [0,1,2] rfl ?_
          refine Go.Sx.V rfl wu rfl rfl (mv rfl) ?_
          refine Go.Sx.V rfl wu rfl rfl (lenI rfl ty22 hwi11) ?_
          refine Go.Sx.V rfl wu rfl rfl (mv rfl) ?_
          refine wr_nil (post_thenN (wc_block ?_))
          refine wc_loop (fun i : Nat => [(1, wu'), (3, .pointer (some ⟨sb, 0, none⟩)), (9, gv), (15, .pointer (some ⟨tb, 0, none⟩)), (68, wu'), (69, .int .i64 ws.length), (70, .int .i64 i)])
            (fun i w' => i ≤ ws.length ∧ Ext w w' ∧ Ext w3 w' ∧ Blk w' sb 26 #[.int .i64 p, .int .i64 M, mo, .int .i64 K, pu, mu] ∧ Blk w' tb 98 (tkCells ⟨⟨⟨p, M, mo, md⟩, K, pu, xs, mu, ms⟩, wu', ws, t⟩ gv vu x0 y0 z0).toArray ∧ OwnI w3.heap.size w' vu 3 (upd ws.length (fun i => (inK P (gi ws i) * invK P (inK P (gi ms i))).1) (fun _ => 0) i)) (fun i => ws.length - i) 0 ⟨rfl, rfl, rfl, rfl, rfl, rfl, rfl, trivial⟩ ⟨by omega, hE11', hX11, hB11, hTB, hvo'⟩ ?_
          clear hB11 hTB hvo' hE11' hX11 hwi11 hB10 hPB10 hE10' hX10 hvo hvi hB8 hE8 hX38 hPB8 hwi
          rintro i w12 ⟨i1, hE, hX, hB, hTB, hvo⟩
          have hwi := hws.ext hE
          have hmi := hms.ext hE
          have hvi := OwnI.ints hvo
          have hul := upd_length ws.length (fun i => (inK P (gi ws i) * invK P (inK P (gi ms i))).1) (fun _ => (0 : Int)) i
          try dsimp only
          refine wc_seq ?_
          refine wc_region [0] rfl ?_
          refine Go.Sx.V rfl wu rfl rfl (lssI rfl rfl) ?_
          refine wr_nil (post_thenN (wc_seq ?_))
          refine wc_cond rfl ?_ ?_
          · intro hc5
            simp at hc5
            have hmz : inK P (gi ms i) ≠ 0 := inK_ne (hgr.min i (by omega)) (hgr.noz i (by omega))
            refine wc_skip (post_thenN (wc_seq (wc_block (wc_seq ?_))))
            refine wc_region [0,1,2,3,4] rfl ?_
            refine Go.Sx.V rfl wu rfl rfl (mv rfl) ?_
            refine Go.Sx.V rfl wu rfl rfl (iadI rfl rfl ty22) ?_
            refine Go.Sx.V rfl wu rfl rfl (ldI rfl na3) ?_
            refine Go.Sx.V rfl wu rfl rfl (asg rfl) ?_
            refine Go.Sx.V rfl wu rfl rfl (asg rfl) ?_
            refine wr_nil (post_thenN ?_)
            refine wc_draw mixed [0,1,2,3,4,5,6,7,8,9,10,11,12,13,14,15,16,17] (by kernel_rfl) ?_
            intro w13 hd13 _
            replace hE := hE.trans hd13
            replace hX := hX.trans hd13
            replace hB := hB.ext hd13
            replace hTB := hTB.ext hd13
            replace hwi := hwi.ext hd13
            replace hmi := hmi.ext hd13
            replace hvi := hvi.ext hd13
            replace hvo := hvo.ext hd13
            refine Go.Sx.V rfl wu rfl rfl (mv rfl) ?_
            refine Go.Sx.V rfl wu rfl rfl (nchk rfl) ?_
            refine Go.Sx.V rfl wu rfl rfl (fad rfl fa98_3) ?_
            refine Go.Sx.V rfl wu rfl rfl (ldB rfl na22 hTB) ?_
            refine Go.Sx.V rfl wu rfl rfl (mv rfl) ?_
            refine Go.Sx.V rfl wu rfl rfl (mv rfl) ?_
            refine Go.Sx.V rfl wu rfl rfl (mv rfl) ?_
            refine Go.Sx.V rfl wu rfl rfl (fad rfl fa26_3) ?_
            refine Go.Sx.V rfl wu rfl rfl (ldB rfl na22 hB) ?_
            refine Go.Sx.V rfl wu rfl rfl (mv rfl) ?_
            refine Go.Sx.V rfl wu rfl rfl (iadI rfl rfl ty22 hmi (by omega) (by omega)) ?_
            refine Go.Sx.V rfl wu rfl rfl (ldI rfl na3 hmi) ?_
            refine C rfl wu rfl rfl Tryz.call56 (gDiv P gv (gi ws i) (gi ms i) _ (hG.ext hX) hmz) ?_
            rintro _ w14 hE14 rfl
            replace hE := hE.trans hE14
            replace hX := hX.trans hE14
            replace hB := hB.ext hE14
            replace hTB := hTB.ext hE14
            replace hvo := hvo.ext hE14
            have hvi := OwnI.ints hvo
            refine Go.Sx.V rfl wu rfl rfl (mv rfl) ?_
            refine Go.Sx.V rfl wu rfl rfl (ext rfl rfl) ?_
            refine Go.Sx.V rfl wu rfl rfl (ext rfl rfl) ?_
            refine Go.Sx.V rfl wu rfl rfl (iadI rfl rfl ty22 hvi (by omega) (by omega)) ?_
            refine STI rfl wu rfl rfl sz3 (by intro h; kernel_rfl) ?_
            intro w15 hg15 hX15 ho15 hi15
            refine wr_nil (post_blockN (post_thenN ?_))
            rw [show (inK P (gi ws i) * invK P (inK P (gi ms i))).1 = (fun i : Nat => (inK P (gi ws i) * invK P (inK P (gi ms i))).1) ((i : Int)).toNat by simp, upd_step (by omega)] at ho15
            refine wc_region [0,1] rfl ?_
            refine Go.Sx.V rfl wu rfl rfl (addI rfl rfl) ?_
            refine Go.Sx.V rfl wu rfl rfl (mv rfl) ?_
            refine wr_nil ?_
            exact post_loopN (i + 1) ⟨rfl, rfl, rfl, rfl, rfl, rfl, rfl, trivial⟩ ⟨by omega, hX15 _ hsz3 hE, hX15 _ (Nat.le_refl _) hX, hB.grown hg15 hvne, hTB.grown hg15 hvnt, ho15⟩ (by omega)
          · intro hc5
            simp at hc5
            obtain rfl : i = ws.length := by omega
            rw [upd_last ws.length _ _ (Int.le_refl _)] at hvo
            refine wc_exit (post_thenE (post_loopE (post_blockX (post_thenN (wc_seq ?_)))))
            refine wc_region [0,1,2] rfl ?_
            refine Go.Sx.V rfl wu rfl rfl (mv rfl) ?_
            refine Go.Sx.V rfl wu rfl rfl (asg rfl) ?_
            refine Go.Sx.V rfl wu rfl rfl (asg rfl) ?_
            refine wr_nil (post_thenN (wc_ret ?_))
            refine post_ret2 rfl rfl rfl ?_
            refine ⟨hE, _, by rw [hldE, h4], fun _ => ⟨P, x0, y0, z0, ⟨⟨hok, hP⟩, hgr, hwx, hwin, hpo⟩, hp, ⟨⟨tb, gv, vu, rfl, hTB, hG.ext hX, OwnI.ints hvo⟩, ⟨hmo.ext hE, hxs.ext hE, hms.ext hE, hws.ext hE⟩⟩⟩⟩
end Go.Proofs.YtmnojknfjbimdaaGreat

