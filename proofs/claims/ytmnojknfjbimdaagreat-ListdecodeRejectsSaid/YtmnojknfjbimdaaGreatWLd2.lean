/-
  The package listdecode, by contract, part 2: interpolate, near, proves, Interpolation, List, Check.
-/
import Derived.Test.YtmnojknfjbimdaaGreatWLd1
import Derived.Test.YtmnojknfjbimdaaGreatWMSya
import Derived.Test.YtmnojknfjbimdaaGreatWLib2
import Derived.Test.YtmnojknfjbimdaaGreatWBiv4
import Derived.Test.YtmnojknfjbimdaaGreatWBiv3
namespace Go.Sx
open Go Go.RowKit Go.Pl
theorem LOX.keptX {X : List Nat} {B : Nat} {w w' : World} {v v2 : Value} {E : TypeId} {L : List (List Int)} (h : LOX X B w v E L) (hg : w.grownBy w' v2.ownBlock) (hX : ∀ k, v2.ownBlock = some k → k ∈ X) (hB : ∀ k ∈ X, k < B) : LOX X B w' v E L := by
  obtain ⟨rows, h1, h2, h3⟩ := h
  refine ⟨rows, h1.kept hg ?_, h2, fun i r zs a b => ?_⟩
  · rcases hv : v.ownBlock with _ | q
    · exact .inr rfl
    · refine .inl fun e => ?_
      have := hB q (hX q e.symm)
      have := (h1.lt q hv).1
      omega
  · obtain ⟨h4, h5⟩ := h3 i r zs a b
    refine ⟨?_, h5⟩
    rcases Nat.eq_zero_or_pos zs.length with h0 | h0
    · obtain rfl := List.eq_nil_of_length_eq_zero h0
      exact ints_empty h4
    · obtain ⟨k, hk, _⟩ := h4.lt h0
      refine h4.kept hg fun e => ?_
      exact (h5.resolve_left (List.ne_nil_of_length_pos h0)).2 k hk (hX k (by rw [← e]; exact hk))
theorem LOX.lessX {X : List Nat} {B : Nat} {w : World} {v : Value} {E : TypeId} {L : List (List Int)} (h : LOX X B w v E L) : LOX [] B w v E L := by
  obtain ⟨rows, h1, h2, h3⟩ := h
  exact ⟨rows, h1, h2, fun i r zs a b => ⟨(h3 i r zs a b).1, (h3 i r zs a b).2.imp id fun h => ⟨h.1, fun _ _ hx => by cases hx⟩⟩⟩
theorem row_newR {B B' n : Nat} {w w' : World} {v r : Value} {E E' : TypeId} {X : List Nat} {L : List (List Int)} {zs : List Int} (ho : LOX X B w v E L) (hr : OwnI B' w' r E' zs) (hB : w.heap.size ≤ B') (hn : n ≤ B') : zs = [] ∨ (r.ownBlock ≠ v.ownBlock ∧ NB (List.range n) r) := by
  rcases Nat.eq_zero_or_pos zs.length with h0 | h0
  · exact .inl (List.eq_nil_of_length_eq_zero h0)
  · right
    obtain ⟨k, hk, _⟩ := (OwnI.ints hr).lt h0
    have h1 := (Own.lt hr k hk).1
    refine ⟨fun e => ?_, fun q hq hx => ?_⟩
    · have h2 := (ho.lt k (e.symm.trans hk)).2
      omega
    · rw [hk] at hq
      cases hq
      have := List.mem_range.1 hx
      omega
end Go.Sx
namespace Go.Fd
open Go.Pl Go.Alg
variable {P : FP}
theorem allIn_cl (f : Pol (K P)) : AllIn P.q (cl f) := fun i hi => by
  have h := (cl_cn f).rng (cl f)[i] (List.getElem_mem hi)
  simpa [gi, List.getD_eq_getElem?_getD, hi] using h
theorem getD_zeros (z : List Int) (n i : Nat) : (z ++ List.replicate n 0).getD i 0 = z.getD i 0 := by
  rw [List.getD_eq_getElem?_getD, List.getD_eq_getElem?_getD, List.getElem?_append]
  split
  · rfl
  · rename_i h
    rw [List.getElem?_eq_none (l := z) (by omega), List.getElem?_replicate]
    split <;> rfl
theorem pz_zeros (z : List Int) (n : Nat) : pz P (z ++ List.replicate n 0) = pz P z := Pol.ext fun i => by rw [co_pz, co_pz, getD_zeros]
theorem allIn_zeros {z : List Int} (n : Nat) (h : AllIn P.q z) : AllIn P.q (z ++ List.replicate n 0) := fun i hi => by
  have hq := P.q_two
  show 0 ≤ (z ++ List.replicate n 0).getD ((i : Int)).toNat 0 ∧ (z ++ List.replicate n 0).getD ((i : Int)).toNat 0 < P.q
  rw [Int.toNat_natCast, getD_zeros]
  by_cases e : i < z.length
  · exact h i e
  · rw [List.getD_eq_getElem?_getD, List.getElem?_eq_none (by omega)]
    exact ⟨Int.le_refl _, by show (0 : Int) < P.q; omega⟩
theorem take_next (R : List (List Int)) {i : Nat} (h : i < R.length) : R.take (i + 1) = R.take i ++ [R.getD i []] := by
  rw [List.take_add_one, List.getD_eq_getElem?_getD, List.getElem?_eq_getElem h]; rfl
end Go.Fd
namespace Go.Proofs.YtmnojknfjbimdaaGreat
open Go Go.Sx Go.Pl Go.RowKit Go.Fd Go.Alg Go.Ld
set_option maxRecDepth 10000 in
theorem lNear (P : FP) (x : CRec) (m D L : Int) (kv pv : Value) (A : List (List Int)) (na : Nat) (w : World) (hT : TkP P x m D L) (hV : TkV w P x m D L kv) (hA : LL w pv A) (hrb : RB na A) (hna : na ≤ 262144) (hal : A.length ≤ 13) :
    Calls Tryz.prog 32 #[kv, pv] w (RetX w fun r w' => (bz P A = 0 ∧ r = .tuple #[.slice none 0 0, .int .i64 7]) ∨
      (bz P A ≠ 0 ∧ ∃ s R, r = .tuple #[s, .int .i64 0] ∧ LL w' s R ∧ IsNear P x.s.xs x.s.ms x.ws x.s.k x.t (bz P A) R ∧ ∀ n, YB (n + 1) (bz P A) → R.length ≤ n)) := by
  have hV0 := hV
  obtain ⟨⟨kb, g, vu, rfl, hB, hG, hvi⟩, hI⟩ := hV
  have hk := hT.pok.hk
  have hn := hT.pok.hn
  have ht := hT.pok.ht
  have hwl := hT.wl
  obtain ⟨hok, hPe⟩ := hT.ok
  have hE := Ext.refl w
  have hkbl := hB.lt
  dsimp only [tkCells] at hB
  refine calls2 Tryz.func32 rfl rfl ?_
  refine wc_seq ?_
  refine wc_region [0,1] rfl ?_
  refine Go.Sx.V rfl wu rfl rfl (asg rfl) ?_
  refine Go.Sx.V rfl wu rfl rfl (asg rfl) ?_
  refine wr_nil (post_thenN (wc_seq ?_))
  refine wc_draw mixed [0,1,2,3,4,5,6,7,8,9,10,11,12,13,14,15] (by kernel_rfl) ?_
  intro w1 hd _
  replace hE := hE.trans hd
  replace hB := hB.ext hd
  replace hG := hG.ext hd
  replace hA := hA.ext hd
  refine Go.Sx.V rfl wu rfl rfl (mv rfl) ?_
  refine Go.Sx.V rfl wu rfl rfl (nchk rfl) ?_
  refine Go.Sx.V rfl wu rfl rfl (fad rfl fa98_1) ?_
  refine Go.Sx.V rfl wu rfl rfl (ldB rfl naE84 hB) ?_
  refine Go.Sx.V rfl wu rfl rfl (mv rfl) ?_
  refine Go.Sx.V rfl wu rfl rfl (mv rfl) ?_
  refine Go.Sx.V rfl wu rfl rfl (nchk rfl) ?_
  refine Go.Sx.V rfl wu rfl rfl (fad rfl fa98_0) ?_
  refine Go.Sx.V rfl wu rfl rfl (fad rfl fa26_1) ?_
  refine Go.Sx.V rfl wu rfl rfl (ldB rfl na3 hB) ?_
  refine C rfl wu rfl rfl Tryz.call62 (bRootsD P g pv A x.s.k na _ hG hA hrb hna (by omega)) ?_
  rintro _ w2 hE2 ⟨s, e, R, rfl, hRl, hcase, rows, hso, hrl, hdr⟩
  have hsz1 := hE.size
  replace hE := hE.trans hE2
  replace hG := hG.ext hE2
  replace hB := hB.ext hE2
  refine Go.Sx.V rfl wu rfl rfl (mv rfl) ?_
  refine Go.Sx.V rfl wu rfl rfl (ext rfl rfl) ?_
  refine Go.Sx.V rfl wu rfl rfl (ext rfl rfl) ?_
  refine Go.Sx.V rfl wu rfl rfl (asg rfl) ?_
  refine Go.Sx.V rfl wu rfl rfl (asg rfl) ?_
  refine wr_nil (post_thenN (wc_seq (wc_seq ?_)))
  refine wc_region [0,1] rfl ?_
  refine Go.Sx.V rfl wu rfl rfl (mv rfl) ?_
  refine Go.Sx.V rfl wu rfl rfl (neqI rfl rfl) ?_
  refine wr_nil (post_thenN ?_)
  rcases hcase with ⟨h0, rfl, rfl⟩ | ⟨h0, hbad, _, _⟩ | ⟨h0, _, rfl, hRe⟩
  · skip
    refine wc_condT rfl (by simp) ?_
    refine wc_seq ?_
    refine wc_region [0,1,2] rfl ?_
    refine Go.Sx.V rfl wu rfl rfl (mv rfl) ?_
    refine Go.Sx.V rfl wu rfl rfl (asg rfl) ?_
    refine Go.Sx.V rfl wu rfl rfl (asg rfl) ?_
    refine wr_nil (post_thenN (wc_ret (post_thenR ?_)))
    refine post_ret2 rfl rfl rfl ?_
    exact ⟨hE, .inl ⟨h0, rfl⟩⟩
  · exfalso
    omega
  · skip
    refine wc_condF rfl (by simp) ?_
    refine wc_skip (post_thenN (wc_seq ?_))
    obtain ⟨RR, hRt⟩ : ∃ RR, RtL (bz P A) x.s.k.toNat R RR := ⟨_, by rw [hRe]; exact found_list hG.nzd h0 x.s.k.toNat⟩
    have hRlen : R.length ≤ A.length := by
      rw [hRt.eq, List.length_map]
      refine Nat.le_trans (hRt.len A.length fun j hj => co_bz_over (by omega)) (Nat.le_refl _)
    have hRlen' : R.length ≤ 12 := by
      rw [hRt.eq, List.length_map]
      refine hRt.len 12 fun j hj => co_bz_over (by omega)
    have hrows : ∀ (i : Nat) r, i < R.length → rows[i]? = some r → ∃ gg, R.getD i [] = cl gg ∧ YB x.s.k.toNat gg ∧ OwnI w1.heap.size w2 r 3 (R.getD i []) := fun i r hi hr => by
      obtain ⟨gg, h1, h2, _⟩ := hRt.row hi
      refine ⟨gg, h1, h2, (hdr.row i r _ hr ?_).1⟩
      rw [List.getD_eq_getElem?_getD, List.getElem?_eq_getElem hi]; rfl
    have hsnr : ∀ (i : Nat) r q, i < R.length → rows[i]? = some r → r.ownBlock = some q → s.ownBlock ≠ some q ∧ q < w2.heap.size := fun i r q hi hr hq => by
      have hz : R[i]? = some (R.getD i []) := by rw [List.getD_eq_getElem?_getD, List.getElem?_eq_getElem hi]; rfl
      exact ⟨(hdr.row i r _ hr hz).2 q hq, (Own.lt (hdr.row i r _ hr hz).1 q hq).2⟩
    have hslt := hso.lt
    have hdist0 := hdr.dist
    have hsz2 := hE2.size
    obtain ⟨B, hBB⟩ : ∃ B, B = w2.heap.size := ⟨_, rfl⟩
    refine wc_region [0] rfl ?_
    refine Go.Sx.V rfl wu rfl rfl (asg rfl) ?_
    refine wr_nil (post_thenN (wc_seq (wc_seq ?_)))
    refine wc_region [0,1,2] rfl ?_
    refine Go.Sx.V rfl wu rfl rfl (mv rfl) ?_
    refine Go.Sx.V rfl wu rfl rfl (lenS rfl ty29 hso.sl) ?_
    refine Go.Sx.V rfl wu rfl rfl (mv rfl) ?_
    refine wr_nil (post_thenN (wc_block ?_))
    rw [hrl]
    refine wc_loop (fun p : Nat × Value => [(0, .pointer (some ⟨kb, 0, none⟩)), (8, p.2), (32, s), (33, .int .i64 R.length), (34, .int .i64 p.1)])
      (fun p w' => p.1 ≤ R.length ∧ Ext w w' ∧ B ≤ w'.heap.size ∧ Sx.Own w1.heap.size w' s 22 rows ∧ (∀ (j : Nat) r, p.1 ≤ j → j < R.length → rows[j]? = some r → OwnI w1.heap.size w' r 3 (R.getD j [])) ∧ LOX (List.range B) B w' p.2 22 (nearL P x.s.xs x.s.ms x.ws x.t (R.take p.1))) (fun p => R.length - p.1) (0, .slice none 0 0) ⟨rfl, rfl, rfl, rfl, rfl, trivial⟩ ⟨by omega, hE, by omega, hso, fun j r _ hj hr => (hrows j r hj hr).choose_spec.2.2, LOX.nil _ _ _ _⟩ ?_
    clear hE hso hB hG hvi hRl hdr hd hE2
    rintro ⟨i, out⟩ w3 ⟨i1, hE, hBz, hso, hown, hout⟩
    dsimp only at i1 hown hout
    have hV3 := hV0.ext hE
    obtain ⟨⟨kb', g', vu', ekb, hB, hG, hvi⟩, hI3⟩ := hV3
    cases ekb
    dsimp only [tkCells] at hB
    try dsimp only
    refine wc_seq ?_
    refine wc_region [0] rfl ?_
    refine Go.Sx.V rfl wu rfl rfl (lssI rfl rfl) ?_
    refine wr_nil (post_thenN (wc_seq ?_))
    refine wc_cond rfl ?_ ?_
    · intro hc
      simp at hc
      obtain ⟨r, hr⟩ : ∃ r, rows[i]? = some r := ⟨_, List.getElem?_eq_getElem (by omega)⟩
      obtain ⟨gg, hgg1, hgg2, _⟩ := hrows i r hc hr
      have hri := hown i r (Nat.le_refl _) hc hr
      have hgl : (cl gg).length ≤ x.s.k.toNat := cl_len hgg2
      have hlr : (R.getD i []).length ≤ x.s.k.toNat := by rw [hgg1]; exact hgl
      have hri' := OwnI.ints hri
      have hrl1 := Own.lt hri
      refine wc_skip (post_thenN (wc_seq (wc_block (wc_seq ?_))))
      refine wc_region [0,1,2] rfl ?_
      refine Go.Sx.V rfl wu rfl rfl (iad rfl rfl ty29 hso.sl (by omega) (by omega)) ?_
      refine Go.Sx.V rfl wu rfl rfl (ldE rfl na22 hso.sl (by rw [Int.toNat_natCast]; exact hr)) ?_
      refine Go.Sx.V rfl wu rfl rfl (asg rfl) ?_
      refine wr_nil (post_thenN (wc_seq ?_))
      obtain ⟨n0, hn0⟩ : ∃ n0 : Nat, n0 = x.s.k.toNat - (R.getD i []).length := ⟨_, rfl⟩
      have hzi : AllIn P.q (R.getD i [] ++ List.replicate n0 0) := allIn_zeros n0 (by rw [hgg1]; exact allIn_cl gg)
      have hzl : (((R.getD i [] ++ List.replicate n0 0).length : Nat) : Int) = x.s.k := by
        rw [List.length_append, List.length_replicate]; omega
      have hkb : kb ∉ r.ownBlock.toList := fun hx => by
        have h1 : r.ownBlock = some kb := by simpa using hx
        have := (hrl1 kb h1).1
        omega
      refine wc_drawX r.ownBlock.toList mixed [0,1,2,3,4,5,6,7,8,9,10,11,12,13,14,15,16,17,18,19] (by kernel_rfl) ?_
      intro w4 hd4 _
      replace hE := hE.trans hd4
      replace hB := hB.ext hd4
      replace hG := hG.ext hd4
      replace hso := hso.ext hd4
      replace hri := hri.ext hd4
      replace hri' := hri'.ext hd4
      replace hout := hout.ext hd4
      refine VX rfl wu rfl rfl (ym (mv rfl) rfl) ?_
      refine VX rfl wu rfl rfl (ym (nchk rfl) rfl) ?_
      refine VX rfl wu rfl rfl (ym (fad rfl fa98_0) rfl) ?_
      refine VX rfl wu rfl rfl (yA rfl ag26 hB hkb) ?_
      refine VX rfl wu rfl rfl (ym (mv rfl) rfl) ?_
      refine VX rfl wu rfl rfl (ym (mv rfl) rfl) ?_
      refine VX rfl wu rfl rfl (ym (nchk rfl) rfl) ?_
      refine VX rfl wu rfl rfl (ym (fad rfl fa98_0) rfl) ?_
      refine VX rfl wu rfl rfl (ym (fad rfl fa26_1) rfl) ?_
      refine VX rfl wu rfl rfl (yB rfl na3 hB hkb) ?_
      refine VX rfl wu rfl rfl (ym (mv rfl) rfl) ?_
      refine VX rfl wu rfl rfl (ym (lenI rfl ty22 hri') rfl) ?_
      refine VX rfl wu rfl rfl (ym (subI rfl rfl) rfl) ?_
      have hsz4 := hd4.size
      refine APZX (k := n0) rfl wu rfl rfl rfl ty22 (by kernel_rfl) (fun q hq => by simp [hq]) hri (by have := (hE.size); omega) (by omega) (by omega) ?_
      intro f2 w5 hg5 hX5 hf2 hfb
      have hE5 := hX5 w hsz1 hE
      have hI5 := hI.ext hE5
      refine CX rfl wu rfl rfl Tryz.call63 (gsEncode P x.s.f.p x.s.f.M x.s.k x.s.f.mo x.s.pu x.s.mu f2 x.s.f.md x.s.xs x.s.ms _ _ hok hPe hT.grs hI5.mo hI5.xs hI5.ms (OwnI.ints hf2) hzl hzi) ?_
      rintro _ w6 hE6 ⟨wv, rfl, hwv⟩
      rw [pz_zeros] at hwv
      refine VX rfl wu rfl rfl (ym (mv rfl) rfl) ?_
      refine VX rfl wu rfl rfl (ym (ext rfl rfl) rfl) ?_
      refine VX rfl wu rfl rfl (ym (ext rfl rfl) rfl) ?_
      refine VX rfl wu rfl rfl (ym (asg rfl) rfl) ?_
      refine VX rfl wu rfl rfl (ym (asg rfl) rfl) ?_
      refine wx_nil ?_
      refine post_thenN (wc_seq ?_)
      have hg5z := hg5.size
      have hE6z := hE6.size
      have hE' := hE5.trans hE6
      have hkX : ∀ k, r.ownBlock = some k → k ∈ List.range B := fun k hk => List.mem_range.2 (by have := (hsnr i r k hc hr hk).2; omega)
      have hout5 := hout.keptX hg5 hkX (fun k hk => List.mem_range.1 hk)
      have hnew0 := row_newR (n := B) hout5 hwv (Nat.le_refl _) (by omega)
      have hout6 := hout5.ext hE6
      have hso6 := (hso.kept hg5 (by
        rcases hq : s.ownBlock with _ | q
        · exact .inr rfl
        · refine .inl fun e => ?_
          exact (hsnr i r q hc hr e.symm).1 hq)).ext hE6
      have hown6 : ∀ (j : Nat) r', i + 1 ≤ j → j < R.length → rows[j]? = some r' → OwnI w1.heap.size w6 r' 3 (R.getD j []) := fun j r' hij hj hr' => by
        refine Own.ext (Own.kept (Own.ext (hown j r' (by omega) hj hr') hd4) hg5 ?_) hE6
        rcases hq : r'.ownBlock with _ | q
        · exact .inr rfl
        · refine .inl fun e => ?_
          exact hdist0 i j r r' q (by omega) hr hr' e.symm hq
      have hV6 := hV0.ext hE'
      clear hB hG hvi hout hso hown hri hri' hf2 hg5 hX5
      have hwln := encW_length (P := P) x.s.xs x.s.ms (pz P (R.getD i []))
      obtain ⟨cw, hcw⟩ : ∃ cw, cw = encW P x.s.xs x.s.ms (pz P (R.getD i [])) := ⟨_, rfl⟩
      rw [← hcw] at hwv hwln hnew0
      have hwi := OwnI.ints hwv
      have hn64 := hT.grs.n64
      refine wc_region [0] rfl ?_
      refine Go.Sx.V rfl wu rfl rfl (asg rfl) ?_
      refine wr_nil (post_thenN (wc_seq (wc_seq ?_)))
      refine wc_region [0,1,2] rfl ?_
      refine Go.Sx.V rfl wu rfl rfl (mv rfl) ?_
      refine Go.Sx.V rfl wu rfl rfl (lenI rfl ty22 hwi) ?_
      refine Go.Sx.V rfl wu rfl rfl (mv rfl) ?_
      refine wr_nil (post_thenN (wc_block ?_))
      rw [hwln]
      have hX6 := Ext.refl w6
      refine wc_loop (fun j : Nat => [(0, .pointer (some ⟨kb, 0, none⟩)), (8, out), (32, s), (33, .int .i64 R.length), (34, .int .i64 i), (11, wv), (13, .int .i64 (disN cw x.ws j)), (57, .int .i64 x.s.xs.length), (58, .int .i64 j)])
        (fun j w' => j ≤ x.s.xs.length ∧ Ext w6 w') (fun j => x.s.xs.length - j) 0 ⟨rfl, rfl, rfl, rfl, rfl, rfl, rfl, rfl, rfl, trivial⟩ ⟨by omega, hX6⟩ ?_
      clear hX6
      rintro j w7 ⟨j1, hX⟩
      have hV7 := hV6.ext hX
      obtain ⟨⟨kb', g', vu', ekb, hB, hG, hvi⟩, hI7⟩ := hV7
      cases ekb
      dsimp only [tkCells] at hB
      have hwi7 := hwi.ext hX
      have hws7 := hI7.ws
      have hdl := disN_le cw x.ws j
      try dsimp only
      refine wc_seq ?_
      refine wc_region [0] rfl ?_
      refine Go.Sx.V rfl wu rfl rfl (lssI rfl rfl) ?_
      refine wr_nil (post_thenN (wc_seq ?_))
      refine wc_cond rfl ?_ ?_
      · intro hc2
        simp at hc2
        refine wc_skip (post_thenN (wc_seq (wc_block (wc_seq ?_))))
        refine wc_region [0,1] rfl ?_
        refine Go.Sx.V rfl wu rfl rfl (mv rfl) ?_
        refine Go.Sx.V rfl wu rfl rfl (asg rfl) ?_
        refine wr_nil (post_thenN (wc_seq ?_))
        refine wc_draw mixed [0,1,2,3,4,5,6,7,8,9,10,11] (by kernel_rfl) ?_
        intro w8 hd8 _
        replace hX := hX.trans hd8
        replace hB := hB.ext hd8
        replace hwi7 := hwi7.ext hd8
        replace hws7 := hws7.ext hd8
        refine Go.Sx.V rfl wu rfl rfl (mv rfl) ?_
        refine Go.Sx.V rfl wu rfl rfl (mv rfl) ?_
        refine Go.Sx.V rfl wu rfl rfl (iadI rfl rfl ty22 hwi7 (by omega) (by omega)) ?_
        refine Go.Sx.V rfl wu rfl rfl (ldI rfl na3 hwi7) ?_
        refine Go.Sx.V rfl wu rfl rfl (mv rfl) ?_
        refine Go.Sx.V rfl wu rfl rfl (nchk rfl) ?_
        refine Go.Sx.V rfl wu rfl rfl (fad rfl fa98_2) ?_
        refine Go.Sx.V rfl wu rfl rfl (ldB rfl na22 hB) ?_
        refine Go.Sx.V rfl wu rfl rfl (mv rfl) ?_
        refine Go.Sx.V rfl wu rfl rfl (iadI rfl rfl ty22 hws7 (by omega) (by omega)) ?_
        refine Go.Sx.V rfl wu rfl rfl (ldI rfl na3 hws7) ?_
        refine Go.Sx.V rfl wu rfl rfl (neqI rfl rfl) ?_
        refine wr_nil (post_thenN ?_)
        refine wc_cond rfl ?_ ?_
        · intro h3
          simp at h3
          refine wc_region [0,1,2] rfl ?_
          refine Go.Sx.V rfl wu rfl rfl (mv rfl) ?_
          refine Go.Sx.V rfl wu rfl rfl (addI rfl rfl) ?_
          refine Go.Sx.V rfl wu rfl rfl (asg rfl) ?_
          refine wr_nil (post_blockN (post_thenN ?_))
          refine wc_region [0,1] rfl ?_
          refine Go.Sx.V rfl wu rfl rfl (addI rfl rfl) ?_
          refine Go.Sx.V rfl wu rfl rfl (mv rfl) ?_
          refine wr_nil ?_
          have e : ((disN cw x.ws j : Nat) : Int) + 1 = (disN cw x.ws (j + 1) : Nat) := by rw [disN_step, if_neg h3]; rfl
          rw [e]
          exact post_loopN (j + 1) ⟨rfl, rfl, rfl, rfl, rfl, rfl, rfl, rfl, rfl, trivial⟩ ⟨by omega, hX⟩ (by omega)
        · intro h3
          simp at h3
          refine wc_skip (post_blockN (post_thenN ?_))
          refine wc_region [0,1] rfl ?_
          refine Go.Sx.V rfl wu rfl rfl (addI rfl rfl) ?_
          refine Go.Sx.V rfl wu rfl rfl (mv rfl) ?_
          refine wr_nil ?_
          have e : disN cw x.ws j = disN cw x.ws (j + 1) := by rw [disN_step, if_pos h3]; rfl
          rw [e]
          exact post_loopN (j + 1) ⟨rfl, rfl, rfl, rfl, rfl, rfl, rfl, rfl, rfl, trivial⟩ ⟨by omega, hX⟩ (by omega)
      · intro hc2
        simp at hc2
        obtain rfl : j = x.s.xs.length := by omega
        have hE7 := hE'.trans hX
        have hXz := hX.size
        have hown7 : ∀ (j : Nat) r', i + 1 ≤ j → j < R.length → rows[j]? = some r' → OwnI w1.heap.size w7 r' 3 (R.getD j []) := fun j r' a b c => (hown6 j r' a b c).ext hX
        refine wc_exit (post_thenE (post_loopE (post_blockX (post_thenN (wc_seq ?_)))))
        refine wc_region [0,1,2,3,4,5] rfl ?_
        refine Go.Sx.V rfl wu rfl rfl (mv rfl) ?_
        refine Go.Sx.V rfl wu rfl rfl (mv rfl) ?_
        refine Go.Sx.V rfl wu rfl rfl (nchk rfl) ?_
        refine Go.Sx.V rfl wu rfl rfl (fad rfl fa98_4) ?_
        refine Go.Sx.V rfl wu rfl rfl (ldB rfl na3 hB) ?_
        refine Go.Sx.V rfl wu rfl rfl (leqI rfl rfl) ?_
        refine wr_nil (post_thenN ?_)
        refine wc_cond rfl ?_ ?_
        · intro h4
          simp at h4
          refine wc_region [0,1,2,3,4] rfl ?_
          refine Go.Sx.V rfl wu rfl rfl (mv rfl) ?_
          refine Go.Sx.V rfl wu rfl rfl (mv rfl) ?_
          refine BS (us := [wv]) rfl wu rfl rfl rfl rfl ty29 (by intro q hq; obtain rfl : q = wv := (by simpa using hq); exact hwi.one) ?_
          intro sv w8 hE8 hsv _
          have hE8z := hE8.size
          refine APX rfl wu rfl rfl rfl ty29 rfl (by intro h h2; cases h) ((hout6.ext hX).ext hE8) (by omega) hsv.sl (Ext.refl _) ((hwi.ext hX).ext hE8) hnew0 (by have := nearL_len (P := P) x.s.xs x.s.ms x.ws x.t (R.take i); rw [List.length_take] at this; omega) (by have := nearL_len (P := P) x.s.xs x.s.ms x.ws x.t (R.take i); rw [List.length_take] at this; omega) ?_
          intro out2 w9 hg9 hX9 ho9
          refine Go.Sx.V rfl wu rfl rfl (asg rfl) ?_
          refine wr_nil (post_blockN (post_thenN ?_))
          refine wc_region [0,1] rfl ?_
          refine Go.Sx.V rfl wu rfl rfl (addI rfl rfl) ?_
          refine Go.Sx.V rfl wu rfl rfl (mv rfl) ?_
          refine wr_nil ?_
          have hE9 := hX9 w (by omega) (hE7.trans hE8)
          have hg9z := hg9.size
          have hon : ∀ q, out.ownBlock = some q → B ≤ q := fun q hq => (hout6.lt q hq).1
          refine post_loopN (i + 1, out2) ⟨rfl, rfl, rfl, rfl, rfl, trivial⟩ ⟨by show i + 1 ≤ R.length; omega, hE9, by omega, ((hso6.ext hX).ext hE8).kept hg9 ?_, fun j r' hij hj hr' => Own.kept (Own.ext (hown7 j r' hij hj hr') hE8) hg9 ?_, ?_⟩ (by show R.length - (i + 1) < R.length - i; omega)
          · rcases hq : s.ownBlock with _ | q
            · exact .inr rfl
            · refine .inl fun e => ?_
              have := hon q e.symm
              have := (hslt q hq).2
              omega
          · rcases hq : r'.ownBlock with _ | q
            · exact .inr rfl
            · refine .inl fun e => ?_
              have := hon q e.symm
              have := (hsnr j r' q hj hr' hq).2
              omega
          · show LOX (List.range B) B w9 out2 _ (nearL P x.s.xs x.s.ms x.ws x.t (R.take (i + 1)))
            rw [take_next R hc, nearL_snoc, ← hcw, if_pos h4]
            exact ho9
        · intro h4
          simp at h4
          refine wc_skip (post_blockN (post_thenN ?_))
          refine wc_region [0,1] rfl ?_
          refine Go.Sx.V rfl wu rfl rfl (addI rfl rfl) ?_
          refine Go.Sx.V rfl wu rfl rfl (mv rfl) ?_
          refine wr_nil ?_
          refine post_loopN (i + 1, out) ⟨rfl, rfl, rfl, rfl, rfl, trivial⟩ ⟨by show i + 1 ≤ R.length; omega, hE7, by omega, hso6.ext hX, hown7, ?_⟩ (by show R.length - (i + 1) < R.length - i; omega)
          show LOX (List.range B) B w7 out _ (nearL P x.s.xs x.s.ms x.ws x.t (R.take (i + 1)))
          rw [take_next R hc, nearL_snoc, ← hcw, if_neg (by omega)]
          exact hout6.ext hX
    · intro hc
      simp at hc
      obtain rfl : i = R.length := by omega
      rw [List.take_length] at hout
      have hnl := nearL_len (P := P) x.s.xs x.s.ms x.ws x.t R
      refine wc_exit (post_thenE (post_loopE (post_blockX (post_thenN (wc_seq ?_)))))
      refine wc_region [0,1] rfl ?_
      refine Go.Sx.V rfl wu rfl rfl (mv rfl) ?_
      refine CRG rfl wu rfl rfl Tryz.call64 (sSortFunc out _ B _ hout.lessX (by omega)) (by intro h; cases h) ?_
      rintro _ w4 ⟨hS, L', hp, hsi, hlo⟩
      refine wr_nil (post_thenN (wc_seq ?_))
      refine wc_region [0,1,2] rfl ?_
      refine Go.Sx.V rfl wu rfl rfl (mv rfl) ?_
      refine Go.Sx.V rfl wu rfl rfl (asg rfl) ?_
      refine Go.Sx.V rfl wu rfl rfl (asg rfl) ?_
      refine wr_nil (post_thenN (wc_ret ?_))
      refine post_ret2 rfl rfl rfl ?_
      exact ⟨hS w (by omega) hE, .inr ⟨h0, _, L', rfl, hlo.ll, near_of hG.nzd hT.grs hRt hp hsi.pairwise, fun n hn => near_len hRt hp hn⟩⟩
end Go.Proofs.YtmnojknfjbimdaaGreat

