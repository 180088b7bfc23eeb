/-
  The reference's linear algebra, by contract: powers, rows, copies, multiples, sums.
-/
import Derived.Test.YtmnojknfjbimdaaGreatWRGrs
import Derived.Test.YtmnojknfjbimdaaGreatWMPa
import Derived.Test.YtmnojknfjbimdaaGreatWMSxa
import Derived.Test.YtmnojknfjbimdaaGreatWLib2
namespace Go.Proofs.YtmnojknfjbimdaaGreat
open Go Go.Sx Go.Pl Go.RowKit Go.Fd Go.Alg Go.Ld
theorem take_rows {L : List (List Int)} {i : Nat} (h : i < L.length) : L.take i ++ [L.getD i []] = L.take (i + 1) := by
  rw [List.take_succ_eq_append_getElem h, List.getD_eq_getElem?_getD, List.getElem?_eq_getElem h]; rfl
theorem si_si (l : List Int) (k : Int) (a b : Int) : si (si l k a) k b = si l k b := by simp [si]
set_option maxRecDepth 10000 in
theorem rPower (n : Nat) (w : World) (hn : n ≤ 4096) :
    Calls Tryz.prog 110 #[.int .i64 n] w (RetX w fun r w' => OwnI w.heap.size w' r 3 (powL n)) := by
  refine calls1 Tryz.func110 rfl rfl ?_
  refine wc_seq ?_
  refine wc_region [0] rfl ?_
  refine Go.Sx.V rfl wu rfl rfl (asg rfl) ?_
  refine wr_nil (post_thenN (wc_seq ?_))
  refine wc_region [0,1,2,3] rfl ?_
  refine Go.Sx.V rfl wu rfl rfl (mv rfl) ?_
  refine Go.Sx.V rfl wu rfl rfl (addI rfl rfl) ?_
  refine MKI (n := (n + 1)) rfl wu rfl rfl ty22 ?_
  intro out w2 hE2 ho hi hob
  refine Go.Sx.V rfl wu rfl rfl (asg rfl) ?_
  refine wr_nil (post_thenN (wc_seq ?_))
  have hl : (tab (n + 1) fun _ => (0 : Int)).length = n + 1 := tab_length _ _
  refine wc_region [0,1,2,3] rfl ?_
  refine Go.Sx.V rfl wu rfl rfl (mv rfl) ?_
  refine Go.Sx.V rfl wu rfl rfl (mv rfl) ?_
  refine Go.Sx.V rfl wu rfl rfl (iadI rfl rfl ty22 hi (by omega) (by omega)) ?_
  refine STI rfl wu rfl rfl sz3 (by intro h; cases h) ?_
  intro w3 hg3 hX3 ho3 hi3
  refine wr_nil (post_thenN (wc_seq ?_))
  refine wc_region [0,1] rfl ?_
  refine Go.Sx.V rfl wu rfl rfl (mv rfl) ?_
  refine Go.Sx.V rfl wu rfl rfl (asg rfl) ?_
  refine wr_nil (post_thenN (wc_ret ?_))
  refine post_ret1 rfl rfl ?_
  refine ⟨hX3 _ (Nat.le_refl _) hE2, ?_⟩
  rw [show si (tab (n + 1) fun _ => (0 : Int)) (n : Int) 1 = powL n by rw [si, Int.toNat_natCast, powL_of]] at ho3
  exact ho3
set_option maxRecDepth 10000 in
theorem rRows (P : FP) (p M K : Int) (mo pu mu : Value) (md xs ms : List Int) (w : World) (hF : FV w P mo md) (hv : fv P mo = .agg #[.int .i64 p, .int .i64 M, mo]) (hx : Ints w pu xs) (hm : Ints w mu ms) (hml : ms.length = xs.length) (hx64 : xs.length ≤ 64) (hK : 0 ≤ K ∧ K ≤ 64) :
    Calls Tryz.prog 78 #[gval p M mo K pu mu] w (RetX w fun r w' => LL w' r (matL P K.toNat xs.length (genM P xs ms))) := by
  refine calls1 Tryz.func78 rfl rfl ?_
  refine wc_seq ?_
  refine wc_region [0,1] rfl ?_
  refine BXA rfl wu rfl rfl ?_
  intro sb w1 hE hB hsb
  refine Go.Sx.V rfl wu rfl rfl (asg rfl) ?_
  refine wr_nil (post_thenN (wc_seq ?_))
  refine wc_region [0] rfl ?_
  refine Go.Sx.V rfl wu rfl rfl (asg rfl) ?_
  refine wr_nil (post_thenN (wc_seq (wc_seq ?_)))
  refine wc_region [0] rfl ?_
  refine Go.Sx.V rfl wu rfl rfl (asg rfl) ?_
  refine wr_nil (post_thenN (wc_block ?_))
  refine wc_loop (fun p : Nat × Value => [(1, .pointer (some ⟨sb, 0, none⟩)), (3, p.2), (4, .int .i64 p.1)])
    (fun i w' => i.1 ≤ K.toNat ∧ w1.heap.size ≤ w'.heap.size ∧ Ext w w' ∧ Blk w' sb 26 #[.int .i64 p, .int .i64 M, mo, .int .i64 K, pu, mu] ∧ LOX [] w1.heap.size w' i.2 22 (matL P i.1 xs.length (genM P xs ms))) (fun i => K.toNat - i.1) (0, .slice none 0 0) ⟨rfl, rfl, rfl, trivial⟩ ⟨by omega, Nat.le_refl _, hE, hB, LOX.nil _ _ _ _⟩ ?_
  have hsz := hE.size
  have hlt := hB.lt
  clear hE hB
  rintro ⟨i, out⟩ w2 ⟨i1, hz1, hE, hB, ho⟩
  dsimp only at i1 ho
  try dsimp only
  refine wc_seq (wc_seq ?_)
  refine wc_region [0,1,2,3] rfl ?_
  refine Go.Sx.V rfl wu rfl rfl (mv rfl) ?_
  refine Go.Sx.V rfl wu rfl rfl (fad rfl fa26_1) ?_
  refine Go.Sx.V rfl wu rfl rfl (ldB rfl na3 hB) ?_
  refine Go.Sx.V rfl wu rfl rfl (lssI rfl rfl) ?_
  refine wr_nil (post_thenN ?_)
  refine wc_cond rfl ?_ ?_
  · intro hc
    simp at hc
    refine wc_skip (post_thenN (wc_seq (wc_block ?_)))
    have hne : out.ownBlock ≠ some sb := fun e => by have := (ho.lt sb e).1; omega
    have hol := matL_length (P := P) i xs.length (genM P xs ms)
    refine wc_draw mixed [0,1,2,3,4,5,6,7] (by kernel_rfl) ?_
    intro w3 hd _
    replace hE := hE.trans hd
    replace hB := hB.ext hd
    replace ho := ho.ext hd
    refine Go.Sx.V rfl wu rfl rfl (mv rfl) ?_
    refine Go.Sx.V rfl wu rfl rfl (ldA rfl ag26 hB) ?_
    refine Go.Sx.V rfl wu rfl rfl (mv rfl) ?_
    refine C rfl wu rfl rfl Tryz.call110 (rPower i _ (by omega)) ?_
    intro pv w4 hE4 hp
    replace hE := hE.trans hE4
    replace hB := hB.ext hE4
    replace ho := ho.ext hE4
    refine C rfl wu rfl rfl Tryz.call14 (rWord P p M K mo pu mu pv md xs ms (powL i) _ (hF.ext hE) hv (hx.ext hE) (hm.ext hE) (OwnI.ints hp) hml hx64) ?_
    intro r w5 hE5 hr
    have hnew := row_newX ho hr (Nat.le_refl _)
    replace hE := hE.trans hE5
    replace hB := hB.ext hE5
    replace ho := ho.ext hE5
    have hri := OwnI.ints hr
    refine BS (us := [r]) rfl wu rfl rfl rfl rfl ty29 (by intro q hq; obtain rfl : q = r := (by simpa using hq); exact hri.one) ?_
    intro sv w6 hE6 hsv _
    refine APX rfl wu rfl rfl rfl ty29 rfl (fun _ h2 => absurd h2 (by decide +kernel)) (ho.ext hE6) (by have := hd.size; have := hE4.size; have := hE5.size; have := hE6.size; omega) hsv.sl (Ext.refl _) (hri.ext hE6) hnew (by omega) (by omega) ?_
    intro out2 w7 hg7 hX7 ho7
    refine Go.Sx.V rfl wu rfl rfl (asg rfl) ?_
    refine wr_nil (post_blockN (post_thenN ?_))
    rw [encW_powL, matL_snoc] at ho7
    refine wc_region [0,1,2] rfl ?_
    refine Go.Sx.V rfl wu rfl rfl (mv rfl) ?_
    refine Go.Sx.V rfl wu rfl rfl (addI rfl rfl) ?_
    refine Go.Sx.V rfl wu rfl rfl (asg rfl) ?_
    refine wr_nil ?_
    exact post_loopN (i + 1, out2) ⟨rfl, rfl, rfl, trivial⟩ ⟨by (try dsimp only); omega, by have := hd.size; have := hE4.size; have := hE5.size; have := hE6.size; have := hg7.size; omega, hX7 w hsz (hE.trans hE6), (hB.ext hE6).grown hg7 hne, ho7⟩ (by (try dsimp only); omega)
  · intro hc
    simp at hc
    refine wc_exit (post_thenE (post_loopE (post_blockX (post_thenN (wc_seq ?_)))))
    refine wc_region [0,1] rfl ?_
    refine Go.Sx.V rfl wu rfl rfl (mv rfl) ?_
    refine Go.Sx.V rfl wu rfl rfl (asg rfl) ?_
    refine wr_nil (post_thenN (wc_ret ?_))
    refine post_ret1 rfl rfl ?_
    refine ⟨hE, ?_⟩
    rw [show K.toNat = i by omega]
    exact ho.ll
set_option maxRecDepth 10000 in
theorem rCopy (u : Value) (L : List (List Int)) (_ : Nat) (w : World) (hu : LL w u L) (hL : ∀ i, i < L.length → (L.getD i []).length ≤ 65536) (hl : L.length ≤ 65536) :
    Calls Tryz.prog 170 #[u] w (RetX w fun r w' => LOX (List.range w.heap.size) w.heap.size w' r 22 L) := by
  obtain ⟨rows, hs, hrl, hrr⟩ := hu.row
  refine calls1 Tryz.func170 rfl rfl ?_
  refine wc_seq ?_
  refine wc_region [0] rfl ?_
  refine Go.Sx.V rfl wu rfl rfl (asg rfl) ?_
  refine wr_nil (post_thenN (wc_seq ?_))
  refine wc_region [0] rfl ?_
  refine Go.Sx.V rfl wu rfl rfl (asg rfl) ?_
  refine wr_nil (post_thenN (wc_seq (wc_seq ?_)))
  refine wc_region [0] rfl ?_
  refine Go.Sx.V rfl wu rfl rfl (asg rfl) ?_
  refine wr_nil (post_thenN (wc_block ?_))
  refine wc_loop (fun p : Nat × Value => [(0, u), (3, p.2), (4, .int .i64 p.1)])
    (fun i w' => i.1 ≤ L.length ∧ Ext w w' ∧ LOX (List.range w.heap.size) w.heap.size w' i.2 22 (L.take i.1)) (fun i => L.length - i.1) (0, .slice none 0 0) ⟨rfl, rfl, rfl, trivial⟩ ⟨by omega, Ext.refl _, by rw [List.take_zero]; exact LOX.nil _ _ _ _⟩ ?_
  rintro ⟨i, out⟩ w2 ⟨i1, hE, ho⟩
  dsimp only at i1 ho
  have hsi := hs.ext hE
  try dsimp only
  refine wc_seq (wc_seq ?_)
  refine wc_region [0,1,2,3] rfl ?_
  refine Go.Sx.V rfl wu rfl rfl (mv rfl) ?_
  refine Go.Sx.V rfl wu rfl rfl (mv rfl) ?_
  refine Go.Sx.V rfl wu rfl rfl (lenS rfl ty29 hsi) ?_
  refine Go.Sx.V rfl wu rfl rfl (lssI rfl rfl) ?_
  refine wr_nil (post_thenN ?_)
  rw [hrl]
  refine wc_cond rfl ?_ ?_
  · intro hc
    simp at hc
    obtain ⟨r, hr, hri⟩ := hrr i hc
    have hri2 := hri.ext hE
    have hrn := hL i hc
    have holt := ho.lt
    have hz0 := hE.size
    refine wc_skip (post_thenN (wc_seq (wc_block ?_)))
    have hol : (L.take i).length = i := by rw [List.length_take]; omega
    refine wc_region [0,1,2,3,4,5,6,7,8,9] rfl ?_
    refine Go.Sx.V rfl wu rfl rfl (mv rfl) ?_
    refine BS0 rfl wu rfl ty22 ?_
    intro gl w3 hE3 hgl hgl2
    have hz3 := hE3.size
    replace hE := hE.trans hE3
    replace hri2 := hri2.ext hE3
    replace hsi := hsi.ext hE3
    replace ho := ho.ext hE3
    refine Go.Sx.V rfl wu rfl rfl (mv rfl) ?_
    refine Go.Sx.V rfl wu rfl rfl (mv rfl) ?_
    refine Go.Sx.V rfl wu rfl rfl (iad rfl rfl ty29 hsi (by omega) (by omega)) ?_
    refine Go.Sx.V rfl wu rfl rfl (ldE rfl na22 hsi (by rw [Int.toNat_natCast]; exact hr)) ?_
    refine AP0 rfl wu rfl rfl rfl ty22 hri2 (Ext.refl _) (by omega) ?_
    intro c w4 hE4 hci hcb
    have hz4 := hE4.size
    replace hE := hE.trans hE4
    replace ho := ho.ext hE4
    refine BS (us := [c]) rfl wu rfl rfl rfl rfl ty29 (by intro q hq; obtain rfl : q = c := (by simpa using hq); exact hci.one) ?_
    intro sv w6 hE6 hsv _
    have hz6 := hE6.size
    refine APX rfl wu rfl rfl rfl ty29 rfl (by intro h; cases h) (ho.ext hE6) (by omega) hsv.sl (Ext.refl _) (hci.ext hE6) (.inr ⟨fun e => by (rcases hcb with h | ⟨h, _⟩ <;> have := holt _ (e.symm.trans h) <;> omega), fun k hk hm => by (rcases hcb with h | ⟨h, _⟩ <;> rw [h] at hk <;> have := Option.some.inj hk <;> have := List.mem_range.1 hm <;> omega)⟩) (by omega) (by omega) ?_
    intro out2 w7 hg7 hX7 ho7
    refine Go.Sx.V rfl wu rfl rfl (asg rfl) ?_
    refine wr_nil (post_blockN (post_thenN ?_))
    rw [take_rows hc] at ho7
    refine wc_region [0,1,2] rfl ?_
    refine Go.Sx.V rfl wu rfl rfl (mv rfl) ?_
    refine Go.Sx.V rfl wu rfl rfl (addI rfl rfl) ?_
    refine Go.Sx.V rfl wu rfl rfl (asg rfl) ?_
    refine wr_nil ?_
    exact post_loopN (i + 1, out2) ⟨rfl, rfl, rfl, trivial⟩ ⟨by (try dsimp only); omega, hX7 w (Nat.le_refl _) (hE.trans hE6), ho7⟩ (by (try dsimp only); omega)
  · intro hc
    simp at hc
    refine wc_exit (post_thenE (post_loopE (post_blockX (post_thenN (wc_seq ?_)))))
    refine wc_region [0,1] rfl ?_
    refine Go.Sx.V rfl wu rfl rfl (mv rfl) ?_
    refine Go.Sx.V rfl wu rfl rfl (asg rfl) ?_
    refine wr_nil (post_thenN (wc_ret ?_))
    refine post_ret1 rfl rfl ?_
    refine ⟨hE, ?_⟩
    rw [show i = L.length by omega, List.take_length] at ho
    exact ho
set_option maxRecDepth 10000 in
theorem rScale (P : FP) (mo : Value) (md : List Int) (a : Int) (u : Value) (n : Nat) (f : Nat → K P) (w : World) (hF : FV w P mo md) (hu : Ints w u (rowL P n f)) (hn : n ≤ 65536) :
    Calls Tryz.prog 171 #[fv P mo, .int .i64 a, u] w (RetX w fun r w' => OwnI w.heap.size w' r 3 (rowL P n fun j => inK P a * f j)) := by
  have hrl := rowL_length (P := P) n f
  refine calls3 Tryz.func171 rfl rfl ?_
  refine wc_seq ?_
  refine wc_region [0,1] rfl ?_
  refine BXA rfl wu rfl rfl ?_
  intro fb w1 hE hB hg
  refine Go.Sx.V rfl wu rfl rfl (asg rfl) ?_
  refine wr_nil (post_thenN (wc_seq ?_))
  have hui := hu.ext hE
  refine wc_region [0,1,2,3] rfl ?_
  refine Go.Sx.V rfl wu rfl rfl (mv rfl) ?_
  refine Go.Sx.V rfl wu rfl rfl (lenI rfl ty22 hui) ?_
  refine MKI (n := n) rfl wu rfl rfl ty22 ?_
  intro ov w2 hE2 ho hoi hob
  refine Go.Sx.V rfl wu rfl rfl (asg rfl) ?_
  refine wr_nil (post_thenN (wc_seq (wc_seq ?_)))
  have hsz := hE.size
  have hlt := hB.lt
  have hne : ov.ownBlock ≠ some fb := fun e => by
    rw [hob] at e
    have := Option.some.inj e
    omega
  replace hB := hB.ext hE2
  have ho' := Own.mono ho (B' := w.heap.size) (by omega)
  replace hE := hE.trans hE2
  rw [← upd_zero' n (fun j => (inK P a * f j).1) (fun _ => 0)] at ho'
  clear ho hoi hui
  refine wc_region [0] rfl ?_
  refine Go.Sx.V rfl wu rfl rfl (asg rfl) ?_
  refine wr_nil (post_thenN (wc_block ?_))
  refine wc_loop (fun i : Nat => [(3, .pointer (some ⟨fb, 0, none⟩)), (1, .int .i64 a), (2, u), (7, ov), (8, .int .i64 i)])
    (fun i w' => i ≤ n ∧ Ext w w' ∧ Blk w' fb 24 #[.int .i64 P.p, .int .i64 P.M, mo] ∧ OwnI w.heap.size w' ov 3 (upd n (fun j => (inK P a * f j).1) (fun _ => 0) i)) (fun i => n - i) 0 ⟨rfl, rfl, rfl, rfl, rfl, trivial⟩ ⟨by omega, hE, hB, ho'⟩ ?_
  clear hE hB ho'
  rintro i w3 ⟨i1, hE, hB, ho⟩
  have hui := hu.ext hE
  have hul := upd_length n (fun j => (inK P a * f j).1) (fun _ => (0 : Int)) i
  try dsimp only
  refine wc_seq (wc_seq ?_)
  refine wc_region [0,1,2,3] rfl ?_
  refine Go.Sx.V rfl wu rfl rfl (mv rfl) ?_
  refine Go.Sx.V rfl wu rfl rfl (mv rfl) ?_
  refine Go.Sx.V rfl wu rfl rfl (lenI rfl ty22 hui) ?_
  refine Go.Sx.V rfl wu rfl rfl (lssI rfl rfl) ?_
  refine wr_nil (post_thenN ?_)
  rw [hrl]
  refine wc_cond rfl ?_ ?_
  · intro hc
    simp at hc
    refine wc_skip (post_thenN (wc_seq (wc_block ?_)))
    refine wc_draw mixed [0,1,2,3,4,5,6,7,8,9,10] (by kernel_rfl) ?_
    intro w4 hd _
    replace hE := hE.trans hd
    replace hB := hB.ext hd
    replace hui := hui.ext hd
    replace ho := ho.ext hd
    refine Go.Sx.V rfl wu rfl rfl (mv rfl) ?_
    refine Go.Sx.V rfl wu rfl rfl (mv rfl) ?_
    refine Go.Sx.V rfl wu rfl rfl (ldA rfl ag24 hB) ?_
    refine Go.Sx.V rfl wu rfl rfl (mv rfl) ?_
    refine Go.Sx.V rfl wu rfl rfl (mv rfl) ?_
    refine Go.Sx.V rfl wu rfl rfl (mv rfl) ?_
    refine Go.Sx.V rfl wu rfl rfl (iadI rfl rfl ty22 hui (by omega) (by omega)) ?_
    refine Go.Sx.V rfl wu rfl rfl (ldI rfl na3 hui) ?_
    refine C rfl wu rfl rfl Tryz.call37 (rMul P mo md a _ _ (hF.ext hE)) ?_
    rintro _ w5 hE5 rfl
    replace hE := hE.trans hE5
    replace hB := hB.ext hE5
    replace ho := Own.ext ho hE5
    have hoi := OwnI.ints ho
    refine Go.Sx.V rfl wu rfl rfl (iadI rfl rfl ty22 hoi (by omega) (by omega)) ?_
    refine STI rfl wu rfl rfl sz3 (by intro h; kernel_rfl) ?_
    intro w7 hg7 hX7 ho7 hi7
    refine wr_nil (post_blockN (post_thenN ?_))
    rw [rowL_in hc, show (inK P a * f i).1 = (fun j : Nat => (inK P a * f j).1) ((i : Int)).toNat by simp, upd_step (by omega)] at ho7
    refine wc_region [0,1,2] rfl ?_
    refine Go.Sx.V rfl wu rfl rfl (mv rfl) ?_
    refine Go.Sx.V rfl wu rfl rfl (addI rfl rfl) ?_
    refine Go.Sx.V rfl wu rfl rfl (asg rfl) ?_
    refine wr_nil ?_
    exact post_loopN (i + 1) ⟨rfl, rfl, rfl, rfl, rfl, trivial⟩ ⟨by omega, hX7 _ (Nat.le_refl _) hE, hB.grown hg7 hne, ho7⟩ (by omega)
  · intro hc
    simp at hc
    obtain rfl : i = n := by omega
    rw [upd_last i _ _ (Int.le_refl _)] at ho
    refine wc_exit (post_thenE (post_loopE (post_blockX (post_thenN (wc_seq ?_)))))
    refine wc_region [0,1] rfl ?_
    refine Go.Sx.V rfl wu rfl rfl (mv rfl) ?_
    refine Go.Sx.V rfl wu rfl rfl (asg rfl) ?_
    refine wr_nil (post_thenN (wc_ret ?_))
    refine post_ret1 rfl rfl ?_
    exact ⟨hE, ho⟩
set_option maxRecDepth 10000 in
theorem rAddTo (P : FP) (mo : Value) (md : List Int) (v : Value) (a : Int) (u : Value) (n : Nat) (f g : Nat → K P) (w : World) (hF : FV w P mo md) (hv : Ints w v (rowL P n f)) (hu : Ints w u (rowL P n g)) (hn : n ≤ 65536) :
    Calls Tryz.prog 146 #[fv P mo, v, .int .i64 a, u] w (RetX w fun r w' => OwnI w.heap.size w' r 3 (rowL P n fun j => f j + inK P a * g j)) := by
  have hrl := rowL_length (P := P) n f
  have hrl2 := rowL_length (P := P) n g
  refine calls4 Tryz.func146 rfl rfl ?_
  refine wc_seq ?_
  refine wc_region [0,1] rfl ?_
  refine BXA rfl wu rfl rfl ?_
  intro fb w1 hE hB hg
  refine Go.Sx.V rfl wu rfl rfl (asg rfl) ?_
  refine wr_nil (post_thenN (wc_seq ?_))
  have hvi := hv.ext hE
  refine wc_region [0,1,2,3] rfl ?_
  refine Go.Sx.V rfl wu rfl rfl (mv rfl) ?_
  refine Go.Sx.V rfl wu rfl rfl (lenI rfl ty22 hvi) ?_
  refine MKI (n := n) rfl wu rfl rfl ty22 ?_
  intro ov w2 hE2 ho hoi hob
  refine Go.Sx.V rfl wu rfl rfl (asg rfl) ?_
  refine wr_nil (post_thenN (wc_seq (wc_seq ?_)))
  have hsz := hE.size
  have hlt := hB.lt
  have hne : ov.ownBlock ≠ some fb := fun e => by
    rw [hob] at e
    have := Option.some.inj e
    omega
  replace hB := hB.ext hE2
  have ho' := Own.mono ho (B' := w.heap.size) (by omega)
  replace hE := hE.trans hE2
  rw [← upd_zero' n (fun j => (f j + inK P a * g j).1) (fun _ => 0)] at ho'
  clear ho hoi hvi
  refine wc_region [0] rfl ?_
  refine Go.Sx.V rfl wu rfl rfl (asg rfl) ?_
  refine wr_nil (post_thenN (wc_block ?_))
  refine wc_loop (fun i : Nat => [(4, .pointer (some ⟨fb, 0, none⟩)), (1, v), (2, .int .i64 a), (3, u), (9, ov), (10, .int .i64 i)])
    (fun i w' => i ≤ n ∧ Ext w w' ∧ Blk w' fb 24 #[.int .i64 P.p, .int .i64 P.M, mo] ∧ OwnI w.heap.size w' ov 3 (upd n (fun j => (f j + inK P a * g j).1) (fun _ => 0) i)) (fun i => n - i) 0 ⟨rfl, rfl, rfl, rfl, rfl, rfl, trivial⟩ ⟨by omega, hE, hB, ho'⟩ ?_
  clear hE hB ho'
  rintro i w3 ⟨i1, hE, hB, ho⟩
  have hvi := hv.ext hE
  have hul := upd_length n (fun j => (f j + inK P a * g j).1) (fun _ => (0 : Int)) i
  have hoi := OwnI.ints ho
  try dsimp only
  refine wc_seq (wc_seq ?_)
  refine wc_region [0,1,2,3] rfl ?_
  refine Go.Sx.V rfl wu rfl rfl (mv rfl) ?_
  refine Go.Sx.V rfl wu rfl rfl (mv rfl) ?_
  refine Go.Sx.V rfl wu rfl rfl (lenI rfl ty22 hvi) ?_
  refine Go.Sx.V rfl wu rfl rfl (lssI rfl rfl) ?_
  refine wr_nil (post_thenN ?_)
  rw [hrl]
  refine wc_cond rfl ?_ ?_
  · intro hc
    simp at hc
    refine wc_skip (post_thenN (wc_seq (wc_block (wc_seq ?_))))
    refine wc_region [0,1,2,3,4,5,6,7] rfl ?_
    refine Go.Sx.V rfl wu rfl rfl (mv rfl) ?_
    refine Go.Sx.V rfl wu rfl rfl (mv rfl) ?_
    refine Go.Sx.V rfl wu rfl rfl (mv rfl) ?_
    refine Go.Sx.V rfl wu rfl rfl (mv rfl) ?_
    refine Go.Sx.V rfl wu rfl rfl (iadI rfl rfl ty22 hvi (by omega) (by omega)) ?_
    refine Go.Sx.V rfl wu rfl rfl (ldI rfl na3 hvi) ?_
    refine Go.Sx.V rfl wu rfl rfl (iadI rfl rfl ty22 hoi (by omega) (by omega)) ?_
    refine STI rfl wu rfl rfl sz3 (by intro h; cases h) ?_
    intro w4 hg4 hX4 ho4 hi4
    refine wr_nil (post_thenN (wc_seq ?_))
    replace hE := hX4 _ (Nat.le_refl _) hE
    replace hB := hB.grown hg4 hne
    have hvi := hv.ext hE
    have hui := hu.ext hE
    refine wc_region [0,1,2,3,4] rfl ?_
    refine Go.Sx.V rfl wu rfl rfl (mv rfl) ?_
    refine Go.Sx.V rfl wu rfl rfl (mv rfl) ?_
    refine Go.Sx.V rfl wu rfl rfl (iadI rfl rfl ty22 hui (by omega) (by omega)) ?_
    refine Go.Sx.V rfl wu rfl rfl (ldI rfl na3 hui) ?_
    refine Go.Sx.V rfl wu rfl rfl (neqI rfl rfl) ?_
    refine wr_nil (post_thenN ?_)
    rw [rowL_gi hc] at ho4
    rw [rowL_gi hc]
    refine wc_cond rfl ?_ ?_
    · intro h1
      simp at h1
      have hul4 : (si (upd n (fun j => (f j + inK P a * g j).1) (fun _ => (0 : Int)) i) (i : Int) (f i).1).length = n := by rw [si, List.length_set]; exact hul
      refine wc_draw mixed [0,1,2,3,4,5,6,7,8,9,10,11,12,13,14,15,16] (by kernel_rfl) ?_
      intro w5 hd _
      replace hE := hE.trans hd
      replace hB := hB.ext hd
      replace hui := hui.ext hd
      replace hvi := hvi.ext hd
      replace ho4 := ho4.ext hd
      refine Go.Sx.V rfl wu rfl rfl (mv rfl) ?_
      refine Go.Sx.V rfl wu rfl rfl (mv rfl) ?_
      refine Go.Sx.V rfl wu rfl rfl (ldA rfl ag24 hB) ?_
      refine Go.Sx.V rfl wu rfl rfl (mv rfl) ?_
      refine Go.Sx.V rfl wu rfl rfl (mv rfl) ?_
      refine Go.Sx.V rfl wu rfl rfl (iadI rfl rfl ty22 hvi (by omega) (by omega)) ?_
      refine Go.Sx.V rfl wu rfl rfl (ldI rfl na3 hvi) ?_
      refine Go.Sx.V rfl wu rfl rfl (ldA rfl ag24 hB) ?_
      refine Go.Sx.V rfl wu rfl rfl (mv rfl) ?_
      refine Go.Sx.V rfl wu rfl rfl (mv rfl) ?_
      refine Go.Sx.V rfl wu rfl rfl (mv rfl) ?_
      refine Go.Sx.V rfl wu rfl rfl (iadI rfl rfl ty22 hui (by omega) (by omega)) ?_
      refine Go.Sx.V rfl wu rfl rfl (ldI rfl na3 hui) ?_
      refine C rfl wu rfl rfl Tryz.call37 (rMul P mo md a _ _ (hF.ext hE)) ?_
      rintro _ w6 hE6 rfl
      replace hE := hE.trans hE6
      replace hB := hB.ext hE6
      replace ho4 := Own.ext ho4 hE6
      refine C rfl wu rfl rfl Tryz.call70 (rAdd P mo md _ _ _ (hF.ext hE)) ?_
      rintro _ w7 hE7 rfl
      replace hE := hE.trans hE7
      replace hB := hB.ext hE7
      replace ho4 := Own.ext ho4 hE7
      have hoi4 := OwnI.ints ho4
      refine Go.Sx.V rfl wu rfl rfl (iadI rfl rfl ty22 hoi4 (by omega) (by omega)) ?_
      refine STI rfl wu rfl rfl sz3 (by intro h; kernel_rfl) ?_
      intro w8 hg8 hX8 ho8 hi8
      refine wr_nil (post_blockN (post_thenN ?_))
      rw [rowL_in hc, rowL_in hc, inK_val, si_si, show (f i + inK P a * g i).1 = (fun j : Nat => (f j + inK P a * g j).1) ((i : Int)).toNat by simp, upd_step (by omega)] at ho8
      refine wc_region [0,1,2] rfl ?_
      refine Go.Sx.V rfl wu rfl rfl (mv rfl) ?_
      refine Go.Sx.V rfl wu rfl rfl (addI rfl rfl) ?_
      refine Go.Sx.V rfl wu rfl rfl (asg rfl) ?_
      refine wr_nil ?_
      exact post_loopN (i + 1) ⟨rfl, rfl, rfl, rfl, rfl, rfl, trivial⟩ ⟨by omega, hX8 _ (Nat.le_refl _) hE, hB.grown hg8 hne, ho8⟩ (by omega)
    · intro h1
      simp at h1
      refine wc_skip (post_blockN (post_thenN ?_))
      have hg0 : g i = 0 := Subtype.ext h1
      have e : (f i).1 = (fun j : Nat => (f j + inK P a * g j).1) ((i : Int)).toNat := by
        simp only [Int.toNat_natCast]
        rw [hg0, mul_zero, add_zero]
      rw [e, upd_step (by omega)] at ho4
      refine wc_region [0,1,2] rfl ?_
      refine Go.Sx.V rfl wu rfl rfl (mv rfl) ?_
      refine Go.Sx.V rfl wu rfl rfl (addI rfl rfl) ?_
      refine Go.Sx.V rfl wu rfl rfl (asg rfl) ?_
      refine wr_nil ?_
      exact post_loopN (i + 1) ⟨rfl, rfl, rfl, rfl, rfl, rfl, trivial⟩ ⟨by omega, hE, hB, ho4⟩ (by omega)
  · intro hc
    simp at hc
    obtain rfl : i = n := by omega
    rw [upd_last i _ _ (Int.le_refl _)] at ho
    refine wc_exit (post_thenE (post_loopE (post_blockX (post_thenN (wc_seq ?_)))))
    refine wc_region [0,1] rfl ?_
    refine Go.Sx.V rfl wu rfl rfl (mv rfl) ?_
    refine Go.Sx.V rfl wu rfl rfl (asg rfl) ?_
    refine wr_nil (post_thenN (wc_ret ?_))
    refine post_ret1 rfl rfl ?_
    exact ⟨hE, ho⟩
end Go.Proofs.YtmnojknfjbimdaaGreat

