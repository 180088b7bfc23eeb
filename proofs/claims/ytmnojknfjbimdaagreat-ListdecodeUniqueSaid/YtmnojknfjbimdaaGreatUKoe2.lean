/-
  The package bivariate, by contract, part 6: meet; division of the field.
-/
import Derived.Test.YtmnojknfjbimdaaGreatUKoe1
import Derived.Test.YtmnojknfjbimdaaGreatUMPa
import Derived.Test.YtmnojknfjbimdaaGreatUMSxa
import Derived.Test.YtmnojknfjbimdaaGreatUMTya
import Derived.Test.YtmnojknfjbimdaaGreatUGF2
namespace Go.Proofs.YtmnojknfjbimdaaGreat
open Go Go.Sx Go.Pl Go.RowKit Go.Fd Go.Alg
theorem gDiv (P : FP) (g : Value) (x y : Int) (w : World) (hG : GFV w P g) (hy : inK P y ≠ 0) :
    Calls Tryz.prog 56 #[g, .int .i64 x, .int .i64 y] w (RetX w fun v _ => v = .tuple #[.int .i64 (inK P x * invK P (inK P y)).1, .int .i64 0]) := by
  refine calls3 Tryz.func56 rfl rfl ?_
  refine wc_seq ?_
  refine wc_region [0,1] rfl ?_
  refine Go.Sx.V rfl wu rfl rfl (asg rfl) ?_
  refine Go.Sx.V rfl wu rfl rfl (asg rfl) ?_
  refine wr_nil (post_thenN (wc_seq ?_))
  refine wc_region [0,1,2,3,4,5,6,7] rfl ?_
  refine Go.Sx.V rfl wu rfl rfl (mv rfl) ?_
  refine Go.Sx.V rfl wu rfl rfl (mv rfl) ?_
  refine C rfl wu rfl rfl Tryz.call86 (gInv P g y _ hG) ?_
  rintro _ w2 hE rfl
  rw [if_neg hy]
  refine Go.Sx.V rfl wu rfl rfl (mv rfl) ?_
  refine Go.Sx.V rfl wu rfl rfl (ext rfl rfl) ?_
  refine Go.Sx.V rfl wu rfl rfl (ext rfl rfl) ?_
  refine Go.Sx.V rfl wu rfl rfl (asg rfl) ?_
  refine Go.Sx.V rfl wu rfl rfl (asg rfl) ?_
  refine wr_nil (post_thenN (wc_seq (wc_seq ?_)))
  refine wc_region [0,1] rfl ?_
  refine Go.Sx.V rfl wu rfl rfl (mv rfl) ?_
  refine Go.Sx.V rfl wu rfl rfl (neqI rfl rfl) ?_
  refine wr_nil (post_thenN ?_)
  refine wc_condF rfl (by simp) ?_
  refine wc_skip (post_thenN (wc_seq ?_))
  refine wc_region [0,1,2,3,4,5] rfl ?_
  refine Go.Sx.V rfl wu rfl rfl (mv rfl) ?_
  refine Go.Sx.V rfl wu rfl rfl (mv rfl) ?_
  refine Go.Sx.V rfl wu rfl rfl (mv rfl) ?_
  refine C rfl wu rfl rfl Tryz.call87 (gMul P g _ _ _ (hG.ext hE)) ?_
  rintro _ w3 hE3 rfl
  refine Go.Sx.V rfl wu rfl rfl (asg rfl) ?_
  refine Go.Sx.V rfl wu rfl rfl (asg rfl) ?_
  refine wr_nil (post_thenN (wc_ret ?_))
  refine post_ret2 rfl rfl rfl ?_
  exact ⟨hE.trans hE3, by rw [inK_val]⟩
set_option maxRecDepth 10000 in
theorem bMeet (P : FP) (g base degree tb : Value) (Bs : Nat → Pol (Pol (K P))) (d : Nat → Nat) (L : Nat) (x y : Int) (a b rows cols nx bb db : Nat) (w0 w : World) (hG : GFV w0 P g) (hE0 : Ext w0 w) (hbb : base.ownBlock = some bb) (hdb : degree.ownBlock = some db) (hbd : bb ≠ db)
    (hbw : w0.heap.size ≤ bb) (hdw : w0.heap.size ≤ db) (hbase : BO [bb, db] w0.heap.size w base 30 (bl L Bs)) (hdeg : OwnI w0.heap.size w degree 3 (tab L fun j => (d j : Int))) (htb : LLX [bb, db] w tb (pcT P.p rows cols))
    (hxb : ∀ j, j < L → XB nx (Bs j)) (hyb : ∀ j, j < L → YB L (Bs j)) (hnx : nx ≤ rows) (hL0 : 0 < L) (hLr : L ≤ rows) (ha : a < cols) (hb : b < cols) (hrows : rows ≤ 65536) (hcols : cols ≤ 65536) (hd : ∀ j, j < L → d j ≤ 1048576) :
    Calls Tryz.prog 114 #[g, base, degree, .int .i64 x, .int .i64 y, .int .i64 a, .int .i64 b, tb] w (RetG [bb, db] w fun _ w' => ∃ Bs' d', Stp L (inK P x) (inK P y) a b Bs d Bs' d' ∧ BO [bb, db] w0.heap.size w' base 30 (bl L Bs') ∧ OwnI w0.heap.size w' degree 3 (tab L fun j => (d' j : Int))) := by
  obtain ⟨gx, hgx⟩ := hG.gen
  obtain ⟨us, hus, husl, husr⟩ := hbase.row
  rw [bl_length] at husl husr
  have hbl := bl_length L Bs
  have hdl : (tab L fun j => (d j : Int)).length = L := tab_length _ _
  have hdi := OwnI.ints hdeg
  have hbblt := (hbase.lt bb hbb).2
  have hdblt := (Own.lt hdeg db hdb).2
  have hyl : ∀ j, j < L → (bcl (Bs j)).length ≤ L := fun j hj => bcl_len (hyb j hj)
  obtain ⟨gp, hgp⟩ : ∃ gp : Nat → K P, gp = fun s => dd (inK P x) (inK P y) a b (Bs s) := ⟨_, rfl⟩
  have hgpv : ∀ s, gp s = dd (inK P x) (inK P y) a b (Bs s) := fun s => by rw [hgp]
  have hdg : ∀ j, j < L → gi (tab L fun j => (d j : Int)) (j : Int) = d j := fun j hj => by rw [gi_tab (by omega) (by omega)]; rfl
  refine calls8 Tryz.func114 rfl rfl ?_
  refine wc_seq ?_
  refine wc_region [0,1,2,3] rfl ?_
  refine Go.Sx.V rfl wu rfl rfl (mv rfl) ?_
  refine Go.Sx.V rfl wu rfl rfl (lenS rfl ty145 hus) ?_
  refine MKI (n := L) rfl wu rfl rfl ty22 ?_
  intro gaps w2 hE2 hgo hgi hgb
  refine Go.Sx.V rfl wu rfl rfl (asg rfl) ?_
  refine wr_nil (post_thenN (wc_seq ?_))
  rw [← upd_zero' L (fun t => (gp t).1) (fun _ => 0)] at hgo
  clear hgi
  refine wc_region [0] rfl ?_
  refine Go.Sx.V rfl wu rfl rfl (asg rfl) ?_
  refine wr_nil (post_thenN (wc_seq (wc_seq ?_)))
  refine wc_region [0,1,2] rfl ?_
  refine Go.Sx.V rfl wu rfl rfl (mv rfl) ?_
  refine Go.Sx.V rfl wu rfl rfl (lenS rfl ty145 hus) ?_
  refine Go.Sx.V rfl wu rfl rfl (mv rfl) ?_
  refine wr_nil (post_thenN (wc_block ?_))
  rw [husl]
  refine wc_loop (fun s : Nat × Int => [(0, g), (1, base), (2, degree), (3, .int .i64 x), (4, .int .i64 y), (5, .int .i64 a), (6, .int .i64 b), (7, tb), (16, gaps), (17, .int .i64 s.2), (27, base), (28, .int .i64 L), (29, .int .i64 s.1)])
    (fun s w' => s.1 ≤ L ∧ Ext w w' ∧ OwnI w.heap.size w' gaps 3 (upd L (fun t => (gp t).1) (fun _ => 0) s.1) ∧ Bst gp d s.1 s.2) (fun s => L - s.1) (0, -1) ⟨rfl, rfl, rfl, rfl, rfl, rfl, rfl, rfl, rfl, rfl, rfl, rfl, rfl, trivial⟩ ⟨by show 0 ≤ L; omega, hE2, hgo, Bst.first gp d⟩ ?_
  clear hE2 hgo
  rintro ⟨j, best⟩ w4 ⟨j1, hE, hgo, hbst⟩
  dsimp only at j1 hgo hbst
  have hupl := upd_length L (fun t => (gp t).1) (fun _ => 0) j
  try dsimp only
  refine wc_seq ?_
  refine wc_region [0] rfl ?_
  refine Go.Sx.V rfl wu rfl rfl (lssI rfl rfl) ?_
  refine wr_nil (post_thenN (wc_seq ?_))
  refine wc_cond rfl ?_ ?_
  · intro hc
    simp at hc
    obtain ⟨u, hu, hur⟩ := husr j hc
    rw [bl_get hc] at hur
    refine wc_skip (post_thenN (wc_seq (wc_block (wc_seq ?_))))
    refine wc_region [0,1,2,3,4] rfl ?_
    refine Go.Sx.V rfl wu rfl rfl (mv rfl) ?_
    refine Go.Sx.V rfl wu rfl rfl (iad rfl rfl ty145 (hus.ext hE) (by omega) (by omega)) ?_
    refine Go.Sx.V rfl wu rfl rfl (ldE rfl na30 (hus.ext hE) hu) ?_
    refine Go.Sx.V rfl wu rfl rfl (asg rfl) ?_
    refine Go.Sx.V rfl wu rfl rfl (asg rfl) ?_
    refine wr_nil (post_thenN (wc_seq ?_))
    refine wc_region [0,1,2,3,4,5,6,7,8,9,10,11] rfl ?_
    refine Go.Sx.V rfl wu rfl rfl (mv rfl) ?_
    refine Go.Sx.V rfl wu rfl rfl (mv rfl) ?_
    refine Go.Sx.V rfl wu rfl rfl (mv rfl) ?_
    refine Go.Sx.V rfl wu rfl rfl (mv rfl) ?_
    refine Go.Sx.V rfl wu rfl rfl (mv rfl) ?_
    refine Go.Sx.V rfl wu rfl rfl (mv rfl) ?_
    refine Go.Sx.V rfl wu rfl rfl (mv rfl) ?_
    refine Go.Sx.V rfl wu rfl rfl (mv rfl) ?_
    refine Go.Sx.V rfl wu rfl rfl (mv rfl) ?_
    refine C rfl wu rfl rfl Tryz.call150 (bGap P g u tb (Bs j) x y a b rows cols nx _ ((hG.ext hE0).ext hE) (hur.ll.ext hE) (htb.ll.ext hE) (hxb j hc) hnx (Nat.le_trans (hyl j hc) hLr) ha hb (by omega) (by omega)) ?_
    rintro _ w5 hE5 rfl
    replace hE := hE.trans hE5
    replace hgo := Own.ext hgo hE5
    have hgoi := OwnI.ints hgo
    rw [← hgpv j]
    refine Go.Sx.V rfl wu rfl rfl (iadI rfl rfl ty22 hgoi (by omega) (by omega)) ?_
    refine STI rfl wu rfl rfl sz3 (by intro h; cases h) ?_
    intro w6 hg6 hX6 ho6 hi6
    refine wr_nil (post_thenN (wc_seq ?_))
    rw [show (gp j).1 = (fun t => (gp t).1) ((j : Int)).toNat from rfl, upd_step (by omega)] at ho6
    replace hE := hX6 _ (Nat.le_refl _) hE
    have hgl := upd_length L (fun t => (gp t).1) (fun _ => 0) ((j : Int) + 1)
    have hgj : gi (upd L (fun t => (gp t).1) (fun _ => 0) ((j : Int) + 1)) j = (gp j).1 := upd_get_lo (by omega) (by omega) (by omega)
    have hoi := OwnI.ints ho6
    have hdi6 := hdi.ext hE
    clear hi6 hX6 hg6 hgoi hgo
    have hfin : ∀ {w' : World}, OwnI w.heap.size w' gaps 3 (upd L (fun t => (gp t).1) (fun _ => 0) ((j : Int) + 1)) → OwnI w.heap.size w' gaps 3 (upd L (fun t => (gp t).1) (fun _ => 0) ((j + 1 : Nat) : Int)) := fun h => by
      rw [show ((j + 1 : Nat) : Int) = (j : Int) + 1 by omega]; exact h
    by_cases h0 : gp j = 0
    · skip
      refine wc_draw mixed [0,1,2,3,4,5,6,7,8,9,10,11,12,13,14,15,16,17,18,19] (by kernel_rfl) ?_
      intro w7 hd7 _
      replace hE := hE.trans hd7
      replace hoi := hoi.ext hd7
      replace hdi6 := hdi6.ext hd7
      refine Go.Sx.V rfl wu rfl rfl (mv rfl) ?_
      refine Go.Sx.V rfl wu rfl rfl (mv rfl) ?_
      refine Go.Sx.V rfl wu rfl rfl (iadI rfl rfl ty22 hoi (by omega) (by omega)) ?_
      refine Go.Sx.V rfl wu rfl rfl (ldI rfl na3 hoi) ?_
      refine Go.Sx.V rfl wu rfl rfl (neqI rfl rfl) ?_
      refine Go.Sx.V rfl wu rfl rfl (mv rfl) ?_
      refine KB 50 false rfl (by rw [hgj, h0]; rfl) ?_
      refine SK rfl rfl rfl rfl rfl ?_
      refine SK rfl rfl rfl rfl rfl ?_
      refine SK rfl rfl rfl rfl rfl ?_
      refine SKU rfl rfl rfl rfl ?_
      refine SKU rfl rfl rfl rfl ?_
      refine SKU rfl rfl rfl rfl ?_
      refine SKU rfl rfl rfl rfl ?_
      refine SKU rfl rfl rfl rfl ?_
      refine SKU rfl rfl rfl rfl ?_
      refine SKU rfl rfl rfl rfl ?_
      refine SKU rfl rfl rfl rfl ?_
      refine SKU rfl rfl rfl rfl ?_
      refine SK rfl rfl rfl rfl rfl ?_
      refine Go.Sx.V rfl wu rfl rfl (pk rfl rfl) ?_
      refine wr_nil (post_thenN ?_)
      refine wc_condF rfl (by rfl) ?_
      refine wc_skip (post_blockN (post_thenN ?_))
      refine wc_region [0,1] rfl ?_
      refine Go.Sx.V rfl wu rfl rfl (addI rfl rfl) ?_
      refine Go.Sx.V rfl wu rfl rfl (mv rfl) ?_
      refine wr_nil ?_
      exact post_loopN (j + 1, best) ⟨rfl, rfl, rfl, rfl, rfl, rfl, rfl, rfl, rfl, rfl, rfl, rfl, rfl, trivial⟩ ⟨by show j + 1 ≤ L; omega, hE, hfin (Own.ext ho6 hd7), hbst.skip h0⟩ (by show L - (j + 1) < L - j; omega)
    · have hg0 : (gp j).1 ≠ 0 := fun e => h0 (Subtype.ext e)
      rcases hbst with ⟨rfl, hb2⟩ | ⟨t, rfl, ht, hgt, hmin⟩
      · skip
        refine wc_draw mixed [0,1,2,3,4,5,6,7,8,9,10,11,12,13,14,15,16,17,18,19] (by kernel_rfl) ?_
        intro w7 hd7 _
        replace hE := hE.trans hd7
        replace hoi := hoi.ext hd7
        replace hdi6 := hdi6.ext hd7
        refine Go.Sx.V rfl wu rfl rfl (mv rfl) ?_
        refine Go.Sx.V rfl wu rfl rfl (mv rfl) ?_
        refine Go.Sx.V rfl wu rfl rfl (iadI rfl rfl ty22 hoi (by omega) (by omega)) ?_
        refine Go.Sx.V rfl wu rfl rfl (ldI rfl na3 hoi) ?_
        refine Go.Sx.V rfl wu rfl rfl (neqI rfl rfl) ?_
        refine Go.Sx.V rfl wu rfl rfl (mv rfl) ?_
        refine KB 50 true rfl (by rw [hgj, decide_eq_true hg0]) ?_
        refine Go.Sx.V rfl (wg rfl rfl) rfl rfl (mv rfl) ?_
        refine Go.Sx.V rfl (wg rfl rfl) rfl rfl (lssI rfl rfl) ?_
        refine Go.Sx.V rfl (wg rfl rfl) rfl rfl (mv rfl) ?_
        refine KB 53 true rfl (by rfl) ?_
        refine SK rfl rfl rfl rfl rfl ?_
        refine SK rfl rfl rfl rfl rfl ?_
        refine SK rfl rfl rfl rfl rfl ?_
        refine SK rfl rfl rfl rfl rfl ?_
        refine SK rfl rfl rfl rfl rfl ?_
        refine SK rfl rfl rfl rfl rfl ?_
        refine SK rfl rfl rfl rfl rfl ?_
        refine SK rfl rfl rfl rfl rfl ?_
        refine SK rfl rfl rfl rfl rfl ?_
        refine Go.Sx.V rfl (wg rfl rfl) rfl rfl (pk rfl rfl) ?_
        refine Go.Sx.V rfl wu rfl rfl (pk rfl rfl) ?_
        refine wr_nil (post_thenN ?_)
        refine wc_condT rfl (by rfl) ?_
        refine wc_region [0,1] rfl ?_
        refine Go.Sx.V rfl wu rfl rfl (mv rfl) ?_
        refine Go.Sx.V rfl wu rfl rfl (asg rfl) ?_
        refine wr_nil (post_blockN (post_thenN ?_))
        refine wc_region [0,1] rfl ?_
        refine Go.Sx.V rfl wu rfl rfl (addI rfl rfl) ?_
        refine Go.Sx.V rfl wu rfl rfl (mv rfl) ?_
        refine wr_nil ?_
        exact post_loopN (j + 1, j) ⟨rfl, rfl, rfl, rfl, rfl, rfl, rfl, rfl, rfl, rfl, rfl, rfl, rfl, trivial⟩ ⟨by show j + 1 ≤ L; omega, hE, hfin (Own.ext ho6 hd7), Bst.fresh hb2 h0⟩ (by show L - (j + 1) < L - j; omega)
      · skip
        refine wc_draw mixed [0,1,2,3,4,5,6,7,8,9,10,11,12,13,14,15,16,17,18,19] (by kernel_rfl) ?_
        intro w7 hd7 _
        replace hE := hE.trans hd7
        replace hoi := hoi.ext hd7
        replace hdi6 := hdi6.ext hd7
        refine Go.Sx.V rfl wu rfl rfl (mv rfl) ?_
        refine Go.Sx.V rfl wu rfl rfl (mv rfl) ?_
        refine Go.Sx.V rfl wu rfl rfl (iadI rfl rfl ty22 hoi (by omega) (by omega)) ?_
        refine Go.Sx.V rfl wu rfl rfl (ldI rfl na3 hoi) ?_
        refine Go.Sx.V rfl wu rfl rfl (neqI rfl rfl) ?_
        refine Go.Sx.V rfl wu rfl rfl (mv rfl) ?_
        refine KB 50 true rfl (by rw [hgj, decide_eq_true hg0]) ?_
        refine Go.Sx.V rfl (wg rfl rfl) rfl rfl (mv rfl) ?_
        refine Go.Sx.V rfl (wg rfl rfl) rfl rfl (lssI rfl rfl) ?_
        refine Go.Sx.V rfl (wg rfl rfl) rfl rfl (mv rfl) ?_
        refine KB 53 false rfl (by rw [decide_eq_false (by omega)]) ?_
        refine Go.Sx.V rfl (wg rfl rfl) rfl rfl (mv rfl) ?_
        refine Go.Sx.V rfl (wg rfl rfl) rfl rfl (mv rfl) ?_
        refine Go.Sx.V rfl (wg rfl rfl) rfl rfl (iadI rfl rfl ty22 hdi6 (by omega) (by omega)) ?_
        refine Go.Sx.V rfl (wg rfl rfl) rfl rfl (ldI rfl na3 hdi6) ?_
        refine Go.Sx.V rfl (wg rfl rfl) rfl rfl (mv rfl) ?_
        refine Go.Sx.V rfl (wg rfl rfl) rfl rfl (mv rfl) ?_
        refine Go.Sx.V rfl (wg rfl rfl) rfl rfl (iadI rfl rfl ty22 hdi6 (by omega) (by omega)) ?_
        refine Go.Sx.V rfl (wg rfl rfl) rfl rfl (ldI rfl na3 hdi6) ?_
        refine Go.Sx.V rfl (wg rfl rfl) rfl rfl (lssI rfl rfl) ?_
        refine Go.Sx.V rfl (wg rfl rfl) rfl rfl (pk rfl rfl) ?_
        refine Go.Sx.V rfl wu rfl rfl (pk rfl rfl) ?_
        refine wr_nil (post_thenN ?_)
        rw [hdg j hc, hdg t (by omega)]
        refine wc_cond rfl ?_ ?_
        · intro hlt
          simp at hlt
          refine wc_region [0,1] rfl ?_
          refine Go.Sx.V rfl wu rfl rfl (mv rfl) ?_
          refine Go.Sx.V rfl wu rfl rfl (asg rfl) ?_
          refine wr_nil (post_blockN (post_thenN ?_))
          refine wc_region [0,1] rfl ?_
          refine Go.Sx.V rfl wu rfl rfl (addI rfl rfl) ?_
          refine Go.Sx.V rfl wu rfl rfl (mv rfl) ?_
          refine wr_nil ?_
          exact post_loopN (j + 1, j) ⟨rfl, rfl, rfl, rfl, rfl, rfl, rfl, rfl, rfl, rfl, rfl, rfl, rfl, trivial⟩ ⟨by show j + 1 ≤ L; omega, hE, hfin (Own.ext ho6 hd7), Bst.new hmin h0 hlt⟩ (by show L - (j + 1) < L - j; omega)
        · intro hlt
          simp at hlt
          refine wc_skip (post_blockN (post_thenN ?_))
          refine wc_region [0,1] rfl ?_
          refine Go.Sx.V rfl wu rfl rfl (addI rfl rfl) ?_
          refine Go.Sx.V rfl wu rfl rfl (mv rfl) ?_
          refine wr_nil ?_
          exact post_loopN (j + 1, t) ⟨rfl, rfl, rfl, rfl, rfl, rfl, rfl, rfl, rfl, rfl, rfl, rfl, rfl, trivial⟩ ⟨by show j + 1 ≤ L; omega, hE, hfin (Own.ext ho6 hd7), Bst.keep ht hgt hmin hlt⟩ (by show L - (j + 1) < L - j; omega)
  · intro hc
    simp at hc
    obtain rfl : j = L := by omega
    rw [upd_last j _ _ (Int.le_refl _)] at hgo
    have hgl : (tab j fun t => (gp t).1).length = j := tab_length _ _
    refine wc_exit (post_thenE (post_loopE (post_blockX (post_thenN (wc_seq (wc_seq ?_))))))
    refine wc_region [0,1] rfl ?_
    refine Go.Sx.V rfl wu rfl rfl (mv rfl) ?_
    refine Go.Sx.V rfl wu rfl rfl (lssI rfl rfl) ?_
    refine wr_nil (post_thenN ?_)
    rcases hbst with ⟨rfl, hb2⟩ | ⟨t, rfl, ht, hgt, hmin⟩
    · skip
      refine wc_condT rfl (by rfl) ?_
      refine wc_ret (post_thenR ?_)
      refine post_ret0 rfl ⟨Gr.of_ext hE, Bs, d, .inl ⟨fun s hs => by rw [← hgpv]; exact hb2 s hs, rfl, rfl⟩, hbase.ext hE, Own.ext hdeg hE⟩
    · skip
      refine wc_condF rfl (by rw [decide_eq_false (by omega)]) ?_
      refine wc_skip (post_thenN (wc_seq ?_))
      obtain ⟨ut, hut, hutr⟩ := husr t ht
      rw [bl_get ht] at hutr
      refine wc_region [0,1,2,3,4] rfl ?_
      refine Go.Sx.V rfl wu rfl rfl (mv rfl) ?_
      refine Go.Sx.V rfl wu rfl rfl (mv rfl) ?_
      refine Go.Sx.V rfl wu rfl rfl (iad rfl rfl ty145 (hus.ext hE) (by omega) (by omega)) ?_
      refine Go.Sx.V rfl wu rfl rfl (ldE rfl na30 (hus.ext hE) hut) ?_
      refine Go.Sx.V rfl wu rfl rfl (asg rfl) ?_
      refine wr_nil (post_thenN (wc_seq (wc_seq ?_)))
      refine wc_region [0,1,2] rfl ?_
      refine Go.Sx.V rfl wu rfl rfl (mv rfl) ?_
      refine Go.Sx.V rfl wu rfl rfl (lenS rfl ty145 (hus.ext hE)) ?_
      refine Go.Sx.V rfl wu rfl rfl (mv rfl) ?_
      refine wr_nil (post_thenN (wc_block ?_))
      rw [husl]
      have hbase4 := hbase.ext hE
      rw [← bls_zero j (oth gp t Bs) Bs] at hbase4
      have hXb : ∀ k, base.ownBlock = some k → k ∈ [bb, db] := fun k hk => by rw [hbb] at hk; cases hk; simp
      have hXlt : ∀ k ∈ [bb, db], k < w.heap.size := fun k hk => by
        simp only [List.mem_cons, List.not_mem_nil, or_false] at hk
        rcases hk with rfl | rfl <;> omega
      have hbdn : degree.ownBlock ≠ base.ownBlock := by rw [hdb, hbb]; intro e; exact hbd (Option.some.inj e).symm
      have hbgn : gaps.ownBlock ≠ base.ownBlock := by rw [hgb, hbb]; intro e; have := Option.some.inj e; omega
      refine wc_loop (fun s : Nat => [(0, g), (1, base), (2, degree), (3, .int .i64 x), (16, gaps), (17, .int .i64 t), (20, ut), (73, base), (74, .int .i64 j), (75, .int .i64 s)])
        (fun s w' => s ≤ j ∧ Gr [bb, db] w w' ∧ Ext w0 w' ∧ BO [bb, db] w0.heap.size w' base 30 (bls j (oth gp t Bs) Bs s) ∧ OwnI w0.heap.size w' degree 3 (tab j fun j => (d j : Int)) ∧ OwnI w.heap.size w' gaps 3 (tab j fun t => (gp t).1)) (fun s => j - s) 0 ⟨rfl, rfl, rfl, rfl, rfl, rfl, rfl, rfl, rfl, rfl, trivial⟩ ⟨by omega, Gr.of_ext hE, hE0.trans hE, hbase4, Own.ext hdeg hE, hgo⟩ ?_
      clear hE hbase4 hgo hupl hdeg
      rintro s w5 ⟨s1, hGr, hX, hbs, hdeg, hgo⟩
      have hgoi := OwnI.ints hgo
      have hgs : ∀ s : Nat, s < j → gi (tab j fun t => (gp t).1) (s : Int) = (gp s).1 := fun s hs => by rw [gi_tab (by omega) (by omega)]; rfl
      try dsimp only
      refine wc_seq ?_
      refine wc_region [0] rfl ?_
      refine Go.Sx.V rfl wu rfl rfl (lssI rfl rfl) ?_
      refine wr_nil (post_thenN (wc_seq ?_))
      refine wc_cond rfl ?_ ?_
      · intro hc3
        simp at hc3
        refine wc_skip (post_thenN (wc_seq (wc_block (wc_seq ?_))))
        refine wc_region [0,1] rfl ?_
        refine Go.Sx.V rfl wu rfl rfl (mv rfl) ?_
        refine Go.Sx.V rfl wu rfl rfl (asg rfl) ?_
        refine wr_nil (post_thenN (wc_seq ?_))
        refine wc_region [0,1,2,3,4,5,6,7,8,9] rfl ?_
        refine Go.Sx.V rfl wu rfl rfl (mv rfl) ?_
        refine Go.Sx.V rfl wu rfl rfl (mv rfl) ?_
        refine Go.Sx.V rfl wu rfl rfl (neqI rfl rfl) ?_
        refine Go.Sx.V rfl wu rfl rfl (mv rfl) ?_
        refine AND (π1 := [4,5,6,7,8,9]) (π2 := []) (tc := 81) (tp := 87) rfl rfl rfl (by
            intro hg
            simp at hg
            refine Go.Sx.V rfl (wg rfl rfl) rfl rfl (mv rfl) ?_
            refine Go.Sx.V rfl (wg rfl rfl) rfl rfl (mv rfl) ?_
            refine Go.Sx.V rfl (wg rfl rfl) rfl rfl (iadI rfl rfl ty22 hgoi (by omega) (by omega)) ?_
            refine Go.Sx.V rfl (wg rfl rfl) rfl rfl (ldI rfl na3 hgoi) ?_
            refine Go.Sx.V rfl (wg rfl rfl) rfl rfl (neqI rfl rfl) ?_
            refine Go.Sx.V rfl wu rfl rfl (pk rfl rfl) ?_
            exact join rfl) (by
            intro _
            refine SK rfl rfl rfl rfl rfl ?_
            refine SK rfl rfl rfl rfl rfl ?_
            refine SK rfl rfl rfl rfl rfl ?_
            refine SK rfl rfl rfl rfl rfl ?_
            refine SK rfl rfl rfl rfl rfl ?_
            refine Go.Sx.V rfl wu rfl rfl (pk rfl rfl) ?_
            exact join rfl) ?_
        refine wr_nil (post_thenN ?_)
        rw [hgs s hc3]
        refine wc_cond rfl ?_ ?_
        · intro hc4
          simp at hc4
          have hst : s ≠ t := by omega
          have hgs0 : gp s ≠ 0 := fun e => hc4.2 (by rw [e]; rfl)
          have hgit : inK P (gi (tab j fun t => (gp t).1) (t : Int)) ≠ 0 := by rw [hgs t ht, inK_val]; exact hgt
          have hov := oth_yes (Bs := Bs) ⟨hst, hgs0⟩
          refine wc_seq ?_
          refine wc_draw mixed [0,1,2,3,4,5,7,8,9,10,6,11,12,13,14,15,16] (by kernel_rfl) ?_
          intro w6 hd6 _
          replace hX := hX.trans hd6
          replace hgoi := hgoi.ext hd6
          refine Go.Sx.V rfl wu rfl rfl (mv rfl) ?_
          refine Go.Sx.V rfl wu rfl rfl (mv rfl) ?_
          refine Go.Sx.V rfl wu rfl rfl (mv rfl) ?_
          refine Go.Sx.V rfl wu rfl rfl (mv rfl) ?_
          refine Go.Sx.V rfl wu rfl rfl (iadI rfl rfl ty22 hgoi (by omega) (by omega)) ?_
          refine Go.Sx.V rfl wu rfl rfl (ldI rfl na3 hgoi) ?_
          refine Go.Sx.V rfl wu rfl rfl (mv rfl) ?_
          refine Go.Sx.V rfl wu rfl rfl (mv rfl) ?_
          refine Go.Sx.V rfl wu rfl rfl (iadI rfl rfl ty22 hgoi (by omega) (by omega)) ?_
          refine Go.Sx.V rfl wu rfl rfl (ldI rfl na3 hgoi) ?_
          refine C rfl wu rfl rfl Tryz.call151 (gNeg P g _ _ (hG.ext hX)) ?_
          rintro _ w7 hE7 rfl
          replace hX := hX.trans hE7
          refine C rfl wu rfl rfl Tryz.call56 (gDiv P g _ _ _ (hG.ext hX) hgit) ?_
          rintro _ w8 hE8 rfl
          replace hX := hX.trans hE8
          refine Go.Sx.V rfl wu rfl rfl (mv rfl) ?_
          refine Go.Sx.V rfl wu rfl rfl (ext rfl rfl) ?_
          refine Go.Sx.V rfl wu rfl rfl (ext rfl rfl) ?_
          refine Go.Sx.V rfl wu rfl rfl (asg rfl) ?_
          refine Go.Sx.V rfl wu rfl rfl (asg rfl) ?_
          refine wr_nil (post_thenN ?_)
          rw [hgs s hc3, hgs t ht, inK_val, inK_val, inK_val, show -gp s * invK P (gp t) = tk gp t s from rfl]
          have hE58 := (hd6.trans hE7).trans hE8
          have hbs8 := hbs.ext hE58
          obtain ⟨vs, hvs, hvsl, hvsr⟩ := hbs8.row
          rw [bls_length] at hvsl hvsr
          obtain ⟨us', hus', husr'⟩ := hvsr s hc3
          rw [bls_get hc3, if_neg (by omega)] at husr'
          have hut8 := (hutr.gr hGr (Newer.refl _ _)).ext hE58
          have hrb1 : RB 1 [[(tk gp t s).1]] := fun j => by
            cases j with
            | zero => simp
            | succ j => simp
          have hE8r := Ext.refl w8
          have hsz8 := hGr.size
          have hsz9 := hE58.size
          have hblt := bls_length j (oth gp t Bs) Bs s
          refine wc_draw mixed [0,1,2,3,4,5,6,7,8,11,9,10,12,13,14,15] (by kernel_rfl) ?_
          intro w9 hd9 _
          replace hE8r := hE8r.trans hd9
          replace hX := hX.trans hd9
          replace hvs := hvs.ext hd9
          replace hbs8 := hbs8.ext hd9
          replace husr' := husr'.ext hd9
          replace hut8 := hut8.ext hd9
          refine Go.Sx.V rfl wu rfl rfl (mv rfl) ?_
          refine Go.Sx.V rfl wu rfl rfl (mv rfl) ?_
          refine Go.Sx.V rfl wu rfl rfl (mv rfl) ?_
          refine Go.Sx.V rfl wu rfl rfl (mv rfl) ?_
          refine Go.Sx.V rfl wu rfl rfl (mv rfl) ?_
          refine Go.Sx.V rfl wu rfl rfl (iad rfl rfl ty145 hvs (by omega) (by omega)) ?_
          refine Go.Sx.V rfl wu rfl rfl (ldE rfl na30 hvs hus') ?_
          refine Go.Sx.V rfl wu rfl rfl (mv rfl) ?_
          refine Go.Sx.V rfl wu rfl rfl (mv rfl) ?_
          refine Go.Sx.V rfl wu rfl rfl (mv rfl) ?_
          refine BSI (zs := [(tk gp t s).1]) rfl wu rfl rfl rfl rfl ty22 ?_
          intro q1 w10 hE10 hq1o hq1 hq1b
          replace hX := hX.trans hE10
          replace hE8r := hE8r.trans hE10
          refine BSL (us := [q1]) (L := [[(tk gp t s).1]]) rfl wu rfl rfl rfl rfl ty30 (Go.Sx.rows1 hq1) ?_
          intro q2 w11 hE11 hq2
          replace hX := hX.trans hE11
          replace hE8r := hE8r.trans hE11
          refine C rfl wu rfl rfl Tryz.call153 (bMul P g q2 ut [[(tk gp t s).1]] (bcl (Bs t)) 1 nx _ (hG.ext hX) hq2 ((hut8.ll.ext hE10).ext hE11) hrb1 (XB.rb (hxb t ht)) (by omega) (by omega) (by simp) (by have := hyl t ht; omega)) ?_
          intro m1 w12 hE12 hm1
          rw [bz_bcl, bz1, inK_val] at hm1
          replace hX := hX.trans hE12
          replace hE8r := hE8r.trans hE12
          refine C rfl wu rfl rfl Tryz.call152 (bAdd P g us' m1 (bcl (Bs s)) _ _ (hG.ext hX) (((husr'.ll.ext hE10).ext hE11).ext hE12) hm1.ll (XB.rb ((hxb s hc3).mono (by omega))) (XB.rb ((xb_C (hxb t ht) _).mono (by omega))) (by have := hyl s hc3; omega) (by have := bcl_len (YB.mulC (hyb t ht) (pC (tk gp t s))); omega)) ?_
          intro m2 w13 hE13 hm2
          rw [bz_bcl, bz_bcl, ← hov] at hm2
          replace hX := hX.trans hE13
          replace hE8r := hE8r.trans hE13
          have hbs13 := hbs8.ext ((((hE10.trans hE11).trans hE12).trans hE13))
          have hz12 := ((hE10.trans hE11).trans hE12).size
          have hz9 := hd9.size
          refine Go.Sx.V rfl wu rfl rfl (iad rfl rfl ty145 ((((hvs.ext hE10).ext hE11).ext hE12).ext hE13) (by omega) (by omega)) ?_
          refine STBO rfl wu rfl rfl sz30 (by intro h; kernel_rfl) (LO.llx hm2 (fun k hk => by have := hXlt k hk; omega)) hXb ?_ hbs13 (by omega) (by omega)
          intro w14 hg14 hX14 hb14
          refine wr_nil (post_blockN (post_thenN ?_))
          rw [bls_step] at hb14
          have hgo14 := Own.kept (Own.ext hgo (hE58.trans hE8r)) hg14 (.inl hbgn)
          have hdeg14 := Own.kept (Own.ext hdeg (hE58.trans hE8r)) hg14 (.inl hbdn)
          refine wc_region [0,1] rfl ?_
          refine Go.Sx.V rfl wu rfl rfl (addI rfl rfl) ?_
          refine Go.Sx.V rfl wu rfl rfl (mv rfl) ?_
          refine wr_nil ?_
          exact post_loopN (s + 1) ⟨rfl, rfl, rfl, rfl, rfl, rfl, rfl, rfl, rfl, rfl, trivial⟩ ⟨by omega, (hGr.trans (Gr.of_ext (hE58.trans hE8r))).trans (Gr.of_grown hg14 hXb), hX14 _ (Nat.le_refl _) hX, hb14, hdeg14, hgo14⟩ (by omega)
        · intro hc4
          have hno : ¬ (s ≠ t ∧ gp s ≠ 0) := fun h => by
            have h2 : (gp s).1 ≠ 0 := fun e => h.2 (Subtype.ext e)
            simp at hc4
            exact h2 (hc4 (by omega))
          rw [bls_skip (oth_no hno)] at hbs
          refine wc_skip (post_blockN (post_thenN ?_))
          refine wc_region [0,1] rfl ?_
          refine Go.Sx.V rfl wu rfl rfl (addI rfl rfl) ?_
          refine Go.Sx.V rfl wu rfl rfl (mv rfl) ?_
          refine wr_nil ?_
          exact post_loopN (s + 1) ⟨rfl, rfl, rfl, rfl, rfl, rfl, rfl, rfl, rfl, rfl, trivial⟩ ⟨by omega, hGr, hX, hbs, hdeg, hgo⟩ (by omega)
      · intro hc3
        simp at hc3
        obtain rfl : s = j := by omega
        rw [bls_last] at hbs
        have hut5 := hutr.gr hGr (Newer.refl _ _)
        obtain ⟨vs, hvs, hvsl, _⟩ := hbs.row
        rw [bl_length] at hvsl
        have hrb2 : RB 2 [[(-inK P x).1, 1]] := fun j => by
          cases j with
          | zero => simp
          | succ j => simp
        have hbl2 := bl_length s (oth gp t Bs)
        have hsz5 := hGr.size
        refine wc_exit (post_thenE (post_loopE (post_blockX (post_thenN (wc_seq ?_)))))
        refine wc_region [0,1,2,3,4,5,6,7,8,9,10,11] rfl ?_
        refine Go.Sx.V rfl wu rfl rfl (mv rfl) ?_
        refine Go.Sx.V rfl wu rfl rfl (mv rfl) ?_
        refine Go.Sx.V rfl wu rfl rfl (mv rfl) ?_
        refine Go.Sx.V rfl wu rfl rfl (mv rfl) ?_
        refine Go.Sx.V rfl wu rfl rfl (mv rfl) ?_
        refine C rfl wu rfl rfl Tryz.call151 (gNeg P g _ _ (hG.ext hX)) ?_
        rintro _ w7 hE7 rfl
        replace hX := hX.trans hE7
        refine BSI (zs := [(-inK P x).1, 1]) rfl wu rfl rfl rfl rfl ty22 ?_
        intro q1 w10 hE10 hq1o hq1 hq1b
        replace hX := hX.trans hE10
        refine BSL (us := [q1]) (L := [[(-inK P x).1, 1]]) rfl wu rfl rfl rfl rfl ty30 (Go.Sx.rows1 hq1) ?_
        intro q2 w11 hE11 hq2
        replace hX := hX.trans hE11
        refine Go.Sx.V rfl wu rfl rfl (mv rfl) ?_
        refine C rfl wu rfl rfl Tryz.call153 (bMul P g q2 ut [[(-inK P x).1, 1]] (bcl (Bs t)) 2 nx _ (hG.ext hX) hq2 (((hut5.ll.ext hE7).ext hE10).ext hE11) hrb2 (XB.rb (hxb t ht)) (by omega) (by omega) (by simp) (by have := hyl t ht; omega)) ?_
        intro m1 w12 hE12 hm1
        rw [bz_bcl, bz2_mul, inK_val] at hm1
        replace hX := hX.trans hE12
        have hE5 := (((hE7.trans hE10).trans hE11).trans hE12)
        have hbs12 := hbs.ext hE5
        have hz := ((hE7.trans hE10).trans hE11).size
        refine Go.Sx.V rfl wu rfl rfl (iad rfl rfl ty145 (hvs.ext hE5) (by omega) (by omega)) ?_
        refine STBO rfl wu rfl rfl sz30 (by intro h; cases h) (LO.llx hm1 (fun k hk => by have := hXlt k hk; omega)) hXb ?_ hbs12 (by omega) (by omega)
        intro w14 hg14 hX14 hb14
        refine wr_nil (post_thenN ?_)
        rw [bl_set] at hb14
        have hdeg14 : OwnI w0.heap.size w14 degree 3 (tab s fun j => (d j : Int)) := Own.kept (Own.ext hdeg hE5) hg14 (.inl hbdn)
        have hGr14 := (hGr.trans (Gr.of_ext hE5)).trans (Gr.of_grown hg14 hXb)
        replace hX := hX14 _ (Nat.le_refl _) hX
        have hdi14 := OwnI.ints hdeg14
        have hdt := hd t ht
        refine wc_region [0,1,2,3,4,5,6] rfl ?_
        refine Go.Sx.V rfl wu rfl rfl (mv rfl) ?_
        refine Go.Sx.V rfl wu rfl rfl (mv rfl) ?_
        refine Go.Sx.V rfl wu rfl rfl (iadI rfl rfl ty22 hdi14 (by omega) (by omega)) ?_
        refine Go.Sx.V rfl wu rfl rfl (ldI rfl na3 hdi14) ?_
        rw [hdg t ht]
        refine Go.Sx.V rfl wu rfl rfl (addI rfl rfl) ?_
        refine Go.Sx.V rfl wu rfl rfl (iadI rfl rfl ty22 hdi14 (by omega) (by omega)) ?_
        refine STI rfl wu rfl rfl sz3 (by intro h; cases h) ?_
        intro w15 hg15 hX15 ho15 hi15
        refine wr_nil ?_
        have hdn : si (tab s fun j => (d j : Int)) (t : Int) ((d t : Int) + 1) = tab s fun j => (((if j = t then d t + 1 else d j : Nat)) : Int) := by
          rw [si_tab]
          refine tab_congr fun i _ => ?_
          rw [Int.toNat_natCast]
          by_cases e : i = t
          · rw [if_pos e, if_pos e]; omega
          · rw [if_neg e, if_neg e]
        rw [hdn] at ho15
        have hb15 := hb14.kept hg15 (Ne.symm hbdn) (fun k hk => by rw [hdb] at hk; cases hk; simp)
        refine post_end0 rfl ⟨hGr14.trans (Gr.of_grown hg15 (fun k hk => by rw [hdb] at hk; cases hk; simp)), _, _, .inr ⟨t, ht, by rw [← hgpv]; exact hgt, fun s hs hne => hmin s hs (by rw [hgpv]; exact hne), rfl, rfl⟩, ?_, ho15⟩
        rw [← hgp]
        exact hb15
end Go.Proofs.YtmnojknfjbimdaaGreat

