/-
  Bounded decoding, part 4: the decoder of Reed-Solomon codes, by contract.
-/
import Derived.Test.YtmnojknfjbimdaaGreatUBd3
import Derived.Test.YtmnojknfjbimdaaGreatULd2
import Derived.Test.YtmnojknfjbimdaaGreatURLin1
namespace Go.Fd
open Go.Pl Go.Alg
variable {P : FP}
theorem agree_iff {g : K P} (hgen : HasOrder g (n1 P)) {xs ms ws : List Int} {k : Int} (h : GrsOk P.q xs ms k) (hw : AllIn P.q ws) (hwl : ws.length = xs.length) {f : Pol (K P)} {i : Nat} (hi : i < xs.length) :
    val1 f (inK P (gi xs i)) = inK P (gi (vals P ws ms) i) ↔ gi (encW P xs ms f) i = gi ws i := by
  have hml := h.ml
  have hm0 : inK P (gi ms i) ≠ 0 := inK_ne (h.min i (by omega)) (h.noz i (by omega))
  have hmul := mul_invK hgen hm0
  have hwv : (inK P (gi ws i)).1 = gi ws i := by rw [inK_in (hw i (by omega))]
  rw [encW_get hi, vals_get (by omega)]
  constructor
  · intro e
    rw [e, mul_left_comm, hmul, mul_one, hwv]
  · intro e
    have e2 : inK P (gi ms i) * val1 f (inK P (gi xs i)) = inK P (gi ws i) := Subtype.ext (e.trans hwv.symm)
    rw [← e2, mul_comm (inK P (gi ms i)), mul_assoc, hmul, mul_one]
theorem wrN_dis {g : K P} (hgen : HasOrder g (n1 P)) {xs ms ws : List Int} {k : Int} (h : GrsOk P.q xs ms k) (hw : AllIn P.q ws) (hwl : ws.length = xs.length) {f : Pol (K P)} (n : Nat) (hn : n ≤ xs.length) : wrN f (fun i : Nat => inK P (gi xs i)) (fun i : Nat => inK P (gi (vals P ws ms) i)) n = disN (encW P xs ms f) ws n := by
  have ha : ∀ i, i < xs.length → (val1 f (inK P (gi xs i)) = inK P (gi (vals P ws ms) i) ↔ gi (encW P xs ms f) i = gi ws i) := fun i hi => agree_iff hgen h hw hwl hi
  generalize vals P ws ms = vs at ha ⊢
  generalize encW P xs ms f = c at ha ⊢
  induction n with
  | zero => simp [wrN, disN, ns]
  | succ n ih =>
    have ih := ih (by omega)
    have ha := ha n (by omega)
    by_cases e : gi c n = gi ws n
    · rw [wrN_hit (f := f) (X := fun i : Nat => inK P (gi xs i)) (Y := fun i : Nat => inK P (gi vs i)) (n := n) (ha.2 e), ih, disN_step, if_pos e, Nat.add_zero]
    · rw [wrN_miss (f := f) (X := fun i : Nat => inK P (gi xs i)) (Y := fun i : Nat => inK P (gi vs i)) (n := n) (fun hh => e (ha.1 hh)), ih, disN_step, if_neg e]
theorem take_gi {l : List Int} {i : Nat} (h : i < l.length) : l.take i ++ [gi l i] = l.take (i + 1) := by
  rw [List.take_succ_eq_append_getElem h, gi_ge h]
end Go.Fd
namespace Go.Proofs.YtmnojknfjbimdaaGreat
open Go Go.Sx Go.Pl Go.RowKit Go.Fd Go.Alg Go.Ld
theorem infoDc : Tryz.prog.info? 59 = some Tryz.t59 := by kernel_rfl
theorem sv59 : ∀ w, (sizeOf 59).run Tryz.prog w = .ok 2 w := fun w => by simp [sizeOf, typeInfo, infoDc]; rfl
theorem zv59 : ZV Tryz.prog 59 [.slice none 0 0, .slice none 0 0] := fun w => ⟨_, by simp [zeroValue, typeInfo, infoDc]; rfl, rfl⟩
theorem ag59 : AG Tryz.prog 59 2 := ⟨fun w => by simp [isAgg, run_underlying Tryz.underlying59], sv59⟩
theorem fa59_0 : FA Tryz.prog 59 0 0 := fun a w => by
  simp [Instr.fieldAt, run_underlying Tryz.underlying59, Instr.sureAddr, fieldPlace]
theorem fa59_1 : FA Tryz.prog 59 1 1 := fun a w => by
  simp [Instr.fieldAt, run_underlying Tryz.underlying59, Instr.sureAddr, fieldPlace]
theorem bdDc (v : Value) (hv : v.cells = #[v]) : ∀ w, (Instr.build 59 #[(0, v)]).run Tryz.prog w = .ok (.agg #[v, .slice none 0 0]) w := fun w => by
  obtain ⟨zv, h1, h2⟩ := zv59 w
  simp [Instr.build, h1, h2, run_underlying Tryz.underlying59, Instr.fill, hv]
theorem bdDc0 : ∀ w, (Instr.build 59 #[]).run Tryz.prog w = .ok (.agg #[.slice none 0 0, .slice none 0 0]) w := fun w => by
  obtain ⟨zv, h1, h2⟩ := zv59 w
  simp [Instr.build, h1, h2, run_underlying Tryz.underlying59, Instr.fill]
set_option maxRecDepth 10000 in
theorem bResult (cv wv ev : Value) (c ws : List Int) (bs : List Value) (rad : Int) (w : World) (hc : Ints w cv c) (hw : Ints w wv ws) (he : Sl w ev bs) (hb : bs = List.replicate c.length (.bool false)) (hl : ws.length = c.length) (hn : c.length ≤ 64) :
    Calls Tryz.prog 52 #[cv, wv, ev, .int .i64 rad] w (RetX w fun r w' => ((disN c ws c.length : Int) > rad ∧ r = .tuple #[.agg #[.slice none 0 0, .slice none 0 0], .int .i64 12]) ∨
      ((disN c ws c.length : Int) ≤ rad ∧ ∃ pv pos, r = .tuple #[.agg #[cv, pv], .int .i64 0] ∧ IntsX (List.range w.heap.size) w' pv pos ∧ pos.length = disN c ws c.length)) := by
  have hbl : bs.length = c.length := by rw [hb]; simp
  have hbg : ∀ i, i < c.length → bs[i]? = some (.bool false) := fun i hi => by rw [hb, List.getElem?_replicate, if_pos hi]
  clear hb
  have hco := hc.one
  refine calls4 Tryz.func52 rfl rfl ?_
  refine wc_seq ?_
  refine wc_region [0,1] rfl ?_
  refine AL rfl wu rfl zv59 ?_
  intro rb w1 hE hR hrb
  refine Go.Sx.V rfl wu rfl rfl (asg rfl) ?_
  refine wr_nil (post_thenN (wc_seq ?_))
  have hrl := hR.lt
  refine wc_region [0,1,2,3] rfl ?_
  refine Go.Sx.V rfl wu rfl rfl (mv rfl) ?_
  refine Go.Sx.V rfl wu rfl rfl (bld (us := [cv]) (r := [cv, .slice none 0 0]) rfl (bdDc cv (one_cells hco))) ?_
  refine AL rfl wu rfl zv59 ?_
  intro db w2 hE2 hD hdb
  have hz2 := hE2.size
  replace hR := hR.ext hE2
  replace hE := hE.trans hE2
  refine STB (vs := [cv, .slice none 0 0]) (cs' := [cv, .slice none 0 0]) rfl wu rfl rfl rfl sv59 (by intro h; cases h) (by assumption) (by first | (simp [Value.oneCell']; done) | (intro v hv; simp only [List.mem_cons, List.not_mem_nil, or_false] at hv; rcases hv with rfl | rfl | rfl | rfl | rfl <;> first | rfl | assumption) | (intro v hv; simp only [List.mem_cons, List.not_mem_nil, or_false] at hv; rcases hv with rfl | rfl | rfl <;> first | rfl | assumption) | (intro v hv; simp only [List.mem_cons, List.not_mem_nil, or_false] at hv; rcases hv with rfl | rfl <;> first | rfl | assumption)) rfl rfl rfl ?_
  intro w3 hg3 hX3 hD3
  refine wr_nil (post_thenN (wc_seq (wc_seq ?_)))
  have hdl := hD.lt
  have hz1 := hE.size
  have hz3 := hg3.size
  replace hE := hX3 w (by omega) hE
  replace hR := hR.grown hg3 (by intro hh; cases hh; omega)
  obtain ⟨B, hBB⟩ : ∃ B, B = w2.heap.size := ⟨_, rfl⟩
  rw [← hBB] at hz3 hdl hz1
  have hci := hc.ext hE
  refine wc_region [0,1,2] rfl ?_
  refine Go.Sx.V rfl wu rfl rfl (mv rfl) ?_
  refine Go.Sx.V rfl wu rfl rfl (lenI rfl ty22 hci) ?_
  refine Go.Sx.V rfl wu rfl rfl (mv rfl) ?_
  refine wr_nil (post_thenN (wc_block ?_))
  refine wc_loop (fun p : Nat × Value => [(0, cv), (1, wv), (2, ev), (3, .int .i64 rad), (8, .pointer (some ⟨rb, 0, none⟩)), (10, .pointer (some ⟨db, 0, none⟩)), (14, cv), (15, .int .i64 c.length), (16, .int .i64 p.1)])
    (fun p w' => p.1 ≤ c.length ∧ B ≤ w'.heap.size ∧ Ext w w' ∧ Blk w' rb 59 #[.slice none 0 0, .slice none 0 0] ∧ Blk w' db 59 #[cv, p.2] ∧ ∃ pos, OwnI B w' p.2 3 pos ∧ pos.length = disN c ws p.1) (fun p => c.length - p.1) (0, .slice none 0 0) ⟨rfl, rfl, rfl, rfl, rfl, rfl, rfl, rfl, rfl, trivial⟩ ⟨by simp, hz3, hE, hR, hD3, [], Own.nil _ _ _, rfl⟩ ?_
  clear hE hR hD hD3 hci hg3 hX3 hz3
  rintro ⟨i, pv⟩ w4 ⟨i1, hz4, hE, hR, hD, pos, hp, hpl⟩
  dsimp only at i1 hD hp hpl
  have hci := hc.ext hE
  have hwi := hw.ext hE
  have hei := he.ext hE
  have hds := disN_le c ws i
  have hpdb : pv.ownBlock ≠ some db := fun e => by have := (Own.lt hp db e).1; omega
  have hprb : pv.ownBlock ≠ some rb := fun e => by have := (Own.lt hp rb e).1; omega
  try dsimp only
  refine wc_seq ?_
  refine wc_region [0] rfl ?_
  refine Go.Sx.V rfl wu rfl rfl (lssI rfl rfl) ?_
  refine wr_nil (post_thenN (wc_seq ?_))
  refine wc_cond rfl ?_ ?_
  · intro hc0
    simp at hc0
    have hst := disN_step c ws i
    refine wc_skip (post_thenN (wc_seq (wc_block (wc_seq ?_))))
    refine wc_region [0,1] rfl ?_
    refine Go.Sx.V rfl wu rfl rfl (mv rfl) ?_
    refine Go.Sx.V rfl wu rfl rfl (asg rfl) ?_
    refine wr_nil (post_thenN (wc_seq ?_))
    refine wc_draw mixed [0,1,2,3,4,5,6,7,8,9,10,11,12,13,14,15] (by kernel_rfl) ?_
    intro w5 hd5 _
    replace hE := hE.trans hd5
    replace hR := hR.ext hd5
    replace hD := hD.ext hd5
    replace hci := hci.ext hd5
    replace hwi := hwi.ext hd5
    replace hei := hei.ext hd5
    replace hp := hp.ext hd5
    refine Go.Sx.V rfl wu rfl rfl (mv rfl) ?_
    refine Go.Sx.V rfl wu rfl rfl (mv rfl) ?_
    refine Go.Sx.V rfl wu rfl rfl (iad rfl rfl ty90 hei (by omega) (by omega)) ?_
    refine Go.Sx.V rfl wu rfl rfl (ldE rfl na4 hei (by rw [Int.toNat_natCast]; exact hbg i hc0)) ?_
    refine Go.Sx.V rfl wu rfl rfl (notB rfl) ?_
    refine Go.Sx.V rfl wu rfl rfl (mv rfl) ?_
    refine KB 24 true rfl (by rfl) ?_
    refine Go.Sx.V rfl (wg rfl rfl) rfl rfl (mv rfl) ?_
    refine Go.Sx.V rfl (wg rfl rfl) rfl rfl (mv rfl) ?_
    refine Go.Sx.V rfl (wg rfl rfl) rfl rfl (iadI rfl rfl ty22 hci (by omega) (by omega)) ?_
    refine Go.Sx.V rfl (wg rfl rfl) rfl rfl (ldI rfl na3 hci) ?_
    refine Go.Sx.V rfl (wg rfl rfl) rfl rfl (mv rfl) ?_
    refine Go.Sx.V rfl (wg rfl rfl) rfl rfl (mv rfl) ?_
    refine Go.Sx.V rfl (wg rfl rfl) rfl rfl (iadI rfl rfl ty22 hwi (by omega) (by omega)) ?_
    refine Go.Sx.V rfl (wg rfl rfl) rfl rfl (ldI rfl na3 hwi) ?_
    refine Go.Sx.V rfl (wg rfl rfl) rfl rfl (neqI rfl rfl) ?_
    refine Go.Sx.V rfl wu rfl rfl (pk rfl rfl) ?_
    refine wr_nil (post_thenN ?_)
    have hz5 := hd5.size
    refine wc_cond rfl ?_ ?_
    · intro h1
      simp at h1
      rw [if_neg h1] at hst
      refine wc_region [0,1,2,3,4,5,6] rfl ?_
      refine Go.Sx.V rfl wu rfl rfl (fad rfl fa59_1) ?_
      refine Go.Sx.V rfl wu rfl rfl (ldB rfl na22 hD) ?_
      refine Go.Sx.V rfl wu rfl rfl (mv rfl) ?_
      refine BSI (zs := [(i : Int)]) rfl wu rfl rfl rfl rfl ty22 ?_
      intro sv w6 hE6 _ hsi _
      have hz6 := hE6.size
      replace hE := hE.trans hE6
      replace hR := hR.ext hE6
      replace hD := hD.ext hE6
      replace hp := Own.ext hp hE6
      refine API rfl wu rfl rfl rfl ty22 (by intro h; cases h) ?_ hp (by omega) hsi (Ext.refl _) (by simp; omega)
      intro pv2 w7 hg7 hX7 hp7 hpi7 _
      have hpo := hpi7.one
      have hz7 := hg7.size
      replace hE := hX7 w (by omega) hE
      replace hR := hR.grown hg7 hprb
      replace hD := hD.grown hg7 hpdb
      refine Go.Sx.V rfl wu rfl rfl (fad rfl fa59_1) ?_
      refine STB (vs := [pv2]) (cs' := [cv, pv2]) rfl wu rfl rfl (one_cells hpo) sv22 (by intro h; cases h) (by assumption) (by intro q hq; obtain rfl : q = pv2 := (by simpa using hq); exact hpo) rfl rfl rfl ?_
      intro w8 hg8 hX8 hD8
      refine wr_nil (post_blockN (post_thenN ?_))
      have hz8 := hg8.size
      have hp2 : pv2.ownBlock ≠ some db := fun e => by have := (Own.lt hp7 db e).1; omega
      have hp8 : OwnI B w8 pv2 3 (pos ++ [(i : Int)]) := hp7.row.kept hg8 (by exact .inr hp2) |> fun h => ⟨h, Own.le hp7⟩
      refine wc_region [0,1] rfl ?_
      refine Go.Sx.V rfl wu rfl rfl (addI rfl rfl) ?_
      refine Go.Sx.V rfl wu rfl rfl (mv rfl) ?_
      refine wr_nil ?_
      exact post_loopN (i + 1, pv2) ⟨rfl, rfl, rfl, rfl, rfl, rfl, rfl, rfl, rfl, trivial⟩ ⟨by (try dsimp only); omega, by omega, hX8 w (by omega) hE, hR.grown hg8 (by intro hh; cases hh; omega), hD8, _, hp8, by rw [hst, List.length_append, hpl]; rfl⟩ (by (try dsimp only); omega)
    · intro h1
      simp at h1
      rw [if_pos h1] at hst
      refine wc_skip (post_blockN (post_thenN ?_))
      refine wc_region [0,1] rfl ?_
      refine Go.Sx.V rfl wu rfl rfl (addI rfl rfl) ?_
      refine Go.Sx.V rfl wu rfl rfl (mv rfl) ?_
      refine wr_nil ?_
      exact post_loopN (i + 1, pv) ⟨rfl, rfl, rfl, rfl, rfl, rfl, rfl, rfl, rfl, trivial⟩ ⟨by (try dsimp only); omega, by omega, hE, hR, hD, pos, hp, by rw [hst]; exact hpl⟩ (by (try dsimp only); omega)
  · intro hc0
    simp at hc0
    obtain rfl : i = c.length := by omega
    have hpi := OwnI.ints hp
    refine wc_exit (post_thenE (post_loopE (post_blockX (post_thenN (wc_seq (wc_seq ?_))))))
    refine wc_region [0,1,2,3,4] rfl ?_
    refine Go.Sx.V rfl wu rfl rfl (fad rfl fa59_1) ?_
    refine Go.Sx.V rfl wu rfl rfl (ldB rfl na22 hD) ?_
    refine Go.Sx.V rfl wu rfl rfl (lenI rfl ty22 hpi) ?_
    refine Go.Sx.V rfl wu rfl rfl (mv rfl) ?_
    refine Go.Sx.V rfl wu rfl rfl (gtrI rfl rfl) ?_
    refine wr_nil (post_thenN ?_)
    rw [hpl]
    refine wc_cond rfl ?_ ?_
    · intro h2
      replace h2 := of_decide_eq_true h2
      refine wc_seq ?_
      refine wc_region [0,1,2] rfl ?_
      refine Go.Sx.V rfl wu rfl rfl (bld (us := []) (r := [.slice none 0 0, .slice none 0 0]) rfl bdDc0) ?_
      refine STB (vs := [.slice none 0 0, .slice none 0 0]) (cs' := [.slice none 0 0, .slice none 0 0]) rfl wu rfl rfl rfl sv59 (by intro h; cases h) (by assumption) (by first | (simp [Value.oneCell']; done) | (intro v hv; simp only [List.mem_cons, List.not_mem_nil, or_false] at hv; rcases hv with rfl | rfl | rfl | rfl | rfl <;> first | rfl | assumption) | (intro v hv; simp only [List.mem_cons, List.not_mem_nil, or_false] at hv; rcases hv with rfl | rfl | rfl <;> first | rfl | assumption) | (intro v hv; simp only [List.mem_cons, List.not_mem_nil, or_false] at hv; rcases hv with rfl | rfl <;> first | rfl | assumption)) rfl rfl rfl ?_
      intro w5 hg5 hX5 hR5
      refine Go.Sx.V rfl wu rfl rfl (asg rfl) ?_
      refine wr_nil (post_thenN (wc_ret (post_thenR ?_)))
      refine post_retC2 rfl rfl rfl ag59 hR5 rfl ?_
      exact ⟨hX5 w hrb hE, .inl ⟨h2, rfl⟩⟩
    · intro h2
      replace h2 := of_decide_eq_false h2
      have hpo := hpi.one
      refine wc_skip (post_thenN (wc_seq ?_))
      refine wc_region [0,1,2] rfl ?_
      refine Go.Sx.V rfl wu rfl rfl (ldA rfl ag59 hD) ?_
      refine STB (vs := [cv, pv]) (cs' := [cv, pv]) rfl wu rfl rfl rfl sv59 (by intro h; cases h) (by assumption) (by first | (simp [Value.oneCell']; done) | (intro v hv; simp only [List.mem_cons, List.not_mem_nil, or_false] at hv; rcases hv with rfl | rfl | rfl | rfl | rfl <;> first | rfl | assumption) | (intro v hv; simp only [List.mem_cons, List.not_mem_nil, or_false] at hv; rcases hv with rfl | rfl | rfl <;> first | rfl | assumption) | (intro v hv; simp only [List.mem_cons, List.not_mem_nil, or_false] at hv; rcases hv with rfl | rfl <;> first | rfl | assumption)) rfl rfl rfl ?_
      intro w5 hg5 hX5 hR5
      refine Go.Sx.V rfl wu rfl rfl (asg rfl) ?_
      refine wr_nil (post_thenN (wc_ret ?_))
      refine post_retC2 rfl rfl rfl ag59 hR5 rfl ?_
      exact ⟨hX5 w hrb hE, .inr ⟨by omega, pv, pos, rfl, ⟨hpi.kept hg5 hprb, (OwnI.intsX hp (X := List.range w.heap.size) fun k hk => by have := List.mem_range.1 hk; omega).2⟩, hpl⟩⟩
theorem bRadius (d : Int) (w : World) (hd : 1 ≤ d ∧ d ≤ 65) :
    Calls Tryz.prog 53 #[.int .i64 d, .int .i64 0] w (RetX w fun r _ => r = .int .i64 ((d - 1) / 2)) := by
  refine calls2 Tryz.func53 rfl rfl ?_
  refine wc_seq ?_
  refine wc_region [0] rfl ?_
  refine Go.Sx.V rfl wu rfl rfl (asg rfl) ?_
  refine wr_nil (post_thenN (wc_seq (wc_seq ?_)))
  refine wc_region [0,1,2,3,4,5,6,7,8,9,10,11] rfl ?_
  refine Go.Sx.V rfl wu rfl rfl (mv rfl) ?_
  refine Go.Sx.V rfl wu rfl rfl (lssI rfl rfl) ?_
  refine Go.Sx.V rfl wu rfl rfl (mv rfl) ?_
  refine KB 7 false rfl (by first | (simp; done) | (simp; omega)) ?_
  refine Go.Sx.V rfl (wg rfl rfl) rfl rfl (mv rfl) ?_
  refine Go.Sx.V rfl (wg rfl rfl) rfl rfl (lssI rfl rfl) ?_
  refine Go.Sx.V rfl wu rfl rfl (pk rfl rfl) ?_
  refine Go.Sx.V rfl wu rfl rfl (mv rfl) ?_
  refine KB 11 false rfl (by rfl) ?_
  refine Go.Sx.V rfl (wg rfl rfl) rfl rfl (mv rfl) ?_
  refine Go.Sx.V rfl (wg rfl rfl) rfl rfl (mv rfl) ?_
  refine Go.Sx.V rfl (wg rfl rfl) rfl rfl (subI rfl rfl) ?_
  refine Go.Sx.V rfl (wg rfl rfl) rfl rfl (gtrI rfl rfl) ?_
  refine Go.Sx.V rfl wu rfl rfl (pk rfl rfl) ?_
  refine wr_nil (post_thenN ?_)
  refine wc_condF rfl (by simp; omega) ?_
  refine wc_skip (post_thenN (wc_seq ?_))
  refine wc_region [0,1,2,3,4,5] rfl ?_
  refine Go.Sx.V rfl wu rfl rfl (mv rfl) ?_
  refine Go.Sx.V rfl wu rfl rfl (subI rfl rfl) ?_
  refine Go.Sx.V rfl wu rfl rfl (mv rfl) ?_
  refine Go.Sx.V rfl wu rfl rfl (subI rfl rfl) ?_
  refine Go.Sx.V rfl wu rfl rfl (quoI rfl rfl) ?_
  refine Go.Sx.V rfl wu rfl rfl (asg rfl) ?_
  refine wr_nil (post_thenN (wc_ret ?_))
  refine post_ret1 rfl rfl ?_
  exact ⟨Ext.refl _, by rw [Int.sub_zero]⟩
set_option maxRecDepth 10000 in
theorem bMarks (n : Nat) (w : World) (hn : n ≤ 64) :
    Calls Tryz.prog 51 #[.int .i64 n, .slice none 0 0] w (RetX w fun r w' => Sl w' r (List.replicate n (.bool false))) := by
  refine calls2 Tryz.func51 rfl rfl ?_
  refine wc_seq ?_
  refine wc_region [0] rfl ?_
  refine Go.Sx.V rfl wu rfl rfl (asg rfl) ?_
  refine wr_nil (post_thenN (wc_seq ?_))
  refine wc_region [0,1,2] rfl ?_
  refine Go.Sx.V rfl wu rfl rfl (mv rfl) ?_
  refine MK (n := n) rfl wu rfl rfl ty90 rfl ?_
  intro ev w1 hE he _
  refine Go.Sx.V rfl wu rfl rfl (asg rfl) ?_
  refine wr_nil (post_thenN (wc_seq (wc_seq ?_)))
  refine wc_region [0,1,2] rfl ?_
  refine Go.Sx.V rfl wu rfl rfl (mv rfl) ?_
  refine Go.Sx.V rfl wu rfl rfl (lenI rfl ty22 (Ints.nil w1)) ?_
  refine Go.Sx.V rfl wu rfl rfl (mv rfl) ?_
  refine wr_nil (post_thenN (wc_block ?_))
  refine wc_loop (fun _ : Unit => [(5, ev), (11, .int .i64 0), (12, .int .i64 0)]) (fun _ w' => w' = w1) (fun _ => 0) () ⟨rfl, rfl, rfl, trivial⟩ rfl ?_
  rintro _ w1' rfl
  try dsimp only
  refine wc_seq ?_
  refine wc_region [0] rfl ?_
  refine Go.Sx.V rfl wu rfl rfl (lssI rfl rfl) ?_
  refine wr_nil (post_thenN (wc_seq ?_))
  refine wc_condF rfl (by simp) ?_
  refine wc_exit (post_thenE (post_loopE (post_blockX (post_thenN (wc_seq ?_)))))
  refine wc_region [0,1] rfl ?_
  refine Go.Sx.V rfl wu rfl rfl (mv rfl) ?_
  refine Go.Sx.V rfl wu rfl rfl (asg rfl) ?_
  refine wr_nil (post_thenN (wc_ret ?_))
  refine post_ret1 rfl rfl ?_
  exact ⟨hE, he.sl⟩
set_option maxRecDepth 10000 in
theorem bWord (P : FP) (g wv : Value) (ws : List Int) (n : Nat) (w : World) (hG : GFV w P g) (hw : Ints w wv ws) (hl : ws.length = n) (hn : n ≤ 64) (hin : AllIn P.q ws) :
    Calls Tryz.prog 49 #[g, wv, .int .i64 n, .slice none 0 0] w (RetX w fun r _ => r = .int .i64 0) := by
  refine calls4 Tryz.func49 rfl rfl ?_
  refine wc_seq ?_
  refine wc_region [0] rfl ?_
  refine Go.Sx.V rfl wu rfl rfl (asg rfl) ?_
  refine wr_nil (post_thenN (wc_seq (wc_seq ?_)))
  refine wc_region [0,1,2,3] rfl ?_
  refine Go.Sx.V rfl wu rfl rfl (mv rfl) ?_
  refine Go.Sx.V rfl wu rfl rfl (lenI rfl ty22 hw) ?_
  refine Go.Sx.V rfl wu rfl rfl (mv rfl) ?_
  refine Go.Sx.V rfl wu rfl rfl (neqI rfl rfl) ?_
  refine wr_nil (post_thenN ?_)
  refine wc_condF rfl (by rw [hl]; simp) ?_
  refine wc_skip (post_thenN (wc_seq (wc_seq ?_)))
  refine wc_region [0,1,2] rfl ?_
  refine Go.Sx.V rfl wu rfl rfl (mv rfl) ?_
  refine Go.Sx.V rfl wu rfl rfl (lenI rfl ty22 hw) ?_
  refine Go.Sx.V rfl wu rfl rfl (mv rfl) ?_
  refine wr_nil (post_thenN (wc_block ?_))
  refine wc_loop (fun i : Nat => [(0, g), (2, .int .i64 n), (3, .slice none 0 0), (20, wv), (21, .int .i64 ws.length), (22, .int .i64 i)]) (fun i w' => i ≤ ws.length ∧ Ext w w') (fun i => ws.length - i) 0 ⟨rfl, rfl, rfl, rfl, rfl, rfl, trivial⟩ ⟨by omega, Ext.refl _⟩ ?_
  rintro i w1 ⟨i1, hE⟩
  have hwi := hw.ext hE
  try dsimp only
  refine wc_seq ?_
  refine wc_region [0] rfl ?_
  refine Go.Sx.V rfl wu rfl rfl (lssI rfl rfl) ?_
  refine wr_nil (post_thenN (wc_seq ?_))
  refine wc_cond rfl ?_ ?_
  · intro hc
    simp at hc
    have hr := hin i hc
    refine wc_skip (post_thenN (wc_seq (wc_block (wc_seq ?_))))
    refine wc_region [0,1,2] rfl ?_
    refine Go.Sx.V rfl wu rfl rfl (iadI rfl rfl ty22 hwi (by omega) (by omega)) ?_
    refine Go.Sx.V rfl wu rfl rfl (ldI rfl na3 hwi) ?_
    refine Go.Sx.V rfl wu rfl rfl (asg rfl) ?_
    refine wr_nil (post_thenN (wc_seq ?_))
    refine wc_region [0,1,2,3] rfl ?_
    refine Go.Sx.V rfl wu rfl rfl (mv rfl) ?_
    refine Go.Sx.V rfl wu rfl rfl (mv rfl) ?_
    refine C rfl wu rfl rfl Tryz.call55 (gIs P g _ _ (hG.ext hE)) ?_
    rintro _ w2 hE2 rfl
    replace hE := hE.trans hE2
    refine Go.Sx.V rfl wu rfl rfl (notB rfl) ?_
    refine wr_nil (post_thenN ?_)
    refine wc_condF rfl (by simp [hr]) ?_
    refine wc_skip (post_blockN (post_thenN ?_))
    refine wc_region [0,1] rfl ?_
    refine Go.Sx.V rfl wu rfl rfl (addI rfl rfl) ?_
    refine Go.Sx.V rfl wu rfl rfl (mv rfl) ?_
    refine wr_nil ?_
    exact post_loopN (i + 1) ⟨rfl, rfl, rfl, rfl, rfl, rfl, trivial⟩ ⟨by omega, hE⟩ (by omega)
  · intro hc
    refine wc_exit (post_thenE (post_loopE (post_blockX (post_thenN (wc_seq (wc_seq ?_))))))
    refine wc_region [0,1,2] rfl ?_
    refine Go.Sx.V rfl wu rfl rfl (mv rfl) ?_
    refine Go.Sx.V rfl wu rfl rfl (lenI rfl ty22 (Ints.nil w1)) ?_
    refine Go.Sx.V rfl wu rfl rfl (mv rfl) ?_
    refine wr_nil (post_thenN (wc_block ?_))
    refine wc_loop (fun _ : Unit => [(0, g), (2, .int .i64 n), (3, .slice none 0 0), (32, .int .i64 0), (33, .int .i64 0)]) (fun _ w' => w' = w1) (fun _ => 0) () ⟨rfl, rfl, rfl, rfl, rfl, trivial⟩ rfl ?_
    rintro _ w1' rfl
    try dsimp only
    refine wc_seq ?_
    refine wc_region [0] rfl ?_
    refine Go.Sx.V rfl wu rfl rfl (lssI rfl rfl) ?_
    refine wr_nil (post_thenN (wc_seq ?_))
    refine wc_condF rfl (by simp) ?_
    refine wc_exit (post_thenE (post_loopE (post_blockX (post_thenN (wc_seq ?_)))))
    refine wc_region [0,1,2] rfl ?_
    refine Go.Sx.V rfl wu rfl rfl (mv rfl) ?_
    refine MK (n := n) rfl wu rfl rfl ty90 rfl ?_
    intro ev w2 hE2 he _
    replace hE := hE.trans hE2
    refine Go.Sx.V rfl wu rfl rfl (asg rfl) ?_
    refine wr_nil (post_thenN (wc_seq (wc_seq ?_)))
    refine wc_region [0,1,2] rfl ?_
    refine Go.Sx.V rfl wu rfl rfl (mv rfl) ?_
    refine Go.Sx.V rfl wu rfl rfl (lenI rfl ty22 (Ints.nil w2)) ?_
    refine Go.Sx.V rfl wu rfl rfl (mv rfl) ?_
    refine wr_nil (post_thenN (wc_block ?_))
    refine wc_loop (fun _ : Unit => [(48, .int .i64 0), (49, .int .i64 0)]) (fun _ w' => w' = w2) (fun _ => 0) () ⟨rfl, rfl, trivial⟩ rfl ?_
    rintro _ w2' rfl
    try dsimp only
    refine wc_seq ?_
    refine wc_region [0] rfl ?_
    refine Go.Sx.V rfl wu rfl rfl (lssI rfl rfl) ?_
    refine wr_nil (post_thenN (wc_seq ?_))
    refine wc_condF rfl (by simp) ?_
    refine wc_exit (post_thenE (post_loopE (post_blockX (post_thenN (wc_seq ?_)))))
    refine wc_region [0] rfl ?_
    refine Go.Sx.V rfl wu rfl rfl (asg rfl) ?_
    refine wr_nil (post_thenN (wc_ret ?_))
    refine post_ret1 rfl rfl ?_
    exact ⟨hE, rfl⟩
end Go.Proofs.YtmnojknfjbimdaaGreat

