/-
  Statement WordWalks: for every field and length the law returns true. No condition.
-/
import Derived.Test.YtlcokneidokfnaaWord5
import Derived.Test.YtlcokneidokfnaaOpen11
import Derived.Test.YtlcokneidokfnaaRows
namespace Go.Proofs.Ytlcokneidokfnaa
open Go Go.Sx Go.Pl Go.RowKit Go.Fd Go.Alg Go.Fr
theorem infoIw : Try.prog.info? 3 = some Try.t3 := by kernel_rfl
theorem infoBw : Try.prog.info? 4 = some Try.t4 := by kernel_rfl
theorem zv3 : ZV Try.prog 3 [.int .i64 0] := fun w => ⟨_, by simp [zeroValue, typeInfo, infoIw]; rfl, rfl⟩
theorem zv4 : ZV Try.prog 4 [.bool false] := fun w => ⟨_, by simp [zeroValue, typeInfo, infoBw]; rfl, rfl⟩
theorem sv4 : ∀ w, (sizeOf 4).run Try.prog w = .ok 1 w := fun w => by simp [sizeOf, typeInfo, infoBw]; rfl
theorem open_split {w : World} {p M : Int} {mo : Value} {md : List Int} {v : Value} (h : OpenA w ⟨p, M, mo, md⟩ v) :
    ∃ g d, v = .tuple #[g, .bool d, .bool true] ∧ (d = true ∨ (d = false ∧ ∃ P : FP, P.p = p ∧ (P.M : Int) = M ∧ (∀ w' mo', Ints w' mo' md → FV w' P mo' md) ∧ GFV w P g)) := by
  rcases h with h | ⟨P, h1, _, h3, h4, g, h5, h6⟩
  · exact ⟨_, _, h, .inl rfl⟩
  · exact ⟨_, _, h5, .inr ⟨rfl, P, h3, h4, h1, h6⟩⟩
theorem cnt_zero (q : Int) : cntA q 0 = (1, 0) := by simp [cntA]

set_option maxRecDepth 10000 in
theorem law_WordWalks {w : World} (v0 : Value) (r : FRec) (s0 : v0 = r.v ∧ FOf w r) (n : Int) (_ : Fits n) :
    Calls Try.prog 15 #[v0, .int .i64 n] w (RetX w fun v _ => v = .bool true) := by
  obtain ⟨p, M, mo, md⟩ := r
  obtain ⟨rfl, hr⟩ := s0
  refine callsM2 Try.func15 rfl rfl ?_
  refine wi_seq ?_
  refine wi_region [0,1,2] rfl ?_
  refine BXA rfl wu rfl rfl ?_
  intro fb w1 hE1 hB hfb
  refine BXV rfl wu rfl rfl (by first | rfl | assumption) ?_
  intro nb w2 hE2 hN hnb
  refine AL rfl wu rfl zv4 ?_
  intro rb w3 hE3 hR hrb
  refine wir_nil (posti_thenN (wi_seq ?_))
  have hE := hE1.trans (hE2.trans hE3)
  replace hB := (hB.ext hE2).ext hE3
  replace hN := hN.ext hE3
  replace hrb : w.heap.size ≤ rb := by have := hE1.size; have := hE2.size; omega
  clear hE1 hE2 hE3 hfb hnb
  refine wi_region [0,1,2,3,4,5,6,7,8] rfl ?_
  refine Go.Sx.V rfl wu rfl rfl (ldA rfl ag40) ?_
  refine C rfl wu rfl rfl Try.call29 (lOpen ⟨p, M, mo, md⟩ _ (hr.ints.ext hE)) ?_
  rintro ov w4 hE4 hop
  replace hB := hB.ext hE4
  replace hN := hN.ext hE4
  replace hR := hR.ext hE4
  replace hE := hE.trans hE4
  obtain ⟨gv, dn, rfl, hcase⟩ := open_split hop
  refine Go.Sx.V rfl wu rfl rfl (mv rfl) ?_
  refine Go.Sx.V rfl wu rfl rfl (ext rfl rfl) ?_
  refine Go.Sx.V rfl wu rfl rfl (ext rfl rfl) ?_
  refine Go.Sx.V rfl wu rfl rfl (ext rfl rfl) ?_
  refine Go.Sx.V rfl wu rfl rfl (asg rfl) ?_
  refine Go.Sx.V rfl wu rfl rfl (asg rfl) ?_
  refine Go.Sx.V rfl wu rfl rfl (asg rfl) ?_
  refine wir_nil (posti_thenN (wi_seq (wi_seq ?_)))
  have hmi := hr.ints.ext hE
  refine wi_region [0] rfl ?_
  refine Go.Sx.V rfl wu rfl rfl (mv rfl) ?_
  refine wir_nil (posti_thenN ?_)
  refine wi_cond rfl ?_ ?_
  · intro _
    refine wi_seq ?_
    refine wi_region [0,1] rfl ?_
    refine Go.Sx.V rfl wu rfl rfl (mv rfl) ?_
    refine STB (vs := [.bool true]) (cs' := [.bool true]) rfl wu rfl rfl rfl sv4 (by intro h; cases h) (by assumption) (by first | (simp [Value.oneCell']; done) | (intro v hv; simp only [List.mem_cons, List.not_mem_nil, or_false] at hv; rcases hv with rfl | rfl | rfl <;> first | rfl | assumption) | (intro v hv; simp only [List.mem_cons, List.not_mem_nil, or_false] at hv; rcases hv with rfl | rfl <;> first | rfl | assumption)) rfl rfl rfl ?_
    intro w5 hg5 hX5 hR5
    refine wir_nil (posti_thenN (wi_ret (posti_thenR ?_)))
    exact posti_retM0 (post_retC rfl rfl na4 hR5 ⟨hX5 _ hrb hE, rfl⟩)
  · intro h
    rcases hcase with hd | ⟨_, P, hp, hM, hFV, hG⟩
    · rw [hd] at h; cases h
    dsimp only at hB
    subst hp hM
    have hF := hFV _ _ hmi
    have hq2 := P.q_two
    have hq11 := hG.q11
    have hord := hF.ord
    have hX := Ext.refl w4
    refine wi_skip (posti_thenN (wi_seq ?_))
    refine wi_region [0,1,2,3,4,5,6] rfl ?_
    refine Go.Sx.V rfl wu rfl rfl (mv rfl) ?_
    refine C rfl wu rfl rfl Try.call46 (wCount P gv 0 _ (hG.ext hX)) ?_
    rintro _ w5 hE5 rfl
    rw [cnt_zero]
    replace hX := hX.trans hE5
    refine Go.Sx.V rfl wu rfl rfl (mv rfl) ?_
    refine Go.Sx.V rfl wu rfl rfl (ext rfl rfl) ?_
    refine Go.Sx.V rfl wu rfl rfl (ext rfl rfl) ?_
    refine Go.Sx.V rfl wu rfl rfl (asg rfl) ?_
    refine Go.Sx.V rfl wu rfl rfl (asg rfl) ?_
    refine wir_nil (posti_thenN (wi_seq (wi_seq ?_)))
    refine wi_region [0,1,2,3,4,5] rfl ?_
    refine Go.Sx.V rfl wu rfl rfl (mv rfl) ?_
    refine Go.Sx.V rfl wu rfl rfl (neqI rfl rfl) ?_
    refine Go.Sx.V rfl wu rfl rfl (mv rfl) ?_
    refine OR (π1 := [3,4,5]) (π2 := []) (tc := 31) (tp := 34) rfl rfl rfl (by
        intro _
        refine SK rfl rfl rfl rfl rfl ?_
        refine SK rfl rfl rfl rfl rfl ?_
        refine Go.Sx.V rfl wu rfl rfl (pk rfl rfl) ?_
        exact join rfl) (by
        intro hg
        simp at hg
        refine Go.Sx.V rfl (wg rfl rfl) rfl rfl (mv rfl) ?_
        refine Go.Sx.V rfl (wg rfl rfl) rfl rfl (neqI rfl rfl) ?_
        refine Go.Sx.V rfl wu rfl rfl (pk rfl rfl) ?_
        exact join rfl) ?_
    refine wir_nil (posti_thenN ?_)
    refine wi_condF rfl (by simp) ?_
    refine wi_skip (posti_thenN (wi_seq ?_))
    refine wi_region [0,1,2,3,4,5,6,7,8] rfl ?_
    refine Go.Sx.V rfl wu rfl rfl (ldA rfl ag40) ?_
    refine Go.Sx.V rfl wu rfl rfl (ldB rfl na3 hN) ?_
    refine C rfl wu rfl rfl Try.call40 (rCount P mo md n _ (hF.ext hX)) ?_
    rintro _ w6 hE6 rfl
    replace hX := hX.trans hE6
    refine Go.Sx.V rfl wu rfl rfl (mv rfl) ?_
    refine Go.Sx.V rfl wu rfl rfl (ext rfl rfl) ?_
    refine Go.Sx.V rfl wu rfl rfl (ext rfl rfl) ?_
    refine AL rfl wu rfl zv3 ?_
    intro cb w7 hE7 hC hcb
    refine STB (vs := [.int .i64 (cntA P.q n).1]) (cs' := [.int .i64 (cntA P.q n).1]) rfl wu rfl rfl rfl sv3 (by intro h; cases h) (by assumption) (by first | (simp [Value.oneCell']; done) | (intro v hv; simp only [List.mem_cons, List.not_mem_nil, or_false] at hv; rcases hv with rfl | rfl | rfl <;> first | rfl | assumption) | (intro v hv; simp only [List.mem_cons, List.not_mem_nil, or_false] at hv; rcases hv with rfl | rfl <;> first | rfl | assumption)) rfl rfl rfl ?_
    intro w8 hg8 hX8 hC8
    refine Go.Sx.V rfl wu rfl rfl (asg rfl) ?_
    refine wir_nil (posti_thenN (wi_seq (wi_seq ?_)))
    have hs4 := hE.size
    have hs6 := hX.size
    replace hX := hX.trans (hX8 _ hcb hE7)
    clear hC hg8 hX8 hE7
    refine wi_region [0,1] rfl ?_
    refine Go.Sx.V rfl wu rfl rfl (mv rfl) ?_
    refine Go.Sx.V rfl wu rfl rfl (neqI rfl rfl) ?_
    refine wir_nil (posti_thenN ?_)
    refine wi_cut (σ := Unit) (fun _ => [(2, .pointer (some ⟨fb, 0, none⟩)), (3, .pointer (some ⟨nb, 0, none⟩)), (4, .pointer (some ⟨rb, 0, none⟩)), (5, gv), (10, .pointer (some ⟨cb, 0, none⟩))])
      (fun _ w' => Ext w4 w' ∧ Blk w' cb 3 #[.int .i64 (if (cntA P.q n).2 = 0 then (cntA P.q n).1 else 0)]) ?_ ?_
    · skip
      refine wi_cond rfl ?_ ?_
      · intro hc
        simp at hc
        refine wi_region [0] rfl ?_
        refine STB (vs := [.int .i64 0]) (cs' := [.int .i64 0]) rfl wu rfl rfl rfl sv3 (by intro h; cases h) (by assumption) (by first | (simp [Value.oneCell']; done) | (intro v hv; simp only [List.mem_cons, List.not_mem_nil, or_false] at hv; rcases hv with rfl | rfl | rfl <;> first | rfl | assumption) | (intro v hv; simp only [List.mem_cons, List.not_mem_nil, or_false] at hv; rcases hv with rfl | rfl <;> first | rfl | assumption)) rfl rfl rfl ?_
        intro w9 hg9 hX9 hC9
        exact wir_nil (posti_cutN () ⟨rfl, rfl, rfl, rfl, rfl, trivial⟩ ⟨hX9 _ (by omega) hX, by rw [if_neg hc]; exact hC9⟩)
      · intro hc
        simp at hc
        exact wi_skip (posti_cutN () ⟨rfl, rfl, rfl, rfl, rfl, trivial⟩ ⟨hX, by rw [if_pos hc]; exact hC8⟩)
    clear hX hC8
    rintro _ w9 ⟨hX, hC⟩
    obtain ⟨c, hc⟩ : ∃ c, c = (if (cntA P.q n).2 = 0 then (cntA P.q n).1 else 0) := ⟨_, rfl⟩
    rw [← hc] at hC
    have hc2 : c ≤ 65536 ∧ 0 ≤ c ∧ ((cntA P.q n).2 ≠ 0 → c = 0) ∧ (0 < c → (cntA P.q n).2 = 0) ∧ ((cntA P.q n).2 = 0 → 0 ≤ n ∧ n ≤ 64 ∧ c = P.q ^ n.toNat) := by
      by_cases h0 : (cntA P.q n).2 = 0
      · obtain ⟨a1, a2, a3, a4⟩ := cnt_len h0
        have hp1 := pw_pos hq2 n.toNat
        rw [if_pos h0, a4] at hc
        exact ⟨by omega, by omega, fun h => absurd h0 h, fun _ => h0, fun _ => ⟨a1, a2, hc⟩⟩
      · rw [if_neg h0] at hc
        exact ⟨by omega, by omega, fun _ => hc, fun h => by omega, fun h => absurd h h0⟩
    obtain ⟨c1, c0, cne, cpos, cok⟩ := hc2
    clear hc
    refine wi_seq ?_
    refine wi_region [0,1,2,3] rfl ?_
    refine Go.Sx.V rfl wu rfl rfl (ldA rfl ag40 hB) ?_
    refine C rfl wu rfl rfl Try.call41 (rOrder P.p P.M mo _) ?_
    rintro _ w10 hE10 rfl
    rw [hord]
    replace hX := hX.trans hE10
    replace hC := hC.ext hE10
    refine AL rfl wu rfl zv3 ?_
    intro qb w11 hE11 hQ hqb
    refine STB (vs := [.int .i64 P.q]) (cs' := [.int .i64 P.q]) rfl wu rfl rfl rfl sv3 (by intro h; cases h) (by assumption) (by first | (simp [Value.oneCell']; done) | (intro v hv; simp only [List.mem_cons, List.not_mem_nil, or_false] at hv; rcases hv with rfl | rfl | rfl <;> first | rfl | assumption) | (intro v hv; simp only [List.mem_cons, List.not_mem_nil, or_false] at hv; rcases hv with rfl | rfl <;> first | rfl | assumption)) rfl rfl rfl ?_
    intro w12 hg12 hX12 hQ12
    refine wir_nil (posti_thenN (wi_seq ?_))
    have hE12 := hX12 _ hqb hE11
    replace hX := hX.trans hE12
    replace hC := hC.ext hE12
    clear hQ hg12 hX12 hE11
    refine wi_region [0,1,2,3] rfl ?_
    refine Go.Sx.V rfl wu rfl rfl (mv rfl) ?_
    refine Go.Sx.V rfl wu rfl rfl (ldB rfl na3 hN) ?_
    refine C rfl wu rfl rfl Try.call52 (wWalk P gv n _ (hG.ext hX)) ?_
    rintro _ w13 hE13 ⟨gb2, nb2, rfl, hGb, hNb⟩
    replace hX := hX.trans hE13
    replace hC := hC.ext hE13
    replace hQ12 := hQ12.ext hE13
    refine Go.Sx.V rfl wu rfl rfl (asg rfl) ?_
    refine wir_nil (posti_thenN (wi_seq (wi_seq ?_)))
    refine wi_region [0,1] rfl ?_
    refine Go.Sx.V rfl wu rfl rfl (mv rfl) ?_
    refine Go.Sx.V rfl wu rfl rfl (eqlF rfl rfl Try.underlying72) ?_
    refine wir_nil (posti_thenN ?_)
    refine wi_condF rfl (rfl) ?_
    refine wi_skip (posti_thenN (wi_seq ?_))
    refine wi_region [0,1] rfl ?_
    refine AL rfl wu rfl zv3 ?_
    intro tb w14 hE14 hT htb
    refine STB (vs := [.int .i64 0]) (cs' := [.int .i64 0]) rfl wu rfl rfl rfl sv3 (by intro h; cases h) (by assumption) (by first | (simp [Value.oneCell']; done) | (intro v hv; simp only [List.mem_cons, List.not_mem_nil, or_false] at hv; rcases hv with rfl | rfl | rfl <;> first | rfl | assumption) | (intro v hv; simp only [List.mem_cons, List.not_mem_nil, or_false] at hv; rcases hv with rfl | rfl <;> first | rfl | assumption)) rfl rfl rfl ?_
    intro w15 hg15 hX15 hT15
    refine wir_nil (posti_thenN (wi_seq (wi_seq ?_)))
    have hE15 := hX15 _ htb hE14
    have lC : cb < tb := Nat.lt_of_lt_of_le hC.lt htb
    have lQ : qb < tb := Nat.lt_of_lt_of_le hQ12.lt htb
    have lN : nb < tb := Nat.lt_of_lt_of_le (hN.ext hX).lt htb
    have lR : rb < tb := Nat.lt_of_lt_of_le (hR.ext hX).lt htb
    have lT : tb < w15.heap.size := hT15.lt
    replace hX := hX.trans hE15
    replace hC := hC.ext hE15
    replace hQ12 := hQ12.ext hE15
    replace hGb := hGb.ext hE15
    replace hNb := hNb.ext hE15
    have htw : w.heap.size ≤ tb := by
      have := (hR.ext hX).lt
      omega
    replace hB := hB.ext hX
    replace hN := hN.ext hX
    replace hR := hR.ext hX
    replace hG := hG.ext hX
    replace hE := hE.trans hX
    clear hT hg15 hX15 hE14 hE15 hX hF hmi hop
    refine wi_region [0] rfl ?_
    refine Go.Sx.V rfl wu rfl rfl (mv rfl) ?_
    refine wir_nil (posti_thenN (wi_block ?_))
    refine wi_rangeA (fun pre W => pre.map (·.2) = words P.q n.toNat pre.length ∧ Ext w W ∧ Blk W tb 3 #[.int .i64 pre.length] ∧ Blk W cb 3 #[.int .i64 c] ∧ Blk W qb 3 #[.int .i64 P.q] ∧ Blk W nb 3 #[.int .i64 n] ∧ Blk W rb 4 #[.bool false])
      (fun cd pre W => (cd = .ret ∧ ∃ init x, pre = init ++ [x] ∧ init.map (·.2) = words P.q n.toNat init.length ∧ (c ≤ init.length ∨ x.2 ≠ refl P.q n.toNat init.length)) ∧ Ext w W)
      rfl (fun _ _ => by rfl) rfl rfl (wWalkSeq P gv n gb2 nb2 w15 hG hGb hNb)
      (ownA_and (ownA_and2 (ownA_ext hE.size) (ownA_and2 (ownA_blk lT) (ownA_and2 (ownA_blk (by omega)) (ownA_and2 (ownA_blk (by omega)) (ownA_and2 (ownA_blk (by omega)) (ownA_blk (by omega)))))))) (fun _ => ownA_and (ownA_ext hE.size))
      (fun rl o x W h hr => ints_loop h hr) ⟨rfl, hE, hT15, hC, hQ12, hN, hR⟩ ?_ ?_ ?_
    · clear hE hT15 hC hQ12 hN hR
      rintro rl pre x W ⟨hpre, hE, hT, hC, hQ, hN, hR⟩ hx
      obtain ⟨xv, xl⟩ := x
      dsimp only at hx
      refine wi_block (wi_seq (wi_seq ?_))
      by_cases hlt : (pre.length : Int) < c
      · have hcz := cpos (by omega)
        obtain ⟨n0, n1, hce⟩ := cok hcz
        obtain ⟨N, rfl⟩ : ∃ N : Nat, n = N := ⟨n.toNat, by omega⟩
        rw [Int.toNat_natCast] at hpre hce
        refine wi_region [0,1,2,3,4,5,6,7,8,9,10,11] rfl ?_
        refine Go.Sx.V rfl wu rfl rfl (ldB rfl na3 hT) ?_
        refine Go.Sx.V rfl wu rfl rfl (ldB rfl na3 hC) ?_
        refine Go.Sx.V rfl wu rfl rfl (geqI rfl rfl) ?_
        refine Go.Sx.V rfl wu rfl rfl (mv rfl) ?_
        refine KB 55 false rfl (by simp <;> omega) ?_
        refine Go.Sx.V rfl (wg rfl rfl) rfl rfl (mv rfl) ?_
        refine Go.Sx.V rfl (wg rfl rfl) rfl rfl (ldB rfl na3 hQ) ?_
        refine Go.Sx.V rfl (wg rfl rfl) rfl rfl (ldB rfl na3 hN) ?_
        refine Go.Sx.V rfl (wg rfl rfl) rfl rfl (ldB rfl na3 hT) ?_
        refine C rfl (wg rfl rfl) rfl rfl Try.call42 (rRefl P.q N pre.length _ ⟨hq2, hq11⟩ (by omega) (by omega)) ?_
        rintro rv w16 hE16 hrv
        refine C rfl (wg rfl rfl) rfl rfl Try.call24 (rSameW xv rv _ _ _ (hx.ext hE16) (OwnI.ints hrv)) ?_
        rintro _ w17 hE17 rfl
        refine Go.Sx.V rfl (wg rfl rfl) rfl rfl (notB rfl) ?_
        refine Go.Sx.V rfl wu rfl rfl (pk rfl rfl) ?_
        refine wir_nil (posti_thenN ?_)
        have hE57 := hE16.trans hE17
        replace hT := hT.ext hE57
        replace hC := hC.ext hE57
        replace hQ := hQ.ext hE57
        replace hN := hN.ext hE57
        replace hR := hR.ext hE57
        refine wi_cond rfl ?_ ?_
        · intro hm
          simp at hm
          refine wi_seq ?_
          refine wi_region [0] rfl ?_
          refine STB (vs := [.bool false]) (cs' := [.bool false]) rfl wu rfl rfl rfl sv4 (by intro h; cases h) (by assumption) (by first | (simp [Value.oneCell']; done) | (intro v hv; simp only [List.mem_cons, List.not_mem_nil, or_false] at hv; rcases hv with rfl | rfl | rfl <;> first | rfl | assumption) | (intro v hv; simp only [List.mem_cons, List.not_mem_nil, or_false] at hv; rcases hv with rfl | rfl <;> first | rfl | assumption)) rfl rfl rfl ?_
          intro w18 hg18 hX18 hR18
          refine wir_nil (posti_thenN (wi_ret (posti_thenR (posti_blockR ?_))))
          exact fun _ _ => ⟨(KA.ext hE57).trans (KA.grown hg18 (fun j e => by cases e; omega)), ⟨rfl, pre, (xv, xl), rfl, by rw [Int.toNat_natCast]; exact hpre, .inr (by rw [Int.toNat_natCast]; exact hm)⟩, hX18 _ hrb (hE.trans hE57)⟩
        · intro hm
          simp at hm
          refine wi_skip (posti_thenN ?_)
          refine wi_region [0,1,2] rfl ?_
          refine Go.Sx.V rfl wu rfl rfl (ldB rfl na3 hT) ?_
          refine Go.Sx.V rfl wu rfl rfl (addI rfl rfl) ?_
          refine STB (vs := [.int .i64 ((pre.length : Int) + 1)]) (cs' := [.int .i64 ((pre.length : Int) + 1)]) rfl wu rfl rfl rfl sv3 (by intro h; cases h) (by assumption) (by first | (simp [Value.oneCell']; done) | (intro v hv; simp only [List.mem_cons, List.not_mem_nil, or_false] at hv; rcases hv with rfl | rfl | rfl <;> first | rfl | assumption) | (intro v hv; simp only [List.mem_cons, List.not_mem_nil, or_false] at hv; rcases hv with rfl | rfl <;> first | rfl | assumption)) rfl rfl rfl ?_
          intro w18 hg18 hX18 hT18
          refine wir_nil (posti_blockN ?_)
          have hlen : ((pre ++ [(xv, xl)]).length : Int) = (pre.length : Int) + 1 := by simp
          refine fun _ _ => ⟨(KA.ext hE57).trans (KA.grown hg18 (fun j e => by cases e; omega)), ?_, hX18 _ htw (hE.trans hE57), ?_, hC.grown hg18 (by intro e; cases e; omega), hQ.grown hg18 (by intro e; cases e; omega), hN.grown hg18 (by intro e; cases e; omega), hR.grown hg18 (by intro e; cases e; omega)⟩
          · rw [List.map_append, Int.toNat_natCast, hpre, List.length_append, List.length_singleton, words_succ, hm]; rfl
          · rw [hlen]; exact hT18
      · skip
        refine wi_region [0,1,2,3,4,5,6,7,8,9,10,11] rfl ?_
        refine Go.Sx.V rfl wu rfl rfl (ldB rfl na3 hT) ?_
        refine Go.Sx.V rfl wu rfl rfl (ldB rfl na3 hC) ?_
        refine Go.Sx.V rfl wu rfl rfl (geqI rfl rfl) ?_
        refine Go.Sx.V rfl wu rfl rfl (mv rfl) ?_
        refine KB 55 true rfl (by simp <;> omega) ?_
        refine SK rfl rfl rfl rfl rfl ?_
        refine SK rfl rfl rfl rfl rfl ?_
        refine SK rfl rfl rfl rfl rfl ?_
        refine SK rfl rfl rfl rfl rfl ?_
        refine SK rfl rfl rfl rfl rfl ?_
        refine SK rfl rfl rfl rfl rfl ?_
        refine SK rfl rfl rfl rfl rfl ?_
        refine Go.Sx.V rfl wu rfl rfl (pk rfl rfl) ?_
        refine wir_nil (posti_thenN ?_)
        refine wi_condT rfl (by simp) ?_
        refine wi_seq ?_
        refine wi_region [0] rfl ?_
        refine STB (vs := [.bool false]) (cs' := [.bool false]) rfl wu rfl rfl rfl sv4 (by intro h; cases h) (by assumption) (by first | (simp [Value.oneCell']; done) | (intro v hv; simp only [List.mem_cons, List.not_mem_nil, or_false] at hv; rcases hv with rfl | rfl | rfl <;> first | rfl | assumption) | (intro v hv; simp only [List.mem_cons, List.not_mem_nil, or_false] at hv; rcases hv with rfl | rfl <;> first | rfl | assumption)) rfl rfl rfl ?_
        intro w18 hg18 hX18 hR18
        refine wir_nil (posti_thenN (wi_ret (posti_thenR (posti_blockR ?_))))
        exact fun _ _ => ⟨KA.grown hg18 (fun j e => by cases e; omega), ⟨rfl, pre, (xv, xl), rfl, hpre, .inl (by omega)⟩, hX18 _ hrb hE⟩
    · clear hE hT15 hC hQ12 hN hR
      rintro D xs W hD ⟨hS1, hS2⟩ ⟨hpre, hE, hT, hC, hQ, hN, hR⟩ hk
      have hlen : (xs.length : Int) = c := by
        by_cases h0 : (cntA P.q n).2 = 0
        · obtain ⟨_, _, hce⟩ := cok h0
          have := congrArg List.length (hS2 h0)
          rw [List.length_map, words_length] at this
          omega
        · rw [hS1 h0, cne h0]; rfl
      refine posti_blockN (posti_thenN (wi_seq ?_))
      refine wi_region [0,1,2,3] rfl ?_
      refine Go.Sx.V rfl wu rfl rfl (ldB rfl na3 hT) ?_
      refine Go.Sx.V rfl wu rfl rfl (ldB rfl na3 hC) ?_
      refine Go.Sx.V rfl wu rfl rfl (eqlI rfl rfl) ?_
      refine STB (vs := [.bool (decide ((xs.length : Int) = c))]) (cs' := [.bool (decide ((xs.length : Int) = c))]) rfl wu rfl rfl rfl sv4 (by intro h; cases h) (by assumption) (by first | (simp [Value.oneCell']; done) | (intro v hv; simp only [List.mem_cons, List.not_mem_nil, or_false] at hv; rcases hv with rfl | rfl | rfl <;> first | rfl | assumption) | (intro v hv; simp only [List.mem_cons, List.not_mem_nil, or_false] at hv; rcases hv with rfl | rfl <;> first | rfl | assumption)) rfl rfl rfl ?_
      intro w18 hg18 hX18 hR18
      refine wir_nil (posti_thenN (wi_ret ?_))
      have hDl : D < W.heap.size := (Array.getElem?_eq_some_iff.1 hk).1
      have hk18 : w18.heap[D]? = some (.deferred (some [])) := (hg18.block D hDl (by intro e; cases e; omega)).trans hk
      rw [decide_eq_true hlen] at hR18
      have hDr : rb ≠ D := by omega
      refine posti_retM hk18 (post_retC rfl rfl na4 (b := rb) (tb := 4) (v := .bool true) ?_ ⟨(hX18 _ hrb hE).putObj (by have := hE.size; omega) _, rfl⟩)
      show (w18.putObj D _).heap[rb]? = _
      rw [putObj_other hDr]
      exact hR18
    · rintro D cd pre W hD ⟨h0, k, hk, hpre⟩ ⟨⟨rfl, init, x, rfl, hi, hor⟩, _⟩ _
      exfalso
      obtain ⟨_, _, hce⟩ := cok h0
      rw [List.map_append, hi, words_succ] at hpre
      have hl := congrArg List.length hpre
      simp [words_length] at hl
      obtain ⟨_, h2⟩ := List.append_inj' hpre rfl
      rcases hor with h | h
      · omega
      · exact h (by rw [hl]; simpa using h2)
namespace FWordWalks
open Go.ChangeShapes Go.WideShapes Go.ChangeAt Go.RowKit Go.Fr
theorem own : ownKnob Try.prog.godebug = none := by kernel_rfl
theorem laidOut : laidOutB Try.prog = true := by kernel_rfl
set_option maxRecDepth 100000 in
theorem lifted (os : Os) (started : os.Started) (H : Type) (enc : TypeId × Value → H) :
    ReturnsInHanded {} Try.checked os 15 .any (Rows.wordWalksSpec.pre6 enc Try.prog Try.f15 Rows.wordWalksRow.domain false) (Rows.wordWalksSpec.post enc Try.prog Try.f15 false true false false) := by
  refine returnsInHanded_of_change_sized (C := Try.checked) own started (by kernel_rfl) Try.func15
    (ChangeSpec.witness6 (enc := enc) (C := Try.checked) false ⟨#[], #[.agg #[.int .i64 0, .int .i64 0, .slice none 0 0], .int .i64 0], []⟩ 8 (by kernel_rfl) (by kernel_rfl) (by kernel_rfl) (by kernel_rfl)) ?_
  intro W base args ds gs before hval0 hW _ hsz0 _
  have hval : ∀ (j : Nat) t v, Try.f15.params[j]? = some t → args[j]? = some v → Value.okWide Try.prog W .any base t v := hval0
  have hW' := hW
  obtain ⟨p, q, hA0, hV, rfl, hfz, hnd⟩ := hW
  have hA : DataW.TrodAll enc Try.prog W 0 (fun _ => true) true Try.f15.params.toList args.toList ds p := hA0
  have hsz : (DataW.weightsEach Try.prog (Try.f15.params.toList ++ Rows.wordWalksSpec.plain.varTypes Try.prog) (ds ++ gs)).all (· ≤ reachBytes) = true := hsz0
  rw [Try.params15] at hA hval hsz
  obtain ⟨v0, vs0, d0, ds0, p0, q0, hargs, rfl, rfl, h0, r0⟩ := trodAll_cons hA
  obtain ⟨v1, vs1, d1, ds1, p1, q1, rfl, rfl, rfl, h1, r1⟩ := trodAll_cons r0
  obtain ⟨rfl, rfl, rfl⟩ := trodAll_nil r1
  obtain rfl : args = #[v0, v1] := by cases args; simp_all
  obtain ⟨rfl, rfl⟩ := trodVars_none hV
  have k0 := h0
  have lt0 : ∀ x ∈ p0, x.block < W.heap.size := by obtain ⟨m, hm⟩ := k0; exact DataW.trod_lt m _ _ _ hm
  have w0 : WOK Try.prog 40 d0 := wok_arg hsz (j := 0) rfl rfl
  obtain ⟨x0, s0⟩ := op_field (hval 0 40 v0 rfl rfl) h0 w0
  have k1 := h1
  have lt1 : ∀ x ∈ p1, x.block < W.heap.size := by obtain ⟨m, hm⟩ := k1; exact DataW.trod_lt m _ _ _ hm
  have w1 : WOK Try.prog 3 d1 := wok_arg hsz (j := 1) rfl rfl
  obtain ⟨n1, rfl, b1⟩ := op_int Try.underlying3 (hval 1 3 v1 rfl rfl) h1
  refine (law_WordWalks (w := W) v0 x0 s0 n1 b1).mono fun e W' he => ?_
  cases e with
  | panicked c => exact he.elim
  | outgrown => exact he.elim
  | returned v =>
    obtain ⟨bel, rfl⟩ := he
    exact ⟨_, rfl, _, _, _, [], _, [], hW', trodAll_mk1 (shut_bool Try.underlying4 _), (trodAll_cons_mk (Below.trod laidOut (by kernel_rfl) (of_decide_eq_true (by kernel_rfl)) k0 bel lt0) (trodAll_cons_mk (Below.trod laidOut (by kernel_rfl) (of_decide_eq_true (by kernel_rfl)) k1 bel lt1) trodAll_mk0)), rfl, bel.frame _, fun h => by cases h⟩
theorem over : Rows.wordWalksRow.holds Try.pinned (OpenSpec.ofChange Rows.wordWalksSpec) :=
  OpenClaim.holds_of_wide 15 Try.f15 rfl rfl rfl rfl rfl rfl rfl ⟨rfl, rfl, rfl, rfl, rfl⟩ rfl rfl rfl rfl rfl (by kernel_rfl) Try.func15 (by kernel_rfl)
    (of_decide_eq_true (by kernel_rfl)) (by unfold Func.isWrapper; first | (rw [if_pos (by decide +kernel)]; kernel_rfl) | (rw [if_neg (by decide +kernel)]; exact ⟨rfl, rfl⟩))
    (fun os started H enc _ => lifted os started H enc)
end FWordWalks
/-- The statement. -/
theorem wordWalks_holds : Rows.WordWalksSaid := FWordWalks.over
end Go.Proofs.Ytlcokneidokfnaa
