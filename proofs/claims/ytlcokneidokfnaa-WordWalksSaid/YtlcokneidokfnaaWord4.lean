/-
  The walker through the words of a length, by contract: start, next, Steps; the reference's word of a number.
-/
import Derived.Test.YtlcokneidokfnaaWord3
import Derived.Test.YtlcokneidokfnaaReflP
import Derived.Test.YtlcokneidokfnaaSxGr
import Derived.Test.YtlcokneidokfnaaSxTree3
namespace Go.Proofs.Ytlcokneidokfnaa
open Go Go.Sx Go.Pl Go.RowKit Go.Fd Go.Alg
theorem infoInt : Try.prog.info? 3 = some Try.t3 := by kernel_rfl
theorem sv3 : ∀ w, (sizeOf 3).run Try.prog w = .ok 1 w := fun w => by simp [sizeOf, typeInfo, infoInt]; rfl
theorem info57 : Try.prog.info? 57 = some Try.t57 := by kernel_rfl
theorem zv57 : ZV Try.prog 57 [.int .i64 0, .int .i64 0, .int .i64 0] := fun w => ⟨_, by simp [zeroValue, typeInfo, info57]; rfl, rfl⟩
theorem sv57 : ∀ w, (sizeOf 57).run Try.prog w = .ok 3 w := fun w => by simp [sizeOf, typeInfo, info57]; rfl
theorem ag57 : AG Try.prog 57 3 := ⟨fun w => by simp [isAgg, run_underlying Try.underlying57], sv57⟩
theorem fa57_0 : FA Try.prog 57 0 0 := fun a w => by
  simp [Instr.fieldAt, run_underlying Try.underlying57, Instr.sureAddr, fieldPlace]
theorem fa57_1 : FA Try.prog 57 1 1 := fun a w => by
  simp [Instr.fieldAt, run_underlying Try.underlying57, Instr.sureAddr, fieldPlace]
theorem fa57_2 : FA Try.prog 57 2 2 := fun a w => by
  simp [Instr.fieldAt, run_underlying Try.underlying57, Instr.sureAddr, fieldPlace]
theorem bdCh (a b c : Int) : ∀ w, (Instr.build 57 #[(0, .int .i64 a), (1, .int .i64 b), (2, .int .i64 c)]).run Try.prog w = .ok (.agg #[.int .i64 a, .int .i64 b, .int .i64 c]) w := fun w => by
  obtain ⟨zv, h1, h2⟩ := zv57 w
  simp [Instr.build, h1, h2, run_underlying Try.underlying57, szInt, Instr.fill, cells_i]
theorem bdCh0 : ∀ w, (Instr.build 57 #[]).run Try.prog w = .ok (.agg #[.int .i64 0, .int .i64 0, .int .i64 0]) w := fun w => by
  obtain ⟨zv, h1, h2⟩ := zv57 w
  simp [Instr.build, h1, h2, run_underlying Try.underlying57, szInt, Instr.fill, cells_i]
theorem ty51 : SlT Try.prog 51 57 (.agg #[.int .i64 0, .int .i64 0, .int .i64 0]) 3 24 := ⟨by kernel_rfl, by kernel_rfl⟩
theorem infoWk : Try.prog.info? 95 = some Try.t95 := by kernel_rfl
theorem infoBs : Try.prog.info? 93 = some Try.t93 := by kernel_rfl
theorem szBs : ∀ w, (sizeOf 93).run Try.prog w = .ok 1 w := fun w => by simp [sizeOf, typeInfo, infoBs]; rfl
theorem na93 : NA Try.prog 93 := fun w => Try.isAgg93 w
theorem zvWk : ZV Try.prog 95 [.int .i64 0, .slice none 0 0, .slice none 0 0] := fun w => ⟨_, by simp [zeroValue, typeInfo, infoWk]; rfl, rfl⟩
theorem fa95_0 : FA Try.prog 95 0 0 := fun a w => by
  simp [Instr.fieldAt, run_underlying Try.underlying95, Instr.sureAddr, fieldPlace]
theorem fa95_1 : FA Try.prog 95 1 1 := fun a w => by
  simp [Instr.fieldAt, run_underlying Try.underlying95, Instr.sureAddr, fieldPlace]
theorem fa95_2 : FA Try.prog 95 2 2 := fun a w => by
  simp [Instr.fieldAt, run_underlying Try.underlying95, Instr.sureAddr, fieldPlace]
theorem bdWk (q : Int) (a b : Value) (ha : a.cells = #[a]) (hb : b.cells = #[b]) : ∀ w, (Instr.build 95 #[(0, .int .i64 q), (1, a), (2, b)]).run Try.prog w = .ok (.agg #[.int .i64 q, a, b]) w := fun w => by
  obtain ⟨zv, h1, h2⟩ := zvWk w
  simp [Instr.build, h1, h2, run_underlying Try.underlying95, szInt, szSl, szBs, Instr.fill, cells_i, ha, hb]
theorem cells_sl {w : World} {v : Value} {zs : List Value} (h : Sl w v zs) : v.cells = #[v] := by
  obtain ⟨⟨a, c, rfl, _⟩, _⟩ := h
  rfl
def dns (q : Int) (n : Nat) (t : Int) : List Value := tab n fun i => .bool (dnb q n t i)
/-- A walker at the word number t. -/
structure WK (B : Nat) (w : World) (v : Value) (q : Int) (ws ds : Value) (b kw kd : Nat) (L : List Int) (D : List Value) : Prop where
  ptr : v = .pointer (some ⟨b, 0, none⟩)
  blk : Blk w b 95 #[.int .i64 q, ws, ds]
  own : OwnI B w ws 3 L
  dwn : Own B w ds 4 D
  wb : ws.ownBlock = some kw
  db : ds.ownBlock = some kd
  ne : kw ≠ kd
  nb1 : kw ≠ b
  nb2 : kd ≠ b
  le : B ≤ b

set_option maxRecDepth 10000 in
theorem wStart (P : FP) (g : Value) (n : Int) (w : World) (hG : GFV w P g) (hn : 0 ≤ n ∧ n ≤ 64) :
    Calls Try.prog 65 #[g, .int .i64 n] w (RetX w fun v w' => ∃ ws ds b kw kd, WK w.heap.size w' v P.q ws ds b kw kd (refl P.q n.toNat 0) (dns P.q n.toNat 0)) := by
  have hq2 := P.q_two
  have hE := Ext.refl w
  have hdz : List.replicate n.toNat (Value.bool false) = dns P.q n.toNat 0 := by
    rw [replicate_tab, dns]
    exact tab_congr fun i _ => by rw [dns_zero]
  rw [refl_zero hq2]
  refine calls2 Try.func65 rfl rfl ?_
  refine wc_seq ?_
  refine wc_region [0] rfl ?_
  refine Go.Sx.V rfl wu rfl rfl (asg rfl) ?_
  refine wr_nil (post_thenN (wc_seq ?_))
  refine wc_draw3 mixed (.tr [0,2,4] (.br [1] (.leaf [3,5,6,7,8]) (.leaf [5,3,6,7,8])) (.br [3] (.leaf [1,5,6,7,8]) (.leaf [5,1,6,7,8])) (.br [5] (.leaf [1,3,6,7,8]) (.leaf [3,1,6,7,8]))) (by kernel_rfl) ?_
  intro w1 hd _
  replace hE := hE.trans hd
  refine w3_tr ?_
  refine Go.Sx.V rfl wu rfl rfl (mv rfl) ?_
  refine Go.Sx.V rfl wu rfl rfl (mv rfl) ?_
  refine Go.Sx.V rfl wu rfl rfl (mv rfl) ?_
  refine w3r_tr ?_ ?_ ?_
  · skip
    refine w3_br ?_
    refine C rfl wu rfl rfl Try.call73 (gOrder P g _ (hG.ext hE)) ?_
    rintro _ w2 hE2 rfl
    have z2 := hE2.size
    replace hE := hE.trans hE2
    try replace hws := Own.ext hws hE2
    try replace hds := Own.ext hds hE2
    refine w3r_br ?_ ?_
    · skip
      refine w3_leaf ?_
      refine MKI (n := n.toNat) rfl wu rfl rfl ty26 ?_
      intro ws w3 hE3 hws hwi hwb
      have z3 := hE3.size
      have y3 := (Own.lt hws _ hwb).2
      replace hws := Own.mono hws (B' := w.heap.size) hE.size
      replace hE := hE.trans hE3
      try replace hds := Own.ext hds hE3
      refine MK (n := n.toNat) rfl wu rfl rfl ty93 rfl ?_
      intro ds w4 hE4 hds hdb
      have z4 := hE4.size
      have y4 := (Own.lt hds _ hdb).2
      replace hds := Own.mono hds (B' := w.heap.size) hE.size
      replace hE := hE.trans hE4
      try replace hws := Own.ext hws hE4
      refine Go.Sx.V rfl wu rfl rfl (bld (us := [.int .i64 P.q, ws, ds]) (r := [.int .i64 P.q, ws, ds]) rfl (bdWk _ _ _ (cells_sl (Own.sl hws)) (cells_sl (Own.sl hds)))) ?_
      refine BXA rfl wu rfl rfl ?_
      intro b w5 hE5 hB5 hb5
      refine Go.Sx.V rfl wu rfl rfl (asg rfl) ?_
      refine wr_nil ?_
      refine post_thenN (wc_ret ?_)
      refine post_ret1 rfl rfl ?_
      rw [hdz] at hds
      have hsz := hE.size
      exact ⟨hE.trans hE5, ws, ds, b, _, _, rfl, hB5, Own.ext hws hE5, Own.ext hds hE5, hwb, hdb, by omega, by omega, by omega, by omega⟩
    · skip
      refine w3_leaf ?_
      refine MK (n := n.toNat) rfl wu rfl rfl ty93 rfl ?_
      intro ds w4 hE4 hds hdb
      have z4 := hE4.size
      have y4 := (Own.lt hds _ hdb).2
      replace hds := Own.mono hds (B' := w.heap.size) hE.size
      replace hE := hE.trans hE4
      try replace hws := Own.ext hws hE4
      refine MKI (n := n.toNat) rfl wu rfl rfl ty26 ?_
      intro ws w3 hE3 hws hwi hwb
      have z3 := hE3.size
      have y3 := (Own.lt hws _ hwb).2
      replace hws := Own.mono hws (B' := w.heap.size) hE.size
      replace hE := hE.trans hE3
      try replace hds := Own.ext hds hE3
      refine Go.Sx.V rfl wu rfl rfl (bld (us := [.int .i64 P.q, ws, ds]) (r := [.int .i64 P.q, ws, ds]) rfl (bdWk _ _ _ (cells_sl (Own.sl hws)) (cells_sl (Own.sl hds)))) ?_
      refine BXA rfl wu rfl rfl ?_
      intro b w5 hE5 hB5 hb5
      refine Go.Sx.V rfl wu rfl rfl (asg rfl) ?_
      refine wr_nil ?_
      refine post_thenN (wc_ret ?_)
      refine post_ret1 rfl rfl ?_
      rw [hdz] at hds
      have hsz := hE.size
      exact ⟨hE.trans hE5, ws, ds, b, _, _, rfl, hB5, Own.ext hws hE5, Own.ext hds hE5, hwb, hdb, by omega, by omega, by omega, by omega⟩
  · skip
    refine w3_br ?_
    refine MKI (n := n.toNat) rfl wu rfl rfl ty26 ?_
    intro ws w3 hE3 hws hwi hwb
    have z3 := hE3.size
    have y3 := (Own.lt hws _ hwb).2
    replace hws := Own.mono hws (B' := w.heap.size) hE.size
    replace hE := hE.trans hE3
    try replace hds := Own.ext hds hE3
    refine w3r_br ?_ ?_
    · skip
      refine w3_leaf ?_
      refine C rfl wu rfl rfl Try.call73 (gOrder P g _ (hG.ext hE)) ?_
      rintro _ w2 hE2 rfl
      have z2 := hE2.size
      replace hE := hE.trans hE2
      try replace hws := Own.ext hws hE2
      try replace hds := Own.ext hds hE2
      refine MK (n := n.toNat) rfl wu rfl rfl ty93 rfl ?_
      intro ds w4 hE4 hds hdb
      have z4 := hE4.size
      have y4 := (Own.lt hds _ hdb).2
      replace hds := Own.mono hds (B' := w.heap.size) hE.size
      replace hE := hE.trans hE4
      try replace hws := Own.ext hws hE4
      refine Go.Sx.V rfl wu rfl rfl (bld (us := [.int .i64 P.q, ws, ds]) (r := [.int .i64 P.q, ws, ds]) rfl (bdWk _ _ _ (cells_sl (Own.sl hws)) (cells_sl (Own.sl hds)))) ?_
      refine BXA rfl wu rfl rfl ?_
      intro b w5 hE5 hB5 hb5
      refine Go.Sx.V rfl wu rfl rfl (asg rfl) ?_
      refine wr_nil ?_
      refine post_thenN (wc_ret ?_)
      refine post_ret1 rfl rfl ?_
      rw [hdz] at hds
      have hsz := hE.size
      exact ⟨hE.trans hE5, ws, ds, b, _, _, rfl, hB5, Own.ext hws hE5, Own.ext hds hE5, hwb, hdb, by omega, by omega, by omega, by omega⟩
    · skip
      refine w3_leaf ?_
      refine MK (n := n.toNat) rfl wu rfl rfl ty93 rfl ?_
      intro ds w4 hE4 hds hdb
      have z4 := hE4.size
      have y4 := (Own.lt hds _ hdb).2
      replace hds := Own.mono hds (B' := w.heap.size) hE.size
      replace hE := hE.trans hE4
      try replace hws := Own.ext hws hE4
      refine C rfl wu rfl rfl Try.call73 (gOrder P g _ (hG.ext hE)) ?_
      rintro _ w2 hE2 rfl
      have z2 := hE2.size
      replace hE := hE.trans hE2
      try replace hws := Own.ext hws hE2
      try replace hds := Own.ext hds hE2
      refine Go.Sx.V rfl wu rfl rfl (bld (us := [.int .i64 P.q, ws, ds]) (r := [.int .i64 P.q, ws, ds]) rfl (bdWk _ _ _ (cells_sl (Own.sl hws)) (cells_sl (Own.sl hds)))) ?_
      refine BXA rfl wu rfl rfl ?_
      intro b w5 hE5 hB5 hb5
      refine Go.Sx.V rfl wu rfl rfl (asg rfl) ?_
      refine wr_nil ?_
      refine post_thenN (wc_ret ?_)
      refine post_ret1 rfl rfl ?_
      rw [hdz] at hds
      have hsz := hE.size
      exact ⟨hE.trans hE5, ws, ds, b, _, _, rfl, hB5, Own.ext hws hE5, Own.ext hds hE5, hwb, hdb, by omega, by omega, by omega, by omega⟩
  · skip
    refine w3_br ?_
    refine MK (n := n.toNat) rfl wu rfl rfl ty93 rfl ?_
    intro ds w4 hE4 hds hdb
    have z4 := hE4.size
    have y4 := (Own.lt hds _ hdb).2
    replace hds := Own.mono hds (B' := w.heap.size) hE.size
    replace hE := hE.trans hE4
    try replace hws := Own.ext hws hE4
    refine w3r_br ?_ ?_
    · skip
      refine w3_leaf ?_
      refine C rfl wu rfl rfl Try.call73 (gOrder P g _ (hG.ext hE)) ?_
      rintro _ w2 hE2 rfl
      have z2 := hE2.size
      replace hE := hE.trans hE2
      try replace hws := Own.ext hws hE2
      try replace hds := Own.ext hds hE2
      refine MKI (n := n.toNat) rfl wu rfl rfl ty26 ?_
      intro ws w3 hE3 hws hwi hwb
      have z3 := hE3.size
      have y3 := (Own.lt hws _ hwb).2
      replace hws := Own.mono hws (B' := w.heap.size) hE.size
      replace hE := hE.trans hE3
      try replace hds := Own.ext hds hE3
      refine Go.Sx.V rfl wu rfl rfl (bld (us := [.int .i64 P.q, ws, ds]) (r := [.int .i64 P.q, ws, ds]) rfl (bdWk _ _ _ (cells_sl (Own.sl hws)) (cells_sl (Own.sl hds)))) ?_
      refine BXA rfl wu rfl rfl ?_
      intro b w5 hE5 hB5 hb5
      refine Go.Sx.V rfl wu rfl rfl (asg rfl) ?_
      refine wr_nil ?_
      refine post_thenN (wc_ret ?_)
      refine post_ret1 rfl rfl ?_
      rw [hdz] at hds
      have hsz := hE.size
      exact ⟨hE.trans hE5, ws, ds, b, _, _, rfl, hB5, Own.ext hws hE5, Own.ext hds hE5, hwb, hdb, by omega, by omega, by omega, by omega⟩
    · skip
      refine w3_leaf ?_
      refine MKI (n := n.toNat) rfl wu rfl rfl ty26 ?_
      intro ws w3 hE3 hws hwi hwb
      have z3 := hE3.size
      have y3 := (Own.lt hws _ hwb).2
      replace hws := Own.mono hws (B' := w.heap.size) hE.size
      replace hE := hE.trans hE3
      try replace hds := Own.ext hds hE3
      refine C rfl wu rfl rfl Try.call73 (gOrder P g _ (hG.ext hE)) ?_
      rintro _ w2 hE2 rfl
      have z2 := hE2.size
      replace hE := hE.trans hE2
      try replace hws := Own.ext hws hE2
      try replace hds := Own.ext hds hE2
      refine Go.Sx.V rfl wu rfl rfl (bld (us := [.int .i64 P.q, ws, ds]) (r := [.int .i64 P.q, ws, ds]) rfl (bdWk _ _ _ (cells_sl (Own.sl hws)) (cells_sl (Own.sl hds)))) ?_
      refine BXA rfl wu rfl rfl ?_
      intro b w5 hE5 hB5 hb5
      refine Go.Sx.V rfl wu rfl rfl (asg rfl) ?_
      refine wr_nil ?_
      refine post_thenN (wc_ret ?_)
      refine post_ret1 rfl rfl ?_
      rw [hdz] at hds
      have hsz := hE.size
      exact ⟨hE.trans hE5, ws, ds, b, _, _, rfl, hB5, Own.ext hws hE5, Own.ext hds hE5, hwb, hdb, by omega, by omega, by omega, by omega⟩

theorem Own.keptB {B : Nat} {w w' : World} {v : Value} {E : TypeId} {xs : List Value} {b : Nat} (h : Own B w v E xs) (hg : w.grownBy w' (some b)) (hne : v.ownBlock ≠ some b) : Own B w' v E xs :=
  ⟨h.row.kept hg (.inr hne), h.le⟩
theorem gr_new {X : List Nat} {w w1 w2 : World} {b : Nat} (h : Gr X w w1) (hg : w1.grownBy w2 (some b)) (hb : w.heap.size ≤ b) : Gr X w w2 :=
  ⟨hg.os.trans h.os, hg.tape.trans h.tape, hg.output.trans h.output, Nat.le_trans h.size hg.size, fun k hk hx => (hg.block k (Nat.lt_of_lt_of_le hk h.size) (fun e => by cases e; omega)).trans (h.block k hk hx)⟩
/-- The change that leads from the word number t to the next. -/
def StepAt (q : Int) (n : Nat) (t : Int) (r : List Int) : Prop :=
  ∃ p : Nat, p < n ∧ r = [(p : Int), wd q n t p, wd q n (t + 1) p] ∧ (wd q n (t + 1) p = wd q n t p + 1 ∨ wd q n (t + 1) p = wd q n t p - 1) ∧ ∀ j, j < n → j ≠ p → wd q n (t + 1) j = wd q n t j
theorem fresh_out {q : Int} {n : Nat} {t : Int} {i : Nat} (hq : 2 ≤ q) :
    (decide ((if dnb q n t i then wd q n t i - 1 else wd q n t i + 1) < 0) || decide (q ≤ (if dnb q n t i then wd q n t i - 1 else wd q n t i + 1))) = true ↔ ¬ tq q n t i % q + 1 < q := by
  have h0 := Int.emod_nonneg (tq q n t i) (b := q) (by omega)
  have h1 := Int.emod_lt_of_pos (tq q n t i) (b := q) (by omega)
  unfold wd
  cases dnb q n t i <;> simp <;> omega
theorem dns_upd {q : Int} {n : Nat} {t : Int} {i : Nat} (hi : i < n) (h : dnb q n (t + 1) i = !dnb q n t i) :
    (tab n fun j => Value.bool (if (i : Int) < (j : Int) then dnb q n (t + 1) j else dnb q n t j)).set i (.bool (!dnb q n t i)) = tab n fun j => Value.bool (if (i : Int) - 1 < (j : Int) then dnb q n (t + 1) j else dnb q n t j) := by
  rw [tab_set]
  refine tab_congr fun j hj => ?_
  by_cases e : j = i
  · rw [if_pos e, e, if_pos (by omega), h]
  · rw [if_neg e]
    by_cases hlt : (i : Int) < (j : Int)
    · rw [if_pos hlt, if_pos (by omega)]
    · rw [if_neg hlt, if_neg (by omega)]

set_option maxRecDepth 10000 in
theorem wNext (B : Nat) (q : Int) (n : Nat) (t : Int) (v ws ds : Value) (b kw kd : Nat) (w : World) (h : WK B w v q ws ds b kw kd (refl q n t) (dns q n t)) (hq : 2 ≤ q ∧ q ≤ 256) (ht : 0 ≤ t ∧ t < q ^ n) (hn : n ≤ 64) :
    Calls Try.prog 66 #[v] w (RetG [kw, kd] w fun r w' =>
      (t + 1 < q ^ n ∧ ∃ a b' c, r = .tuple #[.agg #[.int .i64 a, .int .i64 b', .int .i64 c], .bool true] ∧ StepAt q n t [a, b', c] ∧ WK B w' v q ws ds b kw kd (refl q n (t + 1)) (dns q n (t + 1))) ∨
      (t + 1 = q ^ n ∧ r = .tuple #[.agg #[.int .i64 0, .int .i64 0, .int .i64 0], .bool false])) := by
  obtain ⟨rfl, hB, hws, hds, hwb, hdb, hne, hnb1, hnb2, hle⟩ := h
  have hwlt := (Own.lt hws _ hwb).2
  have hdlt := (Own.lt hds _ hdb).2
  have hblt := hB.lt
  have hrl := refl_length q n t
  refine calls1 Try.func66 rfl rfl ?_
  refine wc_seq ?_
  refine wc_region [0,1] rfl ?_
  refine AL rfl wu rfl zv57 ?_
  intro b0 w1 hE1 hR hb0
  refine Go.Sx.V rfl wu rfl rfl (asg rfl) ?_
  refine wr_nil (post_thenN (wc_seq (wc_seq ?_)))
  have hGr : Gr [kw, kd] w w1 := Gr.of_ext hE1
  replace hB := hB.ext hE1
  replace hws : OwnI B w1 ws 3 _ := Own.ext hws hE1
  replace hds := Own.ext hds hE1
  have hwi := OwnI.ints hws
  refine wc_region [0,1,2,3,4,5,6] rfl ?_
  refine Go.Sx.V rfl wu rfl rfl (mv rfl) ?_
  refine Go.Sx.V rfl wu rfl rfl (nchk rfl) ?_
  refine Go.Sx.V rfl wu rfl rfl (fad rfl fa95_1) ?_
  refine Go.Sx.V rfl wu rfl rfl (ldB rfl na26 hB) ?_
  refine Go.Sx.V rfl wu rfl rfl (lenI rfl ty26) ?_
  refine Go.Sx.V rfl wu rfl rfl (subI rfl rfl) ?_
  refine Go.Sx.V rfl wu rfl rfl (asg rfl) ?_
  refine wr_nil (post_thenN (wc_block ?_))
  rw [hrl]
  have hds0 : Own B w1 ds 4 (tab n fun j => Value.bool (if ((n : Int) - 1) < (j : Int) then dnb q n (t + 1) j else dnb q n t j)) := by
    have e : dns q n t = tab n fun j => Value.bool (if ((n : Int) - 1) < (j : Int) then dnb q n (t + 1) j else dnb q n t j) := tab_congr fun j hj => by rw [if_neg (by omega)]
    rw [← e]
    exact hds
  refine wc_loop (fun i : Int => [(0, .pointer (some ⟨b, 0, none⟩)), (2, .pointer (some ⟨b0, 0, none⟩)), (4, .int .i64 i)])
    (fun i w' => -1 ≤ i ∧ i ≤ (n : Int) - 1 ∧ Gr [kw, kd] w w' ∧ Blk w' b 95 #[.int .i64 q, ws, ds] ∧ OwnI B w' ws 3 (refl q n t) ∧ Own B w' ds 4 (tab n fun j => Value.bool (if i < (j : Int) then dnb q n (t + 1) j else dnb q n t j)) ∧
      Blk w' b0 57 [.int .i64 0, .int .i64 0, .int .i64 0].toArray ∧ Car q n t i) (fun i => (i + 1).toNat) ((n : Int) - 1) ⟨rfl, rfl, rfl, trivial⟩
    ⟨by omega, by omega, hGr, hB, hws, hds0, hR, Car.first q n t⟩ ?_
  clear hGr hB hws hds hds0 hR hwi hE1
  rintro i w2 ⟨i0, i1, hGr, hB, hws, hds, hR, hC⟩
  have hwi := OwnI.ints hws
  have hdl : (tab n fun j => Value.bool (if i < (j : Int) then dnb q n (t + 1) j else dnb q n t j)).length = n := tab_length _ _
  try dsimp only
  refine wc_seq (wc_seq ?_)
  refine wc_region [0,1] rfl ?_
  refine Go.Sx.V rfl wu rfl rfl (mv rfl) ?_
  refine Go.Sx.V rfl wu rfl rfl (geqI rfl rfl) ?_
  refine wr_nil (post_thenN ?_)
  refine wc_cond rfl ?_ ?_
  · intro hi
    simp at hi
    obtain ⟨I, rfl⟩ : ∃ I : Nat, i = I := ⟨i.toNat, by omega⟩
    have hIn : I < n := by omega
    have hgw : gi (refl q n t) (I : Int) = wd q n t I := by
      rw [refl, gi_tab (by omega) (by omega), Int.toNat_natCast]
    have hgd : (tab n fun j => Value.bool (if (I : Int) < (j : Int) then dnb q n (t + 1) j else dnb q n t j))[((I : Int)).toNat]? = some (.bool (dnb q n t I)) := by
      rw [Int.toNat_natCast, tab_get hIn, if_neg (by omega)]
    have hwr := wd_range hq.1 n t I
    refine wc_skip (post_thenN (wc_seq (wc_block (wc_seq ?_))))
    refine wc_region [0,1,2,3,4,5,6,7] rfl ?_
    refine Go.Sx.V rfl wu rfl rfl (mv rfl) ?_
    refine Go.Sx.V rfl wu rfl rfl (nchk rfl) ?_
    refine Go.Sx.V rfl wu rfl rfl (fad rfl fa95_1) ?_
    refine Go.Sx.V rfl wu rfl rfl (ldB rfl na26 hB) ?_
    refine Go.Sx.V rfl wu rfl rfl (mv rfl) ?_
    refine Go.Sx.V rfl wu rfl rfl (iadI rfl rfl ty26) ?_
    refine Go.Sx.V rfl wu rfl rfl (ldI rfl na3) ?_
    refine Go.Sx.V rfl wu rfl rfl (asg rfl) ?_
    refine wr_nil (post_thenN (wc_seq ?_))
    rw [hgw]
    refine wc_region [0,1,2] rfl ?_
    refine Go.Sx.V rfl wu rfl rfl (mv rfl) ?_
    refine Go.Sx.V rfl wu rfl rfl (addI rfl rfl) ?_
    refine Go.Sx.V rfl wu rfl rfl (asg rfl) ?_
    refine wr_nil (post_thenN (wc_seq (wc_seq ?_)))
    refine wc_region [0,1,2,3,4,5,6] rfl ?_
    refine Go.Sx.V rfl wu rfl rfl (mv rfl) ?_
    refine Go.Sx.V rfl wu rfl rfl (nchk rfl) ?_
    refine Go.Sx.V rfl wu rfl rfl (fad rfl fa95_2) ?_
    refine Go.Sx.V rfl wu rfl rfl (ldB rfl na93 hB) ?_
    refine Go.Sx.V rfl wu rfl rfl (mv rfl) ?_
    refine Go.Sx.V rfl wu rfl rfl (iad rfl rfl ty93 hds.sl (by omega) (by omega)) ?_
    refine Go.Sx.V rfl wu rfl rfl (ldE rfl na4 hds.sl hgd) ?_
    refine wr_nil (post_thenN ?_)
    refine wc_cut (σ := Unit) (fun _ => [(0, .pointer (some ⟨b, 0, none⟩)), (2, .pointer (some ⟨b0, 0, none⟩)), (4, .int .i64 I), (5, .int .i64 (wd q n t I)), (6, .int .i64 (if dnb q n t I then wd q n t I - 1 else wd q n t I + 1))]) (fun _ w' => w' = w2) ?_ ?_
    · skip
      refine wc_cond rfl ?_ ?_
      · intro hd
        have e : (if dnb q n t I then wd q n t I - 1 else wd q n t I + 1) = wd q n t I - 1 := if_pos hd
        rw [e]
        refine wc_region [0,1,2] rfl ?_
        refine Go.Sx.V rfl wu rfl rfl (mv rfl) ?_
        refine Go.Sx.V rfl wu rfl rfl (subI rfl rfl) ?_
        refine Go.Sx.V rfl wu rfl rfl (asg rfl) ?_
        exact wr_nil (post_cutN () ⟨rfl, rfl, rfl, rfl, rfl, trivial⟩ rfl)
      · intro hd
        have e : (if dnb q n t I then wd q n t I - 1 else wd q n t I + 1) = wd q n t I + 1 := if_neg (by rw [hd]; simp)
        rw [e]
        exact wc_skip (post_cutN () ⟨rfl, rfl, rfl, rfl, rfl, trivial⟩ rfl)
    · rintro _ _ rfl
      rename_i w2
      refine wc_seq (wc_seq ?_)
      have hfo := fresh_out (q := q) (n := n) (t := t) (i := I) hq.1
      have hfr : -1 ≤ (if dnb q n t I then wd q n t I - 1 else wd q n t I + 1) ∧ (if dnb q n t I then wd q n t I - 1 else wd q n t I + 1) ≤ q := by split <;> omega
      have hch := fun hd => hC.change hq.1 hIn hd
      have hpm : (if dnb q n t I then wd q n t I - 1 else wd q n t I + 1) = wd q n t I + 1 ∨ (if dnb q n t I then wd q n t I - 1 else wd q n t I + 1) = wd q n t I - 1 := by
        split
        · exact .inr rfl
        · exact .inl rfl
      generalize (if dnb q n t I then wd q n t I - 1 else wd q n t I + 1) = fr at hfo hfr hch hpm ⊢
      refine wc_region [0,1,2,3,4,5,6,7,8,9] rfl ?_
      refine Go.Sx.V rfl wu rfl rfl (mv rfl) ?_
      refine Go.Sx.V rfl wu rfl rfl (lssI rfl rfl) ?_
      refine Go.Sx.V rfl wu rfl rfl (mv rfl) ?_
      refine OR (π1 := [3,4,5,6,7,8,9]) (π2 := []) (tc := 37) (tp := 44) rfl rfl rfl (by
          intro _
          refine SK rfl rfl rfl rfl rfl ?_
          refine SK rfl rfl rfl rfl rfl ?_
          refine SK rfl rfl rfl rfl rfl ?_
          refine SK rfl rfl rfl rfl rfl ?_
          refine SK rfl rfl rfl rfl rfl ?_
          refine SK rfl rfl rfl rfl rfl ?_
          refine Go.Sx.V rfl wu rfl rfl (pk rfl rfl) ?_
          exact join rfl) (by
          intro hg
          simp at hg
          refine Go.Sx.V rfl (wg rfl rfl) rfl rfl (mv rfl) ?_
          refine Go.Sx.V rfl (wg rfl rfl) rfl rfl (mv rfl) ?_
          refine Go.Sx.V rfl (wg rfl rfl) rfl rfl (nchk rfl) ?_
          refine Go.Sx.V rfl (wg rfl rfl) rfl rfl (fad rfl fa95_0) ?_
          refine Go.Sx.V rfl (wg rfl rfl) rfl rfl (ldB rfl na3 hB) ?_
          refine Go.Sx.V rfl (wg rfl rfl) rfl rfl (geqI rfl rfl) ?_
          refine Go.Sx.V rfl wu rfl rfl (pk rfl rfl) ?_
          exact join rfl) ?_
      refine wr_nil (post_thenN ?_)
      refine wc_cond rfl ?_ ?_
      · intro ho
        rw [hfo] at ho
        obtain ⟨hC2, hdn⟩ := hC.over hq.1 hIn ho
        refine wc_seq ?_
        refine wc_draw mixed [0,1,2,3,4,5,6,7,8,9,10,11,12,13,14] (by kernel_rfl) ?_
        intro w3 hd3 _
        replace hB := hB.ext hd3
        replace hR := hR.ext hd3
        refine Go.Sx.V rfl wu rfl rfl (mv rfl) ?_
        refine Go.Sx.V rfl wu rfl rfl (nchk rfl) ?_
        refine Go.Sx.V rfl wu rfl rfl (fad rfl fa95_2) ?_
        refine Go.Sx.V rfl wu rfl rfl (ldB rfl na93 hB) ?_
        refine Go.Sx.V rfl wu rfl rfl (mv rfl) ?_
        refine Go.Sx.V rfl wu rfl rfl (mv rfl) ?_
        refine Go.Sx.V rfl wu rfl rfl (nchk rfl) ?_
        refine Go.Sx.V rfl wu rfl rfl (fad rfl fa95_2) ?_
        refine Go.Sx.V rfl wu rfl rfl (ldB rfl na93 hB) ?_
        refine Go.Sx.V rfl wu rfl rfl (mv rfl) ?_
        replace hds := Own.ext hds hd3
        refine Go.Sx.V rfl wu rfl rfl (iad rfl rfl ty93 hds.sl (by omega) (by omega)) ?_
        refine Go.Sx.V rfl wu rfl rfl (ldE rfl na4 hds.sl hgd) ?_
        refine Go.Sx.V rfl wu rfl rfl (notB rfl) ?_
        refine Go.Sx.V rfl wu rfl rfl (iad rfl rfl ty93 hds.sl (by omega) (by omega)) ?_
        refine ST rfl wu rfl rfl sz4 rfl (by intro h; kernel_rfl) ?_ hds (by omega) (by omega)
        intro w4 hg4 hds4
        refine wr_nil (post_thenN (wc_exit (post_thenE (post_blockX (post_thenN ?_)))))
        rw [Int.toNat_natCast, dns_upd hIn hdn] at hds4
        replace hg4 : w3.grownBy w4 (some kd) := by
          have h : w3.grownBy w4 ds.ownBlock := hg4
          rw [hdb] at h
          exact h
        have hGr3 : Gr [kw, kd] w w3 := hGr.trans (Gr.of_ext hd3)
        have hGr4 : Gr [kw, kd] w w4 := hGr3.trans (Gr.of_grown hg4 (fun k hk => by cases hk; simp))
        refine wc_region [0,1,2] rfl ?_
        refine Go.Sx.V rfl wu rfl rfl (mv rfl) ?_
        refine Go.Sx.V rfl wu rfl rfl (subI rfl rfl) ?_
        refine Go.Sx.V rfl wu rfl rfl (asg rfl) ?_
        refine wr_nil ?_
        exact post_loopN ((I : Int) - 1) ⟨rfl, rfl, rfl, trivial⟩ ⟨by omega, by omega, hGr4, hB.grown hg4 (fun e => hnb2 (Option.some.inj e)), Own.kept (v2 := ds) (Own.ext hws hd3) (by rw [hdb]; exact hg4) (.inl (by rw [hwb, hdb]; intro e; exact hne (Option.some.inj e))), hds4, hR.grown hg4 (fun e => by have := Option.some.inj e; omega), hC2⟩ (by omega)
      · intro ho
        have ho' : tq q n t I % q + 1 < q := Classical.byContradiction fun hc => by rw [hfo.2 hc] at ho; cases ho
        obtain ⟨c1, c2, c3⟩ := hch ho'
        have hlt := hC.lt hq.1 hIn ht.1 ht.2 ho'
        refine wc_skip (post_thenN (wc_seq ?_))
        refine wc_region [0,1,2,3,4,5,6,7] rfl ?_
        refine Go.Sx.V rfl wu rfl rfl (mv rfl) ?_
        refine Go.Sx.V rfl wu rfl rfl (nchk rfl) ?_
        refine Go.Sx.V rfl wu rfl rfl (fad rfl fa95_1) ?_
        refine Go.Sx.V rfl wu rfl rfl (ldB rfl na26 hB) ?_
        refine Go.Sx.V rfl wu rfl rfl (mv rfl) ?_
        refine Go.Sx.V rfl wu rfl rfl (mv rfl) ?_
        refine Go.Sx.V rfl wu rfl rfl (iadI rfl rfl ty26) ?_
        refine STI rfl wu rfl rfl sz3 (by intro h; cases h) ?_
        intro w4 hg4 hX4 hws4 hwi4
        refine wr_nil (post_thenN (wc_seq ?_))
        have hrf : si (refl q n t) (I : Int) fr = refl q n (t + 1) := by
          rw [refl, si_tab, Int.toNat_natCast]
          refine tab_congr fun j hj => ?_
          by_cases e : j = I
          · rw [if_pos e, e, c1]
          · rw [if_neg e, c2 j hj e]
        rw [hrf] at hws4
        replace hg4 : World.grownBy w2 w4 (some kw) := by
          have h : World.grownBy w2 w4 ws.ownBlock := hg4
          rw [hwb] at h
          exact h
        have hGr4 : Gr [kw, kd] w w4 := hGr.trans (Gr.of_grown hg4 (fun k hk => by cases hk; simp))
        have hds4 : Own B w4 ds 4 (dns q n (t + 1)) := by
          have e : (tab n fun j => Value.bool (if (I : Int) < (j : Int) then dnb q n (t + 1) j else dnb q n t j)) = dns q n (t + 1) := tab_congr fun j hj => by
            by_cases hlt : (I : Int) < (j : Int)
            · rw [if_pos hlt]
            · rw [if_neg hlt, c3 j (by omega)]
          rw [← e]
          exact Own.kept (v2 := ws) hds (by rw [hwb]; exact hg4) (.inl (by rw [hwb, hdb]; intro e; exact hne (Option.some.inj e).symm))
        have hB4 := hB.grown hg4 (fun e => hnb1 (Option.some.inj e))
        have hR4 := hR.grown hg4 (fun e => by have := Option.some.inj e; omega)
        refine wc_region [0,1,2,3,4,5] rfl ?_
        refine Go.Sx.V rfl wu rfl rfl (mv rfl) ?_
        refine Go.Sx.V rfl wu rfl rfl (mv rfl) ?_
        refine Go.Sx.V rfl wu rfl rfl (mv rfl) ?_
        refine Go.Sx.V rfl wu rfl rfl (bld (us := [.int .i64 I, .int .i64 (wd q n t I), .int .i64 fr]) (r := [.int .i64 I, .int .i64 (wd q n t I), .int .i64 fr]) rfl (bdCh _ _ _)) ?_
        refine STB (vs := [.int .i64 I, .int .i64 (wd q n t I), .int .i64 fr]) (cs' := [.int .i64 I, .int .i64 (wd q n t I), .int .i64 fr]) rfl wu rfl rfl rfl sv57 (by intro h; cases h) (by assumption) (by first | (simp [Value.oneCell']; done) | (intro v hv; simp only [List.mem_cons, List.not_mem_nil, or_false] at hv; rcases hv with rfl | rfl | rfl <;> first | rfl | assumption) | (intro v hv; simp only [List.mem_cons, List.not_mem_nil, or_false] at hv; rcases hv with rfl | rfl <;> first | rfl | assumption)) rfl rfl rfl ?_
        intro w5 hg5 hX5 hR5
        refine Go.Sx.V rfl wu rfl rfl (asg rfl) ?_
        refine wr_nil (post_thenN (wc_ret (post_blockR (post_thenR (post_loopR (post_blockR (post_thenR ?_)))))))
        refine post_retC2 rfl rfl rfl ag57 hR5 rfl ?_
        refine ⟨gr_new hGr4 hg5 hb0, .inl ⟨hlt, _, _, _, rfl, ⟨I, hIn, by rw [c1], by rw [c1]; exact hpm, c2⟩, rfl, hB4.grown hg5 (fun e => by have := Option.some.inj e; omega), Own.keptB hws4 hg5 (by rw [hwb]; intro e; have := Option.some.inj e; omega), Own.keptB hds4 hg5 (by rw [hdb]; intro e; have := Option.some.inj e; omega), hwb, hdb, hne, hnb1, hnb2, hle⟩⟩
  · intro hi
    simp at hi
    have hi1 : i = -1 := by omega
    subst hi1
    have hend := hC.end hq.1 ht.1 ht.2
    refine wc_exit (post_thenE (post_loopE (post_blockX (post_thenN (wc_seq ?_)))))
    refine wc_region [0,1,2] rfl ?_
    refine Go.Sx.V rfl wu rfl rfl (bld (us := []) (r := [.int .i64 0, .int .i64 0, .int .i64 0]) rfl bdCh0) ?_
    refine STB (vs := [.int .i64 0, .int .i64 0, .int .i64 0]) (cs' := [.int .i64 0, .int .i64 0, .int .i64 0]) rfl wu rfl rfl rfl sv57 (by intro h; cases h) (by assumption) (by first | (simp [Value.oneCell']; done) | (intro v hv; simp only [List.mem_cons, List.not_mem_nil, or_false] at hv; rcases hv with rfl | rfl | rfl <;> first | rfl | assumption) | (intro v hv; simp only [List.mem_cons, List.not_mem_nil, or_false] at hv; rcases hv with rfl | rfl <;> first | rfl | assumption)) rfl rfl rfl ?_
    intro w5 hg5 hX5 hR5
    refine Go.Sx.V rfl wu rfl rfl (asg rfl) ?_
    refine wr_nil (post_thenN (wc_ret ?_))
    refine post_retC2 rfl rfl rfl ag57 hR5 rfl ?_
    exact ⟨gr_new hGr hg5 hb0, .inr ⟨hend, rfl⟩⟩

theorem tq_next {q t : Int} {n : Nat} {i : Int} (hq : 2 ≤ q) (h0 : 0 ≤ i) (h1 : i < n) : t / q ^ ((n : Int) - 1 - i).toNat / q = t / q ^ ((n : Int) - 1 - (i - 1)).toNat := fq_next hq h1
/-- The list when the places above i are filled. -/
def rfs (q : Int) (n : Nat) (t i : Int) : List Int := tab n fun j => if i < (j : Int) then wd q n t j else 0
theorem rfs_step {q t : Int} {n : Nat} {i : Int} (h0 : 0 ≤ i) (h1 : i < n) : si (rfs q n t i) i (wd q n t i.toNat) = rfs q n t (i - 1) := by
  rw [rfs, si_tab]
  refine tab_congr fun j hj => ?_
  by_cases e : j = i.toNat
  · rw [if_pos e, if_pos (by omega), e]
  · rw [if_neg e]
    by_cases h : i < (j : Int)
    · rw [if_pos h, if_pos (by omega)]
    · rw [if_neg h, if_neg (by omega)]

set_option maxRecDepth 10000 in
theorem rRefl (q : Int) (n : Nat) (t : Int) (w : World) (hq : 2 ≤ q ∧ q ≤ 256) (hn : n ≤ 64) (ht : 0 ≤ t ∧ t ≤ 9223372036854775807) :
    Calls Try.prog 42 #[.int .i64 q, .int .i64 n, .int .i64 t] w (RetX w fun v w' => OwnI w.heap.size w' v 3 (refl q n t)) := by
  refine calls3 Try.func42 rfl rfl ?_
  refine wc_seq ?_
  refine wc_region [0] rfl ?_
  refine Go.Sx.V rfl wu rfl rfl (asg rfl) ?_
  refine wr_nil (post_thenN (wc_seq ?_))
  refine wc_region [0,1,2] rfl ?_
  refine Go.Sx.V rfl wu rfl rfl (mv rfl) ?_
  refine MKI (n := n) rfl wu rfl rfl ty26 ?_
  intro out w1 hE ho hi hob
  refine Go.Sx.V rfl wu rfl rfl (asg rfl) ?_
  refine wr_nil (post_thenN (wc_seq (wc_seq ?_)))
  have hf : tab n (fun _ => (0 : Int)) = rfs q n t ((n : Int) - 1) := tab_congr fun j hj => by rw [if_neg (by omega)]
  rw [hf] at ho
  refine wc_region [0,1,2] rfl ?_
  refine Go.Sx.V rfl wu rfl rfl (mv rfl) ?_
  refine Go.Sx.V rfl wu rfl rfl (subI rfl rfl) ?_
  refine Go.Sx.V rfl wu rfl rfl (asg rfl) ?_
  refine wr_nil (post_thenN (wc_block ?_))
  refine wc_loop (fun i : Int => [(0, .int .i64 q), (1, .int .i64 n), (2, .int .i64 (t / q ^ ((n : Int) - 1 - i).toNat)), (7, out), (8, .int .i64 i)])
    (fun i w' => -1 ≤ i ∧ i ≤ (n : Int) - 1 ∧ Ext w w' ∧ OwnI w.heap.size w' out 3 (rfs q n t i)) (fun i => (i + 1).toNat) ((n : Int) - 1) ⟨rfl, rfl, by rw [show ((n : Int) - 1 - ((n : Int) - 1)).toNat = 0 by omega, Int.pow_zero, Int.ediv_one]; rfl, rfl, rfl, trivial⟩
    ⟨by omega, by omega, hE, ho⟩ ?_
  clear hE ho hi
  rintro i w2 ⟨i0, i1, hE, ho⟩
  have hp := pw_pos hq.1 ((n : Int) - 1 - i).toNat
  have hc0 : 0 ≤ t / q ^ ((n : Int) - 1 - i).toNat := Int.ediv_nonneg ht.1 (by omega)
  have hc1 : t / q ^ ((n : Int) - 1 - i).toNat ≤ t := Int.ediv_le_self _ ht.1
  have hoi := OwnI.ints ho
  have hfl : (rfs q n t i).length = n := tab_length _ _
  try dsimp only
  refine wc_seq (wc_seq ?_)
  refine wc_region [0,1] rfl ?_
  refine Go.Sx.V rfl wu rfl rfl (mv rfl) ?_
  refine Go.Sx.V rfl wu rfl rfl (geqI rfl rfl) ?_
  refine wr_nil (post_thenN ?_)
  refine wc_cond rfl ?_ ?_
  · intro hi
    simp at hi
    have hst := rfs_step (q := q) (t := t) (n := n) hi (by omega)
    have hnx := tq_next (q := q) (t := t) (n := n) hq.1 hi (by omega)
    have htq : tq q n t i.toNat = t / q ^ ((n : Int) - 1 - i).toNat := by
      unfold tq
      rw [show ((n : Int) - 1 - i).toNat = n - 1 - i.toNat by omega]
    have hr0 := Int.emod_nonneg (t / q ^ ((n : Int) - 1 - i).toNat) (b := q) (by omega)
    have hr1 := Int.emod_lt_of_pos (t / q ^ ((n : Int) - 1 - i).toNat) (b := q) (by omega)
    have hd0 : 0 ≤ t / q ^ ((n : Int) - 1 - i).toNat / q := Int.ediv_nonneg hc0 (by omega)
    refine wc_skip (post_thenN (wc_seq (wc_block (wc_seq ?_))))
    refine wc_region [0,1,2,3] rfl ?_
    refine Go.Sx.V rfl wu rfl rfl (mv rfl) ?_
    refine Go.Sx.V rfl wu rfl rfl (mv rfl) ?_
    refine Go.Sx.V rfl wu rfl rfl (remI rfl rfl) ?_
    refine Go.Sx.V rfl wu rfl rfl (asg rfl) ?_
    refine wr_nil (post_thenN (wc_seq ?_))
    refine wc_region [0,1,2,3] rfl ?_
    refine Go.Sx.V rfl wu rfl rfl (mv rfl) ?_
    refine Go.Sx.V rfl wu rfl rfl (mv rfl) ?_
    refine Go.Sx.V rfl wu rfl rfl (quoI rfl rfl) ?_
    refine Go.Sx.V rfl wu rfl rfl (asg rfl) ?_
    refine wr_nil (post_thenN (wc_seq (wc_seq ?_)))
    refine wc_region [0,1,2] rfl ?_
    refine Go.Sx.V rfl wu rfl rfl (mv rfl) ?_
    refine Go.Sx.V rfl wu rfl rfl (remI rfl rfl) ?_
    refine Go.Sx.V rfl wu rfl rfl (eqlI rfl rfl) ?_
    refine wr_nil (post_thenN ?_)
    refine wc_cond rfl ?_ ?_
    · intro hd
      simp at hd
      have hwd : q - 1 - t / q ^ ((n : Int) - 1 - i).toNat % q = wd q n t i.toNat := by
        unfold wd dnb
        rw [htq, if_pos (by simpa using hd)]
      refine wc_region [0,1,2,3,4] rfl ?_
      refine Go.Sx.V rfl wu rfl rfl (mv rfl) ?_
      refine Go.Sx.V rfl wu rfl rfl (subI rfl rfl) ?_
      refine Go.Sx.V rfl wu rfl rfl (mv rfl) ?_
      refine Go.Sx.V rfl wu rfl rfl (subI rfl rfl) ?_
      refine Go.Sx.V rfl wu rfl rfl (asg rfl) ?_
      refine wr_nil (post_thenN ?_)
      rw [hwd]
      refine wc_region [0,1,2,3,4] rfl ?_
      refine Go.Sx.V rfl wu rfl rfl (mv rfl) ?_
      refine Go.Sx.V rfl wu rfl rfl (mv rfl) ?_
      refine Go.Sx.V rfl wu rfl rfl (mv rfl) ?_
      refine Go.Sx.V rfl wu rfl rfl (iadI rfl rfl ty26) ?_
      refine STI rfl wu rfl rfl sz3 (by intro h; cases h) ?_
      intro w3 hg3 hX3 ho3 hi3
      refine wr_nil (post_blockN (post_thenN ?_))
      rw [hst] at ho3
      rw [hnx]
      refine wc_region [0,1,2] rfl ?_
      refine Go.Sx.V rfl wu rfl rfl (mv rfl) ?_
      refine Go.Sx.V rfl wu rfl rfl (subI rfl rfl) ?_
      refine Go.Sx.V rfl wu rfl rfl (asg rfl) ?_
      refine wr_nil ?_
      exact post_loopN (i - 1) ⟨rfl, rfl, rfl, rfl, rfl, trivial⟩ ⟨by omega, by omega, hX3 _ (Nat.le_refl _) hE, ho3⟩ (by omega)
    · intro hd
      simp at hd
      have hwd : t / q ^ ((n : Int) - 1 - i).toNat % q = wd q n t i.toNat := by
        unfold wd dnb
        rw [htq, if_neg (by simpa using hd)]
      refine wc_skip (post_thenN ?_)
      rw [hwd]
      refine wc_region [0,1,2,3,4] rfl ?_
      refine Go.Sx.V rfl wu rfl rfl (mv rfl) ?_
      refine Go.Sx.V rfl wu rfl rfl (mv rfl) ?_
      refine Go.Sx.V rfl wu rfl rfl (mv rfl) ?_
      refine Go.Sx.V rfl wu rfl rfl (iadI rfl rfl ty26) ?_
      refine STI rfl wu rfl rfl sz3 (by intro h; cases h) ?_
      intro w3 hg3 hX3 ho3 hi3
      refine wr_nil (post_blockN (post_thenN ?_))
      rw [hst] at ho3
      rw [hnx]
      refine wc_region [0,1,2] rfl ?_
      refine Go.Sx.V rfl wu rfl rfl (mv rfl) ?_
      refine Go.Sx.V rfl wu rfl rfl (subI rfl rfl) ?_
      refine Go.Sx.V rfl wu rfl rfl (asg rfl) ?_
      refine wr_nil ?_
      exact post_loopN (i - 1) ⟨rfl, rfl, rfl, rfl, rfl, trivial⟩ ⟨by omega, by omega, hX3 _ (Nat.le_refl _) hE, ho3⟩ (by omega)
  · intro hi
    simp at hi
    have hi1 : i = -1 := by omega
    subst hi1
    refine wc_exit (post_thenE (post_loopE (post_blockX (post_thenN (wc_seq ?_)))))
    refine wc_region [0,1] rfl ?_
    refine Go.Sx.V rfl wu rfl rfl (mv rfl) ?_
    refine Go.Sx.V rfl wu rfl rfl (asg rfl) ?_
    refine wr_nil (post_thenN (wc_ret ?_))
    refine post_ret1 rfl rfl ?_
    have e : rfs q n t (-1) = refl q n t := tab_congr fun j _ => if_pos (by omega)
    rw [e] at ho
    exact ⟨hE, ho⟩

theorem nx_split {B : Nat} {q : Int} {n : Nat} {t : Int} {v ws ds : Value} {b kw kd : Nat} {w' : World} {r : Value} (h :
      (t + 1 < q ^ n ∧ ∃ a b' c, r = .tuple #[.agg #[.int .i64 a, .int .i64 b', .int .i64 c], .bool true] ∧ StepAt q n t [a, b', c] ∧ WK B w' v q ws ds b kw kd (refl q n (t + 1)) (dns q n (t + 1))) ∨
      (t + 1 = q ^ n ∧ r = .tuple #[.agg #[.int .i64 0, .int .i64 0, .int .i64 0], .bool false])) :
    ∃ (a b' c : Int) (ok : Bool), r = .tuple #[.agg #[.int .i64 a, .int .i64 b', .int .i64 c], .bool ok] ∧ ((ok = true ∧ t + 1 < q ^ n ∧ StepAt q n t [a, b', c] ∧ WK B w' v q ws ds b kw kd (refl q n (t + 1)) (dns q n (t + 1))) ∨ (ok = false ∧ t + 1 = q ^ n)) := by
  rcases h with ⟨h1, a, b', c, h2, h3, h4⟩ | ⟨h1, h2⟩
  · exact ⟨a, b', c, true, h2, .inl ⟨rfl, h1, h3, h4⟩⟩
  · exact ⟨0, 0, 0, false, h2, .inr ⟨rfl, h1⟩⟩
theorem WK.ext {B : Nat} {w w' : World} {v : Value} {q : Int} {ws ds : Value} {b kw kd : Nat} {L : List Int} {D : List Value} (h : WK B w v q ws ds b kw kd L D) (hE : Ext w w') : WK B w' v q ws ds b kw kd L D :=
  ⟨h.ptr, h.blk.ext hE, Own.ext h.own hE, Own.ext h.dwn hE, h.wb, h.db, h.ne, h.nb1, h.nb2, h.le⟩
theorem WK.grown {B : Nat} {w w' : World} {v : Value} {q : Int} {ws ds : Value} {b kw kd : Nat} {L : List Int} {D : List Value} {row : Option Nat} (h : WK B w v q ws ds b kw kd L D) (hg : w.grownBy w' row) (h1 : row ≠ some kw) (h2 : row ≠ some kd) (h3 : row ≠ some b) : WK B w' v q ws ds b kw kd L D :=
  ⟨h.ptr, h.blk.grown hg h3, ⟨h.own.row.kept hg (.inr (by rw [h.wb]; exact h1.symm)), Own.le h.own⟩, ⟨h.dwn.row.kept hg (.inr (by rw [h.db]; exact h2.symm)), h.dwn.le⟩, h.wb, h.db, h.ne, h.nb1, h.nb2, h.le⟩
/-- What Steps lists. -/
def StepsOf (q : Int) (n : Nat) (L : List (List Int)) (k : Nat) : Prop := L.length = k ∧ ∀ j : Nat, j < k → StepAt q n j (L.getD j [])
theorem StepsOf.snoc {q : Int} {n : Nat} {L : List (List Int)} {k : Nat} {r : List Int} (h : StepsOf q n L k) (hr : StepAt q n k r) : StepsOf q n (L ++ [r]) (k + 1) := by
  obtain ⟨h1, h2⟩ := h
  refine ⟨by simp [h1], fun j hj => ?_⟩
  by_cases e : j = k
  · subst e
    have : (L ++ [r]).getD j [] = r := by simp [List.getD_eq_getElem?_getD, ← h1]
    rw [this]
    exact hr
  · have : (L ++ [r]).getD j [] = L.getD j [] := by simp [List.getD_eq_getElem?_getD, List.getElem?_append, show j < L.length by omega]
    rw [this]
    exact h2 j (by omega)

set_option maxRecDepth 10000 in
theorem wSteps (P : FP) (g : Value) (n : Int) (w : World) (hG : GFV w P g) :
    Calls Try.prog 39 #[g, .int .i64 n] w (RetX w fun v w' => ∃ s L, v = .tuple #[s, .int .i64 (cntA P.q n).2] ∧ RowsI w' s 3 L ∧ ((cntA P.q n).2 ≠ 0 → L = []) ∧ ((cntA P.q n).2 = 0 → StepsOf P.q n.toNat L (P.q ^ n.toNat - 1).toNat)) := by
  have hq2 := P.q_two
  have hq11 := hG.q11
  refine calls2 Try.func39 rfl rfl ?_
  refine wc_seq ?_
  refine wc_region [0,1] rfl ?_
  refine Go.Sx.V rfl wu rfl rfl (asg rfl) ?_
  refine Go.Sx.V rfl wu rfl rfl (asg rfl) ?_
  refine wr_nil (post_thenN (wc_seq (wc_seq ?_)))
  refine wc_region [0,1,2,3,4,5,6,7] rfl ?_
  refine Go.Sx.V rfl wu rfl rfl (mv rfl) ?_
  refine Go.Sx.V rfl wu rfl rfl (mv rfl) ?_
  refine C rfl wu rfl rfl Try.call46 (wCount P g n _ hG) ?_
  rintro _ w1 hE rfl
  refine Go.Sx.V rfl wu rfl rfl (mv rfl) ?_
  refine Go.Sx.V rfl wu rfl rfl (ext rfl rfl) ?_
  refine Go.Sx.V rfl wu rfl rfl (ext rfl rfl) ?_
  refine Go.Sx.V rfl wu rfl rfl (asg rfl) ?_
  refine Go.Sx.V rfl wu rfl rfl (asg rfl) ?_
  refine wr_nil (post_thenN (wc_seq ?_))
  refine wc_region [0,1] rfl ?_
  refine Go.Sx.V rfl wu rfl rfl (mv rfl) ?_
  refine Go.Sx.V rfl wu rfl rfl (neqI rfl rfl) ?_
  refine wr_nil (post_thenN ?_)
  refine wc_cond rfl ?_ ?_
  · intro h
    simp at h
    refine wc_seq ?_
    refine wc_region [0,1,2] rfl ?_
    refine Go.Sx.V rfl wu rfl rfl (mv rfl) ?_
    refine Go.Sx.V rfl wu rfl rfl (asg rfl) ?_
    refine Go.Sx.V rfl wu rfl rfl (asg rfl) ?_
    refine wr_nil (post_thenN (wc_ret (post_thenR ?_)))
    refine post_ret2 rfl rfl rfl ?_
    exact ⟨hE, _, [], rfl, RowsI.nil _ _, fun _ => rfl, fun h' => absurd h' h⟩
  · intro h
    simp at h
    obtain ⟨hn0, hn64, hpw, _⟩ := cnt_len h
    have hp1 := pw_pos hq2 n.toNat
    refine wc_skip (post_thenN (wc_seq ?_))
    refine wc_region [0] rfl ?_
    refine Go.Sx.V rfl wu rfl rfl (asg rfl) ?_
    refine wr_nil (post_thenN (wc_seq ?_))
    refine wc_region [0,1,2,3] rfl ?_
    refine Go.Sx.V rfl wu rfl rfl (mv rfl) ?_
    refine Go.Sx.V rfl wu rfl rfl (mv rfl) ?_
    refine C rfl wu rfl rfl Try.call65 (wStart P g n _ (hG.ext hE) ⟨hn0, hn64⟩) ?_
    rintro wv w2 hE2 ⟨ws, ds, b, kw, kd, hK⟩
    refine Go.Sx.V rfl wu rfl rfl (asg rfl) ?_
    refine wr_nil (post_thenN (wc_seq (wc_seq ?_)))
    obtain ⟨N, hN⟩ : ∃ N, N = n.toNat := ⟨_, rfl⟩
    rw [← hN] at hK hp1 hpw ⊢
    have hsz1 := hE.size
    have hkw := (Own.lt hK.own _ hK.wb)
    have hkd := (Own.lt hK.dwn _ hK.db)
    have hbl := hK.blk.lt
    have hle := hK.le
    refine wc_region [0,1,2,3,4,5,6,7] rfl ?_
    refine Go.Sx.V rfl wu rfl rfl (mv rfl) ?_
    refine CG rfl wu rfl rfl Try.call66 (wNext _ _ N 0 _ _ _ _ _ _ _ hK ⟨hq2, hq11⟩ ⟨Int.le_refl _, by omega⟩ (by omega)) (by intro h; cases h) ?_
    intro r w3 hGr3 hr0
    obtain ⟨a1, a2, a3, ok, hre, hr3⟩ := nx_split hr0
    clear hr0
    subst hre
    refine Go.Sx.V rfl wu rfl rfl (mv rfl) ?_
    refine Go.Sx.V rfl wu rfl rfl (ext rfl rfl) ?_
    refine Go.Sx.V rfl wu rfl rfl (ext rfl rfl) ?_
    refine AL rfl wu rfl zv57 ?_
    intro cb w4 hE4 hBc hcb
    refine STB (vs := [.int .i64 a1, .int .i64 a2, .int .i64 a3]) (cs' := [.int .i64 a1, .int .i64 a2, .int .i64 a3]) rfl wu rfl rfl rfl sv57 (by intro h; cases h) (by assumption) (by first | (simp [Value.oneCell']; done) | (intro v hv; simp only [List.mem_cons, List.not_mem_nil, or_false] at hv; rcases hv with rfl | rfl | rfl <;> first | rfl | assumption) | (intro v hv; simp only [List.mem_cons, List.not_mem_nil, or_false] at hv; rcases hv with rfl | rfl <;> first | rfl | assumption)) rfl rfl rfl ?_
    intro w5 hg5 hX5 hBc5
    refine Go.Sx.V rfl wu rfl rfl (asg rfl) ?_
    refine wr_nil (post_thenN (wc_block ?_))
    have hE13 : Ext w1 w3 := hGr3.ext hE2 (by intro k hk; simp at hk; omega)
    have hE35 := hX5 _ hcb hE4
    have hs23 := hGr3.size
    refine wc_loop (fun s : Nat × Value × Nat × Bool × List (List Int) × Int × Int × Int => [(8, s.2.1), (9, wv), (10, .pointer (some ⟨s.2.2.1, 0, none⟩)), (11, .bool s.2.2.2.1)])
      (fun s w' => Ext w1 w' ∧ StepsOf P.q N s.2.2.2.2.1 s.1 ∧ OwnR w2.heap.size w' s.2.1 57 3 s.2.2.2.2.1 ∧ Blk w' s.2.2.1 57 [.int .i64 s.2.2.2.2.2.1, .int .i64 s.2.2.2.2.2.2.1, .int .i64 s.2.2.2.2.2.2.2].toArray ∧ w2.heap.size ≤ s.2.2.1 ∧ s.2.1.ownBlock ≠ some s.2.2.1 ∧
        ((s.2.2.2.1 = true ∧ (s.1 : Int) + 1 < P.q ^ N ∧ StepAt P.q N s.1 [s.2.2.2.2.2.1, s.2.2.2.2.2.2.1, s.2.2.2.2.2.2.2] ∧ WK w1.heap.size w' wv P.q ws ds b kw kd (refl P.q N (s.1 + 1)) (dns P.q N (s.1 + 1))) ∨ (s.2.2.2.1 = false ∧ (s.1 : Int) + 1 = P.q ^ N))) (fun s => (P.q ^ N).toNat - s.1)
      (0, .slice none 0 0, cb, ok, [], a1, a2, a3) ⟨rfl, rfl, rfl, rfl, trivial⟩ ⟨hE13.trans hE35, ⟨rfl, fun j hj => absurd hj (by omega)⟩, OwnR.nil _ _ _ _, hBc5, by show w2.heap.size ≤ cb; omega, by simp [Value.ownBlock], ?_⟩ ?_
    · rcases hr3 with ⟨h1, h2, h3, h4⟩ | ⟨h1, h2⟩
      · exact .inl ⟨h1, h2, h3, h4.ext hE35⟩
      · exact .inr ⟨h1, h2⟩
    clear hK hr3 hGr3 hE4 hBc hg5 hX5 hBc5 hE13 hE35 hE2
    rintro ⟨k, out, cc, ok, L, c1, c2, c3⟩ w6 ⟨hE6, hS, ho, hBc, hcc, hnc, hcase⟩
    dsimp only at hE6 hS ho hBc hcc hnc hcase
    try dsimp only
    refine wc_seq (wc_seq ?_)
    refine wc_region [0] rfl ?_
    refine Go.Sx.V rfl wu rfl rfl (mv rfl) ?_
    refine wr_nil (post_thenN ?_)
    refine wc_cond rfl ?_ ?_
    · intro hok
      rcases hcase with ⟨_, hk, hSt, hK⟩ | ⟨h1, _⟩
      · have hLl := hS.1
        refine wc_skip (post_thenN (wc_seq (wc_block ?_)))
        refine wc_region [0,1,2,3,4] rfl ?_
        refine Go.Sx.V rfl wu rfl rfl (mv rfl) ?_
        refine Go.Sx.V rfl wu rfl rfl (ldA rfl ag57) ?_
        refine BSR (r := [c1, c2, c3]) rfl wu rfl rfl ty51 rfl (by decide) (by decide) ?_
        intro v1 w7 hE7 hv1
        replace ho := ho.ext hE7
        replace hBc := hBc.ext hE7
        replace hK := hK.ext hE7
        refine APR (r := [c1, c2, c3]) rfl wu rfl rfl rfl ty51 rfl (by decide) (by intro h h2; cases h) ?_ (ho := ho) (hB := by have h1 := hE7.size; have h2 := hBc.lt; omega)
        intro out' w8 hg8 hX8 ho8 hb8
        refine Go.Sx.V rfl wu rfl rfl (asg rfl) ?_
        refine wr_nil (post_blockN (post_thenN (wc_seq (wc_seq ?_))))
        have hrow : ∀ x, out.ownBlock = some x → w2.heap.size ≤ x := fun x hx => (ho.lt x hx).1
        have hne1 : out.ownBlock ≠ some kw := fun e => by have := hrow _ e; omega
        have hne2 : out.ownBlock ≠ some kd := fun e => by have := hrow _ e; omega
        have hne3 : out.ownBlock ≠ some b := fun e => by have := hrow _ e; omega
        replace hK := hK.grown hg8 hne1 hne2 hne3
        have hcl := hBc.lt
        have hBc8 := hBc.grown hg8 hnc
        have hE8 := hX8 w1 (by omega) (hE6.trans hE7)
        have hnc8 : out'.ownBlock ≠ some cc := by
          rcases hb8 with e | e
          · rw [e]; exact hnc
          · rw [e]; intro e2; have := Option.some.inj e2; omega
        clear hBc hnc ho hg8 hX8 hb8 hv1
        refine wc_region [0] rfl ?_
        refine Go.Sx.V rfl wu rfl rfl (ldA rfl ag57) ?_
        refine wr_nil (post_thenN ?_)
        refine wc_region [0,1] rfl ?_
        refine AL rfl wu rfl zv57 ?_
        intro cd w9 hE9 hBd hcd
        have hlt8 := ho8.lt
        replace ho8 := ho8.ext hE9
        replace hK := hK.ext hE9
        refine STB (vs := [.int .i64 c1, .int .i64 c2, .int .i64 c3]) (cs' := [.int .i64 c1, .int .i64 c2, .int .i64 c3]) rfl wu rfl rfl rfl sv57 (by intro h; cases h) (by assumption) (by first | (simp [Value.oneCell']; done) | (intro v hv; simp only [List.mem_cons, List.not_mem_nil, or_false] at hv; rcases hv with rfl | rfl | rfl <;> first | rfl | assumption) | (intro v hv; simp only [List.mem_cons, List.not_mem_nil, or_false] at hv; rcases hv with rfl | rfl <;> first | rfl | assumption)) rfl rfl rfl ?_
        intro w10 hg10 hX10 hBd10
        refine wr_nil (post_thenN ?_)
        have hs8 := hBc8.lt
        have hne10 : out'.ownBlock ≠ some cd := fun e => by have := (hlt8 _ e).2; omega
        replace ho8 := ho8.keptB hg10 hne10
        replace hK := hK.grown hg10 (fun e => by have := Option.some.inj e; omega) (fun e => by have := Option.some.inj e; omega) (fun e => by have := Option.some.inj e; omega)
        replace hE8 := hX10 w1 (by omega) (hE8.trans hE9)
        clear hg10 hX10 hBd
        refine wc_region [0,1,2,3,4,5,6] rfl ?_
        refine Go.Sx.V rfl wu rfl rfl (mv rfl) ?_
        refine CG rfl wu rfl rfl Try.call66 (wNext _ _ N ((k : Int) + 1) _ _ _ _ _ _ _ hK ⟨hq2, hq11⟩ ⟨by omega, hk⟩ (by omega)) (by intro h; cases h) ?_
        intro r w11 hGr hr0
        obtain ⟨d1, d2, d3, ok', hre, hr⟩ := nx_split hr0
        clear hr0
        subst hre
        have hBd11 := hBd10.gr hGr (by simp; omega)
        refine Go.Sx.V rfl wu rfl rfl (mv rfl) ?_
        refine Go.Sx.V rfl wu rfl rfl (ext rfl rfl) ?_
        refine Go.Sx.V rfl wu rfl rfl (ext rfl rfl) ?_
        refine STB (vs := [.int .i64 d1, .int .i64 d2, .int .i64 d3]) (cs' := [.int .i64 d1, .int .i64 d2, .int .i64 d3]) rfl wu rfl rfl rfl sv57 (by intro h; cases h) (by assumption) (by first | (simp [Value.oneCell']; done) | (intro v hv; simp only [List.mem_cons, List.not_mem_nil, or_false] at hv; rcases hv with rfl | rfl | rfl <;> first | rfl | assumption) | (intro v hv; simp only [List.mem_cons, List.not_mem_nil, or_false] at hv; rcases hv with rfl | rfl <;> first | rfl | assumption)) rfl rfl rfl ?_
        intro w12 hg12 hX12 hBd12
        refine Go.Sx.V rfl wu rfl rfl (asg rfl) ?_
        refine wr_nil ?_
        have ho11 := ho8.gr hGr (fun x hx => by have := (ho8.lt x hx).1; simp; omega)
        have hE11 : Ext w1 w11 := hGr.ext hE8 (by intro x hx; simp at hx; omega)
        refine post_loopN (k + 1, out', cd, ok', L ++ [[c1, c2, c3]], d1, d2, d3) ⟨rfl, rfl, rfl, rfl, trivial⟩ ⟨hX12 w1 (by omega) hE11, hS.snoc hSt, ho11.keptB hg12 hne10, hBd12, by show w2.heap.size ≤ cd; omega, hne10, ?_⟩ (by show (P.q ^ N).toNat - (k + 1) < (P.q ^ N).toNat - k; omega)
        rcases hr with ⟨h1, h2, h3, h4⟩ | ⟨h1, h2⟩
        · exact .inl ⟨h1, h2, h3, h4.grown hg12 (fun e => by have := Option.some.inj e; omega) (fun e => by have := Option.some.inj e; omega) (fun e => by have := Option.some.inj e; omega)⟩
        · exact .inr ⟨h1, h2⟩
      · rw [h1] at hok; cases hok
    · intro hok
      rcases hcase with ⟨h1, _⟩ | ⟨_, hk⟩
      · rw [h1] at hok; cases hok
      refine wc_exit (post_thenE (post_loopE (post_blockX (post_thenN (wc_seq ?_)))))
      refine wc_region [0,1,2] rfl ?_
      refine Go.Sx.V rfl wu rfl rfl (mv rfl) ?_
      refine Go.Sx.V rfl wu rfl rfl (asg rfl) ?_
      refine Go.Sx.V rfl wu rfl rfl (asg rfl) ?_
      refine wr_nil (post_thenN (wc_ret ?_))
      refine post_ret2 rfl rfl rfl ?_
      refine ⟨hE.trans hE6, out, L, by rw [h], ho.read, fun h' => absurd h h', fun _ => ?_⟩
      rw [show (P.q ^ N - 1).toNat = k by omega]
      exact hS
end Go.Proofs.Ytlcokneidokfnaa
