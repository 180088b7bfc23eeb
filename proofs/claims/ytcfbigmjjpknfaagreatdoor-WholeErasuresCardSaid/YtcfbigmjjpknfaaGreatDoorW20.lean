import Derived.Test.YtcfbigmjjpknfaaGreatDoorW19
import Derived.Test.YtcfbigmjjpknfaaGreatDoorW13
namespace Go.Proofs.YtcfbigmjjpknfaaGreatDoor
open Go Go.Sx Go.Pl Go.RowKit Go.Lg
theorem eqlNil {N : Nat} {l : Env} {w : World} {x : Operand} {T T' ty : TypeId} {ms : Array (String × TypeId)} (hx : ev l x = some .nilIface) (hT : Tryz.prog.underlying T = some (.interface ms)) : Yl Tryz.prog N (.binOp .eql T x (.const .nilIface) T') ty l w (.bool true) := fun a ha w' _ o ho _ => by
 have e : a.eval (.const .nilIface) = .nilIface := rfl
 have e2 : (eqGuard .eql T x (.const .nilIface) .nilIface .nilIface).run Tryz.prog w' = .ok () w' := by
  unfold eqGuard
  simp
 obtain ⟨d, hd⟩ : ∃ d, Op.maxDepth = d + 1 := ⟨Op.maxDepth - 1, rfl⟩
 have e3 : (Op.equal T .nilIface .nilIface).run Tryz.prog w' = .ok true w' := by
  simp [Op.equal, hd, Op.equalIn.eq_2, run_underlying hT]
 simp [execOp, ho, ha.eval hx, e, e2, binOp, e3]
theorem lGuard (u v : Value) (w : World) : CallsD Tryz.prog 41 #[u, v] .returning w (fun en u' w' => u' = .returning ∧ en = .returned (.tuple #[]) ∧ w' = w) := by
 refine callsD_of_wpS Tryz.func41 rfl (fun c₀ cs hm => (wpS_seq (wpS_region ?_)))
 have hrun : ∀ ev0 : Operand → Value, (execOp ev0 ⟨some 7, .call ⟨.builtin .recover, #[], #[]⟩, 20, "lang.go:22", #[], none⟩).run Tryz.prog w = .ok .recover w := fun ev0 => by
  simp [execOp, resolve, invoke, builtin]
 have hrec : recoverD (c₀ :: cs) = none := by simp [recoverD, hm]
 simp only [List.range_succ, List.range_zero, List.nil_append, wpOpsS, Array.size, List.length_cons, List.length_nil]
 simp only [hrun, hrec, Region.wanted, if_true, Exit.thenS, List.getElem?_toArray, List.getElem?_cons_zero]
 refine wpS_of_wp ?_
 refine (?_ : WC Tryz.prog Tryz.f41.ntmps _ _ [(7, .nilIface)] w) _ (At.put (l := []) ⟨rfl, by simp only [Array.size_append, Array.size_replicate]; rfl, fun t x ht => by cases ht⟩ rfl _)
 refine Qf (Qc (Qb [0] rfl (Vw rfl (eqlNil rfl Tryz.underlying20) (Qd (Qa (QC rfl (rfl) (Qb [0] rfl (Qk rfl rfl (Qd (Qg ?_))))))))))
 intro a ha
 exact ⟨ha.defers, .returning, by rw [← hm], .tuple #[], results_none rfl _ _ _, rfl, rfl, rfl⟩
theorem zvEr : ZV Tryz.prog 31 [.int .i64 0] := fun w => ⟨_, by simp [zeroValue, typeInfo, inf31]; rfl, rfl⟩
theorem zvIn : ZV Tryz.prog 3 [.int .i64 0] := fun w => ⟨_, by simp [zeroValue, typeInfo, infoI]; rfl, rfl⟩
set_option maxRecDepth 20000 in
theorem lParse (s : ByteArray) (ts : List Tok) (f : Nat) (x : Ex) (m' : Nat) (w : World) (hs : s.size ≤ 65536) (ht : toks s s.size 0 = some ts) (hx : Lg.expr ts f 0 1 0 = some (x, ts.length, m')) (hf : f ≤ 65536) (hl : ts.length ≤ 65536) :
  Calls Tryz.prog 13 #[.string s] w (RetX w fun r w' => ∃ cs, r = .tuple #[.agg cs.toArray, .int .i64 0, .int .i64 0] ∧ EX (fun q => w.heap.size ≤ q) w' x cs) := by
 refine calls1D Tryz.func13 rfl rfl (Qc (Qb [0,1,2] rfl (AL rfl wu rfl zv46 ?_)))
 intro xb w1 hE1 hX hxb
 have hx1 := hX.lt
 refine AL rfl wu rfl zvEr ?_
 intro eb w2 hE2 hEb heb
 have he2 := hEb.lt
 replace hX := hX.ext hE2
 refine AL rfl wu rfl zvIn ?_
 intro ab w3 hE3 hAb hab
 replace hX := hX.ext hE3
 replace hEb := hEb.ext hE3
 have ha3 := hAb.lt
 refine Qd (Qa (Qc ?_))
 have hE := (hE1.trans hE2).trans hE3
 have hs1 := hE1.size
 have hs2 := hE2.size
 have hs3 := hE3.size
 clear hE1 hE2 hE3
 intro a ha
 have h3 := ha.slots 3 _ rfl
 have h4 := ha.slots 4 _ rfl
 refine wp_region ?_
 refine (show wpOps _ _ _ [0] a w3 from ?_)
 simp only [wpOps]
 have hw : ∀ o : Oper, o.guard = none → Region.wanted o (yielded #[] a.tmps) = true := fun o ho => by simp [Region.wanted, ho]
 refine (if_pos ?_).mpr (.inl ?_)
 ·rfl
 unfold Oper.wp
 rw [show ∀ o : Oper, o.op = .defer ⟨.value (.func 41), #[.tmp 3, .tmp 4], #[80, 81]⟩ → (execOp a.eval o).run Tryz.prog w3 = .ok (.defer ⟨.fn (.func 41) #[], #[.pointer (some ⟨eb, 0, none⟩), .pointer (some ⟨ab, 0, none⟩)]⟩) w3 from fun o ho => by simp [execOp, ho, resolve, Act.eval, h3, h4, Deferred.ofValue]]
 case a => rfl
 rw [Oper.upon_defer, ha.defers]
 refine (?_ : PostF Tryz.f13.ntmps [⟨.fn (.func 41) #[], #[.pointer (some ⟨eb, 0, none⟩), .pointer (some ⟨ab, 0, none⟩)]⟩] _ .normal [(4, .pointer (some ⟨ab, 0, none⟩)), (3, .pointer (some ⟨eb, 0, none⟩)), (2, .pointer (some ⟨xb, 0, none⟩)), (0, .string s)] w3) a ha
 clear hw h3 h4 ha a
 refine ZU (Km (XA [0,1,2,3,4,5,6] rfl (mvV rfl rfl (C rfl wu rfl rfl Tryz.call42 (lScan s ts _ hs ht) ?_))))
 rintro lv w4 hE4 hlv
 have hz4 := hE4.size
 replace hE := hE.trans hE4
 replace hX := hX.ext hE4
 replace hEb := hEb.ext hE4
 replace hAb := hAb.ext hE4
 refine mvV rfl rfl (Vw rfl (Qdn rfl XQ) ?_)
 refine Vw rfl (bld rfl (bd86_0_2 _ _ (by obtain ⟨⟨a, c, rfl, _⟩, _⟩ := OwnV.read hlv; rfl) rfl)) (BXA rfl wu rfl rfl ?_)
 intro pb w5 hE5 hP hpb
 have hz5 := hE5.size
 refine Qk rfl rfl (QaA (ZU (Km ?_)))
 have hlvlt := fun q (hq : lv.ownBlock = some q) => (hlv.lt q hq).2
 replace hE := hE.trans hE5
 replace hX := hX.ext hE5
 replace hEb := hEb.ext hE5
 replace hAb := hAb.ext hE5
 replace hlv := hlv.ext hE5
 have hP0 : PS ts w5 pb lv 0 s.size 0 := ⟨hP, OwnV.read hlv, fun h => by have := hlvlt _ h; omega, hl⟩
 have hxl := hX.lt
 have hel := hEb.lt
 have hal := hAb.lt
 refine XA [0,1,2,3] rfl (mvV rfl rfl (CG rfl wu rfl rfl Tryz.call43 (pExpr ts lv s.size pb f 0 1 0 x ts.length m' _ hx hP0 (by omega) hf) nofun ?_))
 rintro _ w6 hG6 ⟨cs, rfl, hEx, hP6⟩
 have hz6 := hG6.size
 refine AL rfl wu rfl zv46 ?_
 intro yb w7 hE7 hY hyb
 have hz7 := hE7.size
 obtain ⟨hcl, hc1⟩ := hEx.cells
 have hEx6 : EX (fun q => w5.heap.size ≤ q ∧ q ≠ yb) w6 x cs := EX.gr (X := []) (Gr.refl _ _) (fun q hq hs => ⟨by simp, hs, by omega⟩) _ _ hEx
 replace hEx := hEx6.ext hE7
 refine STB (vs := cs) (cs' := cs) rfl wu rfl rfl rfl QdD nofun hY hc1 hcl rfl (by simp [putAt, hcl]) ?_
 intro w8 hg8 hX8 hY8
 refine QaA (ZU (Km (Km ?_)))
 have hz8 := hg8.size
 have hpl : pb < w5.heap.size := hP0.blk.lt
 have hyx : yb ≠ xb ∧ yb ≠ eb ∧ yb ≠ ab ∧ yb ≠ pb := by omega
 have hex : eb ≠ xb := by omega
 have hax2 : ab ≠ xb ∧ ab ≠ eb := by omega
 have hG : Gr [pb] w w8 := ((Gr.of_ext hE).trans (hG6.trans (Gr.of_ext hE7))).grow hg8 (fun k hk => .inr (by rw [← Option.some.inj hk]; omega))
 replace hX := ((hX.gr hG6 (by simp; omega)).ext hE7).grown hg8 (by intro h; have := Option.some.inj h; omega)
 replace hEb := ((hEb.gr hG6 (by simp; omega)).ext hE7).grown hg8 (by intro h; have := Option.some.inj h; omega)
 replace hAb := ((hAb.gr hG6 (by simp; omega)).ext hE7).grown hg8 (by intro h; have := Option.some.inj h; omega)
 have hP8 : PS ts w8 pb lv ts.length s.size m' := (hP6.ext hE7).gr hg8 (fun k hk => by obtain rfl := Option.some.inj hk; exact ⟨hyx.2.2.2, fun h => by have := hlvlt _ h; omega⟩)
 have hEx8 : EX (fun q => w5.heap.size ≤ q ∧ q ≠ yb) w8 x cs := EX.gr (X := [yb]) (Gr.of_grown hg8 (fun k hk => by rw [← Option.some.inj hk]; simp)) (fun q hq (hs : w5.heap.size ≤ q ∧ q ≠ yb) => ⟨by simp; exact hs.2, hs⟩) _ _ hEx
 have hEw : Ext w w8 := hG.ext (Ext.refl w) (fun k hk => by simp at hk; omega)
 refine wcd_draw QK [0,1,2,3,4,5,6,7,8,9] (by kernel_rfl) ?_
 intro w9 hd _
 replace hEw := hEw.trans hd
 replace hX := hX.ext hd
 replace hEb := hEb.ext hd
 replace hAb := hAb.ext hd
 replace hP8 := hP8.ext hd
 replace hEx8 := hEx8.ext hd
 replace hY8 := hY8.ext hd
 have hPb := hP8.blk
 have hPr := hP8.rows
 refine mvV rfl rfl (QM rfl rfl (Qz rfl rfl JV (Vw rfl (ldB rfl na3) ?_)))
 refine mvV rfl rfl (QM rfl rfl (Qz rfl rfl KH (Vw rfl (ldB rfl na83) ?_)))
 refine Vw rfl (QaT rfl QaD hPr) (Qy rfl rfl rfl (QaA (ZU (wcd_condF rfl (by simp) (wcd_skip (ZU (Km (XA [0,1,2,3] rfl (Vw rfl (ldA rfl XV hY8 (by rw [hcl]; rfl)) ?_)))))))))
 rw [show (cs.drop 0).take 5 = cs from by rw [List.drop_zero, ← hcl, List.take_length]]
 refine STB (vs := cs) (cs' := cs) rfl wu rfl rfl rfl QdD nofun hX hc1 hcl rfl (by simp [putAt, hcl]) ?_
 intro wa hga hXa hX2
 refine STB (vs := [.int .i64 0]) (cs' := [.int .i64 0]) rfl wu rfl rfl rfl sv31 nofun (hEb.grown hga (by intro h; have := Option.some.inj h; omega)) (by intro u hu; simp at hu; rw [hu]; rfl) rfl rfl rfl ?_
 intro wb hgb hXb hE2
 refine STB (vs := [.int .i64 0]) (cs' := [.int .i64 0]) rfl wu rfl rfl rfl sv3 nofun ((hAb.grown hga (by intro h; have := Option.some.inj h; omega)).grown hgb (by intro h; have := Option.some.inj h; omega)) (by intro u hu; simp at hu; rw [hu]; rfl) rfl rfl rfl ?_
 intro wc hgc hXc hA2
 refine QaA (ZU (wcd_ret ?_))
 intro a ha
 have hX3 := (hX2.grown hgb (by intro h; have := Option.some.inj h; omega)).grown hgc (by intro h; have := Option.some.inj h; omega)
 have hE3 := hE2.grown hgc (by intro h; have := Option.some.inj h; omega)
 have hi : (invoke (.fn (.func 41) #[]) #[.pointer (some ⟨eb, 0, none⟩), .pointer (some ⟨ab, 0, none⟩)]).run Tryz.prog wc = .ok (.enter 41 #[.pointer (some ⟨eb, 0, none⟩), .pointer (some ⟨ab, 0, none⟩)]) wc := by
  simp [invoke, Tryz.call41]
 show Leaves Tryz.prog _ a.tmps _ [_] .returning wc
 refine leaves_cons (fun h => by cases h) hi ((lGuard _ _ _).mono ?_)
 rintro en u' w' ⟨rfl, rfl, rfl⟩
 refine ⟨_, Qdd (b := xb) (c := eb) (d := ab) rfl (ha.slots 2 _ rfl) (ha.slots 3 _ rfl) (ha.slots 4 _ rfl) XV hX3 hcl na31 hE3 na3 hA2, ?_, cs, rfl, ?_⟩
 ·exact Gr.ext' ((((Gr.of_ext hEw).grow hga (fun k hk => .inr (by rw [← Option.some.inj hk]; omega))).grow hgb (fun k hk => .inr (by rw [← Option.some.inj hk]; omega))).grow hgc (fun k hk => .inr (by rw [← Option.some.inj hk]; omega)))
 ·exact EX.gr (X := [ab]) (Gr.of_grown hgc (fun k hk => by rw [← Option.some.inj hk]; simp)) (fun q hq (hs : w5.heap.size ≤ q ∧ q ≠ yb) => ⟨by simp; omega, by omega⟩) _ _ (EX.gr (X := [eb]) (Gr.of_grown hgb (fun k hk => by rw [← Option.some.inj hk]; simp)) (fun q hq (hs : w5.heap.size ≤ q ∧ q ≠ yb) => ⟨by simp; omega, hs⟩) _ _ (EX.gr (X := [xb]) (Gr.of_grown hga (fun k hk => by rw [← Option.some.inj hk]; simp)) (fun q hq (hs : w5.heap.size ≤ q ∧ q ≠ yb) => ⟨by simp; omega, hs⟩) _ _ hEx8))
end Go.Proofs.YtcfbigmjjpknfaaGreatDoor
namespace Go.Sx
open Go Go.RowKit Go.Pl Go.Lg
theorem EXL.get {S : Nat → Prop} {w : World} : ∀ {xs : List Ex} {L : List (List Value)} {i : Nat} {x : Ex}, EXL S w xs L → xs[i]? = some x → ∃ c, L[i]? = some c ∧ EX S w x c
 | [], _, i, x, _, h => by simp at h
 | y :: xs, L, 0, x, h, e => by
  obtain rfl : y = x := by simpa using e
  obtain ⟨c, L', rfl, h2, h3⟩ := h
  exact ⟨c, rfl, h2⟩
 | y :: xs, L, i + 1, x, h, e => by
  obtain ⟨c, L', rfl, h2, h3⟩ := h
  obtain ⟨c', h4, h5⟩ := EXL.get h3 (by simpa using e : xs[i]? = some x)
  exact ⟨c', by simpa using h4, h5⟩
end Go.Sx
namespace Go.Proofs.YtcfbigmjjpknfaaGreatDoor
open Go Go.Sx Go.Pl Go.RowKit Go.Lg
theorem lIsNumber (n : Int) (w : World) : Calls Tryz.prog 253 #[.int .i64 n] w (RetX w fun r _ => r = .bool (decide (0 ≤ n) && decide (n ≤ 9999999))) := by
 refine QL Tryz.func253 rfl rfl (Qc (Qb [0] rfl (Qk rfl rfl (Qd (Qa (Qc (Qb [0,1,2,3,4,5,6] rfl (mvV rfl rfl (Vw rfl (Xb rfl rfl) (mvV rfl rfl ?_))))))))))
 refine AND (π1 := [3,4,5]) (π2 := [6]) (tc := 5) (tp := 8) rfl rfl rfl (by
   intro hg
   simp at hg
   refine Vg rfl rfl rfl (mv rfl) (Vg rfl rfl rfl (Qbz rfl rfl) (pkV rfl rfl rfl ?_))
   exact Zx rfl) (by
   intro _
   refine SK rfl rfl rfl rfl rfl (SK rfl rfl rfl rfl rfl (pkV rfl rfl rfl ?_))
   exact Zx rfl) ?_
 refine Qk rfl rfl (Qd (Qa (Qq (Qj rfl rfl ?_))))
 exact ⟨Ext.refl _, rfl⟩
theorem lIsName (s : ByteArray) (w : World) (h : isNameB s = true) : Calls Tryz.prog 254 #[.string s] w (RetX w fun r _ => r = .bool true) := by
 simp only [isNameB, Bool.and_eq_true] at h
 obtain ⟨⟨⟨h1, h2⟩, h3⟩, h4⟩ := h
 have h1' : 0 < s.size := by simpa using h1
 have h2' : s.size ≤ 16 := Nat.le_of_ble_eq_true h2
 have h4' := Nat.eq_of_beq_eq_true h4
 have hne : s ≠ ⟨#[]⟩ := fun e => by rw [e] at h1'; exact absurd h1' (by decide)
 refine QL Tryz.func254 rfl rfl (Qc (Qb [0] rfl (Qk rfl rfl (Qd (Qa (Qc (Qb [0,1,2,3,4,5,6,7,8,9,10,11,12,13,14,15,16,17,18,19] rfl (mvV rfl rfl (Vw rfl (neqT rfl rfl) (mvV rfl rfl (KB 5 true rfl (by simp [hne]) ?_)))))))))))
 refine Vg rfl rfl rfl (mv rfl) (Vg rfl rfl rfl (Qdn rfl XQ) ?_)
 refine Vg rfl rfl rfl (Qbz rfl rfl) (pkV rfl rfl rfl (mvV rfl rfl (KB 10 true rfl (by simp; omega) (Vg rfl rfl rfl (mv rfl) (Vg rfl rfl rfl (ixS (u := (0 : Nat)) rfl rfl XQ (by omega) (by omega)) (C rfl (wg rfl rfl) rfl rfl Tryz.call77 (Xp _ _) ?_))))))
 rintro _ w2 hE rfl
 rw [btg (k := 0) h1', h3]
 refine pkV rfl rfl rfl (mvV rfl rfl (KB 15 true rfl (rfl) (Vg rfl rfl rfl (mv rfl) (C rfl (wg rfl rfl) rfl rfl Tryz.call78 (lWhile inName _ s 0 _ (by omega) (by omega) Tryz.call79 (fun b w => lInName b w)) ?_))))
 rintro _ w3 hE3 rfl
 refine Vg rfl rfl rfl (mv rfl) (Vg rfl rfl rfl (Qdn rfl XQ) ?_)
 refine Vg rfl rfl rfl (KV rfl rfl) (pkV rfl rfl rfl (Qk rfl rfl (Qd (Qa (Qq ?_)))))
 rw [h4']
 refine Qj rfl rfl ?_
 exact ⟨hE.trans hE3, by simp⟩
set_option maxRecDepth 10000 in
theorem lNode (S : Nat → Prop) (x : Ex) (cs : List Value) (w : World) (hx : EX S w x cs) (hok : okE x = true) : Calls Tryz.prog 152 #[.agg cs.toArray] w (RetX w fun r _ => r = .bool true) := by
 obtain ⟨k, nm, n, xs⟩ := x
 obtain ⟨av, L, rfl, hav, hin, hL⟩ := hx
 have hlen := EXL.len hL
 refine QL Tryz.func152 rfl rfl (Qc (Qb [0,1] rfl (BXA rfl wu rfl rfl ?_)))
 intro b w1 hE hB hg
 refine Qk rfl rfl (Qd (Qa (Qc (Qc ?_))))
 have hn : Ints w (.slice none 0 0) [] := Ints.nil w
 refine Qb [0,1,2,3] rfl (Qz rfl rfl QcV (Vw rfl (ldB rfl Zk) ?_))
 refine Vw rfl (Zh rfl QA hn) (mvV rfl rfl (Qd (Qa (Qf ?_))))
 refine Qv (fun _ : Unit => [(1, .pointer (some ⟨b, 0, none⟩)), (7, .int .i64 0), (8, .int .i64 0)]) (fun _ w' => Ext w w' ∧ Blk w' b 46 #[.int .i64 k, .string nm, .int .i64 n, .slice none 0 0, av]) (fun _ => 0) () ⟨rfl, rfl, rfl, trivial⟩ ⟨hE, hB⟩ ?_
 clear hE hB
 rintro _ w2 ⟨hE, hB⟩
 replace hav := hav.ext hE
 try dsimp only
 refine Qc (Qb [0] rfl (Qy rfl rfl rfl (Qd (Qa (Qc (Qn rfl (rfl) (Qt (Ql (Qm (Qh (Qa (Qc (Qc (Qb [0,1] rfl (Qz rfl rfl KI (Vw rfl (ldB rfl na3) ?_))))))))))))))))
 refine Qd (Qa (Qf (Qc ?_)))
 rw [okE, Bool.or_eq_true] at hok
 rcases hok with hok | hok
 ·simp only [Bool.and_eq_true, decide_eq_true_eq] at hok
  obtain ⟨⟨⟨⟨rfl, rfl⟩, h0⟩, h9⟩, he⟩ := hok
  have hLz : L.length = 0 := by rw [hlen]; simpa using he
  refine Qb [0,1] rfl (QU rfl rfl rfl (Qk rfl rfl (Qd (Qa (QC rfl (rfl) (Qc (Qb [0,1,2,3,4,5,6,7,8,9,10,11,12,13,14,15,16,17,18,19,20] rfl (Qz rfl rfl QcW (Vw rfl (ldB rfl na3) ?_)))))))))
  refine C rfl wu rfl rfl Tryz.call253 (lIsNumber n _) ?_
  rintro _ w3 hE3 rfl
  rw [show (decide (0 ≤ n) && decide (n ≤ 9999999)) = true by simp; omega]
  replace hB := hB.ext hE3
  replace hE := hE.trans hE3
  refine mvV rfl rfl (KB 23 true rfl (rfl) (Vg rfl rfl rfl (fad rfl QcX) (Vg rfl rfl rfl (ldB rfl na9) ?_)))
  refine Vg rfl rfl rfl (eqlT rfl rfl) (pkV rfl rfl rfl (mvV rfl rfl (KB 28 true rfl (by simp) (Vg rfl rfl rfl (fad rfl QcV) (Vg rfl rfl rfl (ldB rfl Zk) ?_)))))
  refine Vg rfl rfl rfl (Zh rfl QA hn) (Vg rfl rfl rfl (KV rfl rfl) (pkV rfl rfl rfl (mvV rfl rfl (KB 34 true rfl (rfl) (Vg rfl rfl rfl (fad rfl Jv) (Vg rfl rfl rfl (ldB rfl na44) ?_))))))
  refine Vg rfl rfl rfl (QaT rfl QbO hav) (Vg rfl rfl rfl (KV rfl rfl) (pkV rfl rfl rfl (Qk rfl rfl (Qd (Qa (Qq (Qu (Qp (Qj rfl rfl ?_)))))))))
  exact ⟨hE, by rw [hLz]; rfl⟩
 ·simp only [Bool.and_eq_true, decide_eq_true_eq] at hok
  obtain ⟨⟨⟨rfl, rfl⟩, hnm⟩, hxs⟩ := hok
  refine Qb [0,1] rfl (QU rfl rfl rfl (Qk rfl rfl (Qd (Qa (Qn rfl (rfl) (Qc (Qb [0,1] rfl (QU rfl rfl rfl (Qk rfl rfl (Qd (Qa ?_)))))))))))
  refine Qn rfl (rfl) (Qc (Qb [0,1] rfl (QU rfl rfl rfl (Qk rfl rfl (Qd (Qa (QC rfl (rfl) (Qc (Qb [0,1,2,3,4,5,6,7,8,9,10,11,12,13,14] rfl (Qz rfl rfl QcW ?_))))))))))
  refine Vw rfl (ldB rfl na3) ?_
  refine QU rfl rfl rfl (mvV rfl rfl (KB 61 true rfl (rfl) (Vg rfl rfl rfl (fad rfl QcX) (Vg rfl rfl rfl (ldB rfl na9) ?_))))
  refine C rfl (wg rfl rfl) rfl rfl Tryz.call254 (lIsName nm _ hnm) ?_
  rintro _ w3 hE3 rfl
  replace hB := hB.ext hE3
  replace hE := hE.trans hE3
  refine pkV rfl rfl rfl (mvV rfl rfl (KB 66 true rfl (rfl) (Vg rfl rfl rfl (fad rfl QcV) (Vg rfl rfl rfl (ldB rfl Zk) ?_))))
  refine Vg rfl rfl rfl (Zh rfl QA hn) (Vg rfl rfl rfl (KV rfl rfl) (pkV rfl rfl rfl (Qk rfl rfl (Qd (Qa (Qq (Qu (Qp (Qj rfl rfl ?_)))))))))
  exact ⟨hE, rfl⟩
set_option maxRecDepth 10000 in
theorem lForm (S : Nat → Prop) : ∀ (d : Nat) (x : Ex) (cs : List Value) (w : World), depth x ≤ d → EX S w x cs → okE x = true → Calls Tryz.prog 114 #[.agg cs.toArray] w (RetX w fun r _ => r = .bool true) := by
 intro d
 induction d with
 | zero => intro x cs w hd; cases x; rw [depth] at hd; omega
 | succ d ih =>
 intro x cs w hd hx hok
 have hnode := fun w' (hE : Ext w w') => lNode S x cs w' (hx.ext hE) hok
 obtain ⟨k, nm, n, xs⟩ := x
 obtain ⟨av, L, rfl, hav, hin, hL⟩ := hx
 have hlen := EXL.len hL
 have hle := hav.le
 rw [depth] at hd
 have hav0 := hav
 have hokL : okL xs = true := by
  rw [okE, Bool.or_eq_true] at hok
  rcases hok with h | h
  ·simp only [Bool.and_eq_true] at h
   rw [List.isEmpty_iff.1 h.2, okL]
  ·simp only [Bool.and_eq_true] at h
   exact h.2
 refine QL Tryz.func114 rfl rfl (Qc (Qb [0,1] rfl (BXA rfl wu rfl rfl ?_)))
 intro b w1 hE hB hg
 refine Qk rfl rfl (Qd (Qa (Qc (Qc (Qb [0,1,2] rfl (Vw rfl (ldA rfl XV) ?_))))))
 refine C rfl wu rfl rfl Tryz.call152 (hnode w1 hE) ?_
 rintro _ w2 hE2 rfl
 replace hB := hB.ext hE2
 replace hE := hE.trans hE2
 refine ZC rfl rfl (Qd (Qa (Qn rfl (rfl) (Qe (Qa (Qc (Qc ?_)))))))
 replace hav := hav.ext hE
 refine Qb [0,1,2,3] rfl (Qz rfl rfl Jv (Vw rfl (ldB rfl na44) ?_))
 refine Vw rfl (QaT rfl QbO hav) (mvV rfl rfl (Qd (Qa (Qf ?_))))
 refine Qv (fun i : Nat => [(9, av), (10, .int .i64 L.length), (11, .int .i64 i)]) (fun i w' => i ≤ L.length ∧ Ext w w') (fun i => L.length - i) 0 ⟨rfl, rfl, rfl, trivial⟩ ⟨by omega, hE⟩ ?_
 clear hE hB hav
 rintro i w3 ⟨i1, hE⟩
 try dsimp only
 refine Qc (Qb [0] rfl (Qy rfl rfl rfl (Qd (Qa (Qc (Qo rfl ?_ ?_))))))
 ·intro hc
  simp at hc
  have hxi : xs[i]? = some (xs[i]'(by omega)) := List.getElem?_eq_getElem (by omega)
  obtain ⟨c, hci, hcx⟩ := hL.get hxi
  have hgd : L.getD ((i : Int)).toNat [] = c := by rw [Int.toNat_natCast, List.getD_eq_getElem?_getD, hci]; rfl
  have hcells := hcx.cells
  have hav3 := hav0.ext hE
  refine Qe (Qa (Qc (Qf (Qc (Qb [0,1,2,3] rfl (Vw rfl (KU rfl rfl QbO hav3 (by omega) (by omega)) (Vw rfl (ldV rfl XV hav3 (Ext.refl _) (by omega) (by omega)) ?_)))))))
  rw [hgd]
  refine AL rfl wu rfl zv46 ?_
  intro yb w4 hE4 hY hyb
  refine STB (vs := c) (cs' := c) rfl wu rfl rfl rfl QdD nofun hY hcells.2 hcells.1 rfl (by simp [putAt, hcells.1]) ?_
  intro w5 hg5 hX5 hY5
  refine Qd (Qa (Qc ?_))
  have hE5 := hX5 w (by have := hE.size; omega) (hE.trans hE4)
  refine Qb [0,1,2] rfl (Vw rfl (ldA rfl XV hY5 (by rw [hcells.1]; rfl)) ?_)
  rw [show (c.drop 0).take 5 = c from by rw [List.drop_zero, ← hcells.1, List.take_length]]
  refine C rfl wu rfl rfl Tryz.call114 (ih _ c _ (by have := Jn hxi; omega) (hcx.ext hE5) (Qb1 hokL hxi)) ?_
  rintro _ w6 hE6 rfl
  refine ZC rfl rfl (Qd (Qa (Qn rfl (rfl) (Qe (Qg (Qa (Qb [0,1] rfl (Qw rfl rfl rfl (mvV rfl rfl (Qd ?_))))))))))
  exact Qi (i + 1) ⟨rfl, rfl, rfl, trivial⟩ ⟨by omega, hE5.trans hE6⟩ (by omega)
 ·intro hc
  simp at hc
  refine Qt (Ql (Qm (Qh (Qa (Qc (Qb [0] rfl (Qk rfl rfl (Qd (Qa (Qq (Qj rfl rfl ?_)))))))))))
  exact ⟨hE, rfl⟩
end Go.Proofs.YtcfbigmjjpknfaaGreatDoor
namespace Go.Proofs.YtcfbigmjjpknfaaGreatDoor
open Go Go.Sx Go.Pl Go.RowKit Go.Lg
set_option maxRecDepth 10000 in
theorem lMeasure (S : Nat → Prop) : ∀ (d : Nat) (x : Ex) (cs : List Value) (w : World), depth x ≤ d → d ≤ 1000 → EX S w x cs → Calls Tryz.prog 115 #[.agg cs.toArray] w (RetX w fun r _ => r = .tuple #[.int .i64 (depth x), .bool true]) := by
 intro d
 induction d with
 | zero => intro x cs w hd; cases x; rw [depth] at hd; omega
 | succ d ih =>
 intro x cs w hd hd2 hx
 obtain ⟨k, nm, n, xs⟩ := x
 obtain ⟨av, L, rfl, hav, hin, hL⟩ := hx
 have hlen := EXL.len hL
 have hle := hav.le
 have hav0 := hav
 rw [depth] at hd ⊢
 have hn : Ints w (.slice none 0 0) [] := Ints.nil w
 refine QL Tryz.func115 rfl rfl (Qc (Qb [0,1,2] rfl (BXA rfl wu rfl rfl ?_)))
 intro b w1 hE hB hg
 refine Qk rfl rfl (Qk rfl rfl (Qd (Qa (Qc (Qb [0,1,2,3,4] rfl (Qz rfl rfl QcV (Vw rfl (ldB rfl Zk) ?_)))))))
 refine Vw rfl (Zh rfl QA hn) (Vw rfl (Qbz rfl rfl) (Qk rfl rfl (Qd (Qa (Qc (Qc ?_))))))
 replace hav := hav.ext hE
 refine Qb [0,1,2,3] rfl (Qz rfl rfl Jv (Vw rfl (ldB rfl na44) ?_))
 refine Vw rfl (QaT rfl QbO hav) (mvV rfl rfl (Qd (Qa (Qf ?_))))
 refine Qv (fun i : Nat => [(13, av), (14, .int .i64 L.length), (15, .int .i64 i), (2, .int .i64 (depthL (xs.take i))), (3, .bool true)]) (fun i w' => i ≤ L.length ∧ Ext w w') (fun i => L.length - i) 0 ⟨rfl, rfl, rfl, rfl, rfl, trivial⟩ ⟨by omega, hE⟩ ?_
 clear hE hB hav
 rintro i w3 ⟨i1, hE⟩
 have hdl : ∀ (ys : List Ex) (j : Nat), depthL (ys.take j) ≤ depthL ys := by
  intro ys
  induction ys with
  | nil => intro j; simp
  | cons y ys ih =>
   intro j
   cases j with
   | zero => simp [depthL]
   | succ j => rw [List.take_succ_cons, depthL, depthL]; have := ih j; omega
 have hdle : depthL (xs.take i) ≤ 1000 := by have := hdl xs i; omega
 try dsimp only
 refine Qc (Qb [0] rfl (Qy rfl rfl rfl (Qd (Qa (Qc (Qo rfl ?_ ?_))))))
 ·intro hc
  simp at hc
  have hxi : xs[i]? = some (xs[i]'(by omega)) := List.getElem?_eq_getElem (by omega)
  obtain ⟨c, hci, hcx⟩ := hL.get hxi
  have hgd : L.getD ((i : Int)).toNat [] = c := by rw [Int.toNat_natCast, List.getD_eq_getElem?_getD, hci]; rfl
  have hcells := hcx.cells
  have hav3 := hav0.ext hE
  refine Qe (Qa (Qc (Qf (Qc (Qb [0,1,2,3] rfl (Vw rfl (KU rfl rfl QbO hav3 (by omega) (by omega)) (Vw rfl (ldV rfl XV hav3 (Ext.refl _) (by omega) (by omega)) ?_)))))))
  rw [hgd]
  refine AL rfl wu rfl zv46 ?_
  intro yb w4 hE4 hY hyb
  refine STB (vs := c) (cs' := c) rfl wu rfl rfl rfl QdD nofun hY hcells.2 hcells.1 rfl (by simp [putAt, hcells.1]) ?_
  intro w5 hg5 hX5 hY5
  refine Qd (Qa (Qc ?_))
  have hE5 := hX5 w (by have := hE.size; omega) (hE.trans hE4)
  refine Qb [0,1,2,3,4,5,6] rfl (Vw rfl (ldA rfl XV hY5 (by rw [hcells.1]; rfl)) ?_)
  rw [show (c.drop 0).take 5 = c from by rw [List.drop_zero, ← hcells.1, List.take_length]]
  refine C rfl wu rfl rfl Tryz.call115 (ih _ c _ (by have := Jn hxi; omega) (by omega) (hcx.ext hE5)) ?_
  rintro _ w6 hE6 rfl
  refine mvV rfl rfl (QI rfl rfl rfl (QI rfl rfl rfl (Qk rfl rfl (Qk rfl rfl (Qd (Qa (Qb [0,1,2,3,4,5,6,7,8] rfl (mvV rfl rfl (mvV rfl rfl (Vw rfl (maxI rfl rfl) ?_))))))))))
  refine mvV rfl rfl (mvV rfl rfl (KB 28 true rfl (rfl) (Vg rfl rfl rfl (mv rfl) (pkV rfl rfl rfl (Qk rfl rfl (Qk rfl rfl (Qd (Qg (Qa ?_)))))))))
  have hmx : max (depthL (xs.take i) : Int) (depth (xs[i]'(by omega)) : Int) = (depthL (xs.take (i + 1)) : Nat) := by
   rw [KO hxi]; omega
  rw [hmx]
  refine Qb [0,1] rfl (Qw rfl rfl rfl (mvV rfl rfl (Qd ?_)))
  exact Qi (i + 1) ⟨rfl, rfl, rfl, rfl, rfl, trivial⟩ ⟨by omega, hE5.trans hE6⟩ (by omega)
 ·intro hc
  simp at hc
  have hi : xs.take i = xs := List.take_of_length_le (by omega)
  rw [hi] at hdle ⊢
  refine Qt (Ql (Qm (Qh (Qa (Qc (Qb [0,1,2,3,4] rfl (mvV rfl rfl (Qw rfl rfl rfl (mvV rfl rfl (Qk rfl rfl (Qk rfl rfl (Qd (Qa (Qq (QH rfl rfl rfl ?_)))))))))))))))
  exact ⟨hE, rfl⟩
set_option maxRecDepth 10000 in
theorem lSize (S : Nat → Prop) : ∀ (d : Nat) (x : Ex) (cs : List Value) (w : World), depth x ≤ d → size x ≤ 100000 → EX S w x cs → Calls Tryz.prog 116 #[.agg cs.toArray] w (RetX w fun r _ => r = .int .i64 (size x)) := by
 intro d
 induction d with
 | zero => intro x cs w hd; cases x; rw [depth] at hd; omega
 | succ d ih =>
 intro x cs w hd hd2 hx
 obtain ⟨k, nm, n, xs⟩ := x
 obtain ⟨av, L, rfl, hav, hin, hL⟩ := hx
 have hlen := EXL.len hL
 have hle := hav.le
 have hav0 := hav
 rw [depth] at hd
 rw [size] at hd2 ⊢
 refine QL Tryz.func116 rfl rfl (Qc (Qb [0,1] rfl (BXA rfl wu rfl rfl ?_)))
 intro b w1 hE hB hg
 refine Qk rfl rfl (Qd (Qa (Qc (Qb [0] rfl (Qk rfl rfl (Qd (Qa (Qc (Qc ?_)))))))))
 replace hav := hav.ext hE
 refine Qb [0,1,2,3] rfl (Qz rfl rfl Jv (Vw rfl (ldB rfl na44) ?_))
 refine Vw rfl (QaT rfl QbO hav) (mvV rfl rfl (Qd (Qa (Qf ?_))))
 refine Qv (fun i : Nat => [(7, av), (8, .int .i64 L.length), (9, .int .i64 i), (3, .int .i64 (sizeL (xs.take i) + 1 : Nat))]) (fun i w' => i ≤ L.length ∧ Ext w w') (fun i => L.length - i) 0 ⟨rfl, rfl, rfl, rfl, trivial⟩ ⟨by omega, hE⟩ ?_
 clear hE hB hav
 rintro i w3 ⟨i1, hE⟩
 have hsl : ∀ (ys : List Ex) (j : Nat), sizeL (ys.take j) ≤ sizeL ys := by
  intro ys
  induction ys with
  | nil => intro j; simp
  | cons y ys ih =>
   intro j
   cases j with
   | zero => simp [sizeL]
   | succ j => rw [List.take_succ_cons, sizeL, sizeL]; have := ih j; omega
 try dsimp only
 refine Qc (Qb [0] rfl (Qy rfl rfl rfl (Qd (Qa (Qc (Qo rfl ?_ ?_))))))
 ·intro hc
  simp at hc
  have hxi : xs[i]? = some (xs[i]'(by omega)) := List.getElem?_eq_getElem (by omega)
  obtain ⟨c, hci, hcx⟩ := hL.get hxi
  have hgd : L.getD ((i : Int)).toNat [] = c := by rw [Int.toNat_natCast, List.getD_eq_getElem?_getD, hci]; rfl
  have hcells := hcx.cells
  have hav3 := hav0.ext hE
  have hst := Qai hxi
  have hs1 := hsl xs (i + 1)
  refine Qe (Qa (Qc (Qf (Qc (Qb [0,1,2,3] rfl (Vw rfl (KU rfl rfl QbO hav3 (by omega) (by omega)) (Vw rfl (ldV rfl XV hav3 (Ext.refl _) (by omega) (by omega)) ?_)))))))
  rw [hgd]
  refine AL rfl wu rfl zv46 ?_
  intro yb w4 hE4 hY hyb
  refine STB (vs := c) (cs' := c) rfl wu rfl rfl rfl QdD nofun hY hcells.2 hcells.1 rfl (by simp [putAt, hcells.1]) ?_
  intro w5 hg5 hX5 hY5
  refine Qd (Qa ?_)
  have hE5 := hX5 w (by have := hE.size; omega) (hE.trans hE4)
  refine Qb [0,1,2,3,4] rfl (mvV rfl rfl (Vw rfl (ldA rfl XV hY5 (by rw [hcells.1]; rfl)) ?_))
  rw [show (c.drop 0).take 5 = c from by rw [List.drop_zero, ← hcells.1, List.take_length]]
  refine C rfl wu rfl rfl Tryz.call116 (ih _ c _ (by have := Jn hxi; omega) (by omega) (hcx.ext hE5)) ?_
  rintro _ w6 hE6 rfl
  refine Qw rfl rfl rfl (Qk rfl rfl (Qd (Qg (Qa ?_))))
  rw [show ((sizeL (xs.take i) + 1 : Nat) : Int) + (size (xs[i]'(by omega)) : Int) = (sizeL (xs.take (i + 1)) + 1 : Nat) by omega]
  refine Qb [0,1] rfl (Qw rfl rfl rfl (mvV rfl rfl (Qd ?_)))
  exact Qi (i + 1) ⟨rfl, rfl, rfl, rfl, trivial⟩ ⟨by omega, hE5.trans hE6⟩ (by omega)
 ·intro hc
  simp at hc
  have hi : xs.take i = xs := List.take_of_length_le (by omega)
  rw [hi]
  refine Qt (Ql (Qm (Qh (Qa (Qc (Qb [0,1] rfl (mvV rfl rfl (Qk rfl rfl (Qd (Qa (Qq (Qj rfl rfl ?_))))))))))))
  exact ⟨hE, rfl⟩
end Go.Proofs.YtcfbigmjjpknfaaGreatDoor
namespace Go.Sx
open Go Go.RowKit Go.Pl Go.Lg
def XB (b : Nat) (bv : Value) : List Nat := b :: bv.ownBlock.toList
def NewB (w : World) (bv bv' : Value) : Prop := ∀ q, bv'.ownBlock = some q → bv.ownBlock = some q ∨ w.heap.size ≤ q
theorem NewB.refl (w : World) (bv : Value) : NewB w bv bv := fun _ h => .inl h
theorem NewB.trans {w w1 : World} {bv bv1 bv2 : Value} (h : NewB w bv bv1) (k : NewB w1 bv1 bv2) (hs : w.heap.size ≤ w1.heap.size) : NewB w bv bv2 := fun q hq => by
 rcases k q hq with h1 | h1
 ·exact h q h1
 ·exact .inr (by omega)
theorem XB.comp {w w1 w2 : World} {b : Nat} {bv bv1 : Value} (h : Gr (XB b bv) w w1) (hn : NewB w bv bv1) (k : Gr (XB b bv1) w1 w2) : Gr (XB b bv) w w2 :=
 h.comp (fun q hq => by
  rcases List.mem_cons.1 hq with rfl | hq
  ·exact .inl (List.mem_cons_self ..)
  ·rcases hn q (by simpa using hq) with h1 | h1
   ·exact .inl (List.mem_cons_of_mem _ (by simp [h1]))
   ·exact .inr h1) k
end Go.Sx
namespace Go.Proofs.YtcfbigmjjpknfaaGreatDoor
open Go Go.Sx Go.Pl Go.RowKit Go.Lg Go.Lib
def BSt (w : World) (bb : Nat) (bv : Value) (n : Nat) : Prop := ∃ ad xs, Blk w bb 171 #[ad, bv] ∧ (ad = .pointer none ∨ ad = .pointer (some ⟨bb, 0, none⟩)) ∧ Own (bb + 1) w bv 5 xs ∧ xs.length = n
theorem BSt.ext {w w' : World} {bb n : Nat} {bv : Value} (h : BSt w bb bv n) (hE : Ext w w') : BSt w' bb bv n := by
 obtain ⟨ad, xs, h1, h2, h3, h4⟩ := h
 exact ⟨ad, xs, h1.ext hE, h2, h3.ext hE, h4⟩
theorem BSt.lt {w : World} {bb n : Nat} {bv : Value} (h : BSt w bb bv n) : bb < w.heap.size := by
 obtain ⟨ad, xs, h1, _⟩ := h
 exact h1.lt
theorem BSt.blk {w : World} {bb n : Nat} {bv : Value} (h : BSt w bb bv n) : ∀ q, bv.ownBlock = some q → bb < q ∧ q < w.heap.size := fun q hq => by
 obtain ⟨ad, xs, h1, h2, h3, h4⟩ := h
 have := h3.lt q hq
 omega
theorem EX.bst {w w' : World} {bb n : Nat} {bv : Value} {x : Ex} {cs : List Value} (hb : BSt w bb bv n) (h : EX (fun q => q < bb) w x cs) (hg : Gr (XB bb bv) w w') : EX (fun q => q < bb) w' x cs :=
 EX.gr hg (fun q _ (hs : q < bb) => ⟨fun hx => by
  rcases List.mem_cons.1 hx with e | hx
  ·omega
  ·have := hb.blk q (by simpa using hx); omega, hs⟩) x cs h
theorem bLenB (bb n : Nat) (bv : Value) (w : World) (h : BSt w bb bv n) : Calls Tryz.prog 118 #[.pointer (some ⟨bb, 0, none⟩)] w (RetX w fun r _ => r = .int .i64 n) := by
 obtain ⟨ad, xs, hB, had, ho, hn⟩ := h
 refine QL Tryz.func118 rfl rfl (Qc (Qb [0] rfl (Qk rfl rfl (Qd (Qa (Qc (Qb [0,1,2,3,4,5] rfl (mvV rfl rfl (QM rfl rfl (Qz rfl rfl KJ (Vw rfl (ldB rfl na169) ?_)))))))))))
 refine Vw rfl (Zt rfl ty169 ho.sl) (Qk rfl rfl (Qd (Qa (Qq (Qj rfl rfl ?_)))))
 exact ⟨Ext.refl _, by rw [hn]⟩
theorem exNoEsc (x : Value) (w : World) : (callFunc 323 #[x]).run Tryz.prog w = .ok (.value x) w := by
 rw [run_callFunc_extern (e := Extern.AbiNoEscape.same) Tryz.func323 (by kernel_rfl) (by kernel_rfl) (by kernel_rfl) (by kernel_rfl), Go.Lib.run_noEscape]
 rfl
theorem Qax (bb n : Nat) (bv : Value) (w : World) (h : BSt w bb bv n) : Calls Tryz.prog 255 #[.pointer (some ⟨bb, 0, none⟩)] w (RetG (XB bb bv) w fun r w' => r = .tuple #[] ∧ BSt w' bb bv n) := by
 have hlt := h.lt
 obtain ⟨ad, xs, hB, had, ho, hn⟩ := h
 have hb1 : bv.ownBlock ≠ some bb := fun e => by have := (ho.lt bb e).1; omega
 have hbv : bv.oneCell' = true := (ho.sl).one
 rcases had with rfl | rfl
 ·skip
  refine QL Tryz.func255 rfl rfl (Qc (Qb [0,1,2,3,4] rfl (mvV rfl rfl (QM rfl rfl (Qz rfl rfl QaX (Vw rfl (ldB rfl Qaa) ?_))))))
  refine Vw rfl (eqlPn rfl rfl Tryz.underlying168) (Qd (Qa (QC rfl (rfl) (Qb [0,1,2,3,4,5,6,7] rfl (mvV rfl rfl (mvV rfl rfl (Vw rfl (toUn rfl Tryz.underlying168 Tryz.underlying317 QcS (by decide +kernel) hB (by simp)) (F (v := .pointer (some ⟨bb, 0, none⟩)) (w' := w) rfl wu rfl rfl (fun a ha => ?_) (fun _ _ => Ext.refl _) ?_))))))))
  rotate_left
  refine Vw rfl (ofUn rfl Tryz.underlying317 Tryz.underlying168 QcS hB (by kernel_rfl)) (QM rfl rfl (Qz rfl rfl QaX (STB (vs := [.pointer (some ⟨bb, 0, none⟩)]) (cs' := [.pointer (some ⟨bb, 0, none⟩), bv]) rfl wu rfl rfl rfl sv168 nofun (by assumption) (by first | exact oc2 | exact oc3 | exact oc5 | (simp [Value.oneCell']; done)) rfl rfl rfl ?_)))
  intro w1 hg1 hX1 hB1
  refine Qd (QX rfl ?_)
  ·exact ⟨Gr.of_grown hg1 (fun k hk => by rw [← Option.some.inj hk]; exact List.mem_cons_self ..), rfl, _, xs, hB1, .inr rfl, Own.kept (v2 := .slice (some ⟨bb, 0, none⟩) 0 0) ho hg1 (.inl hb1), hn⟩
  ·have h1 := ha.slots 9 _ rfl
   simp only [execOp, resolve, List.map_toArray, List.map_cons, List.map_nil, Act.eval, Deferred.ofValue]
   simp [invoke, h1]
   exact exNoEsc _ w
 ·skip
  refine QL Tryz.func255 rfl rfl (Qc (Qb [0,1,2,3,4] rfl (mvV rfl rfl (QM rfl rfl (Qz rfl rfl QaX (Vw rfl (ldB rfl Qaa) ?_))))))
  refine Vw rfl (eqlPn rfl rfl Tryz.underlying168) (Qd (Qa (Qn rfl (rfl) (Qc (Qb [0,1,2,3,4,5] rfl (mvV rfl rfl (QM rfl rfl (Qz rfl rfl QaX (Vw rfl (ldB rfl Qaa) ?_)))))))))
  refine mvV rfl rfl (Vw rfl (neqSelf rfl rfl Tryz.underlying168 QcS) (Qd (Qa (Qn rfl (rfl) (Qe (QX rfl ?_))))))
  exact ⟨Gr.refl _ _, rfl, _, xs, hB, .inr rfl, ho, hn⟩
theorem JH (bb n : Nat) (bv : Value) (s : ByteArray) (w : World) (h : BSt w bb bv n) (hn : n + s.size ≤ 100000) : Calls Tryz.prog 154 #[.pointer (some ⟨bb, 0, none⟩), .string s] w (RetG (XB bb bv) w fun _ w' => ∃ bv', BSt w' bb bv' (n + s.size) ∧ NewB w bv bv') := by
 have hlt := h.lt
 refine QD Tryz.func154 rfl rfl (Qc (Qb [0,1] rfl (Qk rfl rfl (Qk rfl rfl (Qd (Qa (Qc (Qb [0,1] rfl (mvV rfl rfl (CG rfl wu rfl rfl Tryz.call255 (Qax bb n bv _ h) nofun ?_))))))))))
 rintro _ w1 hb1 ⟨rfl, h1⟩
 refine Qd (Qa (Qc ?_))
 obtain ⟨ad, xs, hB, had, ho, hxn⟩ := h1
 have hz1 := hb1.size
 have hbb : bv.ownBlock ≠ some bb := fun e => by have := (ho.lt bb e).1; omega
 have hadc : ad.oneCell' = true := by rcases had with rfl | rfl <;> rfl
 refine Qb [0,1,2,3,4,5,6,7,8,9] rfl (mvV rfl rfl (mvV rfl rfl (QM rfl rfl (Qz rfl rfl KJ (Vw rfl (ldB rfl na169) ?_)))))
 refine mvV rfl rfl (APS rfl wu rfl rfl rfl ty169 XQ nofun ?_ ho (by omega) (by omega))
 intro bv2 w2 hg2 ho2 hsl hnb
 have hz2 := hg2.size
 have hB2 := hB.grown hg2 hbb
 have hbv2 : bv2.oneCell' = true := (ho2.sl).one
 have hbb2 : bv2.ownBlock ≠ some bb := fun e => by have := (ho2.lt bb e).1; omega
 refine QM rfl rfl (Qz rfl rfl KJ (STB (vs := [bv2]) (cs' := [ad, bv2]) rfl wu rfl rfl (QB hbv2) sv169 nofun hB2 (by intro u hu; simp at hu; rw [hu]; exact hbv2) rfl rfl rfl ?_))
 intro w3 hg3 hX3 hB3
 refine Qd (Qa (Qc (Qb [0,1,2,3] rfl (mvV rfl rfl (Vw rfl (Qdn rfl XQ) ?_)))))
 refine Qk rfl rfl (Qk rfl rfl (Qd (Qa (Qq (QH rfl rfl rfl ?_)))))
 refine ⟨(hb1.grow hg2 (fun k hk => .inl (List.mem_cons_of_mem _ (by have hk : bv.ownBlock = some k := hk; simp [hk])))).grow hg3 (fun k hk => .inl (by rw [← Option.some.inj hk]; exact List.mem_cons_self ..)), bv2, ⟨ad, xs ++ strCells s, hB3, had, Own.kept (v2 := .slice (some ⟨bb, 0, none⟩) 0 0) ho2 hg3 (.inl hbb2), by rw [List.length_append, hsl, hxn]⟩, fun q hq => (hnb q hq).imp id (fun h => by omega)⟩
theorem Qaw (bb n : Nat) (bv : Value) (c : Int) (w : World) (h : BSt w bb bv n) (hn : n ≤ 100000) : Calls Tryz.prog 156 #[.pointer (some ⟨bb, 0, none⟩), .int .u8 c] w (RetG (XB bb bv) w fun _ w' => ∃ bv', BSt w' bb bv' (n + 1) ∧ NewB w bv bv') := by
 have hlt := h.lt
 refine QD Tryz.func156 rfl rfl (Qc (Qb [0] rfl (Qk rfl rfl (Qd (Qa (Qc (Qb [0,1] rfl (mvV rfl rfl (CG rfl wu rfl rfl Tryz.call255 (Qax bb n bv _ h) nofun ?_)))))))))
 rintro _ w1 hb1 ⟨rfl, h1⟩
 refine Qd (Qa (Qc ?_))
 obtain ⟨ad, xs, hB, had, ho, hxn⟩ := h1
 have hz1 := hb1.size
 have hbb : bv.ownBlock ≠ some bb := fun e => by have := (ho.lt bb e).1; omega
 have hadc : ad.oneCell' = true := by rcases had with rfl | rfl <;> rfl
 refine Qb [0,1,2,3,4,5,6,7,8,9,10] rfl (mvV rfl rfl (mvV rfl rfl (QM rfl rfl (Qz rfl rfl KJ (Vw rfl (ldB rfl na169) ?_)))))
 refine mvV rfl rfl (BS (us := [.int .u8 c]) rfl wu rfl rfl rfl rfl ty169 (by intro u hu; simp at hu; rw [hu]; rfl) ?_)
 intro tv w2 hE2 htv _
 have hz2 := hE2.size
 replace hB := hB.ext hE2
 replace ho := ho.ext hE2
 refine AP rfl wu rfl rfl rfl ty169 rfl nofun ho (by omega) htv.sl (Ext.refl _) (by intro u hu; simp at hu; rw [hu]; rfl) (by simp; omega) (by simp; omega) ?_
 intro bv2 w3 hg3 hX3 ho3 hb3
 have hz3 := hg3.size
 have hB2 := hB.grown hg3 hbb
 have hbv2 : bv2.oneCell' = true := (ho3.sl).one
 have hbb2 : bv2.ownBlock ≠ some bb := fun e => by have := (ho3.lt bb e).1; omega
 refine QM rfl rfl (Qz rfl rfl KJ (STB (vs := [bv2]) (cs' := [ad, bv2]) rfl wu rfl rfl (QB hbv2) sv169 nofun hB2 (by intro u hu; simp at hu; rw [hu]; exact hbv2) rfl rfl rfl ?_))
 intro w4 hg4 hX4 hB4
 refine Qd (Qa (Qc (Qb [0] rfl (Qk rfl rfl (Qd (Qa (Qq (Qj rfl rfl ?_))))))))
 refine ⟨((hb1.trans (Gr.of_ext hE2)).grow hg3 (fun k hk => .inl (List.mem_cons_of_mem _ (by have hk : bv.ownBlock = some k := hk; simp [hk])))).grow hg4 (fun k hk => .inl (by rw [← Option.some.inj hk]; exact List.mem_cons_self ..)), bv2, ⟨ad, xs ++ [.int .u8 c], hB4, had, Own.kept (v2 := .slice (some ⟨bb, 0, none⟩) 0 0) ho3 hg4 (.inl hbb2), by rw [List.length_append, hxn]; rfl⟩, fun q hq => by
  rcases hb3 with h | h
  ·exact .inl (h ▸ hq)
  ·rw [h] at hq; have := Option.some.inj hq; exact .inr (by omega)⟩
theorem bSmall (n : Int) (w : World) (h0 : 0 ≤ n) (h1 : n ≤ 9) : Calls Tryz.prog 365 #[.int .i64 n] w (RetX w fun r _ => ∃ s, r = .string s ∧ s.size ≤ 1) := by
 refine QL Tryz.func365 rfl rfl (Qc (Qb [0] rfl (Qk rfl rfl (Qd (Qa (Qc (Qc (Qb [0,1] rfl (mvV rfl rfl (Qy rfl rfl rfl (Qd (Qa (QC rfl (by simp; omega) ?_)))))))))))))
 refine Qc (Qb [0,1,2,3,4] rfl (mvV rfl rfl (mvV rfl rfl (Qw rfl rfl rfl (Vw rfl (slT rfl rfl rfl XQ (by omega) (by omega) (by exact Int.le_trans (show n + 1 ≤ 36 by omega) (by decide +kernel))) ?_)))))
 refine Qk rfl rfl (Qd (Qa (Qq (Qp (Qj rfl rfl ?_)))))
 refine ⟨Ext.refl _, _, rfl, ?_⟩
 rw [ByteArray.size_extract]
 omega
theorem Qdz (n : Int) (w : World) (h0 : 0 ≤ n) (h1 : n ≤ 9) : Calls Tryz.prog 324 #[.int .i64 n, .int .i64 10] w (RetX w fun r _ => ∃ s, r = .string s ∧ s.size ≤ 1) := by
 refine QD Tryz.func324 rfl rfl (Qc (Qb [0] rfl (Qk rfl rfl (Qd (Qa (Qc (Qc (Qb [0,1] rfl (mvV rfl rfl (QU rfl rfl rfl (Qd (Qa (QC rfl (rfl) ?_)))))))))))))
 refine Qc (Qc (Qb [0,1,2,3,4,5] rfl (mvV rfl rfl (Vw rfl (Qbz rfl rfl) (mvV rfl rfl (KB 14 true rfl (by simp; omega) (Vg rfl rfl rfl (mv rfl) (Vg rfl rfl rfl (Qan rfl rfl) (pkV rfl rfl rfl (Qd (Qa ?_)))))))))))
 refine QC rfl (by simp; omega) (Qc (Qb [0,1,2] rfl (mvV rfl rfl (C rfl wu rfl rfl Tryz.call365 (bSmall n _ h0 h1) ?_))))
 rintro _ w1 hE ⟨s, rfl, hs⟩
 refine Qk rfl rfl (Qd (Qa (Qq (Qp (Qp (Qj rfl rfl ?_))))))
 exact ⟨hE, s, rfl, hs⟩
theorem bItoa1 (n : Int) (w : World) (h0 : 0 ≤ n) (h1 : n ≤ 9) : Calls Tryz.prog 256 #[.int .i64 n] w (RetX w fun r _ => ∃ s, r = .string s ∧ s.size ≤ 1) := by
 refine QL Tryz.func256 rfl rfl (Qc (Qb [0] rfl (Qk rfl rfl (Qd (Qa (Qc (Qb [0,1,2] rfl (mvV rfl rfl (C rfl wu rfl rfl Tryz.call324 (Qdz n _ h0 h1) ?_)))))))))
 rintro _ w1 hE ⟨s, rfl, hs⟩
 refine Qk rfl rfl (Qd (Qa (Qq (Qj rfl rfl ?_))))
 exact ⟨hE, s, rfl, hs⟩
theorem bItoa (n : Int) (w : World) (h0 : 0 ≤ n) (h1 : n ≤ 9) : Calls Tryz.prog 155 #[.int .i64 n] w (RetX w fun r _ => ∃ s, r = .string s ∧ s.size ≤ 1) := by
 refine QL Tryz.func155 rfl rfl (Qc (Qb [0] rfl (Qk rfl rfl (Qd (Qa (Qc (Qb [0,1,2] rfl (mvV rfl rfl (C rfl wu rfl rfl Tryz.call256 (bItoa1 n _ h0 h1) ?_)))))))))
 rintro _ w1 hE ⟨s, rfl, hs⟩
 refine Qk rfl rfl (Qd (Qa (Qq (Qj rfl rfl ?_))))
 exact ⟨hE, s, rfl, hs⟩
end Go.Proofs.YtcfbigmjjpknfaaGreatDoor
