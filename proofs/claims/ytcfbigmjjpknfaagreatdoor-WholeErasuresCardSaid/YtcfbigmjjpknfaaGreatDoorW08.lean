import Derived.Test.YtcfbigmjjpknfaaGreatDoorWFieldData
import Derived.Test.YtcfbigmjjpknfaaGreatDoorW06
import Derived.Test.YtcfbigmjjpknfaaGreatDoorW03
import Derived.Test.YtcfbigmjjpknfaaGreatDoorW05
import Derived.Test.YtcfbigmjjpknfaaGreatDoorW02
namespace Go.Fd
open Go.Pl Go.Alg
def Shp (p M : Int) (md : List Int) : Prop := 2 ≤ p ∧ 1 ≤ M ∧ M ≤ 8 ∧ p ^ M.toNat ≤ 256 ∧ primeN p.toNat = true ∧ (M = 1 → md = []) ∧ (M ≠ 1 → (md.length : Int) = M ∧ Lo p md)
def fpOf (p M : Int) (md : List Int) (hp : 2 ≤ p) (hM : 1 ≤ M) : FP := ⟨p, M.toNat, fun j => md.getD j 0, hp, by omega⟩
theorem Shp.one {p M : Int} {md : List Int} (h : Shp p M md) (hM : M = 1) : ∃ x : K (fpOf p M md h.1 h.2.1), HasOrder x (n1 (fpOf p M md h.1 h.2.1)) := by
 obtain ⟨h1, h2, h3, h4, h5, h6, h7⟩ := h
 have hmd := h6 hM
 subst hM hmd
 have h4 : p ≤ 256 := by
  rw [show (1 : Int).toNat = 1 from rfl, Int.pow_succ, Int.pow_zero, Int.one_mul] at h4
  exact h4
 have ha := List.all_eq_true.1 QdB p.toNat (List.mem_range.2 (by omega))
 simp only [h5, Bool.not_true, Bool.false_or, List.any_eq_true] at ha
 obtain ⟨⟨q, g, rs⟩, hm, he⟩ := ha
 have he : q = p.toNat := by simpa using he
 subst he
 have ho := List.all_eq_true.1 ok_primes _ hm
 refine Qak (p := p.toNat) (md := [0]) ⟨?_, rfl, ?_⟩ ho
 ·show p = _
  omega
 ·intro j hj
  have : j = 0 := by simpa using hj
  subst this
  simp [fpOf, vecN]
theorem Shp.more {p M : Int} {md : List Int} (h : Shp p M md) (hM : M ≠ 1) :
  (irr md p = true ∧ ∃ x : K (fpOf p M md h.1 h.2.1), HasOrder x (n1 (fpOf p M md h.1 h.2.1))) ∨ (irr md p = false ∧ ∀ x : K (fpOf p M md h.1 h.2.1), ¬ HasOrder x (n1 (fpOf p M md h.1 h.2.1))) := by
 obtain ⟨h1, h2, h3, h4, h5, h6, h7⟩ := h
 obtain ⟨hl, hlo⟩ := h7 hM
 have hp : ((p.toNat : Nat) : Int) = p := by omega
 have hMl : M.toNat = md.length := by omega
 have h4' : p.toNat ^ M.toNat ≤ 256 := by
  have e : ((p.toNat ^ M.toNat : Nat) : Int) = p ^ M.toNat := by rw [Int.natCast_pow, hp]
  omega
 obtain ⟨rs, hs, hok⟩ := shape_ok h5 (by omega) (by omega) h4'
 have hv := Xf h1 md hlo
 have hvn : (((val p md).toNat : Nat) : Int) = val p md := by omega
 have hlt : (val p md).toNat < p.toNat ^ M.toNat := by
  have e : ((p.toNat ^ M.toNat : Nat) : Int) = p ^ M.toNat := by rw [Int.natCast_pow, hp]
  rw [hMl] at e ⊢
  omega
 obtain ⟨a, b, hab⟩ := QdC hok hlt
 have hdig : dig (p.toNat : Int) M.toNat ((val p md).toNat : Int) = md := by rw [hp, hvn, hMl]; exact Qcm h1 md hlo
 have hF : Fits (fpOf p M md h1 h2) p.toNat (digN p.toNat M.toNat (val p md).toNat) := by
  refine ⟨by show p = _; omega, by rw [ZT]; rfl, fun j hj => ?_⟩
  have e := Qa6 p.toNat M.toNat (val p md).toNat
  rw [hdig] at e
  show md.getD j 0 = _
  have e2 : ∀ ds : List Nat, ds.map Int.ofNat = md → md.getD j 0 = vecN ds j := by
   rintro ds rfl
   unfold vecN
   simp only [List.getD_eq_getElem?_getD, List.getElem?_map]
   cases ds[j]? <;> simp
  exact e2 _ e
 unfold chk at hab
 by_cases h0 : a = 0
 ·rw [if_pos h0, hdig, hp, Bool.and_eq_true] at hab
  exact .inl ⟨hab.1, Qak hF hab.2⟩
 ·rw [if_neg h0] at hab
  have := div_zero hF hab
  rw [hdig, hp] at this
  exact .inr this
def OkF (p M : Int) (md : List Int) : Prop := Shp p M md ∧ (M = 1 ∨ irr md p = true)
theorem OkF.gen {p M : Int} {md : List Int} (h : OkF p M md) : ∃ x : K (fpOf p M md h.1.1 h.1.2.1), HasOrder x (n1 (fpOf p M md h.1.1 h.1.2.1)) := by
 by_cases hM : M = 1
 ·exact h.1.one hM
 ·rcases h.1.more hM with h' | h'
  ·exact h'.2
  ·rcases h.2 with e | e
   ·exact absurd e hM
   ·rw [h'.1] at e; cases e
theorem OkF.of_gen {p M : Int} {md : List Int} (h : Shp p M md) {x : K (fpOf p M md h.1 h.2.1)} (hx : HasOrder x (n1 (fpOf p M md h.1 h.2.1))) : OkF p M md := by
 by_cases hM : M = 1
 ·exact ⟨h, .inl hM⟩
 ·rcases h.more hM with h' | h'
  ·exact ⟨h, .inr h'.1⟩
  ·exact absurd hx (h'.2 x)
end Go.Fd
namespace Go.Proofs.YtcfbigmjjpknfaaGreatDoor
open Go Go.Sx Go.Pl Go.RowKit Go.Fd Go.Alg
def fv0 (p M : Int) (mo : Value) : Value := .agg #[.int .i64 p, .int .i64 M, mo]
theorem QaP {p M : Int} (h : ordZ p M ≠ 0) : 2 ≤ p ∧ p ≤ 256 ∧ 1 ≤ M ∧ M ≤ 8 ∧ p ^ M.toNat ≤ 256 ∧ ordZ p M = p ^ M.toNat := by
 unfold ordZ at h ⊢
 split at h
 ·exact absurd rfl h
 ·rename_i hc
  rw [if_neg hc]
  omega
theorem Kv {p M : Int} (h1 : 2 ≤ p) (h2 : 1 ≤ M) (h3 : M ≤ 8) (h4 : p ^ M.toNat ≤ 256) : ordZ p M = p ^ M.toNat ∧ ordZ p M ≠ 0 ∧ p ≤ 256 := by
 have hp : p ≤ p ^ M.toNat := by
  have := ZJ h1 (m := 1) (n := M.toNat) (by omega)
  rw [Int.pow_succ, Int.pow_zero, Int.one_mul] at this
  exact this
 unfold ordZ
 rw [if_neg (by omega)]
 exact ⟨rfl, by omega, by omega⟩
set_option maxRecDepth 10000 in
theorem fShape (p M : Int) (mo : Value) (md : List Int) (w : World) (hmd : Ints w mo md) :
  Calls Tryz.prog 55 #[fv0 p M mo] w (RetX w fun v _ => ∃ b, v = .bool b ∧ (b = true ↔ Shp p M md)) := by
 have hml := hmd.le
 refine QL Tryz.func55 rfl rfl (Qc (Qb [0,1] rfl (BXA rfl wu rfl rfl ?_)))
 intro g w1 hE hB hg
 refine Qk rfl rfl (Qd (Qa (Qc (Qc ?_))))
 have hmi := hmd.ext hE
 refine Qb [0,1,2,3,4,5,6,7,8,9,10,11] rfl (Qz rfl rfl QY (Vw rfl (ldB rfl na3) ?_))
 refine Qz rfl rfl Zl (Vw rfl (ldB rfl na3) ?_)
 refine C rfl wu rfl rfl Tryz.call56 (QbH p M _) ?_
 rintro _ w2 hE2 rfl
 replace hB := hB.ext hE2
 replace hE := hE.trans hE2
 replace hmi := hmi.ext hE2
 refine QU rfl rfl rfl (mvV rfl rfl ?_)
 refine ORX (π1 := [7,8,9,10,11]) (π2 := []) (tc := 11) (tp := 16) rfl rfl rfl (by
   intro _
   refine SK rfl rfl rfl rfl rfl (SK rfl rfl rfl rfl rfl (SK rfl rfl rfl rfl rfl (SK rfl rfl rfl rfl rfl (pkV rfl rfl rfl ?_))))
   exact Qab rfl) (by
   intro hg
   simp at hg
   have ho := QaP hg
   refine Vg rfl rfl rfl (fad rfl QY) (Vg rfl rfl rfl (ldB rfl na3) ?_)
   refine C rfl (wg rfl rfl) rfl rfl Tryz.call102 (fIsPrime p _ ⟨ho.1, ho.2.1⟩) ?_
   rintro _ w3 hE3 rfl
   refine Vg rfl rfl rfl (notB rfl) (pkV rfl rfl rfl ?_)
   exact Qab rfl) ?_
 intro w4 hE4
 refine Qd (Qa ?_)
 replace hB := hB.ext hE4
 replace hmi := hmi.ext hE4
 replace hE := hE.trans hE4
 refine Qo rfl ?_ ?_
 ·intro h
  simp only [Bool.or_eq_true, decide_eq_true_eq, Bool.not_eq_true'] at h
  refine Qc (Qb [0] rfl (Qk rfl rfl (Qd (Qa (Qq (Qp (Qj rfl rfl ?_)))))))
  refine ⟨hE, false, rfl, ⟨(fun h => by cases h), fun hs => ?_⟩⟩
  obtain ⟨e1, e2, _⟩ := Kv hs.1 hs.2.1 hs.2.2.1 hs.2.2.2.1
  rcases h with h | h
  ·exact absurd h e2
  ·rw [hs.2.2.2.2.1] at h; cases h
 ·intro h
  simp only [Bool.or_eq_false_iff, decide_eq_false_iff_not, Bool.not_eq_false'] at h
  obtain ⟨hz, hpr⟩ := h
  have ho := QaP hz
  refine Qe (Qa (Qc (Qc (Qb [0,1,2] rfl (Qz rfl rfl Zl (Vw rfl (ldB rfl na3) ?_))))))
  refine QU rfl rfl rfl (Qd (Qa (Qo rfl ?_ ?_)))
  ·intro hM
   simp at hM
   refine Qc (Qb [0,1,2,3,4] rfl (Qz rfl rfl Jm (Vw rfl (ldB rfl Zk) ?_)))
   refine Vw rfl (Zh rfl QA) ?_
   refine QU rfl rfl rfl (Qk rfl rfl (Qd (Qa (Qq (Qp (Qj rfl rfl ?_))))))
   refine ⟨hE, _, rfl, ?_⟩
   constructor
   ·intro hb
    have hb : (md.length : Int) = 0 := by simpa using hb
    exact ⟨ho.1, ho.2.2.1, ho.2.2.2.1, ho.2.2.2.2.1, hpr, fun _ => List.eq_nil_of_length_eq_zero (by omega), fun h => absurd hM h⟩
   ·intro hs
    rw [hs.2.2.2.2.2.1 hM]
    rfl
  ·intro hM
   simp at hM
   refine Qe (Qa (Qc (Qc (Qb [0,1,2,3,4,5] rfl (Qz rfl rfl Jm (Vw rfl (ldB rfl Zk) ?_))))))
   refine Vw rfl (Zh rfl QA) ?_
   refine Qz rfl rfl Zl (Vw rfl (ldB rfl na3) ?_)
   refine QG rfl rfl rfl (Qd (Qa (Qo rfl ?_ ?_)))
   ·intro hl
    simp at hl
    refine Qc (Qb [0] rfl (Qk rfl rfl (Qd (Qa (Qq (Qp (Qj rfl rfl ?_)))))))
    exact ⟨hE, false, rfl, ⟨(fun h => by cases h), fun hs => absurd (hs.2.2.2.2.2.2 hM).1 hl⟩⟩
   ·intro hl
    simp at hl
    refine Qe (Qa (Qc (Qc (Qb [0,1,2,3] rfl (Qz rfl rfl Jm (Vw rfl (ldB rfl Zk) ?_))))))
    refine Vw rfl (Zh rfl QA) ?_
    refine mvV rfl rfl (Qd (Qa (Qf ?_)))
    refine Qv (fun i : Int => [(1, .pointer (some ⟨g, 0, none⟩)), (31, mo), (32, .int .i64 md.length), (33, .int .i64 i)])
     (fun i w' => 0 ≤ i ∧ i ≤ md.length ∧ w' = w4 ∧ ∀ j : Int, 0 ≤ j → j < i → 0 ≤ gi md j ∧ gi md j < p) (fun i => (md.length - i).toNat) 0 ⟨rfl, rfl, rfl, rfl, trivial⟩ ⟨by omega, by omega, rfl, fun j _ _ => by omega⟩ ?_
    rintro i _ ⟨h0, h1, rfl, hlo⟩
    try dsimp only
    refine Qc (Qb [0] rfl (Qy rfl rfl rfl (Qd (Qa (Qc (Qo rfl ?_ ?_))))))
    ·intro hi
     simp at hi
     refine Qe (Qa (Qc (Qf (Qc (Qb [0,1,2] rfl (Vw rfl (QO rfl rfl QA) ?_))))))
     refine Vw rfl (ldI rfl na3) ?_
     refine Qk rfl rfl (Qd (Qa (Qc (Qb [0,1,2,3,4,5,6,7] rfl (mvV rfl rfl (Qy rfl rfl rfl (mvV rfl rfl ?_)))))))
     refine OR (π1 := [3,4,5,6,7]) (π2 := []) (tc := 39) (tp := 44) rfl rfl rfl (by
       intro _
       refine SK rfl rfl rfl rfl rfl (SK rfl rfl rfl rfl rfl (SK rfl rfl rfl rfl rfl (SK rfl rfl rfl rfl rfl (pkV rfl rfl rfl ?_))))
       exact Zx rfl) (by
       intro hg
       simp at hg
       refine Vg rfl rfl rfl (mv rfl) (Vg rfl rfl rfl (fad rfl QY) (Vg rfl rfl rfl (ldB rfl na3) ?_))
       refine Vg rfl rfl rfl (Xb rfl rfl) (pkV rfl rfl rfl ?_)
       exact Zx rfl) ?_
     refine Qd (Qa (Qo rfl ?_ ?_))
     ·intro hc
      simp at hc
      refine Qc (Qb [0] rfl (Qk rfl rfl (Qd (Qa (Qq (Qu (Qp (QE (Qu (Qp (Qj rfl rfl ?_)))))))))))
      refine ⟨hE, false, rfl, ⟨(fun h => by cases h), fun hs => ?_⟩⟩
      have := Xr (hs.2.2.2.2.2.2 hM).2 h0 hi
      omega
     ·intro hc
      simp at hc
      refine Qe (Qg (Qa (Qb [0,1] rfl (Qw rfl rfl rfl (mvV rfl rfl (Qd ?_))))))
      exact Qi (i + 1) ⟨rfl, rfl, rfl, rfl, trivial⟩ ⟨by omega, by omega, rfl, fun j hj0 hj1 => (by
       by_cases e : j = i
       ·rw [e]; omega
       ·exact hlo j hj0 (by omega))⟩ (by omega)
    ·intro hi
     simp at hi
     refine Qt (Ql (Qm (Qh (Qa (Qc (Qb [0] rfl (Qk rfl rfl (Qd (Qa (Qq (Qj rfl rfl ?_)))))))))))
     refine ⟨hE, true, rfl, ⟨fun _ => ⟨ho.1, ho.2.2.1, ho.2.2.2.1, ho.2.2.2.2.1, hpr, fun h => absurd h hM, fun _ => ⟨hl, fun z hz => ?_⟩⟩, fun _ => rfl⟩⟩
     obtain ⟨j, hj, rfl⟩ := List.mem_iff_getElem.1 hz
     have := hlo j (by omega) (by omega)
     simpa [gi, hj] using this
end Go.Proofs.YtcfbigmjjpknfaaGreatDoor
namespace Go.Sx
open Go Go.RowKit Go.Pl
section
variable {P : Program} {N : Nat} {l : Env} {w : World} {ops : Array Oper} {dr : Bool} {Q : Act → World → Prop} {π : List Nat} {i d : Nat} {v : Value} {op : Op} {ty : TypeId} {pos : String} {after : Array Edge} {g : Option (Nat × Bool)}
variable {x y c p : Operand} {u z : Int} {T T' : TypeId}
theorem BS0 {E : TypeId} {b : Nat} (hi : ops[i]? = some ⟨some d, .buildSlice T 0 #[], ty, pos, after, g⟩) (hw : Wt ops N l g) (hd : Nat.blt d N = true) (hT : SlT P T E (.int .i64 0) 1 b)
  (h : ∀ gb w', Ext w w' → w.heap.size ≤ gb → gb < w'.heap.size → WR P N ops dr Q π ((d, .slice (some ⟨gb, 0, none⟩) 0 0) :: l) w') : WR P N ops dr Q (i :: π) l w := by
 refine F (v := .slice (some ⟨w.heap.size, 0, none⟩) 0 0) (w' := w.alloc (.cells #[] E)) hi hw rfl hd (fun a ha => ?_) (fun _ _ => Ext.alloc _ _) (h _ _ (Ext.alloc _ _) (Nat.le_refl _) (Array.getElem?_eq_some_iff.1 (heap_alloc_new w _)).1)
 have hr := JU hT [] (by simp) (by simp) w
 simp only [execOp, List.map_toArray, Sem.run_bind]
 simp only [List.length_nil, List.range'_zero, List.zip_nil_left] at hr
 rw [show (List.map (fun x => (x.1, a.eval x.2)) ([] : List (Nat × Operand))).toArray = #[] from rfl]
 rw [hr]
 rfl
theorem AP0 {v1 : Value} {gb : Nat} {E : TypeId} {ys : List Int} {w0 : World} (hi : ops[i]? = some ⟨some d, .call ⟨.builtin .append, #[x, y], #[T, T]⟩, ty, pos, after, g⟩) (hw : Wt ops N l g) (hd : Nat.blt d N = true) (hx : ev l x = some (.slice (some ⟨gb, 0, none⟩) 0 0)) (hy : ev l y = some v1)
  (hT : SlT P T E (.int .i64 0) 1 8) (hs : Ints w0 v1 ys) (hE : Ext w0 w) (hlen : ys.length ≤ 17592186044416)
  (h : ∀ v w', Ext w w' → Ints w' v ys → (v.ownBlock = some gb ∨ (v.ownBlock = some w.heap.size ∧ w.heap.size < w'.heap.size)) → WR P N ops dr Q π ((d, v) :: l) w') : WR P N ops dr Q (i :: π) l w := by
 obtain ⟨j, hj, hj1, hj2, hj3⟩ := info_parts hT.inf
 have hs' := hs.ext hE
 obtain ⟨⟨a1, c1, rfl, hc1, hx1⟩, _⟩ := hs'
 rw [List.length_map] at hx1 hc1 hy
 have done : ∀ v w', (Builtin.append_ #[T, T] ty #[.slice (some ⟨gb, 0, none⟩) 0 0, .slice a1 ys.length c1]).run P w = .ok v w' → Ext w w' → Ints w' v ys → (v.ownBlock = some gb ∨ (v.ownBlock = some w.heap.size ∧ w.heap.size < w'.heap.size)) → WR P N ops dr Q (i :: π) l w := by
  intro v w' hrun hEx hin hb
  refine F (v := v) (w' := w') hi hw rfl hd (fun a ha => ?_) (fun _ _ => hEx) (h v w' hEx hin hb)
  simp [execOp, resolve, invoke, builtin, ha.eval hx, ha.eval hy, hrun]
 rcases Nat.eq_zero_or_pos ys.length with h0 | h0
 ·have hys : ys = [] := List.eq_nil_of_length_eq_zero h0
  subst hys
  refine done (.slice (some ⟨gb, 0, none⟩) 0 0) w ?_ (Ext.refl w) ⟨⟨_, 0, rfl, Nat.le_refl _, fun h => absurd h (by simp)⟩, by simp⟩ (.inl rfl)
  simp [Builtin.append_, run_underlying hT.und, sizeOf, typeInfo, hj, Builtin.lenOf, Builtin.firstCells, storeCells, loadCells, loadCellsFrom]
  cases a1 <;> simp [storeCells]
 ·obtain ⟨ad, rfl, hcell⟩ := hx1 h0
  have hr := run_append_grow (P := P) w T ty E j (.int .i64 0) hT.und hj hj1 ⟨gb, 0, none⟩ 0 0 [] (by simp) (fun j u hu => by simp at hu) ad ys.length c1 (ys.map (Value.int .i64)) (by rw [hj2]; simp) hcell (by omega) (by omega) (growslice_fits (by omega) (by rw [hj3]; omega))
  have hge := grownCap_ge w (0 + ys.length) 0 E
  have hB : Blk (w.drew.alloc (.cells (([] : List Value).toArray ++ (ys.map (Value.int .i64)).toArray ++ Builtin.zeroCells (Value.int .i64 0).cells (grownCap w (0 + ys.length) 0 E - (0 + ys.length))) E)) w.heap.size E _ := heap_alloc_new w.drew _
  refine done _ _ hr ((Ext.drew w).trans (Ext.alloc _ _)) ⟨⟨some ⟨w.heap.size, 0, none⟩, grownCap w (0 + ys.length) 0 E, by rw [List.length_map, Nat.zero_add], by rw [List.length_map]; omega, fun _ => ⟨_, rfl, fun k u hu => ?_⟩⟩, by rw [List.length_map]; omega⟩ (.inr ⟨rfl, hB.lt⟩)
  rw [Addr.add_lit]
  refine hB.cell ?_
  have hk := (List.getElem?_eq_some_iff.1 hu).1
  simp only [Nat.zero_add]
  rw [Array.getElem?_append_left (by simpa using hk)]
  simpa using hu
end
end Go.Sx
namespace Go.Proofs.YtcfbigmjjpknfaaGreatDoor
open Go Go.Sx Go.Pl Go.RowKit Go.Fd Go.Alg
def LogOk {P : FP} (x : K P) (n : Nat) (l : List Int) : Prop := (l.length : Int) = P.q ∧ ∀ i : Nat, i < n → gi l (npow x i).1 = i
structure GFV (w : World) (P : FP) (v : Value) : Prop where
 ex : ∃ (b : Nat) (mc exp log : Value) (md lg : List Int) (x : K P), v = .pointer (some ⟨b, 0, none⟩) ∧ Blk w b 107 #[.int .i64 P.p, .int .i64 P.M, mc, .int .i64 P.q, exp, log] ∧ FV w P mc md ∧
  HasOrder x (n1 P) ∧ Ints w exp (pows x (n1 P)) ∧ Ints w log lg ∧ LogOk x (n1 P) lg
theorem GFV.ext {w w' : World} {P : FP} {v : Value} (h : GFV w P v) (hE : Ext w w') : GFV w' P v := by
 obtain ⟨b, mc, exp, log, md, lg, x, h1, h2, h3, h4, h5, h6, h7⟩ := h
 exact ⟨b, mc, exp, log, md, lg, x, h1, h2.ext hE, h3.ext hE, h4, h5.ext hE, h6.ext hE, h7⟩
theorem LogOk.step {P : FP} {x : K P} (hx : HasOrder x (n1 P)) {n : Nat} {l : List Int} (h : LogOk x n l) (hn : n < n1 P) : LogOk x (n + 1) (si l (npow x n).1 n) := by
 have hlen := h.1
 refine ⟨by rw [Zp]; exact hlen, fun i hi => ?_⟩
 have b1 := (npow x n).2
 have b2 := (npow x i).2
 have hn' : (npow x n).1.toNat < l.length := by omega
 by_cases e : i = n
 ·subst e
  simp [gi, si, hn']
 ·have hne : (npow x n).1.toNat ≠ (npow x i).1.toNat := fun he => by
   have : npow x n = npow x i := Subtype.ext (by omega)
   exact e (Qb0 hx (i := i) (j := n) (by omega) hn this.symm)
  have := h.2 i (by omega)
  simpa [gi, si, List.getElem?_set_ne hne] using this
set_option maxRecDepth 10000 in
theorem fNew (p M : Int) (mo : Value) (md : List Int) (w : World) (hmd : Ints w mo md) :
  Calls Tryz.prog 22 #[fv0 p M mo] w (RetX w fun v w' => (v = .tuple #[.pointer none, .int .i64 1] ∧ ¬ OkF p M md) ∨
   (∃ h : OkF p M md, ∃ g, v = .tuple #[g, .int .i64 0] ∧ GFV w' (fpOf p M md h.1.1 h.1.2.1) g)) := by
 refine QL Tryz.func22 rfl rfl (Qc (Qb [0,1,2] rfl (BXA rfl wu rfl rfl ?_)))
 intro g w1 hE hB hg
 refine Qk rfl rfl (Qk rfl rfl (Qd (Qa (Qc (Qc ?_)))))
 have hmi := hmd.ext hE
 refine Qb [0,1,2] rfl (Vw rfl (ldA rfl Zf) ?_)
 refine C rfl wu rfl rfl Tryz.call55 (fShape p M mo md _ hmi) ?_
 rintro _ w2 hE2 ⟨b, rfl, hb⟩
 replace hB := hB.ext hE2
 replace hE := hE.trans hE2
 replace hmi := hmi.ext hE2
 refine ZC rfl rfl (Qd (Qa (Qo rfl ?_ ?_)))
 ·intro h
  simp at h
  refine Qc (Qb [0,1] rfl (Qk rfl rfl (Qk rfl rfl (Qd (Qa (Qq (Qp (QH rfl rfl rfl ?_))))))))
  exact ⟨hE, .inl ⟨rfl, fun ho => by rw [hb.2 ho.1] at h; cases h⟩⟩
 ·intro h
  simp at h
  have hS := hb.1 h
  obtain ⟨eo, eo0, hp⟩ := Kv hS.1 hS.2.1 hS.2.2.1 hS.2.2.2.1
  obtain ⟨P, hP⟩ : ∃ P, P = fpOf p M md hS.1 hS.2.1 := ⟨_, rfl⟩
  have hPp : P.p = p := by rw [hP]; rfl
  have hPM : (P.M : Int) = M := by rw [hP]; show (M.toNat : Int) = M; have := hS.2.1; omega
  have hPq : P.q = ordZ p M := by rw [eo, hP]; rfl
  have hPmd : P.md = fun j => md.getD j 0 := by rw [hP]; rfl
  have hFV : ∀ w' mc, Ints w' mc md → FV w' P mc md := fun w' mc hi => ⟨hi, by omega, by have := hS.2.2.1; omega, by rw [hPq, eo]; exact hS.2.2.2.1, hPmd, fun h1 => hS.2.2.2.2.2.1 (by omega), fun h1 => by have := (hS.2.2.2.2.2.2 (by omega)).1; omega, (by
   rw [hPp]
   by_cases h1 : M = 1
   ·rw [hS.2.2.2.2.2.1 h1]; intro z hz; cases hz
   ·exact (hS.2.2.2.2.2.2 h1).2)⟩
  have hq2 := P.q_two
  have hn1 := QaS (P := P)
  have hq := (hFV _ _ hmi).q
  have hml := hmi.le
  have hfv : fv P mo = fv0 p M mo := by rw [fv, fv0, hPp, hPM]
  refine Qe (Qa (Qc (Qb [0,1,2,3,4,5] rfl (Qz rfl rfl QY (Vw rfl (ldB rfl na3) ?_)))))
  refine Qz rfl rfl Zl (Vw rfl (ldB rfl na3) ?_)
  refine C rfl wu rfl rfl Tryz.call56 (QbH p M _) ?_
  rintro _ w3 hE3 rfl
  replace hB := hB.ext hE3
  replace hE := hE.trans hE3
  replace hmi := hmi.ext hE3
  rw [← hPq]
  refine Qk rfl rfl (Qd (Qa (Qc (Qb [0,1,2,3] rfl (Vw rfl (ldA rfl Zf) ?_)))))
  refine mvV rfl rfl ?_
  have hcall := Qap P mo md _ (hFV _ _ hmi)
  rw [hfv] at hcall
  refine C rfl wu rfl rfl Tryz.call57 hcall ?_
  rintro e w4 hE4 hgen
  replace hB := hB.ext hE4
  replace hE := hE.trans hE4
  replace hmi := hmi.ext hE4
  refine Qk rfl rfl (Qd (Qa (Qc (Qc ?_))))
  have hesl : ∃ a n c, e = .slice a n c := by
   rcases hgen with ⟨rfl, _⟩ | ⟨x, _, hi, _⟩
   ·exact ⟨_, _, _, rfl⟩
   ·obtain ⟨⟨a, c, he, _⟩, _⟩ := hi
    exact ⟨_, _, _, he⟩
  refine Qb [0,1] rfl (mvV rfl rfl (Vw rfl (eqlN rfl rfl Tryz.underlying22 hesl) (Qd (Qa ?_))))
  rcases hgen with ⟨rfl, hno⟩ | ⟨x, hx, hei, ge, hge⟩
  ·skip
   refine QC rfl (rfl) (Qc (Qb [0,1] rfl (Qk rfl rfl (Qk rfl rfl (Qd (Qa (Qq (Qp (QH rfl rfl rfl ?_)))))))))
   refine ⟨hE, .inl ⟨rfl, fun ho => ?_⟩⟩
   obtain ⟨x, hx⟩ := ho.gen
   subst hP
   exact hno x hx
  ·skip
   refine Qn rfl (by simp [hge]) (Qe (Qa (Qc ?_)))
   have hO : OkF p M md := by subst hP; exact OkF.of_gen hS hx
   have hgoal : ∀ (w' : World) (v : Value), GFV w' P v → ∃ h : OkF p M md, ∃ g, Value.tuple #[v, .int .i64 0] = .tuple #[g, .int .i64 0] ∧ GFV w' (fpOf p M md h.1.1 h.1.2.1) g := fun w' v hv => by
    subst hP
    exact ⟨hO, v, rfl, hv⟩
   have hE0 := hE
   clear hE
   have hE := Ext.refl w4
   refine XO (σ := Value × Value × Nat) (fun q => [(4, .int .i64 P.q), (5, e), (6, .pointer (some ⟨q.2.2, 0, none⟩))])
    (fun q w' => Ext w4 w' ∧ Blk w' q.2.2 107 #[.int .i64 p, .int .i64 M, q.1, .int .i64 P.q, e, q.2.1] ∧ Ints w' q.1 md ∧ OwnI w4.heap.size w' q.2.1 3 (tab P.q.toNat fun _ => 0) ∧ q.1.ownBlock ≠ q.2.1.ownBlock ∧ q.2.1.ownBlock ≠ some q.2.2) ?_ ?_
   ·skip
    have hmd8 : md.length ≤ 8 := by
     by_cases h1 : M = 1
     ·rw [hS.2.2.2.2.2.1 h1]; simp
     ·have := (hS.2.2.2.2.2.2 h1).1
      have := hS.2.2.1
      omega
    refine Ka QK (.br [0,1,2,3,5,6,9,10,11] (.br [4] (.leaf [7,8,12,13,14,15]) (.leaf [12,7,8,13,14,15])) (.leaf [12,4,7,8,13,14,15])) (by kernel_rfl) ?_
    intro w5 hd _
    replace hE := hE.trans hd
    refine Qc7 (Qz rfl rfl QY (Vw rfl (ldB rfl na3) ?_))
    refine Qz rfl rfl Zl (Vw rfl (ldB rfl na3) ?_)
    refine Qz rfl rfl Jm (Vw rfl (ldB rfl Zk) ?_)
    refine mvV rfl rfl (mvV rfl rfl (mvV rfl rfl (Qc8 ?_ ?_)))
    ·skip
     refine Qc7 (BS0 rfl wu rfl QA ?_)
     intro gl w6 hE6 hgl hgl2
     have hz6 := hE6.size
     replace hE := hE.trans hE6
     try replace hlog := OwnI.ext hlog hE6
     refine Qc8 ?_ ?_
     ·skip
      refine Jf (AP0 rfl wu rfl rfl rfl QA hmi hE (by omega) ?_)
      intro mc w8 hE8 hmc hmcb
      have hz8 := hE8.size
      replace hE := hE.trans hE8
      try replace hlog := OwnI.ext hlog hE8
      refine Vw rfl (bld (us := [.int .i64 p, .int .i64 M, mc]) (r := [.int .i64 p, .int .i64 M, mc]) rfl (bdF _ _ _ (Zw hmc))) (MKI (n := P.q.toNat) rfl wu rfl rfl QA ?_)
      intro log w7 hE7 hlog hlogi hlogb
      have hz7 := hE7.size
      have hl7 := (Own.lt hlog _ hlogb).2
      replace hlog := Own.mono hlog (B' := w4.heap.size) hE.size
      replace hE := hE.trans hE7
      try replace hmc := hmc.ext hE7
      refine Vw rfl (bld (us := [.agg #[.int .i64 p, .int .i64 M, mc], .int .i64 P.q, e, log]) (r := [.int .i64 p, .int .i64 M, mc, .int .i64 P.q, e, log]) rfl (bdG _ _ _ _ _ _ (Zw hei) (Zw (OwnI.ints hlog)))) (BXA rfl wu rfl rfl ?_)
      intro g2 w9 hE9 hB9 hg9
      refine Qk rfl rfl (Qd (Zb (mc, log, g2) ⟨rfl, rfl, rfl, trivial⟩ ⟨hE.trans hE9, hB9, hmc.ext hE9, OwnI.ext hlog hE9, ?_, ?_⟩))
      ·show mc.ownBlock ≠ log.ownBlock; rcases hmcb with e1 | ⟨e1, e2⟩ <;> (rw [e1, hlogb]; intro e'; have e' := Option.some.inj e'; omega)
      ·show log.ownBlock ≠ some g2; have hlt := (Own.lt hlog _ hlogb).2; rw [hlogb]; intro e'; have e' := Option.some.inj e'; omega
     ·skip
      refine Jf (MKI (n := P.q.toNat) rfl wu rfl rfl QA ?_)
      intro log w7 hE7 hlog hlogi hlogb
      have hz7 := hE7.size
      have hl7 := (Own.lt hlog _ hlogb).2
      replace hlog := Own.mono hlog (B' := w4.heap.size) hE.size
      replace hE := hE.trans hE7
      try replace hmc := hmc.ext hE7
      refine AP0 rfl wu rfl rfl rfl QA hmi hE (by omega) ?_
      intro mc w8 hE8 hmc hmcb
      have hz8 := hE8.size
      replace hE := hE.trans hE8
      try replace hlog := OwnI.ext hlog hE8
      refine Vw rfl (bld (us := [.int .i64 p, .int .i64 M, mc]) (r := [.int .i64 p, .int .i64 M, mc]) rfl (bdF _ _ _ (Zw hmc))) (Vw rfl (bld (us := [.agg #[.int .i64 p, .int .i64 M, mc], .int .i64 P.q, e, log]) (r := [.int .i64 p, .int .i64 M, mc, .int .i64 P.q, e, log]) rfl (bdG _ _ _ _ _ _ (Zw hei) (Zw (OwnI.ints hlog)))) (BXA rfl wu rfl rfl ?_))
      intro g2 w9 hE9 hB9 hg9
      refine Qk rfl rfl (Qd (Zb (mc, log, g2) ⟨rfl, rfl, rfl, trivial⟩ ⟨hE.trans hE9, hB9, hmc.ext hE9, OwnI.ext hlog hE9, ?_, ?_⟩))
      ·show mc.ownBlock ≠ log.ownBlock; rcases hmcb with e1 | ⟨e1, e2⟩ <;> (rw [e1, hlogb]; intro e'; have e' := Option.some.inj e'; omega)
      ·show log.ownBlock ≠ some g2; have hlt := (Own.lt hlog _ hlogb).2; rw [hlogb]; intro e'; have e' := Option.some.inj e'; omega
    ·skip
     refine Jf (MKI (n := P.q.toNat) rfl wu rfl rfl QA ?_)
     intro log w7 hE7 hlog hlogi hlogb
     have hz7 := hE7.size
     have hl7 := (Own.lt hlog _ hlogb).2
     replace hlog := Own.mono hlog (B' := w4.heap.size) hE.size
     replace hE := hE.trans hE7
     try replace hmc := hmc.ext hE7
     refine BS0 rfl wu rfl QA ?_
     intro gl w6 hE6 hgl hgl2
     have hz6 := hE6.size
     replace hE := hE.trans hE6
     try replace hlog := OwnI.ext hlog hE6
     refine AP0 rfl wu rfl rfl rfl QA hmi hE (by omega) ?_
     intro mc w8 hE8 hmc hmcb
     have hz8 := hE8.size
     replace hE := hE.trans hE8
     try replace hlog := OwnI.ext hlog hE8
     refine Vw rfl (bld (us := [.int .i64 p, .int .i64 M, mc]) (r := [.int .i64 p, .int .i64 M, mc]) rfl (bdF _ _ _ (Zw hmc))) (Vw rfl (bld (us := [.agg #[.int .i64 p, .int .i64 M, mc], .int .i64 P.q, e, log]) (r := [.int .i64 p, .int .i64 M, mc, .int .i64 P.q, e, log]) rfl (bdG _ _ _ _ _ _ (Zw hei) (Zw (OwnI.ints hlog)))) (BXA rfl wu rfl rfl ?_))
     intro g2 w9 hE9 hB9 hg9
     refine Qk rfl rfl (Qd (Zb (mc, log, g2) ⟨rfl, rfl, rfl, trivial⟩ ⟨hE.trans hE9, hB9, hmc.ext hE9, OwnI.ext hlog hE9, ?_, ?_⟩))
     ·show mc.ownBlock ≠ log.ownBlock; rcases hmcb with e1 | ⟨e1, e2⟩ <;> (rw [e1, hlogb]; intro e'; have e' := Option.some.inj e'; omega)
     ·show log.ownBlock ≠ some g2; have hlt := (Own.lt hlog _ hlogb).2; rw [hlogb]; intro e'; have e' := Option.some.inj e'; omega
   ·rintro ⟨mc, log, g2⟩ w6 ⟨hE, hB2, hmc, hlog, hne1, hne2⟩
    dsimp only at hE hB2 hmc hlog hne1 hne2
    have hpl := ZZ x (n1 P)
    refine Qc (Qc (Qb [0,1,2] rfl (mvV rfl rfl (Vw rfl (Zh rfl QA hei) (mvV rfl rfl (Qd (Qa (Qf ?_))))))))
    rw [hpl]
    refine Qv (fun q : Int × List Int => [(6, .pointer (some ⟨g2, 0, none⟩)), (37, e), (38, .int .i64 (n1 P : Int)), (39, .int .i64 q.1)])
     (fun q w' => 0 ≤ q.1 ∧ q.1 ≤ n1 P ∧ Ext w4 w' ∧ Blk w' g2 107 #[.int .i64 p, .int .i64 M, mc, .int .i64 P.q, e, log] ∧ Ints w' mc md ∧ OwnI w4.heap.size w' log 3 q.2 ∧ LogOk x q.1.toNat q.2) (fun q => (n1 P - q.1).toNat) (0, tab P.q.toNat fun _ => 0)
     ⟨rfl, rfl, rfl, rfl, trivial⟩ ⟨Int.le_refl _, by show (0 : Int) ≤ n1 P; omega, hE, hB2, hmc, hlog, by show ((tab P.q.toNat fun _ => (0 : Int)).length : Int) = P.q; rw [Qs]; omega, fun i hi => absurd hi (by simp)⟩ ?_
    clear hE hB2 hmc hlog
    rintro ⟨i, lg⟩ w7 ⟨h0, h1, hE, hB2, hmc, hlog, hL⟩
    dsimp only at h0 h1 hE hB2 hmc hlog hL
    have hlogi := OwnI.ints hlog
    have hlgl := hL.1
    try dsimp only
    refine Qc (Qb [0] rfl (Qy rfl rfl rfl (Qd (Qa (Qc (Qo rfl ?_ ?_))))))
    ·intro hi
     simp at hi
     refine Qe (Qa (Qc (Qf (Qc ?_))))
     have hpb := (npow x i.toNat).2
     refine Qb [0,1,2,3,4] rfl (mvV rfl rfl (Vw rfl (QO rfl rfl QA hei) (Vw rfl (ldI rfl na3 hei) (Qk rfl rfl (Qk rfl rfl (Qd (Qa ?_)))))))
     rw [Xk x h0 hi]
     refine Qb [0,1,2,3,4,5,6,7] rfl (mvV rfl rfl (QM rfl rfl (Qz rfl rfl Qa2 (Vw rfl (ldB rfl Zk hB2) (mvV rfl rfl (mvV rfl rfl (Vw rfl (QO rfl rfl QA) ?_)))))))
     refine STI rfl wu rfl rfl sz3 nofun ?_
     intro w8 hg8 hX8 hlog8 hlogi8
     refine Qd (Qg (Qa ?_))
     have hL8 := hL.step hx (by omega)
     rw [show ((i.toNat : Nat) : Int) = i by omega] at hL8
     refine Qb [0,1] rfl (Qw rfl rfl rfl (mvV rfl rfl (Qd ?_)))
     exact Qi (i + 1, si lg (npow x i.toNat).1 i) ⟨rfl, rfl, rfl, rfl, trivial⟩ ⟨by show 0 ≤ i + 1; omega, by show i + 1 ≤ _; omega, hX8 _ (Nat.le_refl _) hE, hB2.grown hg8 hne2, hmc.kept hg8 hne1, hlog8, by show LogOk x (i + 1).toNat _; rw [show (i + 1).toNat = i.toNat + 1 by omega]; exact hL8⟩ (by show (n1 P - (i + 1)).toNat < (n1 P - i).toNat; omega)
    ·intro hi
     simp at hi
     refine Qt (Ql (Qm (Qh (Qa (Qc (Qb [0,1,2] rfl (mvV rfl rfl (Qk rfl rfl (Qk rfl rfl (Qd (Qa (Qq (QH rfl rfl rfl ?_)))))))))))))
     have hn : i.toNat = n1 P := by omega
     rw [hn] at hL
     refine ⟨hE0.trans hE, .inr (hgoal _ _ ⟨g2, mc, e, log, md, lg, x, rfl, ?_, hFV _ _ hmc, hx, hei.ext hE, hlogi, hL⟩)⟩
     rw [hPp, hPM]
     exact hB2
end Go.Proofs.YtcfbigmjjpknfaaGreatDoor
namespace Go.Fd
open Go.Pl Go.Alg
section
variable {P : FP}
theorem mk_add (u v : V) : K.mk P (vadd u v) = K.mk P u + K.mk P v := K.mk_eq (Cg.add (K.v_mk u) (K.v_mk v)).symm
theorem mk_neg (u : V) : K.mk P (vneg u) = - K.mk P u := K.mk_eq (Cg.neg (K.v_mk u)).symm
theorem mk_mul (u v : V) : K.mk P (mulV P.M P.md u v) = K.mk P u * K.mk P v := K.mk_eq (XF (K.v_mk u) (K.v_mk v)).symm
theorem mk_zero : K.mk P v0 = 0 := K.ext ((K.v_mk _).trans v_zero.symm)
theorem mk_one : K.mk P e0 = 1 := K.ext ((K.v_mk _).trans v_one.symm)
def zK (P : FP) (z : Int) : K P := K.mk P (vsm z e0)
theorem mk_smul (a : Int) (u : V) : K.mk P (vsm a u) = zK P a * K.mk P u := by
 rw [zK, ← mk_mul]
 refine K.mk_eq ?_
 rw [mulV, Qc3]
 exact Cg.smul rfl (QcN u).symm
theorem zK_add (a b : Int) : zK P (a + b) = zK P a + zK P b := by
 unfold zK
 rw [← mk_add]
 congr 1
 funext j
 simp only [vsm, vadd, Int.add_mul]
theorem zK_mul (a b : Int) : zK P (a * b) = zK P a * zK P b := by
 have h := mk_smul (P := P) a (vsm b e0)
 rw [zK.eq_1 P b, ← h, zK]
 congr 1
 funext j
 simp only [vsm, Int.mul_assoc]
theorem zK_zero : zK P 0 = 0 := by
 rw [zK, ← mk_zero]
 congr 1
 funext j
 simp [vsm, v0]
theorem zK_neg (a : Int) : zK P (-a) = - zK P a := by
 rw [zK, zK, ← mk_neg]
 congr 1
 funext j
 simp [vsm, vneg, Int.neg_mul]
theorem zK_cg {a b : Int} (h : a % P.p = b % P.p) : zK P a = zK P b := K.mk_eq (Cg.smul h (Cg.refl _))
theorem zK_mod (a : Int) : zK P (a % P.p) = zK P a := zK_cg (Int.emod_emod_of_dvd _ (Int.dvd_refl _))
def xi (P : FP) : K P := K.mk P (S P.M P.md e0)
theorem mk_S (u : V) : K.mk P (S P.M P.md u) = xi P * K.mk P u := by
 rw [xi, ← mk_mul, mulV, H_S]
 exact K.mk_eq (Cg.S (QaC u).symm)
def ej (n : Nat) : V := fun j => if j = n then 1 else 0
theorem S_ej {n : Nat} (h : n + 1 < P.M) : S P.M P.md (ej n) = ej (n + 1) := by
 funext j
 have e : ej n (P.M - 1) = 0 := if_neg (by omega)
 cases j with
 | zero => simp only [S, e]; simp [ej]
 | succ j => simp only [S, e]; simp [ej]
theorem xi_pow : ∀ n, n < P.M → npow (xi P) n = K.mk P (ej n)
 | 0, _ => by rw [Qbs, ← mk_one]; rfl
 | n + 1, h => by rw [Zz, xi_pow n (by omega), ← S_ej h, mk_S, mul_comm]
def pe (P : FP) (c : Nat → Int) : Nat → K P
 | 0 => 0
 | n + 1 => pe P c n + zK P (c n) * npow (xi P) n
theorem QaO {c d : Nat → Int} : ∀ n, (∀ j, j < n → c j = d j) → pe P c n = pe P d n
 | 0, _ => rfl
 | n + 1, h => by rw [pe, pe, QaO n (fun j hj => h j (by omega)), h n (by omega)]
theorem mk_pe' (u : V) : ∀ n, n ≤ P.M → K.mk P (fun j => if j < n then u j else 0) = pe P u n
 | 0, _ => by
  rw [pe, ← mk_zero]
  congr 1
 | n + 1, h => by
  rw [pe, ← mk_pe' u n (by omega), xi_pow n h, ← mk_smul, ← mk_add]
  congr 1
  funext j
  simp only [vadd, vsm, ej]
  by_cases e : j = n
  ·subst e; simp
  ·by_cases hj : j < n
   ·rw [if_pos (by omega), if_pos hj, if_neg e]; simp
   ·rw [if_neg (by omega), if_neg hj, if_neg e]; simp
theorem mk_pe (u : V) : K.mk P u = pe P u P.M := by
 rw [← mk_pe' u P.M (Nat.le_refl _)]
 exact K.mk_eq (Cg.of_eq fun j hj => by rw [if_pos hj])
theorem xi_top : npow (xi P) P.M = - pe P P.md P.M := by
 have hM := P.hM
 obtain ⟨m, hm⟩ : ∃ m, P.M = m + 1 := ⟨P.M - 1, by omega⟩
 rw [← mk_pe, ← mk_neg, hm, Zz, xi_pow m (by omega), mul_comm, ← mk_S]
 refine K.mk_eq (Cg.of_eq fun j hj => ?_)
 have e : ej m (P.M - 1) = 1 := if_pos (by omega)
 cases j with
 | zero => simp [S, e, vneg]
 | succ j =>
  have e2 : ej m j = 0 := if_neg (by omega)
  simp [S, e, e2, vneg]
theorem pe_set (c : Nat → Int) (k : Nat) (u : Int) : ∀ n, k < n → pe P (fun t => if t = k then u else c t) n = pe P c n + (zK P u + -zK P (c k)) * npow (xi P) k
 | 0, h => absurd h (by omega)
 | n + 1, h => by
  by_cases e : k = n
  ·subst e
   rw [pe, pe, QaO (d := c) k (fun j hj => if_neg (by omega)), if_pos rfl, add_mul, neg_mul, add_assoc, add_comm (zK P (c k) * _), add_assoc, neg_add, add_zero]
  ·rw [pe, pe, pe_set c k u n (by omega), if_neg (by omega), add_assoc, add_assoc, add_comm ((zK P u + -zK P (c k)) * _)]
theorem pe_zero : ∀ n, pe P (fun _ => 0) n = 0
 | 0 => rfl
 | n + 1 => by rw [pe, pe_zero n, zK_zero, zero_mul, add_zero]
theorem pe_self (x : K P) : pe P x.v P.M = x := by rw [← mk_pe, K.mk_v]
theorem val_pe {l : List Int} (hl : P.M ≤ l.length) (hlo : Lo P.p l) : val P.p (l.take P.M) = (pe P (fun j => l.getD j 0) P.M).1 := by
 rw [← mk_pe]
 show _ = val P.p (tab P.M fun j => l.getD j 0 % P.p)
 congr 1
 apply List.ext_getElem?
 intro j
 by_cases hj : j < P.M
 ·have hj' : j < l.length := by omega
  have := hlo _ (List.getElem_mem hj')
  rw [Za hj, List.getElem?_take, if_pos hj]
  simp only [List.getD_eq_getElem?_getD, List.getElem?_eq_getElem hj', Option.getD_some]
  rw [Int.emod_eq_of_lt this.1 this.2]
 ·rw [List.getElem?_eq_none (by simp; omega), List.getElem?_eq_none (by rw [Qs]; omega)]
theorem getD_set (l : List Int) (k : Nat) (u : Int) (hk : k < l.length) : (fun t => (l.set k u).getD t 0) = fun t => if t = k then u else l.getD t 0 := by
 funext t
 by_cases e : t = k
 ·subst e; simp [hk]
 ·rw [if_neg e]; simp [List.getElem?_set_ne (Ne.symm e)]
def inK (P : FP) (z : Int) : K P := if h : 0 ≤ z ∧ z < P.q then ⟨z, h⟩ else 0
theorem ZF {z : Int} (h : 0 ≤ z ∧ z < P.q) : inK P z = ⟨z, h⟩ := dif_pos h
theorem Qcf {z : Int} (h : ¬ (0 ≤ z ∧ z < P.q)) : inK P z = 0 := dif_neg h
theorem Zi (x : K P) : inK P x.1 = x := dif_pos x.2
end
def ps (p : Int) (f : Nat → Int) : Nat → Int
 | 0 => 0
 | n + 1 => ps p f n + f n * p ^ n
theorem Qcy (p : Int) (d : Int) : ∀ l : List Int, val p (l ++ [d]) = val p l + d * p ^ l.length
 | [] => by simp [val]
 | a :: l => by
  rw [List.cons_append, val, val, Qcy p d l, List.length_cons, Int.pow_succ, Int.mul_add, Int.add_assoc, Int.mul_left_comm, Int.mul_comm (p ^ l.length) p]
theorem QbR (p : Int) (f : Nat → Int) : ∀ n, val p (tab n f) = ps p f n
 | 0 => rfl
 | n + 1 => by
  have e : tab (n + 1) f = tab n f ++ [f n] := by simp [tab, List.range_succ]
  rw [e, Qcy, QbR p f n, Qs, ps]
theorem Qc0 {p : Int} (hp : 2 ≤ p) : ∀ (m : Nat) (x : Int) (j : Nat), 0 ≤ x → j < m → (dig p m x).getD j 0 = x / p ^ j % p
 | 0, _, _, _, h => absurd h (by omega)
 | m + 1, x, 0, _, _ => by simp [dig]
 | m + 1, x, j + 1, hx, h => by
  rw [dig, List.getD_cons_succ, Qc0 hp m (x / p) j (Int.ediv_nonneg hx (by omega)) (by omega), Int.pow_succ, Int.mul_comm (p ^ j) p, Int.ediv_ediv, if_neg (by omega), Int.sub_zero]
theorem Ke {p : Int} {f g : Nat → Int} : ∀ n, (∀ j, j < n → f j = g j) → ps p f n = ps p g n
 | 0, _ => rfl
 | n + 1, h => by rw [ps, ps, Ke n (fun j hj => h j (by omega)), h n (by omega)]
theorem QaL {p : Int} (hp : 2 ≤ p) {f : Nat → Int} (hf : ∀ j, 0 ≤ f j ∧ f j < p) : ∀ n, 0 ≤ ps p f n ∧ ps p f n < p ^ n
 | 0 => by simp [ps]
 | n + 1 => by
  have ih := QaL hp hf n
  have h0 : 0 ≤ p ^ n := by omega
  have h1 := Int.mul_nonneg (hf n).1 h0
  have h2 : f n * p ^ n ≤ (p - 1) * p ^ n := Int.mul_le_mul_of_nonneg_right (by have := (hf n).2; omega) h0
  rw [Int.sub_mul, Int.one_mul] at h2
  rw [ps, Int.pow_succ, Int.mul_comm (p ^ n) p]
  omega
theorem QbZ {p : Int} {f : Nat → Int} {k : Nat} (h : ∀ j, k ≤ j → f j = 0) : ∀ n, k ≤ n → ps p f n = ps p f k
 | 0, hn => by
  have : k = 0 := by omega
  rw [this]
 | n + 1, hn => by
  by_cases e : k = n + 1
  ·rw [e]
  ·rw [ps, QbZ h n (by omega), h n (by omega), Int.zero_mul, Int.add_zero]
def da (p x y : Int) (j : Nat) : Int := (x / p ^ j % p + y / p ^ j % p) % p
def dn (p x : Int) (j : Nat) : Int := (p - x / p ^ j % p) % p
section
variable {P : FP}
theorem add_ps (x y : K P) : (x + y).1 = ps P.p (da P.p x.1 y.1) P.M := by
 show val P.p (tab P.M fun j => vadd x.v y.v j % P.p) = _
 rw [QbR]
 refine Ke _ fun j hj => ?_
 simp only [vadd, K.v, vec]
 rw [Qc0 P.hp _ _ _ x.2.1 hj, Qc0 P.hp _ _ _ y.2.1 hj]
 rfl
theorem neg_ps (x : K P) : (-x).1 = ps P.p (dn P.p x.1) P.M := by
 show val P.p (tab P.M fun j => vneg x.v j % P.p) = _
 rw [QbR]
 refine Ke _ fun j hj => ?_
 simp only [vneg, K.v, vec]
 rw [Qc0 P.hp _ _ _ x.2.1 hj, dn]
 rw [show (P.p - x.1 / P.p ^ j % P.p) = (-(x.1 / P.p ^ j % P.p) + P.p * 1) by omega, Int.add_mul_emod_self_left]
end
theorem xor_low (a b : Nat) : a ^^^ b = 2 * ((a / 2) ^^^ (b / 2)) + (a % 2 + b % 2) % 2 := by
 have h1 : (a ^^^ b) / 2 = (a / 2) ^^^ (b / 2) := Nat.xor_div_two
 have h2 : (a ^^^ b) % 2 = (a % 2 + b % 2) % 2 := by
  have h := Nat.testBit_xor a b 0
  simp only [Nat.testBit_zero] at h
  have ha := Nat.mod_two_eq_zero_or_one a
  have hb := Nat.mod_two_eq_zero_or_one b
  have hc := Nat.mod_two_eq_zero_or_one (a ^^^ b)
  rcases ha with ha | ha <;> rcases hb with hb | hb <;> rcases hc with hc | hc <;> simp [ha, hb, hc] at h ⊢
 omega
theorem ps_low (p : Int) (f : Nat → Int) : ∀ n, ps p f (n + 1) = f 0 + p * ps p (fun j => f (j + 1)) n
 | 0 => by simp [ps]
 | n + 1 => by
  have e : f (n + 1) * (p ^ n * p) = p * (f (n + 1) * p ^ n) := by rw [Int.mul_comm (p ^ n) p, Int.mul_left_comm]
  rw [ps, ps_low p f n, ps, Int.mul_add, Int.pow_succ, Int.add_assoc, e]
theorem xor_ps : ∀ (n : Nat) (a b : Nat), a < 2 ^ n → b < 2 ^ n → ((a ^^^ b : Nat) : Int) = ps 2 (da 2 a b) n
 | 0, a, b, ha, hb => by
  have : a = 0 := by simpa using ha
  have : b = 0 := by simpa using hb
  subst a b
  rfl
 | n + 1, a, b, ha, hb => by
  have hs := xor_ps n (a / 2) (b / 2) (by rw [Nat.pow_succ] at ha; omega) (by rw [Nat.pow_succ] at hb; omega)
  have e : ps 2 (fun j => da 2 a b (j + 1)) n = ps 2 (da 2 (a / 2 : Nat) (b / 2 : Nat)) n := by
   refine Ke _ fun j _ => ?_
   unfold da
   rw [Int.pow_succ, Int.mul_comm (2 ^ j) 2, Int.natCast_ediv, Int.natCast_ediv, Int.ediv_ediv, if_neg (by omega), Int.sub_zero, Int.ediv_ediv, if_neg (by omega), Int.sub_zero]
   rfl
  have h0 : da 2 a b 0 = ((a % 2 + b % 2) % 2 : Nat) := by
   unfold da
   simp
  rw [ps_low, e, ← hs, h0, xor_low a b]
  omega
end Go.Fd
namespace Go.Sx
open Go Go.RowKit Go.Pl
section
variable {P : Program} {N : Nat} {l : Env} {w : World} {ops : Array Oper} {dr : Bool} {Q : Act → World → Prop} {π : List Nat} {i d : Nat} {v : Value} {op : Op} {ty : TypeId} {pos : String} {after : Array Edge} {g : Option (Nat × Bool)}
variable {x y c p : Operand} {u z : Int} {T T' : TypeId}
theorem mkf {fn : Fn} {fs cs : List Operand} {us vs : List Value} (hf : evs l fs = some us) (hc : evs l cs = some vs) : Yl P N (.makeFunc fn fs.toArray cs.toArray) ty l w (.func fn us.toArray vs.toArray) := fun a ha w' _ o ho _ => by
 have h1 := ha.evals hf
 have h2 := ha.evals hc
 simp [execOp, ho, h1, h2, Instr.makeFunc]
theorem Qdy (T : TypeId) (a b : Int) (w : World) : (binOp .xor T (.int .i64 a) (.int .i64 b)).run P w = (Op.intBits .xor .i64 a b).run P w := by
 simp [binOp]
theorem xorI (hx : ev l x = some (.int .i64 u)) (hy : ev l y = some (.int .i64 z)) (hu : 0 ≤ u ∧ u < 256 := by omega) (hz : 0 ≤ z ∧ z < 256 := by omega) :
  Yl P N (.binOp .xor T x y T') ty l w (.int .i64 ((u.toNat ^^^ z.toNat : Nat) : Int)) :=
 Zn hx hy (fun w => by
  have hlt : u.toNat ^^^ z.toNat < 2 ^ 8 := Nat.xor_lt_two_pow (by omega) (by omega)
  have e : (BitVec.ofInt IntKind.i64.bits u ^^^ BitVec.ofInt IntKind.i64.bits z).toNat = u.toNat ^^^ z.toNat := by
   have h64 : IntKind.i64.bits = 64 := rfl
   rw [BitVec.toNat_xor]
   congr 1
   ·rw [BitVec.toNat_ofInt, h64]; omega
   ·rw [BitVec.toNat_ofInt, h64]; omega
  have h3 : IntKind.i64.wrap ((u.toNat ^^^ z.toNat : Nat) : Int) = ((u.toNat ^^^ z.toNat : Nat) : Int) := Kl _ (by omega)
  rw [Qdy]
  simp only [Op.intBits, e, h3]
  rfl) (fun _ _ _ => Qr)
end
end Go.Sx
