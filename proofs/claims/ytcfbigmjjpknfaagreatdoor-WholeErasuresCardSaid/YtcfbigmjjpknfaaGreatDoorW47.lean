import Derived.Test.YtcfbigmjjpknfaaGreatDoorW02
import Derived.WalkKit
import Derived.ProofKit
import Derived.OpenShut
import Derived.ShutString
import Derived.ChangeOld
import Derived.SizedLaws
import Derived.Test.YtcfbigmjjpknfaaGreatDoorW03
import Derived.Deep.Matrix
namespace Go.Fr
open Go Go.Sx Go.Pl Go.RowKit Go.ChangeShapes Go.WideShapes
section
variable {H : Type} {enc : TypeId × Value → H} {P : Program} {w : World} {base : Nat} {spare : Nat → Bool} {held : Bool} {t e : TypeId} {fuel : Nat} {cs : List Value} {d : DataW H} {ps : List MemPlace}
def WOK (P : Program) (t : TypeId) (d : DataW H) : Prop := (d.weights P t).all (· ≤ reachBytes) = true
def Fits (z : Int) : Prop := -9223372036854775808 ≤ z ∧ z ≤ 9223372036854775807
theorem QaB {ts : List TypeId} {ds : List (DataW H)} (h : (DataW.weightsEach P ts ds).all (· ≤ reachBytes) = true) {j : Nat} (ht : ts[j]? = some t) (hd : ds[j]? = some d) : WOK P t d :=
 List.all_eq_true.2 fun n hn => List.all_eq_true.1 h n (DataW.weights_mem_each ht hd n hn)
theorem Qcn (ht : P.underlying t = some (.int .i64)) (h : DataW.trod enc P w base spare held fuel t cs = some (d, ps)) : ∃ n, cs = [.int .i64 n] ∧ Fits n := by
 obtain ⟨n, hcs, _, hw⟩ := DataW.trod_int ht h
 exact ⟨n, hcs, bounds_i64 hw⟩
theorem len_fit {n m : Nat} (h : n * 8 ≤ reachBytes) (hm : m ≤ n) : m ≤ 17592186044416 := by
 have h1 : reachBytes ≤ 140737488355328 := by decide
 omega
def LFit (zs : List Int) : Prop := (∀ z ∈ zs, Fits z) ∧ zs.length ≤ 17592186044416
theorem QbK (ht : P.underlying t = some (.slice e)) (he : P.underlying e = some (.int .i64)) (hc : P.cellsOf e = 1) (hb : P.bytesOf e = 8) (h : DataW.trod enc P w base spare held fuel t cs = some (d, ps)) (hw : WOK P t d) :
  ∃ v zs, cs = [v] ∧ Ints w v zs ∧ LFit zs := by
 rcases open_ints ht he hc h with ⟨rfl, _⟩ | ⟨a, len, cap, zs, rfl, _, hl, _, hz, hx, hcell, hwz⟩
 ·exact ⟨_, [], rfl, Ints.nil w, by simp, by simp⟩
 ·obtain ⟨rfl, _⟩ := Prod.mk.inj hx
  have hzl : len ≤ zs.length := by rw [hz]; split <;> omega
  have hr : zs.length * 8 ≤ reachBytes := by
   have h1 := List.all_eq_true.1 hw ((lits (H := H) .i64 (zs.take len)).length * P.bytesOf e + (lits (H := H) .i64 (zs.drop len)).length * P.bytesOf e)
    (by simp [DataW.weights, ht, Nat.add_mul])
   rw [hb] at h1
   simp only [lits, List.length_map, List.length_take, List.length_drop, decide_eq_true_eq] at h1
   omega
  have hlen : (zs.take len).length = len := by rw [List.length_take]; omega
  refine ⟨_, zs.take len, rfl, ⟨⟨some a, cap, by rw [List.length_map, hlen], by simp only [List.length_map, hlen]; omega, fun _ => ⟨a, rfl, ?_⟩⟩, ?_⟩, fun z hz' => bounds_i64 (hwz z (List.mem_of_mem_take hz')), (by rw [hlen]; exact len_fit hr hzl)⟩
  ·intro j u hu
   rw [List.getElem?_map, List.getElem?_take] at hu
   split at hu
   ·rename_i hj
    have hjl : j < zs.length := by omega
    rw [hcell j hjl]
    simp [List.getElem?_eq_getElem hjl] at hu
    simp [hjl, hu]
   ·simp at hu
  ·have : reachBytes ≤ 140737488355328 := by decide
   simp only [List.length_map, hlen]
   omega
theorem op_intsL {r : Reach} {b0 : Nat} {v : Value} (ht : P.underlying t = some (.slice e)) (he : P.underlying e = some (.int .i64)) (hc : P.cellsOf e = 1) (hb : P.bytesOf e = 8) (hval : Value.okWide P w r b0 t v) (hd : DataW.Trod enc P w base spare held t v d ps) (hw : WOK P t d) :
  ∃ zs, Ints w v zs ∧ LFit zs := by
 obtain ⟨a, len, cap, rfl⟩ := okWide_slice ht hval
 obtain ⟨fuel, hf⟩ := hd
 obtain ⟨v', zs, hcs, h1, h2⟩ := QbK ht he hc hb hf hw
 have e1 : v' = .slice a len cap := by simpa [Value.cells] using hcs.symm
 subst e1
 exact ⟨zs, h1, h2⟩
theorem op_ints {r : Reach} {b0 : Nat} {v : Value} (ht : P.underlying t = some (.slice e)) (he : P.underlying e = some (.int .i64)) (hc : P.cellsOf e = 1) (hb : P.bytesOf e = 8) (hval : Value.okWide P w r b0 t v) (hd : DataW.Trod enc P w base spare held t v d ps) (hw : WOK P t d) :
  ∃ zs, Ints w v zs ∧ ∀ z ∈ zs, Fits z := by
 obtain ⟨zs, h1, h2⟩ := op_intsL ht he hc hb hval hd hw
 exact ⟨zs, h1, h2.1⟩
end
end Go.Fr
namespace Go.Fr
open Go Go.Sx Go.Pl Go.RowKit Go.ChangeShapes Go.WideShapes
section
variable {H : Type} {enc : TypeId × Value → H} {P : Program} {w : World} {base : Nat} {spare : Nat → Bool} {held : Bool} {t e : TypeId} {fuel : Nat} {cs : List Value} {d : DataW H} {ps : List MemPlace}
theorem Qar {fs : Array Field} (ht : P.underlying t = some (.struct fs)) (h : DataW.trod enc P w base spare held fuel t cs = some (d, ps)) (hw : WOK P t d) :
  cs.length = P.cellsOf t ∧ ∀ (i : Nat) (f : Field), fs[i]? = some f → ∃ n x, DataW.trod enc P w base spare held n f.type ((cs.drop f.offset).take (P.cellsOf f.type)) = some x ∧ WOK P f.type x.1 := by
 obtain ⟨xs, n, _, hx, hl, hxl, hf⟩ := DataW.trod_struct ht h
 obtain ⟨rfl, _⟩ := Prod.mk.inj hx
 refine ⟨hl, fun i f hi => ?_⟩
 have hlt : i < xs.length := by
  rw [hxl]
  exact (Array.getElem?_eq_some_iff.1 hi).1
 refine ⟨n, xs[i], by rw [hf i f hi]; simp [hlt], ?_⟩
 have hw' : (DataW.weightsEach P (fs.toList.map (·.type)) (xs.map (·.1))).all (· ≤ reachBytes) = true := by
  have := hw
  simpa [WOK, DataW.weights, ht] using this
 exact QaB hw' (j := i) (by simp [hi]) (by simp [hlt])
structure FRec where
 p : Int
 M : Int
 mo : Value
 md : List Int
structure FOf (w : World) (r : FRec) : Prop where
 ints : Ints w r.mo r.md
 p : Fits r.p
 M : Fits r.M
 md : LFit r.md
structure FT (P : Program) (t : TypeId) : Prop where
 ex : ∃ (f0 f1 f2 : Field) (e : TypeId), P.underlying t = some (.struct #[f0, f1, f2]) ∧ P.cellsOf t = 3 ∧ f0.offset = 0 ∧ f1.offset = 1 ∧ f2.offset = 2 ∧ P.cellsOf f0.type = 1 ∧ P.cellsOf f1.type = 1 ∧ P.cellsOf f2.type = 1 ∧
  P.underlying f0.type = some (.int .i64) ∧ P.underlying f1.type = some (.int .i64) ∧ P.underlying f2.type = some (.slice e) ∧ P.underlying e = some (.int .i64) ∧ P.cellsOf e = 1 ∧ P.bytesOf e = 8
theorem cop_field (hT : FT P t) (h : DataW.trod enc P w base spare held fuel t cs = some (d, ps)) (hw : WOK P t d) :
  ∃ r : FRec, cs = [.int .i64 r.p, .int .i64 r.M, r.mo] ∧ FOf w r := by
 obtain ⟨f0, f1, f2, e, ht, hC, o0, o1, o2, c0, c1, c2, u0, u1, u2, ue, ce, be⟩ := hT.ex
 obtain ⟨hl, hf⟩ := Qar ht h hw
 rw [hC] at hl
 match cs, hl with
 | [a, b, c], _ =>
  obtain ⟨n0, x0, h0, w0⟩ := hf 0 f0 rfl
  obtain ⟨n1, x1, h1, w1⟩ := hf 1 f1 rfl
  obtain ⟨n2, x2, h2, w2⟩ := hf 2 f2 rfl
  rw [o0, c0] at h0
  rw [o1, c1] at h1
  rw [o2, c2] at h2
  obtain ⟨p, hp, bp⟩ := Qcn u0 (d := x0.1) (ps := x0.2) h0
  obtain ⟨M, hM, bM⟩ := Qcn u1 (d := x1.1) (ps := x1.2) h1
  obtain ⟨mo, md, hm, hi, bm⟩ := QbK u2 ue ce be (d := x2.1) (ps := x2.2) h2 w2
  simp at hp hM hm
  subst hp hM hm
  exact ⟨⟨p, M, c, md⟩, rfl, hi, bp, bM, bm⟩
theorem op_struct {fs : Array Field} {r : Reach} {b0 : Nat} {v : Value} (ht : P.underlying t = some (.struct fs)) (hval : Value.okWide P w r b0 t v) (hd : DataW.Trod enc P w base spare held t v d ps) :
  ∃ (cs : Array Value) (fuel : Nat), v = .agg cs ∧ DataW.trod enc P w base spare held fuel t cs.toList = some (d, ps) := by
 obtain ⟨cs, rfl, _⟩ := okWide_struct ht hval
 obtain ⟨fuel, hf⟩ := hd
 exact ⟨cs, fuel, rfl, hf⟩
end
end Go.Fr
namespace Go.Fr
open Go Go.Sx Go.Pl Go.RowKit Go.ChangeShapes Go.WideShapes
section
variable {H : Type} {enc : TypeId × Value → H} {P : Program} {w : World} {base : Nat} {spare : Nat → Bool} {held : Bool} {t e q : TypeId} {fuel : Nat} {cs : List Value} {d : DataW H} {ps : List MemPlace}
theorem JT {d : DataW H} {n : Nat} : ∀ {l : List (DataW H)}, d ∈ l → n ∈ d.weights P e → n ∈ DataW.weightsAll P e l
 | [], h, _ => by cases h
 | x :: r, h, hn => by
  rw [DataW.weightsAll]
  rcases List.mem_cons.1 h with rfl | h
  ·exact List.mem_append_left _ hn
  ·exact List.mem_append_right _ (JT h hn)
def LLFit (L : List (List Int)) : Prop := (∀ z ∈ L, LFit z) ∧ L.length ≤ 17592186044416
theorem cop_intss (ht : P.underlying t = some (.slice e)) (he : P.underlying e = some (.slice q)) (hq : P.underlying q = some (.int .i64)) (ce : P.cellsOf e = 1) (cq : P.cellsOf q = 1) (be : 8 ≤ P.bytesOf e) (bq : P.bytesOf q = 8)
  (h : DataW.trod enc P w base (fun _ => true) held fuel t cs = some (d, ps)) (hw : WOK P t d) : ∃ v L, cs = [v] ∧ LL w v L ∧ LLFit L := by
 rcases Go.Deep.open_int_rows ht he hq ce cq h with ⟨rfl, _⟩ | ⟨a, len, cap, A, L, C, Z, rfl, _, hl, hm, hx, hrow⟩
 ·exact ⟨_, [], rfl, LL.nil w, by simp, by simp⟩
 ·obtain ⟨rfl, _⟩ := Prod.mk.inj hx
  have hrb : reachBytes ≤ 140737488355328 := by decide
  have hsz : ∀ r, r < len → (Z r).length ≤ 17592186044416 := fun r hr => by
   obtain ⟨h1, h2, h3, h4, h5, h6, h7⟩ := hrow r (by omega)
   rcases hA : A r with _ | a'
   ·have := h6 hA; omega
   ·have hin : (Go.Deep.intRow (H := H) .i64 (A r) (L r) (Z r)) ∈ (List.range len).map fun r => Go.Deep.intRow (H := H) .i64 (A r) (L r) (Z r) := List.mem_map.2 ⟨r, List.mem_range.2 hr, rfl⟩
    have h8 := List.all_eq_true.1 hw ((Z r).length * P.bytesOf q) (by
     simp only [DataW.weights, ht]
     refine List.mem_cons_of_mem _ (List.mem_append_left _ (JT hin ?_))
     rw [hA]
     simp only [Go.Deep.intRow, DataW.weights, he, lits, List.length_map, List.length_take, List.length_drop]
     refine List.mem_cons.2 (.inl ?_)
     congr 1
     omega)
    rw [bq] at h8
    simp only [decide_eq_true_eq] at h8
    omega
  have hlen0 : len ≤ 17592186044416 := by
   have h8 := List.all_eq_true.1 hw ((len + (cap - len)) * P.bytesOf e) (by simp [DataW.weights, ht])
   simp only [decide_eq_true_eq] at h8
   have h9 : (len + (cap - len)) * 8 ≤ (len + (cap - len)) * P.bytesOf e := Nat.mul_le_mul_left _ be
   omega
  refine ⟨_, tab len fun r => (Z r).take (L r), rfl, ⟨tab len fun r => .slice (A r) (L r) (C r), ⟨⟨some a, cap, by rw [Qs], by rw [Qs]; exact hl, fun _ => ⟨a, rfl, fun j u hu => ?_⟩⟩, by rw [Qs]; omega⟩, by rw [Qs, Qs], fun i r zs hr hz => ?_⟩, fun z hz => ?_, ?_⟩
  ·have hj : j < len := by
    have := (List.getElem?_eq_some_iff.1 hu).1
    rwa [Qs] at this
   rw [Za hj] at hu
   cases hu
   exact (hrow j (by omega)).1
  ·have hj : i < len := by
    have := (List.getElem?_eq_some_iff.1 hr).1
    rwa [Qs] at this
   rw [Za hj] at hr hz
   cases hr
   cases hz
   obtain ⟨h1, h2, h3, h4, h5, h6, h7⟩ := hrow i (by omega)
   have hlen : ((Z i).take (L i)).length = L i := by rw [List.length_take]; omega
   refine ⟨⟨A i, C i, by rw [List.length_map, hlen], by rw [List.length_map, hlen]; exact h2, fun h0 => ?_⟩, by rw [List.length_map, hlen]; have := hsz i hj; omega⟩
   rw [List.length_map, hlen] at h0
   rcases hA : A i with _ | a'
   ·have := h6 hA; omega
   ·refine ⟨a', rfl, fun j u hu => ?_⟩
    rw [List.getElem?_map, List.getElem?_take] at hu
    split at hu
    ·rename_i hjl
     have hjz : j < (Z i).length := by omega
     rw [(h7 a' hA).2 j (by omega)]
     simp [hjz] at hu
     simp [hjz, hu]
    ·simp at hu
  ·rw [tab, List.mem_map] at hz
   obtain ⟨r, hr, rfl⟩ := hz
   have hr' := List.mem_range.1 hr
   obtain ⟨h1, h2, h3, h4, h5, h6, h7⟩ := hrow r (by omega)
   refine ⟨fun z hz => bounds_i64 (h5 z (List.mem_of_mem_take hz)), ?_⟩
   rw [List.length_take]
   have := hsz r hr'
   omega
  ·rw [Qs]; exact hlen0
end
end Go.Fr
