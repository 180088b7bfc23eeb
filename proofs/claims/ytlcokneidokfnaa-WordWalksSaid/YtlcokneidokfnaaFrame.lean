/-
  From the rows' data to the framework's words: an argument that is read as data gives lists of ints.
-/
import Derived.Test.YtlcokneidokfnaaSxRules
import Derived.WalkKit
import Derived.ProofKit
import Derived.OpenShut
import Derived.ShutString
import Derived.ChangeOld
import Derived.SizedLaws
namespace Go.Fr
open Go Go.Sx Go.Pl Go.RowKit Go.ChangeShapes Go.WideShapes
section
variable {H : Type} {enc : TypeId × Value → H} {P : Program} {w : World} {base : Nat} {spare : Nat → Bool} {held : Bool} {t e : TypeId} {fuel : Nat} {cs : List Value} {d : DataW H} {ps : List MemPlace}
/-- What was read lies within the form's reach. -/
def WOK (P : Program) (t : TypeId) (d : DataW H) : Prop := (d.weights P t).all (· ≤ reachBytes) = true
def Fits (z : Int) : Prop := -9223372036854775808 ≤ z ∧ z ≤ 9223372036854775807
theorem wok_arg {ts : List TypeId} {ds : List (DataW H)} (h : (DataW.weightsEach P ts ds).all (· ≤ reachBytes) = true) {j : Nat} (ht : ts[j]? = some t) (hd : ds[j]? = some d) : WOK P t d :=
  List.all_eq_true.2 fun n hn => List.all_eq_true.1 h n (DataW.weights_mem_each ht hd n hn)
theorem cop_int (ht : P.underlying t = some (.int .i64)) (h : DataW.trod enc P w base spare held fuel t cs = some (d, ps)) : ∃ n, cs = [.int .i64 n] ∧ Fits n := by
  obtain ⟨n, hcs, _, hw⟩ := DataW.trod_int ht h
  exact ⟨n, hcs, bounds_i64 hw⟩
theorem len_fit {n m : Nat} (h : n * 8 ≤ reachBytes) (hm : m ≤ n) : m ≤ 17592186044416 := by
  have h1 : reachBytes ≤ 140737488355328 := by decide
  omega
def LFit (zs : List Int) : Prop := (∀ z ∈ zs, Fits z) ∧ zs.length ≤ 17592186044416
theorem cop_intsL (ht : P.underlying t = some (.slice e)) (he : P.underlying e = some (.int .i64)) (hc : P.cellsOf e = 1) (hb : P.bytesOf e = 8) (h : DataW.trod enc P w base spare held fuel t cs = some (d, ps)) (hw : WOK P t d) :
    ∃ v zs, cs = [v] ∧ Ints w v zs ∧ LFit zs := by
  rcases open_ints ht he hc h with ⟨rfl, _⟩ | ⟨a, len, cap, zs, rfl, _, hl, _, hz, hx, hcell, hwz⟩
  · exact ⟨_, [], rfl, Ints.nil w, by simp, by simp⟩
  · obtain ⟨rfl, _⟩ := Prod.mk.inj hx
    have hzl : len ≤ zs.length := by rw [hz]; split <;> omega
    have hr : zs.length * 8 ≤ reachBytes := by
      have h1 := List.all_eq_true.1 hw ((lits (H := H) .i64 (zs.take len)).length * P.bytesOf e + (lits (H := H) .i64 (zs.drop len)).length * P.bytesOf e)
        (by simp [DataW.weights, ht, Nat.add_mul])
      rw [hb] at h1
      simp only [lits, List.length_map, List.length_take, List.length_drop, decide_eq_true_eq] at h1
      omega
    have hlen : (zs.take len).length = len := by rw [List.length_take]; omega
    refine ⟨_, zs.take len, rfl, ⟨⟨some a, cap, by rw [List.length_map, hlen], by simp only [List.length_map, hlen]; omega, fun _ => ⟨a, rfl, ?_⟩⟩, ?_⟩, fun z hz' => bounds_i64 (hwz z (List.mem_of_mem_take hz')), (by rw [hlen]; exact len_fit hr hzl)⟩
    · intro j u hu
      rw [List.getElem?_map, List.getElem?_take] at hu
      split at hu
      · rename_i hj
        have hjl : j < zs.length := by omega
        rw [hcell j hjl]
        simp [List.getElem?_eq_getElem hjl] at hu
        simp [hjl, hu]
      · simp at hu
    · have : reachBytes ≤ 140737488355328 := by decide
      simp only [List.length_map, hlen]
      omega
theorem cop_ints (ht : P.underlying t = some (.slice e)) (he : P.underlying e = some (.int .i64)) (hc : P.cellsOf e = 1) (hb : P.bytesOf e = 8) (h : DataW.trod enc P w base spare held fuel t cs = some (d, ps)) (hw : WOK P t d) :
    ∃ v zs, cs = [v] ∧ Ints w v zs ∧ ∀ z ∈ zs, Fits z := by
  obtain ⟨v, zs, h1, h2, h3⟩ := cop_intsL ht he hc hb h hw
  exact ⟨v, zs, h1, h2, h3.1⟩
theorem op_int {r : Reach} {b0 : Nat} {v : Value} (ht : P.underlying t = some (.int .i64)) (hval : Value.okWide P w r b0 t v) (hd : DataW.Trod enc P w base spare held t v d ps) : ∃ n, v = .int .i64 n ∧ Fits n := by
  obtain ⟨n, rfl, _, _, hw⟩ := open_int ht hval hd
  exact ⟨n, rfl, bounds_i64 hw⟩
theorem op_intsL {r : Reach} {b0 : Nat} {v : Value} (ht : P.underlying t = some (.slice e)) (he : P.underlying e = some (.int .i64)) (hc : P.cellsOf e = 1) (hb : P.bytesOf e = 8) (hval : Value.okWide P w r b0 t v) (hd : DataW.Trod enc P w base spare held t v d ps) (hw : WOK P t d) :
    ∃ zs, Ints w v zs ∧ LFit zs := by
  obtain ⟨a, len, cap, rfl⟩ := okWide_slice ht hval
  obtain ⟨fuel, hf⟩ := hd
  obtain ⟨v', zs, hcs, h1, h2⟩ := cop_intsL ht he hc hb hf hw
  have e1 : v' = .slice a len cap := by simpa [Value.cells] using hcs.symm
  subst e1
  exact ⟨zs, h1, h2⟩
theorem op_ints {r : Reach} {b0 : Nat} {v : Value} (ht : P.underlying t = some (.slice e)) (he : P.underlying e = some (.int .i64)) (hc : P.cellsOf e = 1) (hb : P.bytesOf e = 8) (hval : Value.okWide P w r b0 t v) (hd : DataW.Trod enc P w base spare held t v d ps) (hw : WOK P t d) :
    ∃ zs, Ints w v zs ∧ ∀ z ∈ zs, Fits z := by
  obtain ⟨zs, h1, h2⟩ := op_intsL ht he hc hb hval hd hw
  exact ⟨zs, h1, h2.1⟩
end
end Go.Fr
