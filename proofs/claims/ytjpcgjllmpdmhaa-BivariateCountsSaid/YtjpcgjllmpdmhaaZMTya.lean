/-
  Closed facts of this translation: its types, as the walking framework asks for them. Closed facts of this translation: the types of the field package. Closed facts of this translation: slices of slices. Closed facts of this translation: slices of polynomials in two variables.
-/
import Derived.Test.YtjpcgjllmpdmhaaZMSxa
import Derived.Test.YtjpcgjllmpdmhaaProg
import Derived.KernelRfl
namespace Go.Proofs.Ytjpcgjllmpdmhaa
open Go Go.Sx Go.Pl Go.RowKit
theorem mixed : Try.prog.follows .mixedOrders = true := by kernel_rfl
theorem ty22 : SlT Try.prog 22 3 (.int .i64 0) 1 8 := ⟨by kernel_rfl, by kernel_rfl⟩
theorem na3 : NA Try.prog 3 := fun w => Try.isAgg3 w
theorem sz3 : ∃ j, Try.prog.info? 3 = some j ∧ j.size = 1 := ⟨Try.t3, by kernel_rfl, by kernel_rfl⟩
end Go.Proofs.Ytjpcgjllmpdmhaa

namespace Go.Proofs.Ytjpcgjllmpdmhaa
open Go Go.Sx Go.Pl Go.RowKit
theorem infoI : Try.prog.info? 3 = some Try.t3 := by kernel_rfl
theorem szInt : ∀ w, (sizeOf 3).run Try.prog w = .ok 1 w := fun w => by simp [sizeOf, typeInfo, infoI]; rfl
theorem infoS : Try.prog.info? 22 = some Try.t22 := by kernel_rfl
theorem szSl : ∀ w, (sizeOf 22).run Try.prog w = .ok 1 w := fun w => by simp [sizeOf, typeInfo, infoS]; rfl
theorem infoF : Try.prog.info? 24 = some Try.t24 := by kernel_rfl
theorem szF : ∀ w, (sizeOf 24).run Try.prog w = .ok 3 w := fun w => by simp [sizeOf, typeInfo, infoF]; rfl
theorem infoG : Try.prog.info? 108 = some Try.t108 := by kernel_rfl
theorem szG : ∀ w, (sizeOf 108).run Try.prog w = .ok 6 w := fun w => by simp [sizeOf, typeInfo, infoG]; rfl
theorem na22 : NA Try.prog 22 := fun w => Try.isAgg22 w
theorem na4 : NA Try.prog 4 := fun w => Try.isAgg4 w
theorem ty117 : SlT Try.prog 117 4 (.bool false) 1 1 := ⟨by kernel_rfl, by kernel_rfl⟩
theorem sz4 : ∃ j, Try.prog.info? 4 = some j ∧ j.size = 1 := ⟨Try.t4, by kernel_rfl, by kernel_rfl⟩
theorem ag24 : AG Try.prog 24 3 := ⟨fun w => by simp [isAgg, run_underlying Try.underlying24], szF⟩
theorem fa24_0 : FA Try.prog 24 0 0 := fun a w => by
  simp [Instr.fieldAt, run_underlying Try.underlying24, Instr.sureAddr, fieldPlace, szInt]
theorem fa24_1 : FA Try.prog 24 1 1 := fun a w => by
  simp [Instr.fieldAt, run_underlying Try.underlying24, Instr.sureAddr, fieldPlace, szInt]
theorem fa24_2 : FA Try.prog 24 2 2 := fun a w => by
  simp [Instr.fieldAt, run_underlying Try.underlying24, Instr.sureAddr, fieldPlace, szSl]
theorem fa108_0 : FA Try.prog 108 0 0 := fun a w => by
  simp [Instr.fieldAt, run_underlying Try.underlying108, Instr.sureAddr, fieldPlace, szF]
theorem fa108_1 : FA Try.prog 108 1 3 := fun a w => by
  simp [Instr.fieldAt, run_underlying Try.underlying108, Instr.sureAddr, fieldPlace, szInt]
theorem fa108_2 : FA Try.prog 108 2 4 := fun a w => by
  simp [Instr.fieldAt, run_underlying Try.underlying108, Instr.sureAddr, fieldPlace, szSl]
theorem fa108_3 : FA Try.prog 108 3 5 := fun a w => by
  simp [Instr.fieldAt, run_underlying Try.underlying108, Instr.sureAddr, fieldPlace, szSl]
theorem cells_i (k : IntKind) (n : Int) : (Value.int k n).cells = #[.int k n] := rfl
theorem cells_s (a : Option Addr) (n c : Nat) : (Value.slice a n c).cells = #[.slice a n c] := rfl
theorem cells_a (cs : Array Value) : (Value.agg cs).cells = cs := rfl
theorem zeroF (w : World) : ∃ zv, (zeroValue 24).run Try.prog w = .ok zv w ∧ zv.cells = #[.int .i64 0, .int .i64 0, .slice none 0 0] := ⟨_, by simp [zeroValue, typeInfo, infoF]; rfl, rfl⟩
theorem zeroG (w : World) : ∃ zv, (zeroValue 108).run Try.prog w = .ok zv w ∧ zv.cells = #[.int .i64 0, .int .i64 0, .slice none 0 0, .int .i64 0, .slice none 0 0, .slice none 0 0] := ⟨_, by simp [zeroValue, typeInfo, infoG]; rfl, rfl⟩
theorem bdF (p M : Int) (v : Value) (hv : v.cells = #[v]) : ∀ w, (Instr.build 24 #[(0, .int .i64 p), (1, .int .i64 M), (2, v)]).run Try.prog w = .ok (.agg #[.int .i64 p, .int .i64 M, v]) w := fun w => by
  obtain ⟨zv, h1, h2⟩ := zeroF w
  simp [Instr.build, h1, h2, run_underlying Try.underlying24, szInt, szSl, Instr.fill, cells_i, hv]
theorem bdG (f0 f1 f2 : Value) (q : Int) (a b : Value) (ha : a.cells = #[a]) (hb : b.cells = #[b]) : ∀ w, (Instr.build 108 #[(0, .agg #[f0, f1, f2]), (1, .int .i64 q), (2, a), (3, b)]).run Try.prog w = .ok (.agg #[f0, f1, f2, .int .i64 q, a, b]) w := fun w => by
  obtain ⟨zv, h1, h2⟩ := zeroG w
  simp [Instr.build, h1, h2, run_underlying Try.underlying108, szInt, szSl, szF, Instr.fill, cells_i, ha, hb, cells_a]
theorem cells_ints {w : World} {v : Value} {zs : List Int} (h : Ints w v zs) : v.cells = #[v] := by
  obtain ⟨⟨a, c, rfl, _⟩, _⟩ := h
  rfl
theorem und4 : Try.prog.underlying 4 = some .bool := Try.underlying4
end Go.Proofs.Ytjpcgjllmpdmhaa

namespace Go.Proofs.Ytjpcgjllmpdmhaa
open Go Go.Sx Go.Pl Go.RowKit
theorem ty25 : SlT Try.prog 25 22 (.slice none 0 0) 1 24 := ⟨by kernel_rfl, by kernel_rfl⟩
theorem ty26 : SlT Try.prog 26 22 (.slice none 0 0) 1 24 := ⟨by kernel_rfl, by kernel_rfl⟩
theorem sz22 : ∃ j, Try.prog.info? 22 = some j ∧ j.size = 1 := ⟨Try.t22, by kernel_rfl, by kernel_rfl⟩
theorem na25 : NA Try.prog 25 := fun w => Try.isAgg25 w
theorem infoLL : Try.prog.info? 25 = some Try.t25 := by kernel_rfl
theorem zv25 : ZV Try.prog 25 [.slice none 0 0] := fun w => ⟨_, by simp [zeroValue, typeInfo, infoLL]; rfl, rfl⟩
theorem sv25 : ∀ w, (sizeOf 25).run Try.prog w = .ok 1 w := fun w => by simp [sizeOf, typeInfo, infoLL]; rfl
end Go.Proofs.Ytjpcgjllmpdmhaa

namespace Go.Proofs.Ytjpcgjllmpdmhaa
open Go Go.Sx Go.Pl Go.RowKit
theorem tyBs : SlT Try.prog 86 26 (.slice none 0 0) 1 24 := ⟨by kernel_rfl, by kernel_rfl⟩
theorem ty86 : SlT Try.prog 86 26 (.slice none 0 0) 1 24 := tyBs
theorem na26 : NA Try.prog 26 := fun w => Try.isAgg26 w
theorem sz26 : ∃ j, Try.prog.info? 26 = some j ∧ j.size = 1 := ⟨Try.t26, by kernel_rfl, by kernel_rfl⟩
end Go.Proofs.Ytjpcgjllmpdmhaa
