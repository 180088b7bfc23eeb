/-
  Closed facts of this translation: the types of the field package.
-/
import Derived.Test.YtlcokneidokfnaaSxSlice
import Derived.Test.YtlcokneidokfnaaTypes
namespace Go.Proofs.Ytlcokneidokfnaa
open Go Go.Sx Go.Pl Go.RowKit
theorem infoI : Try.prog.info? 3 = some Try.t3 := by kernel_rfl
theorem szInt : ∀ w, (sizeOf 3).run Try.prog w = .ok 1 w := fun w => by simp [sizeOf, typeInfo, infoI]; rfl
theorem infoS : Try.prog.info? 26 = some Try.t26 := by kernel_rfl
theorem szSl : ∀ w, (sizeOf 26).run Try.prog w = .ok 1 w := fun w => by simp [sizeOf, typeInfo, infoS]; rfl
theorem infoF : Try.prog.info? 40 = some Try.t40 := by kernel_rfl
theorem szF : ∀ w, (sizeOf 40).run Try.prog w = .ok 3 w := fun w => by simp [sizeOf, typeInfo, infoF]; rfl
theorem infoG : Try.prog.info? 98 = some Try.t98 := by kernel_rfl
theorem szG : ∀ w, (sizeOf 98).run Try.prog w = .ok 6 w := fun w => by simp [sizeOf, typeInfo, infoG]; rfl
theorem na26 : NA Try.prog 26 := fun w => Try.isAgg26 w
theorem na4 : NA Try.prog 4 := fun w => Try.isAgg4 w
theorem ty93 : SlT Try.prog 93 4 (.bool false) 1 1 := ⟨by kernel_rfl, by kernel_rfl⟩
theorem sz4 : ∃ j, Try.prog.info? 4 = some j ∧ j.size = 1 := ⟨Try.t4, by kernel_rfl, by kernel_rfl⟩
theorem ag40 : AG Try.prog 40 3 := ⟨fun w => by simp [isAgg, run_underlying Try.underlying40], szF⟩
theorem fa40_0 : FA Try.prog 40 0 0 := fun a w => by
  simp [Instr.fieldAt, run_underlying Try.underlying40, Instr.sureAddr, fieldPlace, szInt]
theorem fa40_1 : FA Try.prog 40 1 1 := fun a w => by
  simp [Instr.fieldAt, run_underlying Try.underlying40, Instr.sureAddr, fieldPlace, szInt]
theorem fa40_2 : FA Try.prog 40 2 2 := fun a w => by
  simp [Instr.fieldAt, run_underlying Try.underlying40, Instr.sureAddr, fieldPlace, szSl]
theorem fa98_0 : FA Try.prog 98 0 0 := fun a w => by
  simp [Instr.fieldAt, run_underlying Try.underlying98, Instr.sureAddr, fieldPlace, szF]
theorem fa98_1 : FA Try.prog 98 1 3 := fun a w => by
  simp [Instr.fieldAt, run_underlying Try.underlying98, Instr.sureAddr, fieldPlace, szInt]
theorem fa98_2 : FA Try.prog 98 2 4 := fun a w => by
  simp [Instr.fieldAt, run_underlying Try.underlying98, Instr.sureAddr, fieldPlace, szSl]
theorem fa98_3 : FA Try.prog 98 3 5 := fun a w => by
  simp [Instr.fieldAt, run_underlying Try.underlying98, Instr.sureAddr, fieldPlace, szSl]
theorem cells_i (k : IntKind) (n : Int) : (Value.int k n).cells = #[.int k n] := rfl
theorem cells_s (a : Option Addr) (n c : Nat) : (Value.slice a n c).cells = #[.slice a n c] := rfl
theorem cells_a (cs : Array Value) : (Value.agg cs).cells = cs := rfl
theorem zeroF (w : World) : ∃ zv, (zeroValue 40).run Try.prog w = .ok zv w ∧ zv.cells = #[.int .i64 0, .int .i64 0, .slice none 0 0] := ⟨_, by simp [zeroValue, typeInfo, infoF]; rfl, rfl⟩
theorem zeroG (w : World) : ∃ zv, (zeroValue 98).run Try.prog w = .ok zv w ∧ zv.cells = #[.int .i64 0, .int .i64 0, .slice none 0 0, .int .i64 0, .slice none 0 0, .slice none 0 0] := ⟨_, by simp [zeroValue, typeInfo, infoG]; rfl, rfl⟩
theorem bdF (p M : Int) (v : Value) (hv : v.cells = #[v]) : ∀ w, (Instr.build 40 #[(0, .int .i64 p), (1, .int .i64 M), (2, v)]).run Try.prog w = .ok (.agg #[.int .i64 p, .int .i64 M, v]) w := fun w => by
  obtain ⟨zv, h1, h2⟩ := zeroF w
  simp [Instr.build, h1, h2, run_underlying Try.underlying40, szInt, szSl, Instr.fill, cells_i, hv]
theorem bdG (f0 f1 f2 : Value) (q : Int) (a b : Value) (ha : a.cells = #[a]) (hb : b.cells = #[b]) : ∀ w, (Instr.build 98 #[(0, .agg #[f0, f1, f2]), (1, .int .i64 q), (2, a), (3, b)]).run Try.prog w = .ok (.agg #[f0, f1, f2, .int .i64 q, a, b]) w := fun w => by
  obtain ⟨zv, h1, h2⟩ := zeroG w
  simp [Instr.build, h1, h2, run_underlying Try.underlying98, szInt, szSl, szF, Instr.fill, cells_i, ha, hb, cells_a]
theorem cells_ints {w : World} {v : Value} {zs : List Int} (h : Ints w v zs) : v.cells = #[v] := by
  obtain ⟨⟨a, c, rfl, _⟩, _⟩ := h
  rfl
theorem und4 : Try.prog.underlying 4 = some .bool := Try.underlying4
end Go.Proofs.Ytlcokneidokfnaa
