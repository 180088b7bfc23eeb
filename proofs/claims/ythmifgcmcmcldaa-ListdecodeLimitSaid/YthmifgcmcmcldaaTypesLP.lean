/-
  Closed facts of this translation: the struct of the list decoder's parameters.
-/
import Derived.Test.YthmifgcmcmcldaaSxStruct
import Derived.Test.YthmifgcmcmcldaaTypes
namespace Go.Proofs.Ythmifgcmcmcldaa
open Go Go.Sx Go.Pl Go.RowKit
theorem infoLP : Try.prog.info? 24 = some Try.t24 := by kernel_rfl
theorem infoI : Try.prog.info? 3 = some Try.t3 := by kernel_rfl
theorem zv24 : ZV Try.prog 24 [.int .i64 0, .int .i64 0, .int .i64 0] := fun w => ⟨_, by simp [zeroValue, typeInfo, infoLP]; rfl, rfl⟩
theorem sv24 : ∀ w, (sizeOf 24).run Try.prog w = .ok 3 w := fun w => by simp [sizeOf, typeInfo, infoLP]; rfl
theorem cells_i (k : IntKind) (n : Int) : (Value.int k n).cells = #[.int k n] := rfl
theorem szI : ∀ w, (sizeOf 3).run Try.prog w = .ok 1 w := fun w => by simp [sizeOf, typeInfo, infoI]; rfl
theorem ag24 : AG Try.prog 24 3 := ⟨fun w => by simp [isAgg, run_underlying Try.underlying24], sv24⟩
theorem bd24 (a b c : Int) : ∀ w, (Instr.build 24 #[(0, .int .i64 a), (1, .int .i64 b), (2, .int .i64 c)]).run Try.prog w = .ok (.agg #[.int .i64 a, .int .i64 b, .int .i64 c]) w := fun w => by
  obtain ⟨zv, h1, h2⟩ := zv24 w
  simp [Instr.build, h1, h2, run_underlying Try.underlying24, szI, Instr.fill, cells_i]
theorem bz24 : ∀ w, (Instr.build 24 #[]).run Try.prog w = .ok (.agg #[.int .i64 0, .int .i64 0, .int .i64 0]) w := fun w => by
  obtain ⟨zv, h1, h2⟩ := zv24 w
  simp [Instr.build, h1, h2, run_underlying Try.underlying24, szI, Instr.fill, cells_i]
theorem eqg24 : Try.prog.eqGuardType Try.prog.depth 24 = false := by kernel_rfl
theorem stood24 : Try.prog.stoodInHeld 24 = false := by kernel_rfl
theorem na3' (w : World) : (isAgg 3).run Try.prog w = .ok false w := Try.isAgg3 w
theorem eqI (d : Nat) (a b : Int) (w : World) : (Op.equalIn (d + 1) 3 (.int .i64 a) (.int .i64 b)).run Try.prog w = .ok (a == b) w := by
  simp [Op.equalIn, run_underlying Try.underlying3]
theorem eqs24 : EQS Try.prog 24 3 := by
  intro xs ys hx hy w
  match xs, ys, hx, hy with
  | [a, b, c], [a', b', c'], _, _ =>
    have hd : ∃ d, Op.maxDepth = d + 2 := ⟨Op.maxDepth - 2, rfl⟩
    obtain ⟨d, hd⟩ := hd
    simp [Op.equal, hd, Op.equalIn.eq_2, run_underlying Try.underlying24, stood24, part, na3', eqI]
    by_cases h1 : a = a' <;> by_cases h2 : b = b' <;> by_cases h3 : c = c' <;> simp [h1, h2, h3]
theorem und4 : Try.prog.underlying 4 = some .bool := Try.underlying4
theorem fa24_2 : FA Try.prog 24 2 2 := fun a w => by
  simp [Instr.fieldAt, run_underlying Try.underlying24, Instr.sureAddr, fieldPlace]
end Go.Proofs.Ythmifgcmcmcldaa
