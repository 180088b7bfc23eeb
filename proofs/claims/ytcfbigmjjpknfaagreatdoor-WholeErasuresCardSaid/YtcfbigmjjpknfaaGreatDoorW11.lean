import Derived.Test.YtcfbigmjjpknfaaGreatDoorW09
import Derived.Test.YtcfbigmjjpknfaaGreatDoorW10
import Derived.Lib.AppendZerosOnto
namespace Go.Proofs.YtcfbigmjjpknfaaGreatDoor
open Go Go.Sx Go.Pl Go.RowKit
theorem sv3 : ∀ w, (sizeOf 3).run Tryz.prog w = .ok 1 w := QaG
theorem inf9 : Tryz.prog.info? 9 = some Tryz.t9 := by kernel_rfl
theorem sv9 : ∀ w, (sizeOf 9).run Tryz.prog w = .ok 1 w := fun w => by simp [sizeOf, typeInfo, inf9]; rfl
theorem sv22 : ∀ w, (sizeOf 22).run Tryz.prog w = .ok 1 w := szSl
theorem inf44 : Tryz.prog.info? 44 = some Tryz.t44 := by kernel_rfl
theorem sv44 : ∀ w, (sizeOf 44).run Tryz.prog w = .ok 1 w := fun w => by simp [sizeOf, typeInfo, inf44]; rfl
theorem inf46 : Tryz.prog.info? 46 = some Tryz.t46 := by kernel_rfl
theorem QdD : ∀ w, (sizeOf 46).run Tryz.prog w = .ok 5 w := fun w => by simp [sizeOf, typeInfo, inf46]; rfl
theorem zv46 : ZV Tryz.prog 46 [.int .i64 0, .string ⟨#[]⟩, .int .i64 0, .slice none 0 0, .slice none 0 0] := fun w => ⟨_, by simp [zeroValue, typeInfo, inf46]; rfl, rfl⟩
theorem XV : AG Tryz.prog 46 5 := ⟨fun w => by simp [isAgg, run_underlying Tryz.underlying46], QdD⟩
theorem KI : FA Tryz.prog 46 0 0 := fun a w => by
 simp [Instr.fieldAt, run_underlying Tryz.underlying46, Instr.sureAddr, fieldPlace]
theorem QcX : FA Tryz.prog 46 1 1 := fun a w => by
 simp [Instr.fieldAt, run_underlying Tryz.underlying46, Instr.sureAddr, fieldPlace]
theorem QcW : FA Tryz.prog 46 2 2 := fun a w => by
 simp [Instr.fieldAt, run_underlying Tryz.underlying46, Instr.sureAddr, fieldPlace]
theorem QcV : FA Tryz.prog 46 3 3 := fun a w => by
 simp [Instr.fieldAt, run_underlying Tryz.underlying46, Instr.sureAddr, fieldPlace]
theorem Jv : FA Tryz.prog 46 4 4 := fun a w => by
 simp [Instr.fieldAt, run_underlying Tryz.underlying46, Instr.sureAddr, fieldPlace]
theorem inf130 : Tryz.prog.info? 130 = some Tryz.t130 := by kernel_rfl
theorem sv130 : ∀ w, (sizeOf 130).run Tryz.prog w = .ok 4 w := fun w => by simp [sizeOf, typeInfo, inf130]; rfl
theorem zv130 : ZV Tryz.prog 130 [.int .i64 0, .string ⟨#[]⟩, .int .i64 0, .int .i64 0] := fun w => ⟨_, by simp [zeroValue, typeInfo, inf130]; rfl, rfl⟩
theorem ag130 : AG Tryz.prog 130 4 := ⟨fun w => by simp [isAgg, run_underlying Tryz.underlying130], sv130⟩
theorem fa130_0 : FA Tryz.prog 130 0 0 := fun a w => by
 simp [Instr.fieldAt, run_underlying Tryz.underlying130, Instr.sureAddr, fieldPlace]
theorem XI : FA Tryz.prog 130 1 1 := fun a w => by
 simp [Instr.fieldAt, run_underlying Tryz.underlying130, Instr.sureAddr, fieldPlace]
theorem fa130_2 : FA Tryz.prog 130 2 2 := fun a w => by
 simp [Instr.fieldAt, run_underlying Tryz.underlying130, Instr.sureAddr, fieldPlace]
theorem fa130_3 : FA Tryz.prog 130 3 3 := fun a w => by
 simp [Instr.fieldAt, run_underlying Tryz.underlying130, Instr.sureAddr, fieldPlace]
theorem inf83 : Tryz.prog.info? 83 = some Tryz.t83 := by kernel_rfl
theorem sv83 : ∀ w, (sizeOf 83).run Tryz.prog w = .ok 1 w := fun w => by simp [sizeOf, typeInfo, inf83]; rfl
theorem inf86 : Tryz.prog.info? 86 = some Tryz.t86 := by kernel_rfl
theorem zv86 : ZV Tryz.prog 86 [.slice none 0 0, .int .i64 0, .int .i64 0, .int .i64 0] := fun w => ⟨_, by simp [zeroValue, typeInfo, inf86]; rfl, rfl⟩
theorem KH : FA Tryz.prog 86 0 0 := fun a w => by
 simp [Instr.fieldAt, run_underlying Tryz.underlying86, Instr.sureAddr, fieldPlace]
theorem JV : FA Tryz.prog 86 1 1 := fun a w => by
 simp [Instr.fieldAt, run_underlying Tryz.underlying86, Instr.sureAddr, fieldPlace]
theorem fa86_2 : FA Tryz.prog 86 2 2 := fun a w => by
 simp [Instr.fieldAt, run_underlying Tryz.underlying86, Instr.sureAddr, fieldPlace]
theorem fa86_3 : FA Tryz.prog 86 3 3 := fun a w => by
 simp [Instr.fieldAt, run_underlying Tryz.underlying86, Instr.sureAddr, fieldPlace]
theorem sv24 : ∀ w, (sizeOf 24).run Tryz.prog w = .ok 3 w := szF
theorem inf91 : Tryz.prog.info? 91 = some Tryz.t91 := by kernel_rfl
theorem sv91 : ∀ w, (sizeOf 91).run Tryz.prog w = .ok 10 w := fun w => by simp [sizeOf, typeInfo, inf91]; rfl
theorem zv91 : ZV Tryz.prog 91 [.int .i64 0, .int .i64 0, .slice none 0 0, .int .i64 0, .int .i64 0, .slice none 0 0, .int .i64 0, .slice none 0 0, .int .i64 0, .slice none 0 0] := fun w => ⟨_, by simp [zeroValue, typeInfo, inf91]; rfl, rfl⟩
theorem ag91 : AG Tryz.prog 91 10 := ⟨fun w => by simp [isAgg, run_underlying Tryz.underlying91], sv91⟩
theorem fa91_0 : FA Tryz.prog 91 0 0 := fun a w => by
 simp [Instr.fieldAt, run_underlying Tryz.underlying91, Instr.sureAddr, fieldPlace]
theorem fa91_1 : FA Tryz.prog 91 1 3 := fun a w => by
 simp [Instr.fieldAt, run_underlying Tryz.underlying91, Instr.sureAddr, fieldPlace]
theorem fa91_2 : FA Tryz.prog 91 2 8 := fun a w => by
 simp [Instr.fieldAt, run_underlying Tryz.underlying91, Instr.sureAddr, fieldPlace]
theorem inf173 : Tryz.prog.info? 173 = some Tryz.t173 := by kernel_rfl
theorem sv173 : ∀ w, (sizeOf 173).run Tryz.prog w = .ok 1 w := fun w => by simp [sizeOf, typeInfo, inf173]; rfl
theorem inf174 : Tryz.prog.info? 174 = some Tryz.t174 := by kernel_rfl
theorem sv174 : ∀ w, (sizeOf 174).run Tryz.prog w = .ok 1 w := fun w => by simp [sizeOf, typeInfo, inf174]; rfl
theorem inf176 : Tryz.prog.info? 176 = some Tryz.t176 := by kernel_rfl
theorem XY : ∀ w, (sizeOf 176).run Tryz.prog w = .ok 3 w := fun w => by simp [sizeOf, typeInfo, inf176]; rfl
theorem XW : ZV Tryz.prog 176 [.string ⟨#[]⟩, .nilFunc, .nilFunc] := fun w => ⟨_, by simp [zeroValue, typeInfo, inf176]; rfl, rfl⟩
theorem KT : AG Tryz.prog 176 3 := ⟨fun w => by simp [isAgg, run_underlying Tryz.underlying176], XY⟩
theorem fa176_0 : FA Tryz.prog 176 0 0 := fun a w => by
 simp [Instr.fieldAt, run_underlying Tryz.underlying176, Instr.sureAddr, fieldPlace]
theorem fa176_1 : FA Tryz.prog 176 1 1 := fun a w => by
 simp [Instr.fieldAt, run_underlying Tryz.underlying176, Instr.sureAddr, fieldPlace]
theorem fa176_2 : FA Tryz.prog 176 2 2 := fun a w => by
 simp [Instr.fieldAt, run_underlying Tryz.underlying176, Instr.sureAddr, fieldPlace]
theorem inf168 : Tryz.prog.info? 168 = some Tryz.t168 := by kernel_rfl
theorem sv168 : ∀ w, (sizeOf 168).run Tryz.prog w = .ok 1 w := fun w => by simp [sizeOf, typeInfo, inf168]; rfl
theorem inf169 : Tryz.prog.info? 169 = some Tryz.t169 := by kernel_rfl
theorem sv169 : ∀ w, (sizeOf 169).run Tryz.prog w = .ok 1 w := fun w => by simp [sizeOf, typeInfo, inf169]; rfl
theorem QcS : Tryz.prog.info? 171 = some Tryz.t171 := by kernel_rfl
theorem zv171 : ZV Tryz.prog 171 [.pointer none, .slice none 0 0] := fun w => ⟨_, by simp [zeroValue, typeInfo, QcS]; rfl, rfl⟩
theorem QaX : FA Tryz.prog 171 0 0 := fun a w => by
 simp [Instr.fieldAt, run_underlying Tryz.underlying171, Instr.sureAddr, fieldPlace]
theorem KJ : FA Tryz.prog 171 1 1 := fun a w => by
 simp [Instr.fieldAt, run_underlying Tryz.underlying171, Instr.sureAddr, fieldPlace]
theorem inf58 : Tryz.prog.info? 58 = some Tryz.t58 := by kernel_rfl
theorem sv58 : ∀ w, (sizeOf 58).run Tryz.prog w = .ok 2 w := fun w => by simp [sizeOf, typeInfo, inf58]; rfl
theorem zv58 : ZV Tryz.prog 58 [.int .i64 0, .slice none 0 0] := fun w => ⟨_, by simp [zeroValue, typeInfo, inf58]; rfl, rfl⟩
theorem ag58 : AG Tryz.prog 58 2 := ⟨fun w => by simp [isAgg, run_underlying Tryz.underlying58], sv58⟩
theorem fa58_0 : FA Tryz.prog 58 0 0 := fun a w => by
 simp [Instr.fieldAt, run_underlying Tryz.underlying58, Instr.sureAddr, fieldPlace]
theorem QbG : FA Tryz.prog 58 1 1 := fun a w => by
 simp [Instr.fieldAt, run_underlying Tryz.underlying58, Instr.sureAddr, fieldPlace]
theorem sv61 : ∀ w, (sizeOf 61).run Tryz.prog w = .ok 1 w := szPt
theorem inf117 : Tryz.prog.info? 117 = some Tryz.t117 := by kernel_rfl
theorem sv117 : ∀ w, (sizeOf 117).run Tryz.prog w = .ok 4 w := fun w => by simp [sizeOf, typeInfo, inf117]; rfl
theorem zv117 : ZV Tryz.prog 117 [.pointer none, .int .i64 0, .slice none 0 0, .slice none 0 0] := fun w => ⟨_, by simp [zeroValue, typeInfo, inf117]; rfl, rfl⟩
theorem ag117 : AG Tryz.prog 117 4 := ⟨fun w => by simp [isAgg, run_underlying Tryz.underlying117], sv117⟩
theorem inf145 : Tryz.prog.info? 145 = some Tryz.t145 := by kernel_rfl
theorem sv145 : ∀ w, (sizeOf 145).run Tryz.prog w = .ok 1 w := fun w => by simp [sizeOf, typeInfo, inf145]; rfl
theorem inf147 : Tryz.prog.info? 147 = some Tryz.t147 := by kernel_rfl
theorem zv147 : ZV Tryz.prog 147 [.pointer none, .int .i64 0, .int .i64 0, .slice none 0 0, .int .i64 0, .slice none 0 0, .slice none 0 0, .slice none 0 0, .int .i64 0] := fun w => ⟨_, by simp [zeroValue, typeInfo, inf147]; rfl, rfl⟩
theorem XH : FA Tryz.prog 147 0 0 := fun a w => by
 simp [Instr.fieldAt, run_underlying Tryz.underlying147, Instr.sureAddr, fieldPlace]
theorem fa147_1 : FA Tryz.prog 147 1 1 := fun a w => by
 simp [Instr.fieldAt, run_underlying Tryz.underlying147, Instr.sureAddr, fieldPlace]
theorem Qa1 : FA Tryz.prog 147 2 6 := fun a w => by
 simp [Instr.fieldAt, run_underlying Tryz.underlying147, Instr.sureAddr, fieldPlace]
theorem Xc : FA Tryz.prog 147 3 7 := fun a w => by
 simp [Instr.fieldAt, run_underlying Tryz.underlying147, Instr.sureAddr, fieldPlace]
theorem Qa0 : FA Tryz.prog 147 4 8 := fun a w => by
 simp [Instr.fieldAt, run_underlying Tryz.underlying147, Instr.sureAddr, fieldPlace]
theorem inf149 : Tryz.prog.info? 149 = some Tryz.t149 := by kernel_rfl
theorem sv149 : ∀ w, (sizeOf 149).run Tryz.prog w = .ok 2 w := fun w => by simp [sizeOf, typeInfo, inf149]; rfl
theorem zv149 : ZV Tryz.prog 149 [.slice none 0 0, .int .i64 0] := fun w => ⟨_, by simp [zeroValue, typeInfo, inf149]; rfl, rfl⟩
theorem ag149 : AG Tryz.prog 149 2 := ⟨fun w => by simp [isAgg, run_underlying Tryz.underlying149], sv149⟩
theorem QaZ : FA Tryz.prog 149 0 0 := fun a w => by
 simp [Instr.fieldAt, run_underlying Tryz.underlying149, Instr.sureAddr, fieldPlace]
theorem QaY : FA Tryz.prog 149 1 1 := fun a w => by
 simp [Instr.fieldAt, run_underlying Tryz.underlying149, Instr.sureAddr, fieldPlace]
theorem inf154 : Tryz.prog.info? 154 = some Tryz.t154 := by kernel_rfl
theorem zv154 : ZV Tryz.prog 154 [.int .i64 0, .int .i64 0, .int .i64 0, .int .i64 0] := fun w => ⟨_, by simp [zeroValue, typeInfo, inf154]; rfl, rfl⟩
theorem inf245 : Tryz.prog.info? 245 = some Tryz.t245 := by kernel_rfl
theorem zv245 : ZV Tryz.prog 245 [.pointer none, .slice none 0 0, .slice none 0 0] := fun w => ⟨_, by simp [zeroValue, typeInfo, inf245]; rfl, rfl⟩
theorem QaW : FA Tryz.prog 245 0 0 := fun a w => by
 simp [Instr.fieldAt, run_underlying Tryz.underlying245, Instr.sureAddr, fieldPlace]
theorem Qcj : FA Tryz.prog 245 1 1 := fun a w => by
 simp [Instr.fieldAt, run_underlying Tryz.underlying245, Instr.sureAddr, fieldPlace]
theorem Qci : FA Tryz.prog 245 2 2 := fun a w => by
 simp [Instr.fieldAt, run_underlying Tryz.underlying245, Instr.sureAddr, fieldPlace]
theorem bd24_0_1 (x0 x1 : Value) (g0 : x0.cells = #[x0]) (g1 : x1.cells = #[x1]) : ∀ w, (Instr.build 24 #[(0, x0), (1, x1)]).run Tryz.prog w = .ok (.agg #[x0, x1, .slice none 0 0]) w := fun w => by
 obtain ⟨zv, h1, h2⟩ := zeroF w
 simp [Instr.build, h1, h2, run_underlying Tryz.underlying24, Instr.fill, g0, g1]
theorem bd39_0 (x0 : Value) (g0 : x0.cells = #[x0]) : ∀ w, (Instr.build 39 #[(0, x0)]).run Tryz.prog w = .ok (.agg #[x0, .slice none 0 0]) w := fun w => by
 obtain ⟨zv, h1, h2⟩ := KW w
 simp [Instr.build, h1, h2, run_underlying Tryz.underlying39, Instr.fill, g0]
theorem Qc2 (x0 x1 : Value) (g0 : x0.cells = #[x0]) (g1 : x1.cells = #[x1]) : ∀ w, (Instr.build 46 #[(0, x0), (1, x1)]).run Tryz.prog w = .ok (.agg #[x0, x1, .int .i64 0, .slice none 0 0, .slice none 0 0]) w := fun w => by
 obtain ⟨zv, h1, h2⟩ := zv46 w
 simp [Instr.build, h1, h2, run_underlying Tryz.underlying46, Instr.fill, g0, g1]
theorem bd46_0_2 (x0 x2 : Value) (g0 : x0.cells = #[x0]) (g2 : x2.cells = #[x2]) : ∀ w, (Instr.build 46 #[(0, x0), (2, x2)]).run Tryz.prog w = .ok (.agg #[x0, .string ⟨#[]⟩, x2, .slice none 0 0, .slice none 0 0]) w := fun w => by
 obtain ⟨zv, h1, h2⟩ := zv46 w
 simp [Instr.build, h1, h2, run_underlying Tryz.underlying46, Instr.fill, g0, g2]
theorem bd58_0 (x0 : Value) (g0 : x0.cells = #[x0]) : ∀ w, (Instr.build 58 #[(0, x0)]).run Tryz.prog w = .ok (.agg #[x0, .slice none 0 0]) w := fun w => by
 obtain ⟨zv, h1, h2⟩ := zv58 w
 simp [Instr.build, h1, h2, run_underlying Tryz.underlying58, Instr.fill, g0]
theorem bd86_0_2 (x0 x2 : Value) (g0 : x0.cells = #[x0]) (g2 : x2.cells = #[x2]) : ∀ w, (Instr.build 86 #[(0, x0), (2, x2)]).run Tryz.prog w = .ok (.agg #[x0, .int .i64 0, x2, .int .i64 0]) w := fun w => by
 obtain ⟨zv, h1, h2⟩ := zv86 w
 simp [Instr.build, h1, h2, run_underlying Tryz.underlying86, Instr.fill, g0, g2]
theorem bd91_0 (c0_0 c0_1 c0_2 : Value) : ∀ w, (Instr.build 91 #[(0, .agg #[c0_0, c0_1, c0_2])]).run Tryz.prog w = .ok (.agg #[c0_0, c0_1, c0_2, .int .i64 0, .int .i64 0, .slice none 0 0, .int .i64 0, .slice none 0 0, .int .i64 0, .slice none 0 0]) w := fun w => by
 obtain ⟨zv, h1, h2⟩ := zv91 w
 simp [Instr.build, h1, h2, run_underlying Tryz.underlying91, Instr.fill, Zo]
theorem bd91_1 (c1_0 c1_1 c1_2 c1_3 c1_4 : Value) : ∀ w, (Instr.build 91 #[(1, .agg #[c1_0, c1_1, c1_2, c1_3, c1_4])]).run Tryz.prog w = .ok (.agg #[.int .i64 0, .int .i64 0, .slice none 0 0, c1_0, c1_1, c1_2, c1_3, c1_4, .int .i64 0, .slice none 0 0]) w := fun w => by
 obtain ⟨zv, h1, h2⟩ := zv91 w
 simp [Instr.build, h1, h2, run_underlying Tryz.underlying91, Instr.fill, Zo]
theorem bd91_2 (x2 : Value) (g2 : x2.cells = #[x2]) : ∀ w, (Instr.build 91 #[(2, x2)]).run Tryz.prog w = .ok (.agg #[.int .i64 0, .int .i64 0, .slice none 0 0, .int .i64 0, .int .i64 0, .slice none 0 0, .int .i64 0, .slice none 0 0, x2, .slice none 0 0]) w := fun w => by
 obtain ⟨zv, h1, h2⟩ := zv91 w
 simp [Instr.build, h1, h2, run_underlying Tryz.underlying91, Instr.fill, g2]
theorem Qcp (x0 c1_0 c1_1 x2 : Value) (g0 : x0.cells = #[x0]) (g2 : x2.cells = #[x2]) : ∀ w, (Instr.build 117 #[(0, x0), (1, .agg #[c1_0, c1_1]), (2, x2)]).run Tryz.prog w = .ok (.agg #[x0, c1_0, c1_1, x2]) w := fun w => by
 obtain ⟨zv, h1, h2⟩ := zv117 w
 simp [Instr.build, h1, h2, run_underlying Tryz.underlying117, Instr.fill, Zo, g0, g2]
theorem Qbc (x0 x1 x2 x3 : Value) (g0 : x0.cells = #[x0]) (g1 : x1.cells = #[x1]) (g2 : x2.cells = #[x2]) (g3 : x3.cells = #[x3]) : ∀ w, (Instr.build 130 #[(0, x0), (1, x1), (2, x2), (3, x3)]).run Tryz.prog w = .ok (.agg #[x0, x1, x2, x3]) w := fun w => by
 obtain ⟨zv, h1, h2⟩ := zv130 w
 simp [Instr.build, h1, h2, run_underlying Tryz.underlying130, Instr.fill, g0, g1, g2, g3]
theorem KR (x0 x1 x3 : Value) (g0 : x0.cells = #[x0]) (g1 : x1.cells = #[x1]) (g3 : x3.cells = #[x3]) : ∀ w, (Instr.build 130 #[(0, x0), (1, x1), (3, x3)]).run Tryz.prog w = .ok (.agg #[x0, x1, .int .i64 0, x3]) w := fun w => by
 obtain ⟨zv, h1, h2⟩ := zv130 w
 simp [Instr.build, h1, h2, run_underlying Tryz.underlying130, Instr.fill, g0, g1, g3]
theorem bd147_0_1 (x0 c1_0 c1_1 c1_2 c1_3 c1_4 : Value) (g0 : x0.cells = #[x0]) : ∀ w, (Instr.build 147 #[(0, x0), (1, .agg #[c1_0, c1_1, c1_2, c1_3, c1_4])]).run Tryz.prog w = .ok (.agg #[x0, c1_0, c1_1, c1_2, c1_3, c1_4, .slice none 0 0, .slice none 0 0, .int .i64 0]) w := fun w => by
 obtain ⟨zv, h1, h2⟩ := zv147 w
 simp [Instr.build, h1, h2, run_underlying Tryz.underlying147, Instr.fill, Zo, g0]
theorem bd149_0 (x0 : Value) (g0 : x0.cells = #[x0]) : ∀ w, (Instr.build 149 #[(0, x0)]).run Tryz.prog w = .ok (.agg #[x0, .int .i64 0]) w := fun w => by
 obtain ⟨zv, h1, h2⟩ := zv149 w
 simp [Instr.build, h1, h2, run_underlying Tryz.underlying149, Instr.fill, g0]
theorem Qbb (x0 x1 x2 x3 : Value) (g0 : x0.cells = #[x0]) (g1 : x1.cells = #[x1]) (g2 : x2.cells = #[x2]) (g3 : x3.cells = #[x3]) : ∀ w, (Instr.build 154 #[(0, x0), (1, x1), (2, x2), (3, x3)]).run Tryz.prog w = .ok (.agg #[x0, x1, x2, x3]) w := fun w => by
 obtain ⟨zv, h1, h2⟩ := zv154 w
 simp [Instr.build, h1, h2, run_underlying Tryz.underlying154, Instr.fill, g0, g1, g2, g3]
theorem KQ (x0 x1 x2 : Value) (g0 : x0.cells = #[x0]) (g1 : x1.cells = #[x1]) (g2 : x2.cells = #[x2]) : ∀ w, (Instr.build 176 #[(0, x0), (1, x1), (2, x2)]).run Tryz.prog w = .ok (.agg #[x0, x1, x2]) w := fun w => by
 obtain ⟨zv, h1, h2⟩ := XW w
 simp [Instr.build, h1, h2, run_underlying Tryz.underlying176, Instr.fill, g0, g1, g2]
theorem bd245_0 (x0 : Value) (g0 : x0.cells = #[x0]) : ∀ w, (Instr.build 245 #[(0, x0)]).run Tryz.prog w = .ok (.agg #[x0, .slice none 0 0, .slice none 0 0]) w := fun w => by
 obtain ⟨zv, h1, h2⟩ := zv245 w
 simp [Instr.build, h1, h2, run_underlying Tryz.underlying245, Instr.fill, g0]
theorem na9 : NA Tryz.prog 9 := fun w => Tryz.isAgg9 w
theorem inf31 : Tryz.prog.info? 31 = some Tryz.t31 := by kernel_rfl
theorem sv31 : ∀ w, (sizeOf 31).run Tryz.prog w = .ok 1 w := fun w => by simp [sizeOf, typeInfo, inf31]; rfl
theorem na31 : NA Tryz.prog 31 := fun w => Tryz.isAgg31 w
theorem na44 : NA Tryz.prog 44 := fun w => Tryz.isAgg44 w
theorem na83 : NA Tryz.prog 83 := fun w => Tryz.isAgg83 w
theorem inf182 : Tryz.prog.info? 182 = some Tryz.t182 := by kernel_rfl
theorem Qaa : NA Tryz.prog 168 := fun w => Tryz.isAgg168 w
theorem na145 : NA Tryz.prog 145 := fun w => Tryz.isAgg145 w
theorem na169 : NA Tryz.prog 169 := fun w => Tryz.isAgg169 w
theorem inf68 : Tryz.prog.info? 68 = some Tryz.t68 := by kernel_rfl
theorem sv68 : ∀ w, (sizeOf 68).run Tryz.prog w = .ok 1 w := fun w => by simp [sizeOf, typeInfo, inf68]; rfl
theorem na68 : NA Tryz.prog 68 := fun w => Tryz.isAgg68 w
theorem na183 : NA Tryz.prog 183 := fun w => Tryz.isAgg183 w
theorem QbO : SlT Tryz.prog 44 46 (.agg #[.int .i64 0, .string ⟨#[]⟩, .int .i64 0, .slice none 0 0, .slice none 0 0]) 5 80 := ⟨by kernel_rfl, by kernel_rfl⟩
theorem QaD : SlT Tryz.prog 83 130 (.agg #[.int .i64 0, .string ⟨#[]⟩, .int .i64 0, .int .i64 0]) 4 40 := ⟨by kernel_rfl, by kernel_rfl⟩
theorem Qc9 : SlT Tryz.prog 182 176 (.agg #[.string ⟨#[]⟩, .nilFunc, .nilFunc]) 3 32 := ⟨by kernel_rfl, by kernel_rfl⟩
theorem ty178 : SlT Tryz.prog 178 91 (.agg #[.int .i64 0, .int .i64 0, .slice none 0 0, .int .i64 0, .int .i64 0, .slice none 0 0, .int .i64 0, .slice none 0 0, .int .i64 0, .slice none 0 0]) 10 144 := ⟨by kernel_rfl, by kernel_rfl⟩
theorem ty141 : SlT Tryz.prog 141 149 (.agg #[.slice none 0 0, .int .i64 0]) 2 32 := ⟨by kernel_rfl, by kernel_rfl⟩
theorem ty94 : SlT Tryz.prog 94 154 (.agg #[.int .i64 0, .int .i64 0, .int .i64 0, .int .i64 0]) 4 32 := ⟨by kernel_rfl, by kernel_rfl⟩
theorem ty145 : SlT Tryz.prog 145 25 (.slice none 0 0) 1 24 := ⟨by kernel_rfl, by kernel_rfl⟩
theorem ty169 : SlT Tryz.prog 169 5 (.int .u8 0) 1 1 := ⟨by kernel_rfl, by kernel_rfl⟩
theorem XX : SlT Tryz.prog 198 39 (.agg #[.int .i64 0, .slice none 0 0]) 2 32 := ⟨by kernel_rfl, by kernel_rfl⟩
theorem ty185 : SlT Tryz.prog 185 183 (.map none) 1 8 := ⟨by kernel_rfl, by kernel_rfl⟩
end Go.Proofs.YtcfbigmjjpknfaaGreatDoor
namespace Go.Sx
open Go Go.RowKit Go.Pl
section
variable {P : Program}
end
section
variable {P : Program} {N : Nat} {l : Env} {w : World} {ops : Array Oper} {dr : Bool} {Q : Act → World → Prop} {π : List Nat} {i d : Nat} {v : Value} {op : Op} {ty : TypeId} {pos : String} {after : Array Edge} {g : Option (Nat × Bool)}
variable {x y c p : Operand} {u : Int} {T T' : TypeId}
end
end Go.Sx
namespace Go.Sx
open Go Go.RowKit Go.Pl
section
variable (X : List Nat) (P : Program) (ops : Array Oper)
def RLX (Q : Act → World → Prop) : List Nat → Act → World → Prop
 | [], a, w => Q a w
 | i :: r, a, w => ∃ o, ops[i]? = some o ∧
  if Region.wanted o (yielded ops a.tmps) then
   (isA o.op = true ∧ ∃ v, (∀ w', (isM o.op = true ∨ Gr X w w') → (execOp a.eval o).run P w' = .ok (.value v) w') ∧ RLX Q r (a.put o.dst v) w) ∨
   (isA o.op = false ∧ o.wp P a w (fun a' w' => (∃ v, a' = a.put o.dst v) ∧ (isTail ops i = false → Gr X w w') ∧ RLX Q r a' w') (fun _ _ _ => False))
  else RLX Q r (a.put o.dst undef) w
def wpX (Q : Act → World → Prop) : Nat → Array Bool → Act → World → Prop
 | 0, listed, a, w => Region.ready .any ops listed = [] ∧ Q a w
 | n + 1, listed, a, w => (Region.ready .any ops listed = [] → Q a w) ∧
  ∀ i ∈ Region.ready .any ops listed, opE P ops i (fun a' w' => (isTail ops i = false → Gr X w w') ∧ wpX Q n (listed.setIfInBounds i true) a' w') a w
end
section
variable {X : List Nat} {P : Program} {ops : Array Oper}
theorem XN {Q : Act → World → Prop} {Q' : Exit → Act → World → Prop} (hQ : ∀ a w, Q a w → Q' .normal a w) : ∀ (n : Nat) (listed : Array Bool) (a : Act) (w : World),
  wpX X P ops Q n listed a w → wpAny P .any ops Q' n listed a w
 | 0, _, _, _, h => ⟨h.1, hQ _ _ h.2⟩
 | n + 1, _, _, _, h => ⟨fun h0 => hQ _ _ (h.1 h0), fun i hi => JX (fun a' w' hh => XN hQ n _ a' w' hh.2) (h.2 i hi)⟩
def YieldsX (X : List Nat) (P : Program) (ops : Array Oper) (o : Oper) (v : Value) (a : Act) (w : World) : Prop :=
 (Region.wanted o (yielded ops a.tmps) = true ∧ ∀ w', (isM o.op = true ∨ Gr X w w') → (execOp a.eval o).run P w' = .ok (.value v) w') ∨
 (Region.wanted o (yielded ops a.tmps) = false ∧ v = undef)
theorem YieldsX.ext {o : Oper} {v : Value} {a : Act} {w w' : World} (h : YieldsX X P ops o v a w) (hw : Gr X w w') : YieldsX X P ops o v a w' := by
 rcases h with ⟨h1, h2⟩ | h
 ·exact .inl ⟨h1, fun w'' hE => h2 _ (hE.imp id hw.trans)⟩
 ·exact .inr h
theorem YieldsX.any {o : Oper} {v : Value} {a : Act} {w w' : World} (h : YieldsX X P ops o v a w) (hM : isM o.op = true) : YieldsX X P ops o v a w' := by
 rcases h with ⟨h1, h2⟩ | h
 ·exact .inl ⟨h1, fun w'' _ => h2 _ (.inl hM)⟩
 ·exact .inr h
theorem YieldsX.opE {i : Nat} {o : Oper} {v : Value} {a : Act} {w : World} (hi : ops[i]? = some o) (hy : YieldsX X P ops o v a w) {K : Act → World → Prop} (h : K (a.put o.dst v) w) : opE P ops i K a w := by
 unfold Go.Sx.opE
 simp only [hi]
 rcases hy with ⟨hw, hv⟩ | ⟨hw, rfl⟩
 ·rw [if_pos hw]
  unfold Oper.wp
  rw [hv w (.inr (Gr.refl X w))]
  exact h
 ·rw [if_neg (by simp [hw])]; exact h
theorem YieldsX.of_same {o : Oper} {v : Value} {a a' : Act} {w : World} (hy : YieldsX X P ops o v a w) (he : execOp a'.eval o = execOp a.eval o)
  (hw : Region.wanted o (yielded ops a'.tmps) = Region.wanted o (yielded ops a.tmps)) : YieldsX X P ops o v a' w := by
 unfold YieldsX at *
 rw [he, hw]
 exact hy
theorem opX_put {j : Nat} {oi oj : Oper} {v : Value} (hj : ops[j]? = some oj) (hap : oi.apart ops oj = true)
  (hsi : ∀ cs b, oi.op ≠ .select cs b) (hsj : ∀ cs b, oj.op ≠ .select cs b) {K : Act → World → Prop} {a : Act} {w : World}
  (hy : YieldsX X P ops oi v a w) (h : opE P ops j K (a.put oi.dst v) w) :
  opE P ops j (fun a' w' => YieldsX X P ops oi v a' w ∧ K (a'.put oi.dst v) w') a w := by
 obtain ⟨h1, h2, h3⟩ := Oper.apart_spec hap
 have keep : ∀ (a : Act), YieldsX X P ops oi v a w → ∀ u, YieldsX X P ops oi v (a.put oj.dst u) w := fun a hy u =>
  hy.of_same (execOp_put oi hsi a oj.dst u h3) (wanted_put oi a oj.dst u h3)
 have keepD : ∀ d, YieldsX X P ops oi v { a with defers := d :: a.defers } w := fun d => hy.of_same rfl rfl
 unfold opE at *
 simp only [hj] at *
 rw [wanted_put oj a oi.dst v h1] at h
 split
 ·rename_i hw
  rw [if_pos hw] at h
  unfold Oper.wp at *
  rw [execOp_put oj hsj a oi.dst v h1] at h
  generalize (execOp a.eval oj).run P w = r at *
  cases r with
  | ok n w' =>
   cases n <;> simp only [Oper.upon] at h ⊢
   case value u => exact ⟨keep a hy u, by rw [← Act.put_comm a v u h2]; exact h⟩
   case skip => exact ⟨keep a hy _, by rw [← Act.put_comm a v undef h2]; exact h⟩
   case defer d =>
    refine ⟨keep _ (keepD d) _, ?_⟩
    rw [← Act.put_comm _ v undef h2, ← Act.put_defers]
    exact h
   case enter f args =>
    refine Calls.mono h fun e w'' he => ?_
    cases e with
    | returned u => exact ⟨keep a hy u, by rw [← Act.put_comm a v u h2]; exact he⟩
    | panicked c => exact he
    | outgrown => exact he
   case row row args => exact Rows.mono h fun u w'' he => ⟨keep a hy u, by rw [← Act.put_comm a v u h2]; exact he⟩
  | halt x w' =>
   cases x <;> simp only [Oper.upon] at h ⊢
 ·rename_i hw
  rw [if_neg hw] at h
  exact ⟨keep a hy _, by rw [← Act.put_comm a v undef h2]; exact h⟩
theorem wpX_first {Q : Act → World → Prop} {i : Nat} {oi : Oper} {v : Value} (hi : ops[i]? = some oi) (hsel : ∀ (j : Nat) (o : Oper) cs b, ops[j]? = some o → o.op ≠ .select cs b) :
  ∀ (fuel : Nat) (listed : Array Bool) (a : Act) (w : World), Closed ops listed →
   (∀ j oj, ops[j]? = some oj → j ≠ i → listed.getD j true = false → (∀ e ∈ oj.after, Region.binds .any e = true → e.on ≠ i) → oi.apart ops oj = true) →
   i ∈ Region.ready .any ops listed → YieldsX X P ops oi v a w →
   wpX X P ops Q fuel (listed.setIfInBounds i true) (a.put oi.dst v) w → wpX X P ops Q (fuel + 1) listed a w := by
 intro fuel
 induction fuel with
 | zero =>
  intro listed a w _ _ hr hy H
  refine ⟨fun h => (by rw [h] at hr; cases hr), fun j hj => ?_⟩
  by_cases hji : j = i
  ·subst hji; exact hy.opE hi ⟨fun _ => Gr.refl X w, H⟩
  ·have := ready_mono hj hji
   rw [H.1] at this
   cases this
 | succ fuel ih =>
  intro listed a w hcl hfree hr hy H
  refine ⟨fun h => (by rw [h] at hr; cases hr), fun j hj => ?_⟩
  by_cases hji : j = i
  ·subst hji; exact hy.opE hi ⟨fun _ => Gr.refl X w, H⟩
  ·have h1 := H.2 j (ready_mono hj hji)
   obtain ⟨hjun, oj, hoj, hall⟩ := mem_ready.1 hj
   have hiun := (mem_ready.1 hr).1
   have hnot : ∀ e ∈ oj.after, Region.binds .any e = true → e.on ≠ i := fun e he hb heq => by
    have h1 := hall e he hb
    have h0 := (mem_ready.1 hr).1
    rw [heq] at h1
    rcases Nat.lt_or_ge i listed.size with h' | h'
    ·simp [h'] at h0 h1; rw [h0] at h1; cases h1
    ·simp [Array.getElem?_eq_none h'] at h1
   have h2 := opX_put hoj (hfree j oj hoj hji hjun hnot) (fun cs b => hsel i oi cs b hi) (fun cs b => hsel j oj cs b hoj) hy h1
   have hfree' : ∀ k ok, ops[k]? = some ok → k ≠ i → (listed.setIfInBounds j true).getD k true = false →
     (∀ e ∈ ok.after, Region.binds .any e = true → e.on ≠ i) → oi.apart ops ok = true := fun k ok hk hki hun hno => by
    refine hfree k ok hk hki ?_ hno
    by_cases hjk : j = k
    ·subst hjk; exact hjun
    ·rw [getD_set_ne true hjk] at hun; exact hun
   refine QaQ (fun a' w' h3 => ?_) h2
   obtain ⟨hya, hE, hrest⟩ := h3
   have hyw : YieldsX X P ops oi v a' w' := by
    by_cases hM : isM oi.op = true
    ·exact hya.any hM
    ·exact hya.ext (hE (Kp hj hi (Ne.symm hji) hiun hr hcl hM))
   refine ⟨hE, ih (listed.setIfInBounds j true) a' w' (hcl.set hj) hfree' (ready_mono hr (Ne.symm hji)) hyw ?_⟩
   rw [Array.setIfInBounds_comm _ _ hji]
   exact hrest
theorem JK {Q : Act → World → Prop} (hs : Region.noSelect ops = true) : ∀ (l : List Nat) (listed : Array Bool) (a : Act) (w : World), Closed ops listed →
  okFrom ops l listed = true → RLX X P ops Q l a w → wpX X P ops Q l.length listed a w
 | [], listed, a, w, _, hB, h => ⟨by simpa [okFrom] using hB, h⟩
 | i :: r, listed, a, w, hcl, hB, h => by
  obtain ⟨o, ho, h⟩ := h
  simp only [okFrom, Bool.and_eq_true, ho] at hB
  obtain ⟨⟨hr, hk⟩, hrest⟩ := hB
  have hr' : i ∈ Region.ready .any ops listed := by simpa using hr
  have first : ∀ v, isA o.op = true → YieldsX X P ops o v a w → RLX X P ops Q r (a.put o.dst v) w → wpX X P ops Q (r.length + 1) listed a w := fun v hA hy hq => by
   rw [if_pos hA] at hk
   exact wpX_first ho (Region.noSelect_spec hs) r.length listed a w hcl (Region.free_spec ho hk) hr' hy (JK hs r _ _ _ (hcl.set hr') hrest hq)
  by_cases hA : isA o.op = true
  ·by_cases hw : Region.wanted o (yielded ops a.tmps) = true
   ·rw [if_pos hw] at h
    rcases h with ⟨_, v, hv, hq⟩ | ⟨hn, _⟩
    ·exact first v hA (.inl ⟨hw, hv⟩) hq
    ·rw [hn] at hA; cases hA
   ·rw [if_neg hw] at h
    exact first undef hA (.inr ⟨by simpa using hw, rfl⟩) h
  ·rw [if_neg hA] at hk
   refine ⟨fun h0 => (by rw [h0] at hr'; cases hr'), fun j hj => ?_⟩
   have hji : j = i := by
    have := List.all_eq_true.1 hk j hj
    simpa using this
   subst hji
   unfold opE
   simp only [ho]
   split
   ·rename_i hw
    rw [if_pos hw] at h
    rcases h with ⟨h1, _⟩ | ⟨_, hq⟩
    ·exact absurd h1 hA
    ·exact Zv (fun a' w' hh => ⟨hh.2.1, JK hs r _ _ _ (hcl.set hr') hrest hh.2.2⟩) hq
   ·rename_i hw
    rw [if_neg hw] at h
    exact ⟨fun _ => Gr.refl X w, JK hs r _ _ _ (hcl.set hr') hrest h⟩
end
section
variable (X : List Nat) (P : Program) (N : Nat)
def WX (ops : Array Oper) (Q : Act → World → Prop) (π : List Nat) (l : Env) (w : World) : Prop := ∀ a, At N a l → RLX X P ops Q π a w
end
section
variable {X : List Nat} {P : Program} {N : Nat} {Q : Exit → Act → World → Prop} {l : Env} {w : World}
theorem wc_drawX {id : Nat} {ops : Array Oper} (X : List Nat) (hm : P.follows .mixedOrders = true) (π : List Nat) (hB : okOrd ops π = true) (h : ∀ w', Ext w w' → w' = w.drew → WX X P N ops (Q .normal) π l w') : WC P N (.region id ops true) Q l w := by
 intro a ha
 simp only [okOrd, Bool.and_eq_true, beq_iff_eq] at hB
 refine wp_region_any hm ?_
 have := JK (X := X) (P := P) (Q := Q .normal) hB.2.1 π (Array.replicate ops.size false) a w.drew Closed.none hB.2.2 (h w.drew (Ext.drew w) rfl a ha)
 rw [hB.1] at this
 exact XN (fun _ _ h => h) _ _ _ _ this
end
section
variable {X : List Nat} {P : Program} {N : Nat} {l : Env} {w : World} {ops : Array Oper} {Q : Act → World → Prop} {π : List Nat} {i d : Nat} {v : Value} {op : Op} {ty : TypeId} {pos : String} {after : Array Edge} {g : Option (Nat × Bool)}
variable {x y c p : Operand} {u z : Int} {T T' : TypeId}
def YX (X : List Nat) (P : Program) (N : Nat) (op : Op) (ty : TypeId) (l : Env) (w : World) (v : Value) : Prop :=
 ∀ a, At N a l → ∀ w', (isM op = true ∨ Gr X w w') → ∀ o : Oper, o.op = op → o.type = ty → (execOp a.eval o).run P w' = .ok (.value v) w'
theorem ym (h : Yl P N op ty l w v) (hM : isM op = true) : YX X P N op ty l w v := fun a ha w' _ o ho hty => h a ha w' (.inl hM) o ho hty
theorem yB {g k : Nat} {t : TypeId} {cs : Array Value} (hp : ev l p = some (.pointer (some ⟨g, k, none⟩))) (hna : NA P T) (hB : Blk w g t cs) (hX : g ∉ X) (hc : cs[k]? = some v := by rfl) : YX X P N (.load T p) ty l w v := fun a ha w' hE o ho _ => by
 replace hE := hE.resolve_left (by simp [isM])
 have h := (hB.gr hE hX).cell hc
 simp [execOp, ho, ha.eval hp, Instr.loadAt, Instr.sureAddr, loadVar, hna w', h]
theorem VX (hi : ops[i]? = some ⟨some d, op, ty, pos, after, g⟩) (hw : Wt ops N l g) (hA : isA op = true) (hd : Nat.blt d N = true) (hy : YX X P N op ty l w v)
  (h : WX X P N ops Q π ((d, v) :: l) w) : WX X P N ops Q (i :: π) l w := fun a ha => by
 refine ⟨_, hi, ?_⟩
 rw [if_pos (hw a ha _ rfl)]
 exact .inl ⟨hA, v, fun w' hE => hy a ha w' hE _ rfl rfl, h _ (ha.put hd v)⟩
end
end Go.Sx
namespace Go.Sx
open Go Go.RowKit Go.Pl
def blind (ops : Array Oper) (π : List Nat) : Bool := π.all fun i => match ops[i]? with
 | some o => !isA o.op || isM o.op
 | none => false
section
variable {X : List Nat} {P : Program} {ops : Array Oper} {Q : Act → World → Prop}
theorem Xz : ∀ (π : List Nat) (a : Act) (w : World), blind ops π = true → RL P ops true Q π a w → RLX X P ops Q π a w
 | [], _, _, _, h => h
 | i :: r, a, w, hb, h => by
  obtain ⟨o, ho, h⟩ := h
  simp only [blind, List.all_cons, Bool.and_eq_true, ho] at hb
  obtain ⟨h1, h2⟩ := hb
  refine ⟨o, ho, ?_⟩
  split
  ·rename_i hw
   rw [if_pos hw] at h
   rcases h with ⟨hA, v, hv, hq⟩ | ⟨hA, hq⟩
   ·have hM : isM o.op = true := by
     rw [hA] at h1
     simpa using h1
    exact .inl ⟨hA, v, fun w' _ => hv w' (.inl hM), Xz r _ _ h2 hq⟩
   ·exact .inr ⟨hA, Zv (fun a' w' hh => ⟨hh.1, fun ht => Gr.of_ext (hh.2.1 rfl ht), Xz r _ _ h2 hh.2.2⟩) hq⟩
  ·rename_i hw
   rw [if_neg hw] at h
   exact Xz r _ _ h2 h
end
section
variable {X : List Nat} {P : Program} {N : Nat} {l : Env} {w : World} {ops : Array Oper} {Q : Act → World → Prop} {π : List Nat} {i d : Nat} {ty : TypeId} {pos : String} {after : Array Edge} {g : Option (Nat × Bool)}
theorem CXG {f : FuncId} {cl : List Operand} {ats : Array TypeId} {vs : List Value} {Φ : Value → World → Prop} (hi : ops[i]? = some ⟨some d, .call ⟨.value (.func f), cl.toArray, ats⟩, ty, pos, after, g⟩) (hw : Wt ops N l g) (hd : Nat.blt d N = true)
  (hv : evs l cl = some vs) (hf : ∀ args w, (callFunc f args).run P w = .ok (.enter f args) w) (hc : Calls P f vs.toArray w (RetG X w Φ))
  (h : ∀ v w', Gr X w w' → Φ v w' → WX X P N ops Q π ((d, v) :: l) w') : WX X P N ops Q (i :: π) l w := fun a ha => by
 refine ⟨_, hi, ?_⟩
 rw [if_pos (hw a ha _ rfl)]
 refine .inr ⟨rfl, ?_⟩
 have hm := ha.evals hv
 have hrun : (execOp a.eval ⟨some d, .call ⟨.value (.func f), cl.toArray, ats⟩, ty, pos, after, g⟩).run P w = .ok (.enter f vs.toArray) w := by
  simp only [execOp, resolve, List.map_toArray, hm, Act.eval, Deferred.ofValue]
  simp [invoke, hf]
 unfold Oper.wp
 rw [hrun, Oper.upon_enter]
 refine hc.mono fun e w' he => ?_
 cases e with
 | returned v => exact ⟨⟨v, rfl⟩, fun _ => he.1, h v w' he.1 he.2 _ (ha.put hd v)⟩
 | panicked c => exact he
 | outgrown => exact he.elim
theorem wx_of_wr (hb : blind ops π = true) (h : WR P N ops true Q π l w) : WX X P N ops Q π l w := fun a ha => Xz π a w hb (h a ha)
end
theorem Gr.grow {X : List Nat} {w w1 w2 : World} {row : Option Nat} (h : Gr X w w1) (hg : w1.grownBy w2 row) (hr : ∀ k, row = some k → k ∈ X ∨ w.heap.size ≤ k) : Gr X w w2 :=
 h.comp (X' := X ++ row.toList) (fun k hk => by
  rcases List.mem_append.1 hk with hk | hk
  ·exact .inl hk
  ·exact hr k (by simpa using hk)) (Gr.of_grown hg (fun k hk => by simp [hk]))
theorem RowsV.gr {w w' : World} {v : Value} {s : Nat} {L : List (List Value)} {X : List Nat} (h : RowsV w v s L) (hg : Gr X w w') (hX : ∀ k, v.ownBlock = some k → k ∉ X) : RowsV w' v s L := by
 obtain ⟨⟨a, c, h1, h2, h3⟩, h4, h5⟩ := h
 refine ⟨⟨a, c, h1, h2, fun hp => ?_⟩, h4, h5⟩
 obtain ⟨ad, e, hc⟩ := h3 hp
 subst e
 refine ⟨ad, rfl, fun j u hu => ?_⟩
 have hcj := hc j u hu
 have hb : (ad.add j).block = ad.block := by unfold Addr.add; split <;> rfl
 have hk : ad.block ∉ X := hX _ (by rw [h1]; rfl)
 have hlt := World.block_lt_of_cell? w _ hcj
 rw [hb] at hlt
 have hbl := hg.block ad.block hlt hk
 rw [← hcj]
 unfold World.cell?
 rw [hb, hbl]
theorem RowsV.kept {w w' : World} {v : Value} {s : Nat} {L : List (List Value)} {row : Option Nat} (h : RowsV w v s L) (hg : w.grownBy w' row) (hne : ∀ k, row = some k → v.ownBlock ≠ some k) : RowsV w' v s L :=
 h.gr (X := row.toList) (Gr.of_grown hg (fun k hk => by simp [hk])) (fun k hk hx => hne k (by simpa using hx) hk)
theorem RowsV.lt {w : World} {v : Value} {s : Nat} {L : List (List Value)} (h : RowsV w v s L) (hs : 0 < L.length) (h1 : 0 < s) : ∃ q, v.ownBlock = some q ∧ q < w.heap.size := by
 obtain ⟨⟨a, c, hv, h2, h3⟩, h4, h5⟩ := h
 obtain ⟨ad, rfl, hc⟩ := h3 hs
 refine ⟨ad.block, by rw [hv]; rfl, ?_⟩
 have hlen : 0 < (flatV L).length := by
  rw [flatV, ZD h4]
  exact Nat.mul_pos hs h1
 have := World.block_lt_of_cell? w _ (hc 0 _ (List.getElem?_eq_getElem hlen))
 simpa [Addr.add] using this
theorem OwnV.keptN {B : Nat} {w w' : World} {v : Value} {E : TypeId} {s : Nat} {L : List (List Value)} {row : Option Nat} (h : OwnV B w v E s L) (hg : w.grownBy w' row) (hne : ∀ k, row = some k → v.ownBlock ≠ some k) : OwnV B w' v E s L := by
 refine ⟨h.row.kept hg ?_, h.rows, h.le⟩
 cases row with
 | none => cases v.ownBlock <;> simp
 | some k => exact .inr (hne k rfl)
theorem OwnV.gr {B : Nat} {w w' : World} {v : Value} {E : TypeId} {s : Nat} {L : List (List Value)} {X : List Nat} (h : OwnV B w v E s L) (hg : Gr X w w') (hX : ∀ k, v.ownBlock = some k → k ∉ X) : OwnV B w' v E s L :=
 ⟨Jp h.row fun k hk => hg.block k (h.lt k hk).2 (hX k hk), h.rows, h.le⟩
end Go.Sx
