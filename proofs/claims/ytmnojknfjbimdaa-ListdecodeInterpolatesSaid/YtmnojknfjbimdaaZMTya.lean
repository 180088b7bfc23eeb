/-
  Types TypesF TypesLP TypesB TypesG TypesK
-/
import Derived.Test.YtmnojknfjbimdaaZMSxa
import Derived.Test.YtmnojknfjbimdaaProg
import Derived.KernelRfl
namespace Go.Proofs.Ytmnojknfjbimdaa
open Go Go.Sx Go.Pl Go.RowKit
theorem mixed : Try.prog.follows .mixedOrders = true := by kernel_rfl
theorem ty31 : SlT Try.prog 31 3 (.int .i64 0) 1 8 := ⟨by kernel_rfl, by kernel_rfl⟩
theorem na3 : NA Try.prog 3 := fun w => Try.isAgg3 w
theorem sz3 : ∃ j, Try.prog.info? 3 = some j ∧ j.size = 1 := ⟨Try.t3, by kernel_rfl, by kernel_rfl⟩
end Go.Proofs.Ytmnojknfjbimdaa


namespace Go.Proofs.Ytmnojknfjbimdaa
open Go Go.Sx Go.Pl Go.RowKit
theorem infoI : Try.prog.info? 3 = some Try.t3 := by kernel_rfl
theorem szInt : ∀ w, (sizeOf 3).run Try.prog w = .ok 1 w := fun w => by simp [sizeOf, typeInfo, infoI]; rfl
theorem infoS : Try.prog.info? 31 = some Try.t31 := by kernel_rfl
theorem szSl : ∀ w, (sizeOf 31).run Try.prog w = .ok 1 w := fun w => by simp [sizeOf, typeInfo, infoS]; rfl
theorem infoF : Try.prog.info? 33 = some Try.t33 := by kernel_rfl
theorem szF : ∀ w, (sizeOf 33).run Try.prog w = .ok 3 w := fun w => by simp [sizeOf, typeInfo, infoF]; rfl
theorem infoG : Try.prog.info? 80 = some Try.t80 := by kernel_rfl
theorem na31 : NA Try.prog 31 := fun w => Try.isAgg31 w
theorem na4 : NA Try.prog 4 := fun w => Try.isAgg4 w
theorem ty94 : SlT Try.prog 94 4 (.bool false) 1 1 := ⟨by kernel_rfl, by kernel_rfl⟩
theorem sz4 : ∃ j, Try.prog.info? 4 = some j ∧ j.size = 1 := ⟨Try.t4, by kernel_rfl, by kernel_rfl⟩
theorem ag33 : AG Try.prog 33 3 := ⟨fun w => by simp [isAgg, run_underlying Try.underlying33], szF⟩
theorem fa33_0 : FA Try.prog 33 0 0 := fun a w => by
  simp [Instr.fieldAt, run_underlying Try.underlying33, Instr.sureAddr, fieldPlace, szInt]
theorem fa33_1 : FA Try.prog 33 1 1 := fun a w => by
  simp [Instr.fieldAt, run_underlying Try.underlying33, Instr.sureAddr, fieldPlace, szInt]
theorem fa33_2 : FA Try.prog 33 2 2 := fun a w => by
  simp [Instr.fieldAt, run_underlying Try.underlying33, Instr.sureAddr, fieldPlace, szSl]
theorem fa80_0 : FA Try.prog 80 0 0 := fun a w => by
  simp [Instr.fieldAt, run_underlying Try.underlying80, Instr.sureAddr, fieldPlace, szF]
theorem fa80_1 : FA Try.prog 80 1 3 := fun a w => by
  simp [Instr.fieldAt, run_underlying Try.underlying80, Instr.sureAddr, fieldPlace, szInt]
theorem fa80_2 : FA Try.prog 80 2 4 := fun a w => by
  simp [Instr.fieldAt, run_underlying Try.underlying80, Instr.sureAddr, fieldPlace, szSl]
theorem fa80_3 : FA Try.prog 80 3 5 := fun a w => by
  simp [Instr.fieldAt, run_underlying Try.underlying80, Instr.sureAddr, fieldPlace, szSl]
theorem cells_i (k : IntKind) (n : Int) : (Value.int k n).cells = #[.int k n] := rfl
theorem cells_a (cs : Array Value) : (Value.agg cs).cells = cs := rfl
theorem zeroF (w : World) : ∃ zv, (zeroValue 33).run Try.prog w = .ok zv w ∧ zv.cells = #[.int .i64 0, .int .i64 0, .slice none 0 0] := ⟨_, by simp [zeroValue, typeInfo, infoF]; rfl, rfl⟩
theorem zeroG (w : World) : ∃ zv, (zeroValue 80).run Try.prog w = .ok zv w ∧ zv.cells = #[.int .i64 0, .int .i64 0, .slice none 0 0, .int .i64 0, .slice none 0 0, .slice none 0 0] := ⟨_, by simp [zeroValue, typeInfo, infoG]; rfl, rfl⟩
theorem bdF (p M : Int) (v : Value) (hv : v.cells = #[v]) : ∀ w, (Instr.build 33 #[(0, .int .i64 p), (1, .int .i64 M), (2, v)]).run Try.prog w = .ok (.agg #[.int .i64 p, .int .i64 M, v]) w := fun w => by
  obtain ⟨zv, h1, h2⟩ := zeroF w
  simp [Instr.build, h1, h2, run_underlying Try.underlying33, szInt, szSl, Instr.fill, cells_i, hv]
theorem bdG (f0 f1 f2 : Value) (q : Int) (a b : Value) (ha : a.cells = #[a]) (hb : b.cells = #[b]) : ∀ w, (Instr.build 80 #[(0, .agg #[f0, f1, f2]), (1, .int .i64 q), (2, a), (3, b)]).run Try.prog w = .ok (.agg #[f0, f1, f2, .int .i64 q, a, b]) w := fun w => by
  obtain ⟨zv, h1, h2⟩ := zeroG w
  simp [Instr.build, h1, h2, run_underlying Try.underlying80, szInt, szSl, szF, Instr.fill, cells_i, ha, hb, cells_a]
theorem cells_ints {w : World} {v : Value} {zs : List Int} (h : Ints w v zs) : v.cells = #[v] := by
  obtain ⟨⟨a, c, rfl, _⟩, _⟩ := h
  rfl
theorem und4 : Try.prog.underlying 4 = some .bool := Try.underlying4
end Go.Proofs.Ytmnojknfjbimdaa


namespace Go.Proofs.Ytmnojknfjbimdaa
open Go Go.Sx Go.Pl Go.RowKit
theorem infoLP : Try.prog.info? 24 = some Try.t24 := by kernel_rfl
theorem zv24 : ZV Try.prog 24 [.int .i64 0, .int .i64 0, .int .i64 0] := fun w => ⟨_, by simp [zeroValue, typeInfo, infoLP]; rfl, rfl⟩
theorem sv24 : ∀ w, (sizeOf 24).run Try.prog w = .ok 3 w := fun w => by simp [sizeOf, typeInfo, infoLP]; rfl
theorem szI : ∀ w, (sizeOf 3).run Try.prog w = .ok 1 w := fun w => by simp [sizeOf, typeInfo, infoI]; rfl
theorem ag24 : AG Try.prog 24 3 := ⟨fun w => by simp [isAgg, run_underlying Try.underlying24], sv24⟩
theorem bd24 (a b c : Int) : ∀ w, (Instr.build 24 #[(0, .int .i64 a), (1, .int .i64 b), (2, .int .i64 c)]).run Try.prog w = .ok (.agg #[.int .i64 a, .int .i64 b, .int .i64 c]) w := fun w => by
  obtain ⟨zv, h1, h2⟩ := zv24 w
  simp [Instr.build, h1, h2, run_underlying Try.underlying24, szI, Instr.fill, cells_i]
theorem bz24 : ∀ w, (Instr.build 24 #[]).run Try.prog w = .ok (.agg #[.int .i64 0, .int .i64 0, .int .i64 0]) w := fun w => by
  obtain ⟨zv, h1, h2⟩ := zv24 w
  simp [Instr.build, h1, h2, run_underlying Try.underlying24, szI, Instr.fill, cells_i]
theorem eqg24 : Try.prog.eqGuardType Try.prog.depth 24 = false := by kernel_rfl
theorem stood24 : Try.prog.stoodInHeld 24 = false := by kernel_rfl
theorem na3' (w : World) : (isAgg 3).run Try.prog w = .ok false w := Try.isAgg3 w
theorem eqI (d : Nat) (a b : Int) (w : World) : (Op.equalIn (d + 1) 3 (.int .i64 a) (.int .i64 b)).run Try.prog w = .ok (a == b) w := by
  simp [Op.equalIn, run_underlying Try.underlying3]
theorem eqs24 : EQS Try.prog 24 3 := by
  intro xs ys hx hy w
  match xs, ys, hx, hy with
  | [a, b, c], [a', b', c'], _, _ =>
    have hd : ∃ d, Op.maxDepth = d + 2 := ⟨Op.maxDepth - 2, rfl⟩
    obtain ⟨d, hd⟩ := hd
    simp [Op.equal, hd, Op.equalIn.eq_2, run_underlying Try.underlying24, stood24, part, na3', eqI]
    by_cases h1 : a = a' <;> by_cases h2 : b = b' <;> by_cases h3 : c = c' <;> simp [h1, h2, h3]
theorem fa24_2 : FA Try.prog 24 2 2 := fun a w => by
  simp [Instr.fieldAt, run_underlying Try.underlying24, Instr.sureAddr, fieldPlace]
end Go.Proofs.Ytmnojknfjbimdaa


namespace Go.Proofs.Ytmnojknfjbimdaa
open Go Go.Sx Go.Pl Go.RowKit
theorem ty38 : SlT Try.prog 38 31 (.slice none 0 0) 1 24 := ⟨by kernel_rfl, by kernel_rfl⟩
theorem ty39 : SlT Try.prog 39 31 (.slice none 0 0) 1 24 := ⟨by kernel_rfl, by kernel_rfl⟩
theorem sz31 : ∃ j, Try.prog.info? 31 = some j ∧ j.size = 1 := ⟨Try.t31, by kernel_rfl, by kernel_rfl⟩
theorem na38 : NA Try.prog 38 := fun w => Try.isAgg38 w
theorem infoLL : Try.prog.info? 38 = some Try.t38 := by kernel_rfl
theorem zv38 : ZV Try.prog 38 [.slice none 0 0] := fun w => ⟨_, by simp [zeroValue, typeInfo, infoLL]; rfl, rfl⟩
theorem sv38 : ∀ w, (sizeOf 38).run Try.prog w = .ok 1 w := fun w => by simp [sizeOf, typeInfo, infoLL]; rfl
end Go.Proofs.Ytmnojknfjbimdaa


namespace Go.Proofs.Ytmnojknfjbimdaa
open Go Go.Sx Go.Pl Go.RowKit
theorem infoGr : Try.prog.info? 35 = some Try.t35 := by kernel_rfl
theorem szGr : ∀ w, (sizeOf 35).run Try.prog w = .ok 6 w := fun w => by simp [sizeOf, typeInfo, infoGr]; rfl
theorem ag35 : AG Try.prog 35 6 := ⟨fun w => by simp [isAgg, run_underlying Try.underlying35], szGr⟩
theorem fa35_0 : FA Try.prog 35 0 0 := fun a w => by
  simp [Instr.fieldAt, run_underlying Try.underlying35, Instr.sureAddr, fieldPlace]
theorem fa35_1 : FA Try.prog 35 1 3 := fun a w => by
  simp [Instr.fieldAt, run_underlying Try.underlying35, Instr.sureAddr, fieldPlace]
theorem fa35_2 : FA Try.prog 35 2 4 := fun a w => by
  simp [Instr.fieldAt, run_underlying Try.underlying35, Instr.sureAddr, fieldPlace]
theorem fa35_3 : FA Try.prog 35 3 5 := fun a w => by
  simp [Instr.fieldAt, run_underlying Try.underlying35, Instr.sureAddr, fieldPlace]
theorem fa24_0 : FA Try.prog 24 0 0 := fun a w => by
  simp [Instr.fieldAt, run_underlying Try.underlying24, Instr.sureAddr, fieldPlace]
theorem fa24_1 : FA Try.prog 24 1 1 := fun a w => by
  simp [Instr.fieldAt, run_underlying Try.underlying24, Instr.sureAddr, fieldPlace]
theorem infoCs : Try.prog.info? 37 = some Try.t37 := by kernel_rfl
theorem szCs : ∀ w, (sizeOf 37).run Try.prog w = .ok 8 w := fun w => by simp [sizeOf, typeInfo, infoCs]; rfl
theorem ag37 : AG Try.prog 37 8 := ⟨fun w => by simp [isAgg, run_underlying Try.underlying37], szCs⟩
theorem fa37_0 : FA Try.prog 37 0 0 := fun a w => by
  simp [Instr.fieldAt, run_underlying Try.underlying37, Instr.sureAddr, fieldPlace]
theorem fa37_1 : FA Try.prog 37 1 6 := fun a w => by
  simp [Instr.fieldAt, run_underlying Try.underlying37, Instr.sureAddr, fieldPlace]
theorem fa37_2 : FA Try.prog 37 2 7 := fun a w => by
  simp [Instr.fieldAt, run_underlying Try.underlying37, Instr.sureAddr, fieldPlace]
theorem infoTs : Try.prog.info? 68 = some Try.t68 := by kernel_rfl
theorem szTs : ∀ w, (sizeOf 68).run Try.prog w = .ok 13 w := fun w => by simp [sizeOf, typeInfo, infoTs]; rfl
theorem ag68 : AG Try.prog 68 13 := ⟨fun w => by simp [isAgg, run_underlying Try.underlying68], szTs⟩
theorem fa68_0 : FA Try.prog 68 0 0 := fun a w => by
  simp [Instr.fieldAt, run_underlying Try.underlying68, Instr.sureAddr, fieldPlace]
theorem fa68_1 : FA Try.prog 68 1 6 := fun a w => by
  simp [Instr.fieldAt, run_underlying Try.underlying68, Instr.sureAddr, fieldPlace]
theorem fa68_2 : FA Try.prog 68 2 7 := fun a w => by
  simp [Instr.fieldAt, run_underlying Try.underlying68, Instr.sureAddr, fieldPlace]
theorem fa68_3 : FA Try.prog 68 3 8 := fun a w => by
  simp [Instr.fieldAt, run_underlying Try.underlying68, Instr.sureAddr, fieldPlace]
theorem fa68_4 : FA Try.prog 68 4 9 := fun a w => by
  simp [Instr.fieldAt, run_underlying Try.underlying68, Instr.sureAddr, fieldPlace]
theorem fa68_5 : FA Try.prog 68 5 10 := fun a w => by
  simp [Instr.fieldAt, run_underlying Try.underlying68, Instr.sureAddr, fieldPlace]
theorem infoPt : Try.prog.info? 63 = some Try.t63 := by kernel_rfl
theorem szPt : ∀ w, (sizeOf 63).run Try.prog w = .ok 1 w := fun w => by simp [sizeOf, typeInfo, infoPt]; rfl
theorem zeroTs (w : World) : ∃ zv, (zeroValue 68).run Try.prog w = .ok zv w ∧ zv.cells = #[.int .i64 0, .int .i64 0, .slice none 0 0, .int .i64 0, .slice none 0 0, .slice none 0 0, .pointer none, .slice none 0 0, .slice none 0 0, .int .i64 0, .int .i64 0, .int .i64 0, .int .i64 0] := ⟨_, by simp [zeroValue, typeInfo, infoTs]; rfl, rfl⟩
theorem bdTs (p M : Int) (mo : Value) (K : Int) (pu mu g wu vu : Value) (t m D L : Int) (h4 : g.cells = #[g]) (h5 : wu.cells = #[wu]) (h6 : vu.cells = #[vu]) :
    ∀ w, (Instr.build 68 #[(0, .agg #[.int .i64 p, .int .i64 M, mo, .int .i64 K, pu, mu]), (1, g), (2, wu), (3, vu), (4, .int .i64 t), (5, .agg #[.int .i64 m, .int .i64 D, .int .i64 L])]).run Try.prog w = .ok (.agg #[.int .i64 p, .int .i64 M, mo, .int .i64 K, pu, mu, g, wu, vu, .int .i64 t, .int .i64 m, .int .i64 D, .int .i64 L]) w := fun w => by
  obtain ⟨zv, h1, h2⟩ := zeroTs w
  simp [Instr.build, h1, h2, run_underlying Try.underlying68, szInt, szSl, szGr, szPt, sv24, Instr.fill, cells_i, cells_a, h4, h5, h6]
end Go.Proofs.Ytmnojknfjbimdaa


namespace Go.Proofs.Ytmnojknfjbimdaa
open Go Go.Sx Go.Pl Go.RowKit
theorem tyBs : SlT Try.prog 83 39 (.slice none 0 0) 1 24 := ⟨by kernel_rfl, by kernel_rfl⟩
theorem ty83 : SlT Try.prog 83 39 (.slice none 0 0) 1 24 := tyBs
theorem na39 : NA Try.prog 39 := fun w => Try.isAgg39 w
theorem sz39 : ∃ j, Try.prog.info? 39 = some j ∧ j.size = 1 := ⟨Try.t39, by kernel_rfl, by kernel_rfl⟩
end Go.Proofs.Ytmnojknfjbimdaa

