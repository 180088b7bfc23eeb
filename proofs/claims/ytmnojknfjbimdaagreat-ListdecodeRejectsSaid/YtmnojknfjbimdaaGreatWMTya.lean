/-
  Closed facts of this translation: its types, as the walking framework asks for them. Closed facts of this translation: the types of the field package. Closed facts of this translation: the struct of the list decoder's parameters. Closed facts of this translation: slices of slices. Closed facts of this translation: descriptions of Reed-Solomon codes, tasks and cases of the list decoder. Closed facts of this translation: slices of polynomials in two variables. Closed facts of this translation: codes and matrices as the reference keeps them. Closed facts of this translation: proofs of the list decoder.
-/
import Derived.Test.YtmnojknfjbimdaaGreatWMSxa
import Derived.Test.YtmnojknfjbimdaaGreatProg
import Derived.KernelRfl
namespace Go.Proofs.YtmnojknfjbimdaaGreat
open Go Go.Sx Go.Pl Go.RowKit
theorem mixed : Tryz.prog.follows .mixedOrders = true := by kernel_rfl
theorem ty22 : SlT Tryz.prog 22 3 (.int .i64 0) 1 8 := ⟨by kernel_rfl, by kernel_rfl⟩
theorem na3 : NA Tryz.prog 3 := fun w => Tryz.isAgg3 w
theorem sz3 : ∃ j, Tryz.prog.info? 3 = some j ∧ j.size = 1 := ⟨Tryz.t3, by kernel_rfl, by kernel_rfl⟩
end Go.Proofs.YtmnojknfjbimdaaGreat


namespace Go.Proofs.YtmnojknfjbimdaaGreat
open Go Go.Sx Go.Pl Go.RowKit
theorem infoI : Tryz.prog.info? 3 = some Tryz.t3 := by kernel_rfl
theorem szInt : ∀ w, (sizeOf 3).run Tryz.prog w = .ok 1 w := fun w => by simp [sizeOf, typeInfo, infoI]; rfl
theorem infoS : Tryz.prog.info? 22 = some Tryz.t22 := by kernel_rfl
theorem szSl : ∀ w, (sizeOf 22).run Tryz.prog w = .ok 1 w := fun w => by simp [sizeOf, typeInfo, infoS]; rfl
theorem infoF : Tryz.prog.info? 24 = some Tryz.t24 := by kernel_rfl
theorem szF : ∀ w, (sizeOf 24).run Tryz.prog w = .ok 3 w := fun w => by simp [sizeOf, typeInfo, infoF]; rfl
theorem infoG : Tryz.prog.info? 120 = some Tryz.t120 := by kernel_rfl
theorem na22 : NA Tryz.prog 22 := fun w => Tryz.isAgg22 w
theorem na4 : NA Tryz.prog 4 := fun w => Tryz.isAgg4 w
theorem ty90 : SlT Tryz.prog 90 4 (.bool false) 1 1 := ⟨by kernel_rfl, by kernel_rfl⟩
theorem sz4 : ∃ j, Tryz.prog.info? 4 = some j ∧ j.size = 1 := ⟨Tryz.t4, by kernel_rfl, by kernel_rfl⟩
theorem ag24 : AG Tryz.prog 24 3 := ⟨fun w => by simp [isAgg, run_underlying Tryz.underlying24], szF⟩
theorem fa24_0 : FA Tryz.prog 24 0 0 := fun a w => by
  simp [Instr.fieldAt, run_underlying Tryz.underlying24, Instr.sureAddr, fieldPlace]
theorem fa24_1 : FA Tryz.prog 24 1 1 := fun a w => by
  simp [Instr.fieldAt, run_underlying Tryz.underlying24, Instr.sureAddr, fieldPlace]
theorem fa24_2 : FA Tryz.prog 24 2 2 := fun a w => by
  simp [Instr.fieldAt, run_underlying Tryz.underlying24, Instr.sureAddr, fieldPlace]
theorem fa120_0 : FA Tryz.prog 120 0 0 := fun a w => by
  simp [Instr.fieldAt, run_underlying Tryz.underlying120, Instr.sureAddr, fieldPlace]
theorem fa120_1 : FA Tryz.prog 120 1 3 := fun a w => by
  simp [Instr.fieldAt, run_underlying Tryz.underlying120, Instr.sureAddr, fieldPlace]
theorem fa120_2 : FA Tryz.prog 120 2 4 := fun a w => by
  simp [Instr.fieldAt, run_underlying Tryz.underlying120, Instr.sureAddr, fieldPlace]
theorem fa120_3 : FA Tryz.prog 120 3 5 := fun a w => by
  simp [Instr.fieldAt, run_underlying Tryz.underlying120, Instr.sureAddr, fieldPlace]
theorem cells_i (k : IntKind) (n : Int) : (Value.int k n).cells = #[.int k n] := rfl
theorem cells_a (cs : Array Value) : (Value.agg cs).cells = cs := rfl
theorem zeroF (w : World) : ∃ zv, (zeroValue 24).run Tryz.prog w = .ok zv w ∧ zv.cells = #[.int .i64 0, .int .i64 0, .slice none 0 0] := ⟨_, by simp [zeroValue, typeInfo, infoF]; rfl, rfl⟩
theorem zeroG (w : World) : ∃ zv, (zeroValue 120).run Tryz.prog w = .ok zv w ∧ zv.cells = #[.int .i64 0, .int .i64 0, .slice none 0 0, .int .i64 0, .slice none 0 0, .slice none 0 0] := ⟨_, by simp [zeroValue, typeInfo, infoG]; rfl, rfl⟩
theorem bdF (p M : Int) (v : Value) (hv : v.cells = #[v]) : ∀ w, (Instr.build 24 #[(0, .int .i64 p), (1, .int .i64 M), (2, v)]).run Tryz.prog w = .ok (.agg #[.int .i64 p, .int .i64 M, v]) w := fun w => by
  obtain ⟨zv, h1, h2⟩ := zeroF w
  simp [Instr.build, h1, h2, run_underlying Tryz.underlying24, Instr.fill, cells_i, hv]
theorem bdG (f0 f1 f2 : Value) (q : Int) (a b : Value) (ha : a.cells = #[a]) (hb : b.cells = #[b]) : ∀ w, (Instr.build 120 #[(0, .agg #[f0, f1, f2]), (1, .int .i64 q), (2, a), (3, b)]).run Tryz.prog w = .ok (.agg #[f0, f1, f2, .int .i64 q, a, b]) w := fun w => by
  obtain ⟨zv, h1, h2⟩ := zeroG w
  simp [Instr.build, h1, h2, run_underlying Tryz.underlying120, Instr.fill, cells_i, ha, hb, cells_a]
theorem cells_ints {w : World} {v : Value} {zs : List Int} (h : Ints w v zs) : v.cells = #[v] := by
  obtain ⟨⟨a, c, rfl, _⟩, _⟩ := h
  rfl
theorem und4 : Tryz.prog.underlying 4 = some .bool := Tryz.underlying4
end Go.Proofs.YtmnojknfjbimdaaGreat


namespace Go.Proofs.YtmnojknfjbimdaaGreat
open Go Go.Sx Go.Pl Go.RowKit
theorem infoLP : Tryz.prog.info? 43 = some Tryz.t43 := by kernel_rfl
theorem zv43 : ZV Tryz.prog 43 [.int .i64 0, .int .i64 0, .int .i64 0] := fun w => ⟨_, by simp [zeroValue, typeInfo, infoLP]; rfl, rfl⟩
theorem sv43 : ∀ w, (sizeOf 43).run Tryz.prog w = .ok 3 w := fun w => by simp [sizeOf, typeInfo, infoLP]; rfl
theorem szI : ∀ w, (sizeOf 3).run Tryz.prog w = .ok 1 w := fun w => by simp [sizeOf, typeInfo, infoI]; rfl
theorem ag43 : AG Tryz.prog 43 3 := ⟨fun w => by simp [isAgg, run_underlying Tryz.underlying43], sv43⟩
theorem bd43 (a b c : Int) : ∀ w, (Instr.build 43 #[(0, .int .i64 a), (1, .int .i64 b), (2, .int .i64 c)]).run Tryz.prog w = .ok (.agg #[.int .i64 a, .int .i64 b, .int .i64 c]) w := fun w => by
  obtain ⟨zv, h1, h2⟩ := zv43 w
  simp [Instr.build, h1, h2, run_underlying Tryz.underlying43, Instr.fill, cells_i]
theorem bz43 : ∀ w, (Instr.build 43 #[]).run Tryz.prog w = .ok (.agg #[.int .i64 0, .int .i64 0, .int .i64 0]) w := fun w => by
  obtain ⟨zv, h1, h2⟩ := zv43 w
  simp [Instr.build, h1, h2, run_underlying Tryz.underlying43, Instr.fill]
theorem eqg43 : Tryz.prog.eqGuardType Tryz.prog.depth 43 = false := by kernel_rfl
theorem stood43 : Tryz.prog.stoodInHeld 43 = false := by kernel_rfl
theorem na3' (w : World) : (isAgg 3).run Tryz.prog w = .ok false w := Tryz.isAgg3 w
theorem eqI (d : Nat) (a b : Int) (w : World) : (Op.equalIn (d + 1) 3 (.int .i64 a) (.int .i64 b)).run Tryz.prog w = .ok (a == b) w := by
  simp [Op.equalIn, run_underlying Tryz.underlying3]
theorem eqs43 : EQS Tryz.prog 43 3 := by
  intro xs ys hx hy w
  match xs, ys, hx, hy with
  | [a, b, c], [a', b', c'], _, _ =>
    have hd : ∃ d, Op.maxDepth = d + 2 := ⟨Op.maxDepth - 2, rfl⟩
    obtain ⟨d, hd⟩ := hd
    simp [Op.equal, hd, Op.equalIn.eq_2, run_underlying Tryz.underlying43, part]
    by_cases h1 : a = a' <;> by_cases h2 : b = b' <;> by_cases h3 : c = c' <;> simp [h1, h2, h3]
theorem fa43_2 : FA Tryz.prog 43 2 2 := fun a w => by
  simp [Instr.fieldAt, run_underlying Tryz.underlying43, Instr.sureAddr, fieldPlace]
end Go.Proofs.YtmnojknfjbimdaaGreat


namespace Go.Proofs.YtmnojknfjbimdaaGreat
open Go Go.Sx Go.Pl Go.RowKit
theorem ty29 : SlT Tryz.prog 29 22 (.slice none 0 0) 1 24 := ⟨by kernel_rfl, by kernel_rfl⟩
theorem ty30 : SlT Tryz.prog 30 22 (.slice none 0 0) 1 24 := ⟨by kernel_rfl, by kernel_rfl⟩
theorem sz22 : ∃ j, Tryz.prog.info? 22 = some j ∧ j.size = 1 := ⟨Tryz.t22, by kernel_rfl, by kernel_rfl⟩
theorem na29 : NA Tryz.prog 29 := fun w => Tryz.isAgg29 w
theorem infoLL : Tryz.prog.info? 29 = some Tryz.t29 := by kernel_rfl
theorem zv29 : ZV Tryz.prog 29 [.slice none 0 0] := fun w => ⟨_, by simp [zeroValue, typeInfo, infoLL]; rfl, rfl⟩
theorem sv29 : ∀ w, (sizeOf 29).run Tryz.prog w = .ok 1 w := fun w => by simp [sizeOf, typeInfo, infoLL]; rfl
end Go.Proofs.YtmnojknfjbimdaaGreat


namespace Go.Proofs.YtmnojknfjbimdaaGreat
open Go Go.Sx Go.Pl Go.RowKit
theorem infoGr : Tryz.prog.info? 26 = some Tryz.t26 := by kernel_rfl
theorem szGr : ∀ w, (sizeOf 26).run Tryz.prog w = .ok 6 w := fun w => by simp [sizeOf, typeInfo, infoGr]; rfl
theorem ag26 : AG Tryz.prog 26 6 := ⟨fun w => by simp [isAgg, run_underlying Tryz.underlying26], szGr⟩
theorem fa26_0 : FA Tryz.prog 26 0 0 := fun a w => by
  simp [Instr.fieldAt, run_underlying Tryz.underlying26, Instr.sureAddr, fieldPlace]
theorem fa26_1 : FA Tryz.prog 26 1 3 := fun a w => by
  simp [Instr.fieldAt, run_underlying Tryz.underlying26, Instr.sureAddr, fieldPlace]
theorem fa26_2 : FA Tryz.prog 26 2 4 := fun a w => by
  simp [Instr.fieldAt, run_underlying Tryz.underlying26, Instr.sureAddr, fieldPlace]
theorem fa26_3 : FA Tryz.prog 26 3 5 := fun a w => by
  simp [Instr.fieldAt, run_underlying Tryz.underlying26, Instr.sureAddr, fieldPlace]
theorem fa43_0 : FA Tryz.prog 43 0 0 := fun a w => by
  simp [Instr.fieldAt, run_underlying Tryz.underlying43, Instr.sureAddr, fieldPlace]
theorem fa43_1 : FA Tryz.prog 43 1 1 := fun a w => by
  simp [Instr.fieldAt, run_underlying Tryz.underlying43, Instr.sureAddr, fieldPlace]
theorem infoCs : Tryz.prog.info? 28 = some Tryz.t28 := by kernel_rfl
theorem szCs : ∀ w, (sizeOf 28).run Tryz.prog w = .ok 8 w := fun w => by simp [sizeOf, typeInfo, infoCs]; rfl
theorem ag28 : AG Tryz.prog 28 8 := ⟨fun w => by simp [isAgg, run_underlying Tryz.underlying28], szCs⟩
theorem fa28_0 : FA Tryz.prog 28 0 0 := fun a w => by
  simp [Instr.fieldAt, run_underlying Tryz.underlying28, Instr.sureAddr, fieldPlace]
theorem fa28_1 : FA Tryz.prog 28 1 6 := fun a w => by
  simp [Instr.fieldAt, run_underlying Tryz.underlying28, Instr.sureAddr, fieldPlace]
theorem fa28_2 : FA Tryz.prog 28 2 7 := fun a w => by
  simp [Instr.fieldAt, run_underlying Tryz.underlying28, Instr.sureAddr, fieldPlace]
theorem infoTs : Tryz.prog.info? 98 = some Tryz.t98 := by kernel_rfl
theorem szTs : ∀ w, (sizeOf 98).run Tryz.prog w = .ok 13 w := fun w => by simp [sizeOf, typeInfo, infoTs]; rfl
theorem ag98 : AG Tryz.prog 98 13 := ⟨fun w => by simp [isAgg, run_underlying Tryz.underlying98], szTs⟩
theorem fa98_0 : FA Tryz.prog 98 0 0 := fun a w => by
  simp [Instr.fieldAt, run_underlying Tryz.underlying98, Instr.sureAddr, fieldPlace]
theorem fa98_1 : FA Tryz.prog 98 1 6 := fun a w => by
  simp [Instr.fieldAt, run_underlying Tryz.underlying98, Instr.sureAddr, fieldPlace]
theorem fa98_2 : FA Tryz.prog 98 2 7 := fun a w => by
  simp [Instr.fieldAt, run_underlying Tryz.underlying98, Instr.sureAddr, fieldPlace]
theorem fa98_3 : FA Tryz.prog 98 3 8 := fun a w => by
  simp [Instr.fieldAt, run_underlying Tryz.underlying98, Instr.sureAddr, fieldPlace]
theorem fa98_4 : FA Tryz.prog 98 4 9 := fun a w => by
  simp [Instr.fieldAt, run_underlying Tryz.underlying98, Instr.sureAddr, fieldPlace]
theorem fa98_5 : FA Tryz.prog 98 5 10 := fun a w => by
  simp [Instr.fieldAt, run_underlying Tryz.underlying98, Instr.sureAddr, fieldPlace]
theorem infoPt : Tryz.prog.info? 84 = some Tryz.t84 := by kernel_rfl
theorem szPt : ∀ w, (sizeOf 84).run Tryz.prog w = .ok 1 w := fun w => by simp [sizeOf, typeInfo, infoPt]; rfl
theorem zeroTs (w : World) : ∃ zv, (zeroValue 98).run Tryz.prog w = .ok zv w ∧ zv.cells = #[.int .i64 0, .int .i64 0, .slice none 0 0, .int .i64 0, .slice none 0 0, .slice none 0 0, .pointer none, .slice none 0 0, .slice none 0 0, .int .i64 0, .int .i64 0, .int .i64 0, .int .i64 0] := ⟨_, by simp [zeroValue, typeInfo, infoTs]; rfl, rfl⟩
theorem bdTs (p M : Int) (mo : Value) (K : Int) (pu mu g wu vu : Value) (t m D L : Int) (h4 : g.cells = #[g]) (h5 : wu.cells = #[wu]) (h6 : vu.cells = #[vu]) :
    ∀ w, (Instr.build 98 #[(0, .agg #[.int .i64 p, .int .i64 M, mo, .int .i64 K, pu, mu]), (1, g), (2, wu), (3, vu), (4, .int .i64 t), (5, .agg #[.int .i64 m, .int .i64 D, .int .i64 L])]).run Tryz.prog w = .ok (.agg #[.int .i64 p, .int .i64 M, mo, .int .i64 K, pu, mu, g, wu, vu, .int .i64 t, .int .i64 m, .int .i64 D, .int .i64 L]) w := fun w => by
  obtain ⟨zv, h1, h2⟩ := zeroTs w
  simp [Instr.build, h1, h2, run_underlying Tryz.underlying98, Instr.fill, cells_i, cells_a, h4, h5, h6]
end Go.Proofs.YtmnojknfjbimdaaGreat


namespace Go.Proofs.YtmnojknfjbimdaaGreat
open Go Go.Sx Go.Pl Go.RowKit
theorem tyBs : SlT Tryz.prog 145 30 (.slice none 0 0) 1 24 := ⟨by kernel_rfl, by kernel_rfl⟩
theorem ty145 : SlT Tryz.prog 145 30 (.slice none 0 0) 1 24 := tyBs
theorem na30 : NA Tryz.prog 30 := fun w => Tryz.isAgg30 w
theorem sz30 : ∃ j, Tryz.prog.info? 30 = some j ∧ j.size = 1 := ⟨Tryz.t30, by kernel_rfl, by kernel_rfl⟩
end Go.Proofs.YtmnojknfjbimdaaGreat


namespace Go.Proofs.YtmnojknfjbimdaaGreat
open Go Go.Sx Go.Pl Go.RowKit
theorem infoCd : Tryz.prog.info? 81 = some Tryz.t81 := by kernel_rfl
theorem sv81 : ∀ w, (sizeOf 81).run Tryz.prog w = .ok 5 w := fun w => by simp [sizeOf, typeInfo, infoCd]; rfl
theorem zv81 : ZV Tryz.prog 81 [.int .i64 0, .int .i64 0, .slice none 0 0, .int .i64 0, .slice none 0 0] := fun w => ⟨_, by simp [zeroValue, typeInfo, infoCd]; rfl, rfl⟩
theorem ag81 : AG Tryz.prog 81 5 := ⟨fun w => by simp [isAgg, run_underlying Tryz.underlying81], sv81⟩
theorem fa81_0 : FA Tryz.prog 81 0 0 := fun a w => by
  simp [Instr.fieldAt, run_underlying Tryz.underlying81, Instr.sureAddr, fieldPlace]
theorem fa81_1 : FA Tryz.prog 81 1 3 := fun a w => by
  simp [Instr.fieldAt, run_underlying Tryz.underlying81, Instr.sureAddr, fieldPlace]
theorem fa81_2 : FA Tryz.prog 81 2 4 := fun a w => by
  simp [Instr.fieldAt, run_underlying Tryz.underlying81, Instr.sureAddr, fieldPlace]
theorem bdCd (p M : Int) (mo : Value) (n : Int) (r : Value) (hr : r.cells = #[r]) : ∀ w, (Instr.build 81 #[(0, .agg #[.int .i64 p, .int .i64 M, mo]), (1, .int .i64 n), (2, r)]).run Tryz.prog w = .ok (.agg #[.int .i64 p, .int .i64 M, mo, .int .i64 n, r]) w := fun w => by
  obtain ⟨zv, h1, h2⟩ := zv81 w
  simp [Instr.build, h1, h2, run_underlying Tryz.underlying81, Instr.fill, cells_i, cells_a, hr]
theorem infoMx : Tryz.prog.info? 175 = some Tryz.t175 := by kernel_rfl
theorem sv175 : ∀ w, (sizeOf 175).run Tryz.prog w = .ok 2 w := fun w => by simp [sizeOf, typeInfo, infoMx]; rfl
theorem zvMx : ZV Tryz.prog 175 [.int .i64 0, .slice none 0 0] := fun w => ⟨_, by simp [zeroValue, typeInfo, infoMx]; rfl, rfl⟩
theorem ag175 : AG Tryz.prog 175 2 := ⟨fun w => by simp [isAgg, run_underlying Tryz.underlying175], sv175⟩
theorem fa175_0 : FA Tryz.prog 175 0 0 := fun a w => by
  simp [Instr.fieldAt, run_underlying Tryz.underlying175, Instr.sureAddr, fieldPlace]
theorem fa175_1 : FA Tryz.prog 175 1 1 := fun a w => by
  simp [Instr.fieldAt, run_underlying Tryz.underlying175, Instr.sureAddr, fieldPlace]
theorem bdMx (n : Int) (r : Value) (hr : r.cells = #[r]) : ∀ w, (Instr.build 175 #[(0, .int .i64 n), (1, r)]).run Tryz.prog w = .ok (.agg #[.int .i64 n, r]) w := fun w => by
  obtain ⟨zv, h1, h2⟩ := zvMx w
  simp [Instr.build, h1, h2, run_underlying Tryz.underlying175, Instr.fill, cells_i, hr]
end Go.Proofs.YtmnojknfjbimdaaGreat


namespace Go.Proofs.YtmnojknfjbimdaaGreat
open Go Go.Sx Go.Pl Go.RowKit
theorem fa32_0 : FA Tryz.prog 32 0 0 := fun a w => by
  simp [Instr.fieldAt, run_underlying Tryz.underlying32, Instr.sureAddr, fieldPlace]
theorem fa32_1 : FA Tryz.prog 32 1 1 := fun a w => by
  simp [Instr.fieldAt, run_underlying Tryz.underlying32, Instr.sureAddr, fieldPlace]
theorem fa32_2 : FA Tryz.prog 32 2 2 := fun a w => by
  simp [Instr.fieldAt, run_underlying Tryz.underlying32, Instr.sureAddr, fieldPlace]
end Go.Proofs.YtmnojknfjbimdaaGreat

