/-
  The walking framework, part 11: scopes without jumps, labels, elements of array values, a result in memory.
-/
import Derived.Test.YtlcokneidokfnaaSxStruct
import Derived.Scope
namespace Go.Sx
open Go Go.RowKit Go.Pl
section
variable {P : Program} {N : Nat} {l : Env} {w : World} {Q : Exit → Act → World → Prop}
theorem wc_scope {c : Code} (h : WC P N c (Exit.noGoto Q) l w) : WC P N (.scope c) Q l w := fun a ha => wp_scope_straight (h a ha)
theorem wc_label {k : Nat} (h : Post N Q .normal l w) : WC P N (.label k) Q l w := fun a ha => wp_label (h a ha)
theorem post_scopeN (h : Post N Q .normal l w) : Post N (Exit.noGoto Q) .normal l w := h
theorem post_scopeE {id : Nat} (h : Post N Q (.exit id) l w) : Post N (Exit.noGoto Q) (.exit id) l w := h
theorem post_scopeR (h : Post N Q .ret l w) : Post N (Exit.noGoto Q) .ret l w := h
end
section
variable {P : Program} {N : Nat} {l : Env} {w : World} {v : Value} {ty : TypeId} {x y : Operand} {T E : TypeId} {u : Int}
theorem idx {cs : List Value} {n : Nat} (hx : ev l x = some (.agg cs.toArray)) (hy : ev l y = some (.int .i64 u)) (hT : P.underlying T = some (.array n E)) (hs : ∀ w, (sizeOf E).run P w = .ok 1 w) (hna : NA P E)
    (hc : cs[u.toNat]? = some v) (h0 : 0 ≤ u := by omega) (h1 : u < n := by omega) : Yl P N (.index T x y) ty l w v := fun a ha w' _ o ho _ => by
  simp [execOp, ho, ha.eval hx, ha.eval hy, Instr.index, run_underlying hT, asIntOf, h0, h1, hs, part, hna w', hc]
theorem post_retC1 {fn : Func} {t b : Nat} {n : Nat} {tb : TypeId} {cs : List Value} {R : Ending → World → Prop} (hr : fn.results = #[.cell t T]) (hp : lk l t = some (.pointer (some ⟨b, 0, none⟩)))
    (hA : AG P T n) (hB : Blk w b tb cs.toArray) (hn : cs.length = n) (hR : R (.returned (.agg cs.toArray)) w) :
    Post N (bodyPost P fn R) .ret l w := fun a ha => by
  refine ⟨ha.defers, .agg cs.toArray, ?_, hR⟩
  have h1 := ha.slots _ _ hp
  have hl := run_loadCells_list (P := P) w ⟨b, 0, none⟩ cs (fun j v hv => by rw [Addr.add_lit]; exact hB.cell (by simpa using hv))
  rw [hn] at hl
  simp [results, hr, h1, asAddr, loadVar, hA.agg w, hA.size w, hl]
end
end Go.Sx
